/- A part of the proof about metrics. -/
import Derived.Test.YtpcbccpobhdokaaGreatDoorEh
import Derived.Test.YtpcbccpobhdokaaGreatDoorX4
set_option linter.unusedSimpArgs false
set_option linter.unusedVariables false
set_option linter.all false
namespace Go.Proofs.YtpcbccpobhdokaaGreatDoor
open Go.RowKit
open Go.Proofs.YtpcbccpobhdokaaGreatDoor.Eng
def zI (n : Nat) : Value := .int .i64 (.ofNat n)
def zM (n : Nat) : Value := .int .i64 (.negSucc n)
def zU (n : Nat) : Value := .int .u64 (.ofNat n)
def zN : Value := .slice none 0 0
def zF : Value := .bool false
def zT : Value := .bool true
def zP : Value := .pointer none
def zS (a : Nat) (n c : Nat) : Value := .slice (some ⟨a, 0, none⟩) n c
def zs0 : Value := .string ⟨⟨[38, 6, 77, 66, 49, 0, 0, 0, 0, 0, 2, 4, 131, 16, 0, 0, 0, 4, 104, 105, 212, 203, 109, 147]⟩⟩
def zs1 : Value := .string ⟨⟨[76, 2, 0, 2, 0, 0, 0, 0, 0, 4, 131, 16, 0, 0, 48, 38, 6, 77, 66, 49, 0, 0, 0, 0, 0, 2, 4, 131, 16, 0, 0, 0, 4, 104, 105, 212, 203, 109, 147, 214, 41, 122, 157, 14, 4, 40, 0, 0, 0, 0, 0, 48, 5, 100, 61]⟩⟩
def zs2 : Value := .string ⟨⟨[38, 6, 77, 66, 49, 0, 0, 0, 0, 0, 2, 4, 131, 16, 0, 0]⟩⟩
def zs3 : Value := .string ⟨⟨[76, 2, 50, 2, 0, 0, 0, 0, 0, 4, 131, 16, 0, 0, 48, 38, 6, 77, 66, 49, 0, 0, 0, 0, 0, 2, 4, 131, 16, 0, 0, 0, 4, 104, 105, 212, 203, 109, 147, 19, 253, 98, 34, 14, 4, 120, 0, 0, 0, 0, 0, 229, 110, 108, 243]⟩⟩
def zs4 : Value := .string ⟨⟨[0, 4, 104, 105, 212, 203, 109, 147]⟩⟩
def zs5 : Value := .string ⟨⟨[76, 2, 50, 2, 0, 0, 0, 0, 0, 4, 131, 16, 0, 0, 48, 38, 6, 77, 66, 49, 0, 0, 0, 0, 0, 2, 4, 131, 16, 0, 0, 0, 4, 104, 105, 212, 203, 109, 147, 19, 253, 98, 34]⟩⟩
def zs6 : Value := .string ⟨⟨[78, 6, 129, 2, 2, 0, 0, 0, 0, 0, 4, 131, 16, 0, 0, 48, 38, 6, 77, 66, 49, 0, 0, 0, 0, 0, 2, 4, 131, 16, 0, 0, 0, 4, 104, 105, 212, 203, 109, 147, 32, 211, 105, 107]⟩⟩
def zs7 : Value := .string ⟨⟨[76, 2, 0, 2, 0, 0, 0, 0, 0, 4, 131, 16, 0, 0, 48, 38, 6, 77, 66, 49, 0, 0, 0, 0, 0, 2, 4, 131, 16, 0, 0, 0, 4, 104, 105, 212, 203, 109, 147, 214, 41, 122, 157]⟩⟩
def zs8 : Value := .string ⟨⟨[]⟩⟩
def zs9 : Value := .string ⟨⟨[104, 105]⟩⟩
def zs10 : Value := .string ⟨⟨[38, 6, 77, 66, 49, 0, 0, 0, 0, 0, 2, 4, 131, 16, 0, 0, 0, 0, 0, 0, 0, 0, 0, 0]⟩⟩
def zl0 : List Value := [zI 0, zI 1, zI 10, zI 60, zI 4, zI 5, zI 0, zI 1, zI 2, zI 50, zI 100, zI 4, zI 5, zI 0]
def zl1 : List Value := [zI 1, zI 0, zI 2, zI 24, zI 0, zI 199, zI 0, zF, zS 662 2 4611686018427387906, zI 1, zI 0]
def zl2 : List Value := [zI 1, zI 0, zI 1, zI 0, zI 0, zI 0, zI 0, zI 0, zI 2, zI 200, zI 0, zF, zs0, zI 10, zT, zI 25, zT, zI 30, zI 20, zI 3, zI 0, zI 0, zI 0, zT, zT, zI 1, zI 1, zI 1, zI 0, zI 0, zI 0, zI 0, zI 0, zI 2, zI 200, zI 0, zF, zs0, zI 50, zT, zI 65, zT, zI 70, zI 60, zI 3, zI 0, zI 0, zI 0, zT, zT]
def zl3 : List Value := [zI 1, zI 0, zI 0, zI 0, zI 0, zI 0, zI 2, zI 200, zI 0, zF, zs0]
def zl4 : List Value := [zI 16, zI 1, zI 0, zI 0, zI 0, zI 24, zF, zs2, zN, zI 20, zI 1, zI 0, zI 1, zI 16, zI 24, zT, zs4, zN]
def zl5 : List Value := [zI 56, zI 1, zI 0, zI 0, zI 0, zI 24, zF, zs2, zN, zI 60, zI 1, zI 0, zI 1, zI 16, zI 24, zT, zs4, zN]
def zl6 : List Value := [zI 0, zI 1, zI 0, zI 1, zM 0, zI 65, zI 10, zI 5, zI 0, zI 1, zI 0, zM 0, zI 20, zI 12, zI 0, zI 1, zM 0, zM 0, zI 25, zI 6, zI 1, zI 1, zI 0, zM 0, zI 50, zI 5, zI 1, zI 1, zI 1, zM 0, zI 60, zI 12, zI 1, zI 1, zM 0, zM 0, zI 65, zI 7, zI 2, zI 1, zI 1, zM 0]
def zl7 : List Value := [zI 0, zI 0, zI 0, zI 0, zI 0, zI 1, zI 2, zI 200, zI 0, zI 0, zN, zs9]
def zl8 : List Value := [zI 0, zI 10, zI 20, zI 25, zI 1, zI 50, zI 60, zI 65]
def zl9 : List Value := [zI 1, zI 0, zI 1, zI 0, zI 0, zI 0, zI 0, zI 0, zI 2, zI 200, zI 0, zF, zs0, zI 10, zT, zI 25, zT, zI 30, zI 20, zI 3, zI 0, zI 0, zI 0, zT, zT, zI 1, zI 1, zI 1, zI 0, zI 0, zI 0, zI 0, zI 0, zI 2, zI 200, zI 0, zF, zs0, zI 50, zT, zI 65, zT, zI 70, zI 60, zI 3, zI 0, zI 0, zI 0, zF, zF]
def zl10 : List Value := [zI 60, zI 4, zI 1, zI 65, zI 2, zI 1, zI 70, zI 3, zI 1, zI 200, zI 5, zI 0, zI 200, zI 5, zI 1]
def zl11 : List Value := [zI 5, zS 2867 0 0, zI 2, zI 0, zI 5, zS 2957 1 11529215046068469761, zI 1, zI 0, zN, zM 0, zN, zI 3, zI 0, zS 2747 2 10376293541461622786, zS 2959 1 10376293541461622785, zI 70, zI 1, zI 2, zI 50, zI 100, zI 4, zI 5, zI 0, zI 0, zs0, zI 60, zI 60, zI 1, zN, zI 71, zI 1, zI 0, zI 24, zS 2927 1 2305843009213693953, zs0, .slice (some ⟨2684, 18, none⟩) 0 10376293541461622784, zT, zI 65, zF, zI 0]
def zl12 : List Value := [zI 5, zS 1405 0 0, zI 2, zI 0, zI 5, zS 1495 1 11529215046068469761, zI 1, zI 0, zN, zM 0, zN, zI 3, zI 0, zS 1285 2 10376293541461622786, zS 1497 1 10376293541461622785, zI 30, zI 0, zI 1, zI 10, zI 60, zI 4, zI 5, zI 0, zI 0, zs0, zI 20, zI 20, zI 1, zN, zI 31, zI 1, zI 0, zI 24, zS 1465 1 2305843009213693953, zs0, .slice (some ⟨1222, 18, none⟩) 0 10376293541461622784, zT, zI 25, zF, zI 0]
def zl13 : List Value := [zI 0, zI 100, zT, zs1, zI 55, zN, zN, zN, zI 1, zI 100, zT, zs3, zI 55, zN, zN, zN, zI 2, zI 100, zT, zs6, zI 44, zN, zS 3525 1 12682136550675316737, zN]
def zl14 : List Value := [zI 100, zI 100, zI 100]
def zl15 : List Value := [zI 5, zS 2745 2 11529215046068469762, zI 2, zI 0, zI 5, zN, zI 0, zI 0, zN, zM 0, zN, zI 2, zI 0, zS 2747 2 10376293541461622786, zN, zI 60, zI 1, zI 2, zI 50, zI 100, zI 4, zI 5, zI 0, zI 0, zs0, zI 60, zI 60, zI 1, zN, zI 71, zI 1, zI 0, zM 0, zN, zs8, .slice (some ⟨2684, 18, none⟩) 0 10376293541461622784, zF, zI 0, zF, zI 0]
def zl16 : List Value := [zI 5, zS 1283 2 11529215046068469762, zI 2, zI 0, zI 5, zN, zI 0, zI 0, zN, zM 0, zN, zI 2, zI 0, zS 1285 2 10376293541461622786, zN, zI 20, zI 0, zI 1, zI 10, zI 60, zI 4, zI 5, zI 0, zI 0, zs0, zI 20, zI 20, zI 1, zN, zI 31, zI 1, zI 0, zM 0, zN, zs8, .slice (some ⟨1222, 18, none⟩) 0 10376293541461622784, zF, zI 0, zF, zI 0]
def zl17 : List Value := [zI 5, zS 2711 1 11529215046068469761, zI 1, zI 0, zI 5, zN, zI 0, zI 0, zN, zM 0, zN, zI 1, zI 0, zS 2713 1 10376293541461622785, zN, zI 56, zI 1, zI 2, zI 50, zI 100, zI 4, zI 5, zI 0, zI 0, zs0, zI 60, zI 60, zI 1, zN, zI 71, zI 1, zI 0, zM 0, zN, zs8, .slice (some ⟨2684, 9, none⟩) 1 10376293541461622785, zF, zI 0, zF, zI 0]
def zl18 : List Value := [zI 5, zS 1249 1 11529215046068469761, zI 1, zI 0, zI 5, zN, zI 0, zI 0, zN, zM 0, zN, zI 1, zI 0, zS 1251 1 10376293541461622785, zN, zI 16, zI 0, zI 1, zI 10, zI 60, zI 4, zI 5, zI 0, zI 0, zs0, zI 20, zI 20, zI 1, zN, zI 31, zI 1, zI 0, zM 0, zN, zs8, .slice (some ⟨1222, 9, none⟩) 1 10376293541461622785, zF, zI 0, zF, zI 0]
def zl19 : List Value := [zI 0, zI 1, zI 0, zI 1, zM 0, zI 65, zI 10, zI 5, zI 0, zI 1, zI 0, zM 0, zI 20, zI 12, zI 0, zI 1, zM 0, zM 0, zI 25, zI 6, zI 1, zI 1, zI 0, zM 0]
def zl20 : List Value := [zI 1, zI 0, zI 1, zI 0, zI 0, zI 0, zI 0, zI 0, zI 2, zI 200, zI 0, zF, zs0, zI 10, zT, zI 25, zT, zI 30, zI 20, zI 3, zI 0, zI 0, zI 0, zF, zF]
def zl21 : List Value := [zI 1, zI 0, zI 1, zI 0, zI 0, zI 0, zI 0, zI 0, zI 2, zI 200, zI 0, zF, zs0, zI 10, zT, zI 25, zT, zI 30, zI 20, zI 3, zI 0, zI 0, zI 0, zT, zT]
def zl22 : List Value := [zS 10 3 3, zS 11 2 2, zS 8 1 1, zN, zN, zF, zI 200, zI 10, zS 10 3 3, zS 11 2 2, zN, zS 668 1 12682136550675316737, zS 66 3 9223372036854775811, zS 54 3 3, zS 3052 2 28823037615171174402, .slice (some ⟨3141, 12, none⟩) 1 3458764513820540929, zS 3531 7 6917529027641081863, zN]
def zl23 : List Value := [zS 10 3 3, zS 11 2 2, zS 8 1 1, zN, zN, zF, zI 20, zI 3, zS 10 3 3, zS 11 2 2, zN, zS 668 1 12682136550675316737, zS 66 3 9223372036854775811, zS 54 3 3, zS 1590 1 28823037615171174401, .slice (some ⟨1679, 3, none⟩) 4 3458764513820540932, zS 1893 3 6917529027641081859, zN]
def zl24 : List Value := [zS 10 3 3, zS 11 2 2, zS 8 1 1, zN, zN, zF, zI 30, zI 5, zS 10 3 3, zS 11 2 2, zN, zS 668 1 12682136550675316737, zS 66 3 9223372036854775811, zS 54 3 3, zS 1590 1 28823037615171174401, .slice (some ⟨2093, 3, none⟩) 3 3458764513820540931, zS 2068 4 6917529027641081860, zN]
def zl25 : List Value := [zS 10 3 3, zS 11 2 2, zS 8 1 1, zN, zN, zF, zI 60, zI 7, zS 10 3 3, zS 11 2 2, zN, zS 668 1 12682136550675316737, zS 66 3 9223372036854775811, zS 54 3 3, zS 3052 2 28823037615171174402, .slice (some ⟨3141, 3, none⟩) 4 3458764513820540932, zS 3355 6 6917529027641081862, zN]
def zl26 : List Value := [zS 10 3 3, zS 11 2 2, zS 8 1 1, zN, zN, zF, zI 65, zI 8, zS 10 3 3, zS 11 2 2, zN, zS 668 1 12682136550675316737, zS 66 3 9223372036854775811, zS 54 3 3, zS 3052 2 28823037615171174402, .slice (some ⟨3141, 6, none⟩) 3 3458764513820540931, zS 3531 7 6917529027641081863, zN]
def zl27 : List Value := [zS 10 3 3, zS 11 2 2, zS 8 1 1, zN, zN, zF, zI 70, zI 9, zS 10 3 3, zS 11 2 2, zN, zS 668 1 12682136550675316737, zS 66 3 9223372036854775811, zS 54 3 3, zS 3052 2 28823037615171174402, .slice (some ⟨3141, 9, none⟩) 2 3458764513820540930, zS 3531 7 6917529027641081863, zN]
def zl28 : List Value := [zS 10 3 3, zS 11 2 2, zS 8 1 1, zN, zN, zF, zI 10, zI 2, zS 10 3 3, zS 11 2 2, zN, zS 668 1 12682136550675316737, zS 66 3 9223372036854775811, zS 54 3 3, zS 1590 1 28823037615171174401, zS 1679 5 3458764513820540933, zS 1592 2 6917529027641081858, zN]
def zl29 : List Value := [zS 10 3 3, zS 11 2 2, zS 8 1 1, zN, zN, zF, zI 25, zI 4, zS 10 3 3, zS 11 2 2, zN, zS 668 1 12682136550675316737, zS 66 3 9223372036854775811, zS 54 3 3, zS 1590 1 28823037615171174401, zS 2093 4 3458764513820540932, zS 2068 4 6917529027641081860, zN]
def zl30 : List Value := [zS 10 3 3, zS 11 2 2, zS 8 1 1, zN, zN, zF, zI 50, zI 6, zS 10 3 3, zS 11 2 2, zN, zS 668 1 12682136550675316737, zS 66 3 9223372036854775811, zS 54 3 3, zS 3052 2 28823037615171174402, zS 3141 5 3458764513820540933, zS 3054 5 6917529027641081861, zN]
def zl31 : List Value := [zI 20, zI 4, zI 0, zI 25, zI 2, zI 0, zI 30, zI 3, zI 0, zI 50, zI 8, zI 1001, zI 200, zI 5, zI 0]
def zl32 : List Value := [zI 21, zI 0, zI 1, zI 0, zI 0, zI 0, zI 24, zF, zs2, zN, zI 25, zI 1, zI 1, zI 0, zI 1, zI 16, zI 24, zT, zs4, zN]
def zl33 : List Value := [zI 61, zI 0, zI 1, zI 0, zI 0, zI 0, zI 24, zF, zs2, zN, zI 65, zI 1, zI 1, zI 0, zI 1, zI 16, zI 24, zT, zs4, zN]
def zl34 : List Value := [zI 0, zI 1, zI 0, zI 1, zM 0, zI 65, zI 10, zI 5, zI 0, zI 1, zI 0, zM 0, zI 20, zI 12, zI 0, zI 1, zM 0, zM 0, zI 25, zI 6, zI 1, zI 1, zI 0, zM 0, zI 50, zI 5, zI 1, zI 1, zI 1, zM 0, zI 60, zI 12, zI 1, zI 1, zM 0, zM 0]
def zl35 : List Value := [zS 10 3 3, zS 11 2 2, zS 8 1 1, zN, zN, zF, zI 0, zI 1, zS 10 3 3, zS 11 2 2, zN, zS 668 1 12682136550675316737, zS 66 3 9223372036854775811, zS 54 3 3, zN, zS 1029 3 3458764513820540931, zS 1012 1 6917529027641081857, zN]
def zl36 : List Value := [zI 30, zI 3, zI 0, zI 50, zI 8, zI 1001, zI 200, zI 5, zI 0, zI 200, zI 5, zI 1]
def zl37 : List Value := [zI 0, zI 0, zI 0]
def zl38 : List Value := [zI 0, zI 1, zI 0, zI 1, zM 0, zI 65, zI 10, zI 5, zI 0, zI 1, zI 0, zM 0, zI 20, zI 12, zI 0, zI 1, zM 0, zM 0, zI 25, zI 6, zI 1, zI 1, zI 0, zM 0, zI 50, zI 5, zI 1, zI 1, zI 1, zM 0]
def zl39 : List Value := [zI 0, zI 100, zT, zs1, zI 55, zN, zN, zN, zI 1, zI 100, zT, zs5, zI 43, zS 2062 1 12682136550675316737, zN, zS 2604 1 9223372036854775809, zI 2, zI 100, zT, zs8, zI 0, zN, zN, zN]
def zl40 : List Value := [zI 0, zI 100, zT, zs7, zI 43, zS 1003 1 12682136550675316737, zN, zS 1142 1 9223372036854775809, zI 1, zI 100, zT, zs8, zI 0, zN, zN, zN, zI 2, zI 100, zT, zs8, zI 0, zN, zN, zN]
def zl41 : List Value := [zI 0, zI 100, zT, zs1, zI 55, zN, zN, zN, zI 1, zI 100, zT, zs3, zI 43, zN, zN, zN, zI 2, zI 100, zT, zs6, zI 44, zN, zS 3525 1 12682136550675316737, zN]
def zl42 : List Value := [zI 0, zI 100, zT, zs1, zI 43, zN, zN, zN, zI 1, zI 100, zT, zs5, zI 43, zS 2062 1 12682136550675316737, zN, zN, zI 2, zI 100, zT, zs8, zI 0, zN, zN, zN]
def zl43 : List Value := [zI 0, zI 100, zT, zs1, zI 55, zN, zN, zN, zI 1, zI 100, zT, zs5, zI 43, zS 2062 1 12682136550675316737, zN, zN, zI 2, zI 100, zT, zs8, zI 0, zN, zN, zN]
def zl44 : List Value := [zI 0, zI 100, zT, zs7, zI 43, zS 1003 1 12682136550675316737, zN, zN, zI 1, zI 100, zT, zs8, zI 0, zN, zN, zN, zI 2, zI 100, zT, zs8, zI 0, zN, zN, zN]
def zl45 : List Value := [zI 0, zI 0, zI 0, zI 0, zI 0, zI 0, zI 20, zI 0]
def zl46 : List Value := [zI 0, zI 0, zI 0, zI 0, zI 0, zI 1, zI 60, zI 0]
def zl47 : List Value := [zI 30, zI 0, zI 2, zI 0, zI 1, zI 0, zI 24, zF, zs8, zS 1471 1 2305843009213693953]
def zl48 : List Value := [zI 70, zI 0, zI 2, zI 0, zI 1, zI 0, zI 24, zF, zs8, zS 2933 1 2305843009213693953]
def zl49 : List Value := [zI 0, zI 100, zT, zs1, zI 55, zN, zN, zN, zI 1, zI 100, zT, zs3, zI 43, zN, zN, zN, zI 2, zI 100, zT, zs8, zI 0, zN, zN, zN]
def zl50 : List Value := [zI 0, zI 100, zT, zs1, zI 43, zN, zN, zN, zI 1, zI 100, zT, zs8, zI 0, zN, zN, zN, zI 2, zI 100, zT, zs8, zI 0, zN, zN, zN]
def zl51 : List Value := [zI 25, zI 2, zI 0, zI 1, zI 0, zI 24, zF, zs8, zS 1471 1 2305843009213693953]
def zl52 : List Value := [zI 65, zI 2, zI 0, zI 1, zI 0, zI 24, zF, zs8, zS 2933 1 2305843009213693953]
def zl53 : List Value := [zI 0, zI 1, zI 0, zI 1, zM 0, zI 65, zI 10, zI 5, zI 0, zI 1, zI 0, zM 0, zI 20, zI 12, zI 0, zI 1, zM 0, zM 0]
def zl54 : List Value := [zI 10, zI 8, zI 1000, zI 50, zI 8, zI 1001, zI 200, zI 5, zI 0]
def zl55 : List Value := [zI 25, zI 1, zI 1, zI 0, zI 1, zI 16, zI 24, zT, zs4, zN]
def zl56 : List Value := [zI 65, zI 1, zI 1, zI 0, zI 1, zI 16, zI 24, zT, zs4, zN]
def zl57 : List Value := [zI 2, zI 1, zI 0, zI 0, zI 0, zI 0, zI 0, zI 2, zI 200, zI 0, zF, zs0, zI 0, zI 1]
def zl58 : List Value := [zI 5, zI 1, zI 0, zI 0, zI 0, zI 0, zI 0, zI 2, zI 200, zI 0, zF, zs0, zI 0, zI 0]
def zl59 : List Value := [zI 0, zI 24]
def zl60 : List Value := [zI 0, zI 1, zI 0, zI 1, zM 0, zI 65, zI 10, zI 5, zI 0, zI 1, zI 0, zM 0]
def zl61 : List Value := [zI 21, zI 0, zI 1, zI 0, zI 0, zI 0, zI 24, zF, zs2, zN]
def zl62 : List Value := [zI 61, zI 0, zI 1, zI 0, zI 0, zI 0, zI 24, zF, zs2, zN]
def zl63 : List Value := [zI 16, zI 1, zI 0, zI 0, zI 0, zI 24, zF, zs2, zN]
def zl64 : List Value := [zI 56, zI 1, zI 0, zI 0, zI 0, zI 24, zF, zs2, zN]
def zl65 : List Value := [zI 0, zI 16]
def zl66 : List Value := [zI 0, zI 1099511627776]
def za0 : List Value := [zI 5, zI 200, zI 0, zI 0, zI 0, zI 0, zI 0, zI 0, zI 0, zI 0, zI 0, zF, zs8, zI 0, zI 0, zI 0, zI 0, zI 0, zI 0, zI 0, zF, zI 0]
def za1 : List Value := [zI 0, zI 100, zT, zs7, zI 43, zS 1003 1 12682136550675316737, zN, zS 1142 1 9223372036854775809]
def za2 : List Value := [zI 1, zI 100, zT, zs5, zI 43, zS 2062 1 12682136550675316737, zN, zS 2604 1 9223372036854775809]
def za3 : List Value := [zI 0, zI 100, zT, zs7, zI 43, zS 1003 1 12682136550675316737, zN, zN]
def za4 : List Value := [zI 1, zI 100, zT, zs5, zI 43, zS 2062 1 12682136550675316737, zN, zN]
def za5 : List Value := [zI 0, zI 2, zI 24, zI 0, zI 199, zI 0, zF]
def za6 : List Value := [zI 0, zI 100, zT, zs1, zI 55, zN, zN, zN]
def za7 : List Value := [zI 1, zI 100, zT, zs3, zI 55, zN, zN, zN]
def za8 : List Value := [zS 10 3 3, zS 11 2 2, zN, zN]
def za9 : List Value := [zS 10 3 3, zS 11 2 2, zN, zS 668 1 12682136550675316737]
def zo0 : Nat × AO := (11, .cells zl0 118)
def zo1 : Nat × AO := (10, .cells zl14 3)
def zo2 : Nat × AO := (662, .cells zl8 211)
def zo3 : Nat × AO := (668, .cells zl1 157)
def zo4 : Nat × AO := (8, .cells zl7 107)
def zo5 : Nat × AO := (54, .cells zl37 3)
def zo6 : Nat × AO := (2062, .cells zl3 165)
def zo7 : Nat × AO := (3141, .cells zl10 97)
def zo8 : Nat × AO := (1222, .cells zl4 575)
def zo9 : Nat × AO := (2684, .cells zl5 575)
def zo10 : Nat × AO := (1003, .cells zl3 165)
def zo11 : Nat × AO := (1285, .cells zl4 575)
def zo12 : Nat × AO := (2747, .cells zl5 575)
def zo13 : Nat × AO := (3525, .cells zl3 165)
def zo14 : Nat × AO := (3052, .cells zl2 169)
def zo15 : Nat × AO := (3531, .cells zl6 152)
def zo16 : Nat × AO := (1142, .cells zl45 262)
def zo17 : Nat × AO := (2604, .cells zl46 262)
def zo18 : Nat × AO := (1012, .cells [zI 0, zI 1, zI 0, zI 1, zM 0, zI 65] 152)
def zo19 : Nat × AO := (1679, .cells zl31 97)
def zo20 : Nat × AO := (2093, .cells zl36 97)
def zo21 : Nat × AO := (66, .cells zl13 125)
def zo22 : Nat × AO := (1283, .cells zl32 625)
def zo23 : Nat × AO := (2745, .cells zl33 625)
def zo24 : Nat × AO := (1590, .cells zl20 169)
def zo25 : Nat × AO := (1590, .cells zl21 169)
def zo26 : Nat × AO := (2068, .cells zl19 152)
def zo27 : Nat × AO := (3052, .cells zl9 169)
noncomputable def f239_0 : Memo where
  args := [.agg ⟨zl7⟩]
  nx := 94
  li := []
  v := .tuple ⟨[zs0, zI 0]⟩
  nx' := 191
  lo := []
noncomputable def f239_1 : Memo where
  args := [.agg ⟨zl7⟩]
  nx := 737
  li := []
  v := .tuple ⟨[zs0, zI 0]⟩
  nx' := 834
  lo := []
noncomputable def K239 : Known := withM K0 239 [f239_0, f239_1]
noncomputable def f260_0 : Memo where
  args := [.agg ⟨[zI 1, zI 1, zI 0, zI 0, zI 0, zI 0, zI 0, zI 2, zI 200, zI 0, zF, zs0, zI 0, zI 0, zI 0, zI 0, zI 0, zI 0, zI 0]⟩]
  nx := 887
  li := []
  v := .tuple ⟨[zs7, zI 0]⟩
  nx' := 987
  lo := []
noncomputable def f260_1 : Memo where
  args := [.agg ⟨[zI 2, zI 0, zI 0, zI 0, zI 0, zI 0, zI 0, zI 0, zI 0, zI 0, zF, zs8, zI 0, zI 0, zI 0, zI 0, zI 0, zI 0, zI 20]⟩]
  nx := 1802
  li := []
  v := .tuple ⟨[.string ⟨⟨[14, 4, 40, 0, 0, 0, 0, 0, 48, 5, 100, 61]⟩⟩, zI 0]⟩
  nx' := 1863
  lo := []
noncomputable def f260_2 : Memo where
  args := [.agg ⟨[zI 1, zI 1, zI 0, zI 0, zI 0, zI 0, zI 0, zI 2, zI 200, zI 0, zF, zs0, zI 0, zI 0, zI 0, zI 0, zI 0, zI 0, zI 25]⟩]
  nx := 1946
  li := []
  v := .tuple ⟨[zs5, zI 0]⟩
  nx' := 2046
  lo := []
noncomputable def f260_3 : Memo where
  args := [.agg ⟨[zI 2, zI 0, zI 0, zI 0, zI 0, zI 0, zI 0, zI 0, zI 0, zI 0, zF, zs8, zI 0, zI 0, zI 0, zI 0, zI 0, zI 0, zI 60]⟩]
  nx := 3264
  li := []
  v := .tuple ⟨[.string ⟨⟨[14, 4, 120, 0, 0, 0, 0, 0, 229, 110, 108, 243]⟩⟩, zI 0]⟩
  nx' := 3325
  lo := []
noncomputable def f260_4 : Memo where
  args := [.agg ⟨[zI 3, zI 1, zI 0, zI 0, zI 0, zI 0, zI 0, zI 2, zI 200, zI 0, zF, zs0, zI 0, zI 0, zI 0, zI 0, zI 0, zI 0, zI 65]⟩]
  nx := 3407
  li := []
  v := .tuple ⟨[zs6, zI 0]⟩
  nx' := 3509
  lo := []
noncomputable def K260 : Known := withM K239 260 [f260_0, f260_1, f260_2, f260_3, f260_4]
noncomputable def f274_0 : Memo where
  args := [.agg ⟨za8⟩]
  nx := 205
  li := [zo1,
  zo0]
  v := zI 0
  nx' := 274
  lo := [zo1,
  zo0]
noncomputable def f274_1 : Memo where
  args := [.agg ⟨za9⟩]
  nx := 2104
  li := [zo1,
  zo0,
  zo3,
  zo2]
  v := zI 0
  nx' := 2361
  lo := [zo1,
  zo0,
  zo3,
  zo2]
noncomputable def K274 : Known := withM K260 274 [f274_0, f274_1]
noncomputable def f352_0 : Memo where
  args := [.agg ⟨za8⟩, .agg ⟨za5⟩]
  nx := 295
  li := [zo1,
  zo0]
  v := .tuple ⟨[.pointer (some ⟨351, 0, none⟩), zT]⟩
  nx' := 521
  lo := [(351, .cells [zS 10 3 3, zS 11 2 2, zN, zN, zI 0, zI 2, zI 24, zI 0, zI 199, zI 0, zF, zS 420 2 1152921504606846978, zS 520 3 1152921504606846979, zS 421 2 1152921504606846978] 550),
  zo1,
  zo0,
  (420, .cells [zS 371 1 2305843009213693953, zS 406 1 2305843009213693953] 286),
  (371, .cells [zI 10, zI 60] 340),
  (406, .cells [zI 50, zI 100] 340),
  (520, .cells [zS 452 1 2305843009213693953, zS 485 1 2305843009213693953, zS 518 1 2305843009213693953] 286),
  (452, .cells zl66 340),
  (485, .cells zl66 340),
  (518, .cells zl66 340),
  (421, .cells [zI 10, zI 10] 3)]
noncomputable def K352 : Known := withM K274 352 [f352_0]
noncomputable def f287_0 : Memo where
  args := [.agg ⟨za8⟩, .agg ⟨za5⟩]
  nx := 293
  li := [zo1,
  zo0]
  v := .tuple ⟨[zS 662 2 4611686018427387906, zI 0]⟩
  nx' := 663
  lo := [zo2,
  zo1,
  zo0]
noncomputable def K287 : Known := withM K352 287 [f287_0]
noncomputable def f232_0 : Memo where
  args := [.agg ⟨za8⟩, .agg ⟨za5⟩, zI 0]
  nx := 201
  li := [zo1,
  zo0]
  v := .tuple ⟨[.agg ⟨za9⟩, .agg ⟨[zT, zI 1, zN, zN, zN]⟩, zI 0]⟩
  nx' := 711
  lo := [zo1,
  zo0,
  zo3,
  zo2]
noncomputable def K232 : Known := withM K287 232 [f232_0]
noncomputable def f446_0 : Memo where
  args := [.pointer (some ⟨1230, 0, none⟩)]
  nx := 1252
  li := [(1230, .cells zl18 365),
  (1249, .cells zl61 625),
  (1251, .cells zl63 575),
  zo8]
  v := .tuple ⟨[]⟩
  nx' := 1257
  lo := [(1230, .cells zl18 365),
  (1249, .cells zl61 625),
  (1251, .cells zl63 575),
  zo8]
noncomputable def f446_1 : Memo where
  args := [.pointer (some ⟨1230, 0, none⟩)]
  nx := 1286
  li := [(1230, .cells zl16 365),
  zo22,
  zo11,
  zo8]
  v := .tuple ⟨[]⟩
  nx' := 1292
  lo := [(1230, .cells zl16 365),
  zo22,
  zo11,
  zo8]
noncomputable def f446_2 : Memo where
  args := [.pointer (some ⟨1230, 0, none⟩)]
  nx := 1305
  li := [(1230, .cells [zI 5, zS 1283 2 11529215046068469762, zI 2, zI 0, zI 5, zN, zI 0, zI 0, zN, zM 0, zN, zI 2, zI 0, zS 1285 2 10376293541461622786, zN, zI 21, zI 0, zI 1, zI 10, zI 60, zI 4, zI 5, zI 0, zI 0, zs0, zI 20, zI 20, zI 1, zN, zI 31, zI 1, zI 0, zM 0, zN, zs8, .slice (some ⟨1222, 18, none⟩) 0 10376293541461622784, zF, zI 0, zF, zI 0] 365),
  zo22,
  zo11,
  zo8]
  v := .tuple ⟨[]⟩
  nx' := 1383
  lo := [(1230, .cells [zI 5, zS 1318 1 11529215046068469761, zI 2, zI 0, zI 5, zN, zI 0, zI 0, zN, zM 0, zN, zI 2, zI 0, zS 1285 2 10376293541461622786, zN, zI 21, zI 0, zI 1, zI 10, zI 60, zI 4, zI 5, zI 0, zI 0, zs0, zI 20, zI 20, zI 1, zN, zI 31, zI 1, zI 0, zI 24, zS 1369 1 2305843009213693953, zs10, .slice (some ⟨1222, 18, none⟩) 0 10376293541461622784, zF, zI 0, zF, zI 0] 365),
  (1318, .cells zl55 625),
  zo11,
  (1369, .cells zl65 340),
  zo8,
  zo22]
noncomputable def f446_3 : Memo where
  args := [.pointer (some ⟨1230, 0, none⟩)]
  nx := 1395
  li := [(1230, .cells [zI 5, zS 1318 1 11529215046068469761, zI 2, zI 0, zI 5, zN, zI 0, zI 0, zN, zM 0, zN, zI 2, zI 0, zS 1285 2 10376293541461622786, zN, zI 25, zI 0, zI 1, zI 10, zI 60, zI 4, zI 5, zI 0, zI 0, zs0, zI 20, zI 20, zI 1, zN, zI 31, zI 1, zI 0, zI 24, zS 1369 1 2305843009213693953, zs10, .slice (some ⟨1222, 18, none⟩) 0 10376293541461622784, zF, zI 0, zF, zI 0] 365),
  (1318, .cells zl55 625),
  zo11,
  (1369, .cells zl65 340),
  zo8]
  v := .tuple ⟨[]⟩
  nx' := 1508
  lo := [(1230, .cells [zI 5, zS 1405 0 0, zI 2, zI 0, zI 5, zS 1495 1 11529215046068469761, zI 1, zI 0, zN, zM 0, zN, zI 3, zI 0, zS 1285 2 10376293541461622786, zS 1497 1 10376293541461622785, zI 25, zI 0, zI 1, zI 10, zI 60, zI 4, zI 5, zI 0, zI 0, zs0, zI 20, zI 20, zI 1, zN, zI 31, zI 1, zI 0, zI 24, zS 1465 1 2305843009213693953, zs0, .slice (some ⟨1222, 18, none⟩) 0 10376293541461622784, zT, zI 25, zF, zI 0] 365),
  (1405, .cells [] 625),
  (1495, .cells zl47 625),
  (1471, .cells zl59 340),
  zo11,
  (1497, .cells zl51 575),
  (1465, .cells zl59 340),
  zo8,
  (1318, .cells zl55 625),
  (1369, .cells zl65 340)]
noncomputable def f446_4 : Memo where
  args := [.pointer (some ⟨1230, 0, none⟩)]
  nx := 1521
  li := [(1230, .cells zl12 365),
  (1405, .cells [] 625),
  (1495, .cells zl47 625),
  (1471, .cells zl59 340),
  zo11,
  (1497, .cells zl51 575),
  (1465, .cells zl59 340),
  zo8]
  v := .tuple ⟨[]⟩
  nx' := 1525
  lo := [(1230, .cells zl12 365),
  (1405, .cells [] 625),
  (1495, .cells zl47 625),
  (1471, .cells zl59 340),
  zo11,
  (1497, .cells zl51 575),
  (1465, .cells zl59 340),
  zo8]
noncomputable def f446_5 : Memo where
  args := [.pointer (some ⟨2692, 0, none⟩)]
  nx := 2714
  li := [(2692, .cells zl17 365),
  (2711, .cells zl62 625),
  (2713, .cells zl64 575),
  zo9]
  v := .tuple ⟨[]⟩
  nx' := 2719
  lo := [(2692, .cells zl17 365),
  (2711, .cells zl62 625),
  (2713, .cells zl64 575),
  zo9]
noncomputable def f446_6 : Memo where
  args := [.pointer (some ⟨2692, 0, none⟩)]
  nx := 2748
  li := [(2692, .cells zl15 365),
  zo23,
  zo12,
  zo9]
  v := .tuple ⟨[]⟩
  nx' := 2754
  lo := [(2692, .cells zl15 365),
  zo23,
  zo12,
  zo9]
noncomputable def f446_7 : Memo where
  args := [.pointer (some ⟨2692, 0, none⟩)]
  nx := 2767
  li := [(2692, .cells [zI 5, zS 2745 2 11529215046068469762, zI 2, zI 0, zI 5, zN, zI 0, zI 0, zN, zM 0, zN, zI 2, zI 0, zS 2747 2 10376293541461622786, zN, zI 61, zI 1, zI 2, zI 50, zI 100, zI 4, zI 5, zI 0, zI 0, zs0, zI 60, zI 60, zI 1, zN, zI 71, zI 1, zI 0, zM 0, zN, zs8, .slice (some ⟨2684, 18, none⟩) 0 10376293541461622784, zF, zI 0, zF, zI 0] 365),
  zo23,
  zo12,
  zo9]
  v := .tuple ⟨[]⟩
  nx' := 2845
  lo := [(2692, .cells [zI 5, zS 2780 1 11529215046068469761, zI 2, zI 0, zI 5, zN, zI 0, zI 0, zN, zM 0, zN, zI 2, zI 0, zS 2747 2 10376293541461622786, zN, zI 61, zI 1, zI 2, zI 50, zI 100, zI 4, zI 5, zI 0, zI 0, zs0, zI 60, zI 60, zI 1, zN, zI 71, zI 1, zI 0, zI 24, zS 2831 1 2305843009213693953, zs10, .slice (some ⟨2684, 18, none⟩) 0 10376293541461622784, zF, zI 0, zF, zI 0] 365),
  (2780, .cells zl56 625),
  zo12,
  (2831, .cells zl65 340),
  zo9,
  zo23]
noncomputable def f446_8 : Memo where
  args := [.pointer (some ⟨2692, 0, none⟩)]
  nx := 2857
  li := [(2692, .cells [zI 5, zS 2780 1 11529215046068469761, zI 2, zI 0, zI 5, zN, zI 0, zI 0, zN, zM 0, zN, zI 2, zI 0, zS 2747 2 10376293541461622786, zN, zI 65, zI 1, zI 2, zI 50, zI 100, zI 4, zI 5, zI 0, zI 0, zs0, zI 60, zI 60, zI 1, zN, zI 71, zI 1, zI 0, zI 24, zS 2831 1 2305843009213693953, zs10, .slice (some ⟨2684, 18, none⟩) 0 10376293541461622784, zF, zI 0, zF, zI 0] 365),
  (2780, .cells zl56 625),
  zo12,
  (2831, .cells zl65 340),
  zo9]
  v := .tuple ⟨[]⟩
  nx' := 2970
  lo := [(2692, .cells [zI 5, zS 2867 0 0, zI 2, zI 0, zI 5, zS 2957 1 11529215046068469761, zI 1, zI 0, zN, zM 0, zN, zI 3, zI 0, zS 2747 2 10376293541461622786, zS 2959 1 10376293541461622785, zI 65, zI 1, zI 2, zI 50, zI 100, zI 4, zI 5, zI 0, zI 0, zs0, zI 60, zI 60, zI 1, zN, zI 71, zI 1, zI 0, zI 24, zS 2927 1 2305843009213693953, zs0, .slice (some ⟨2684, 18, none⟩) 0 10376293541461622784, zT, zI 65, zF, zI 0] 365),
  (2867, .cells [] 625),
  (2957, .cells zl48 625),
  (2933, .cells zl59 340),
  zo12,
  (2959, .cells zl52 575),
  (2927, .cells zl59 340),
  zo9,
  (2780, .cells zl56 625),
  (2831, .cells zl65 340)]
noncomputable def f446_9 : Memo where
  args := [.pointer (some ⟨2692, 0, none⟩)]
  nx := 2983
  li := [(2692, .cells zl11 365),
  (2867, .cells [] 625),
  (2957, .cells zl48 625),
  (2933, .cells zl59 340),
  zo12,
  (2959, .cells zl52 575),
  (2927, .cells zl59 340),
  zo9]
  v := .tuple ⟨[]⟩
  nx' := 2987
  lo := [(2692, .cells zl11 365),
  (2867, .cells [] 625),
  (2957, .cells zl48 625),
  (2933, .cells zl59 340),
  zo12,
  (2959, .cells zl52 575),
  (2927, .cells zl59 340),
  zo9]
noncomputable def K446 : Known := withM K232 446 [f446_0, f446_1, f446_2, f446_3, f446_4, f446_5, f446_6, f446_7, f446_8, f446_9]
noncomputable def f186_0 : Memo where
  args := [.agg ⟨[zI 0, zI 1, zI 10, zI 60, zI 4, zI 5, zI 0]⟩, zI 10, zI 20, zs0, zN, zM 0, zN]
  nx := 1156
  li := []
  v := .tuple ⟨[.agg ⟨[zT, zI 25, zT, zI 30, zI 20, zI 3, zI 0]⟩, zI 0]⟩
  nx' := 1589
  lo := []
noncomputable def f186_1 : Memo where
  args := [.agg ⟨[zI 1, zI 2, zI 50, zI 100, zI 4, zI 5, zI 0]⟩, zI 50, zI 60, zs0, zN, zM 0, zN]
  nx := 2618
  li := []
  v := .tuple ⟨[.agg ⟨[zT, zI 65, zT, zI 70, zI 60, zI 3, zI 0]⟩, zI 0]⟩
  nx' := 3051
  lo := []
noncomputable def K186 : Known := withM K446 186 [f186_0, f186_1]
noncomputable def f159_0 : Memo where
  args := [.agg ⟨[zI 0, zI 100, zT, zs8, zI 0, zN, zN, zN]⟩, .agg ⟨[zI 1, zI 0, zI 1, zI 0, zI 0, zI 0, zI 0, zI 0, zI 2, zI 200, zI 0, zF, zs0, zI 0, zI 0, zI 0, zI 0, zI 0, zI 0, zI 0, zF, zI 0]⟩]
  nx := 843
  li := []
  v := .tuple ⟨[.agg ⟨za3⟩, zS 1006 1 16140901064495857665, zI 0]⟩
  nx' := 1007
  lo := [zo10,
  (1006, .cells zl57 201)]
noncomputable def f159_1 : Memo where
  args := [.agg ⟨za3⟩, .agg ⟨[zI 2, zI 10, zI 0, zI 0, zI 0, zI 0, zI 0, zI 0, zI 0, zI 0, zI 0, zF, zs8, zI 0, zI 0, zI 0, zI 0, zI 0, zI 0, zI 20, zF, zI 0]⟩]
  nx := 1049
  li := [zo10]
  v := .tuple ⟨[.agg ⟨za1⟩, zS 1145 1 16140901064495857665, zI 0]⟩
  nx' := 1146
  lo := [zo10,
  zo16,
  (1145, .cells [zI 1, zI 1, zI 0, zI 0, zI 0, zI 0, zI 0, zI 2, zI 200, zI 0, zF, zs0, zI 0, zI 0] 201)]
noncomputable def f159_2 : Memo where
  args := [.agg ⟨za1⟩, .agg ⟨[zI 4, zI 20, zI 0, zI 0, zI 0, zI 0, zI 0, zI 0, zI 0, zI 0, zI 0, zF, zs8, zI 0, zI 0, zI 0, zI 0, zI 0, zI 0, zI 0, zF, zI 0]⟩]
  nx := 1687
  li := [zo10,
  zo16]
  v := .tuple ⟨[.agg ⟨[zI 0, zI 100, zT, zs1, zI 43, zN, zN, zN]⟩, zS 1890 1 16140901064495857665, zI 0]⟩
  nx' := 1891
  lo := [(1890, .cells zl58 201),
  zo10,
  zo16]
noncomputable def f159_3 : Memo where
  args := [.agg ⟨[zI 1, zI 100, zT, zs8, zI 0, zN, zN, zN]⟩, .agg ⟨[zI 1, zI 25, zI 1, zI 0, zI 0, zI 0, zI 0, zI 0, zI 2, zI 200, zI 0, zF, zs0, zI 0, zI 0, zI 0, zI 0, zI 0, zI 0, zI 0, zF, zI 0]⟩]
  nx := 1902
  li := []
  v := .tuple ⟨[.agg ⟨za4⟩, zS 2065 1 16140901064495857665, zI 0]⟩
  nx' := 2066
  lo := [zo6,
  (2065, .cells zl57 201)]
noncomputable def f159_4 : Memo where
  args := [.agg ⟨[zI 0, zI 100, zT, zs1, zI 43, zN, zN, zN]⟩, .agg ⟨[zI 3, zI 30, zI 0, zI 0, zI 0, zI 0, zI 0, zI 0, zI 0, zI 0, zI 0, zF, zs8, zI 0, zI 0, zI 0, zI 0, zI 0, zI 0, zI 0, zT, zI 0]⟩]
  nx := 2378
  li := []
  v := .tuple ⟨[.agg ⟨za6⟩, zN, zI 0]⟩
  nx' := 2492
  lo := []
noncomputable def f159_5 : Memo where
  args := [.agg ⟨za4⟩, .agg ⟨[zI 2, zI 50, zI 0, zI 0, zI 0, zI 0, zI 0, zI 0, zI 0, zI 0, zI 0, zF, zs8, zI 0, zI 0, zI 0, zI 0, zI 0, zI 1, zI 60, zF, zI 0]⟩]
  nx := 2511
  li := [zo6]
  v := .tuple ⟨[.agg ⟨za2⟩, zS 2607 1 16140901064495857665, zI 0]⟩
  nx' := 2608
  lo := [zo6,
  zo17,
  (2607, .cells [zI 1, zI 1, zI 0, zI 0, zI 0, zI 0, zI 0, zI 2, zI 200, zI 0, zF, zs0, zI 1, zI 0] 201)]
noncomputable def f159_6 : Memo where
  args := [.agg ⟨za2⟩, .agg ⟨[zI 4, zI 60, zI 0, zI 0, zI 0, zI 0, zI 0, zI 0, zI 0, zI 0, zI 0, zF, zs8, zI 0, zI 0, zI 0, zI 0, zI 0, zI 0, zI 0, zF, zI 0]⟩]
  nx := 3149
  li := [zo6,
  zo17]
  v := .tuple ⟨[.agg ⟨[zI 1, zI 100, zT, zs3, zI 43, zN, zN, zN]⟩, zS 3352 1 16140901064495857665, zI 0]⟩
  nx' := 3353
  lo := [(3352, .cells zl58 201),
  zo6,
  zo17]
noncomputable def f159_7 : Memo where
  args := [.agg ⟨[zI 2, zI 100, zT, zs8, zI 0, zN, zN, zN]⟩, .agg ⟨[zI 1, zI 65, zI 1, zI 0, zI 0, zI 0, zI 0, zI 0, zI 2, zI 200, zI 0, zF, zs0, zI 0, zI 0, zI 0, zI 0, zI 0, zI 0, zI 0, zF, zI 0]⟩]
  nx := 3364
  li := []
  v := .tuple ⟨[.agg ⟨[zI 2, zI 100, zT, zs6, zI 44, zN, zS 3525 1 12682136550675316737, zN]⟩, zS 3528 1 16140901064495857665, zI 0]⟩
  nx' := 3529
  lo := [zo13,
  (3528, .cells [zI 2, zI 1, zI 0, zI 0, zI 0, zI 0, zI 0, zI 2, zI 200, zI 0, zF, zs0, zI 0, zI 2] 201)]
noncomputable def f159_8 : Memo where
  args := [.agg ⟨[zI 1, zI 100, zT, zs3, zI 43, zN, zN, zN]⟩, .agg ⟨[zI 3, zI 70, zI 0, zI 0, zI 0, zI 0, zI 0, zI 0, zI 0, zI 0, zI 0, zF, zs8, zI 0, zI 0, zI 0, zI 0, zI 0, zI 1, zI 0, zT, zI 0]⟩]
  nx := 3540
  li := []
  v := .tuple ⟨[.agg ⟨za7⟩, zN, zI 0]⟩
  nx' := 3654
  lo := []
noncomputable def f159_9 : Memo where
  args := [.agg ⟨za6⟩, .agg ⟨za0⟩]
  nx := 3661
  li := []
  v := .tuple ⟨[.agg ⟨za6⟩, zN, zI 0]⟩
  nx' := 3775
  lo := []
noncomputable def f159_10 : Memo where
  args := [.agg ⟨za7⟩, .agg ⟨za0⟩]
  nx := 3782
  li := []
  v := .tuple ⟨[.agg ⟨za7⟩, zN, zI 0]⟩
  nx' := 3896
  lo := []
noncomputable def K159 : Known := withM K186 159 [f159_0, f159_1, f159_2, f159_3, f159_4, f159_5, f159_6, f159_7, f159_8, f159_9, f159_10]
noncomputable def f49_0 : Memo where
  args := [.pointer (some ⟨74, 0, none⟩), .agg ⟨[zI 0, zI 7, zI 0]⟩]
  nx := 78
  li := [(74, .cells [zS 10 3 3, zS 11 2 2, zS 8 1 1, zN, zN, zF, zI 0, zI 0, zS 10 3 3, zS 11 2 2, zN, zN, zS 66 3 9223372036854775811, zS 54 3 3, zN, zS 72 1 3458764513820540929, zN, zN] 95),
  zo1,
  zo0,
  zo4,
  (66, .cells [zI 0, zI 100, zT, zs8, zI 0, zN, zN, zN, zI 1, zI 100, zT, zs8, zI 0, zN, zN, zN, zI 2, zI 100, zT, zs8, zI 0, zN, zN, zN] 125),
  zo5,
  (72, .cells [zI 0, zI 7, zI 0] 97)]
  v := .tuple ⟨[]⟩
  nx' := 1030
  lo := [(74, .cells zl35 95),
  zo1,
  zo0,
  zo4,
  zo3,
  zo2,
  (66, .cells zl44 125),
  zo10,
  zo5,
  (1029, .cells zl54 97),
  zo18,
  (72, .cells [zI 0, zI 7, zI 0] 97)]
noncomputable def f49_1 : Memo where
  args := [.pointer (some ⟨74, 0, none⟩), .agg ⟨[zI 10, zI 8, zI 1000]⟩]
  nx := 1033
  li := [(74, .cells zl35 95),
  zo1,
  zo0,
  zo4,
  zo3,
  zo2,
  (66, .cells zl44 125),
  zo10,
  zo5,
  (1029, .cells zl54 97),
  zo18]
  v := .tuple ⟨[]⟩
  nx' := 1680
  lo := [(74, .cells zl28 95),
  zo1,
  zo0,
  zo4,
  zo3,
  zo2,
  (66, .cells zl40 125),
  zo10,
  zo16,
  zo5,
  zo24,
  zo19,
  (1592, .cells zl60 152),
  (1029, .cells zl54 97)]
noncomputable def f49_2 : Memo where
  args := [.pointer (some ⟨74, 0, none⟩), .agg ⟨[zI 20, zI 4, zI 0]⟩]
  nx := 1683
  li := [(74, .cells zl28 95),
  zo1,
  zo0,
  zo4,
  zo3,
  zo2,
  (66, .cells zl40 125),
  zo10,
  zo16,
  zo5,
  zo24,
  zo19,
  (1592, .cells zl60 152)]
  v := .tuple ⟨[]⟩
  nx' := 1894
  lo := [(74, .cells zl23 95),
  zo1,
  zo0,
  zo4,
  zo3,
  zo2,
  (66, .cells zl50 125),
  zo5,
  zo24,
  zo19,
  (1893, .cells zl53 152),
  zo10,
  zo16]
noncomputable def f49_3 : Memo where
  args := [.pointer (some ⟨74, 0, none⟩), .agg ⟨[zI 25, zI 2, zI 0]⟩]
  nx := 1897
  li := [(74, .cells zl23 95),
  zo1,
  zo0,
  zo4,
  zo3,
  zo2,
  (66, .cells zl50 125),
  zo5,
  zo24,
  zo19,
  (1893, .cells zl53 152)]
  v := .tuple ⟨[]⟩
  nx' := 2370
  lo := [(74, .cells zl29 95),
  zo1,
  zo0,
  zo4,
  zo3,
  zo2,
  (66, .cells zl42 125),
  zo6,
  zo5,
  zo25,
  zo20,
  zo26,
  zo19]
noncomputable def f49_4 : Memo where
  args := [.pointer (some ⟨74, 0, none⟩), .agg ⟨[zI 30, zI 3, zI 0]⟩]
  nx := 2373
  li := [(74, .cells zl29 95),
  zo1,
  zo0,
  zo4,
  zo3,
  zo2,
  (66, .cells zl42 125),
  zo6,
  zo5,
  zo25,
  zo20,
  zo26]
  v := .tuple ⟨[]⟩
  nx' := 2492
  lo := [(74, .cells zl24 95),
  zo1,
  zo0,
  zo4,
  zo3,
  zo2,
  (66, .cells zl43 125),
  zo6,
  zo5,
  zo25,
  zo20,
  zo26]
noncomputable def f49_5 : Memo where
  args := [.pointer (some ⟨74, 0, none⟩), .agg ⟨[zI 50, zI 8, zI 1001]⟩]
  nx := 2495
  li := [(74, .cells zl24 95),
  zo1,
  zo0,
  zo4,
  zo3,
  zo2,
  (66, .cells zl43 125),
  zo6,
  zo5,
  zo25,
  zo20,
  zo26]
  v := .tuple ⟨[]⟩
  nx' := 3142
  lo := [(74, .cells zl30 95),
  zo1,
  zo0,
  zo4,
  zo3,
  zo2,
  (66, .cells zl39 125),
  zo6,
  zo17,
  zo5,
  zo27,
  zo7,
  (3054, .cells zl38 152),
  zo20]
noncomputable def f49_6 : Memo where
  args := [.pointer (some ⟨74, 0, none⟩), .agg ⟨[zI 60, zI 4, zI 1]⟩]
  nx := 3145
  li := [(74, .cells zl30 95),
  zo1,
  zo0,
  zo4,
  zo3,
  zo2,
  (66, .cells zl39 125),
  zo6,
  zo17,
  zo5,
  zo27,
  zo7,
  (3054, .cells zl38 152)]
  v := .tuple ⟨[]⟩
  nx' := 3356
  lo := [(74, .cells zl25 95),
  zo1,
  zo0,
  zo4,
  zo3,
  zo2,
  (66, .cells zl49 125),
  zo5,
  zo27,
  zo7,
  (3355, .cells zl34 152),
  zo6,
  zo17]
noncomputable def f49_7 : Memo where
  args := [.pointer (some ⟨74, 0, none⟩), .agg ⟨[zI 65, zI 2, zI 1]⟩]
  nx := 3359
  li := [(74, .cells zl25 95),
  zo1,
  zo0,
  zo4,
  zo3,
  zo2,
  (66, .cells zl49 125),
  zo5,
  zo27,
  zo7,
  (3355, .cells zl34 152)]
  v := .tuple ⟨[]⟩
  nx' := 3532
  lo := [(74, .cells zl26 95),
  zo1,
  zo0,
  zo4,
  zo3,
  zo2,
  (66, .cells zl41 125),
  zo13,
  zo5,
  zo14,
  zo7,
  zo15]
noncomputable def f49_8 : Memo where
  args := [.pointer (some ⟨74, 0, none⟩), .agg ⟨[zI 70, zI 3, zI 1]⟩]
  nx := 3535
  li := [(74, .cells zl26 95),
  zo1,
  zo0,
  zo4,
  zo3,
  zo2,
  (66, .cells zl41 125),
  zo13,
  zo5,
  zo14,
  zo7,
  zo15]
  v := .tuple ⟨[]⟩
  nx' := 3654
  lo := [(74, .cells zl27 95),
  zo1,
  zo0,
  zo4,
  zo3,
  zo2,
  zo21,
  zo13,
  zo5,
  zo14,
  zo7,
  zo15]
noncomputable def f49_9 : Memo where
  args := [.pointer (some ⟨74, 0, none⟩), .agg ⟨[zI 200, zI 5, zI 0]⟩]
  nx := 3657
  li := [(74, .cells zl27 95),
  zo1,
  zo0,
  zo4,
  zo3,
  zo2,
  zo21,
  zo13,
  zo5,
  zo14,
  zo7,
  zo15]
  v := .tuple ⟨[]⟩
  nx' := 3775
  lo := [(74, .cells zl22 95),
  zo1,
  zo0,
  zo4,
  zo3,
  zo2,
  zo21,
  zo13,
  zo5,
  zo14,
  zo7,
  zo15]
noncomputable def f49_10 : Memo where
  args := [.pointer (some ⟨74, 0, none⟩), .agg ⟨[zI 200, zI 5, zI 1]⟩]
  nx := 3778
  li := [(74, .cells zl22 95),
  zo1,
  zo0,
  zo4,
  zo3,
  zo2,
  zo21,
  zo13,
  zo5,
  zo14,
  zo7,
  zo15]
  v := .tuple ⟨[]⟩
  nx' := 3896
  lo := [(74, .cells [zS 10 3 3, zS 11 2 2, zS 8 1 1, zN, zN, zF, zI 200, zI 11, zS 10 3 3, zS 11 2 2, zN, zS 668 1 12682136550675316737, zS 66 3 9223372036854775811, zS 54 3 3, zS 3052 2 28823037615171174402, .slice (some ⟨3141, 15, none⟩) 0 3458764513820540928, zS 3531 7 6917529027641081863, zN] 95),
  zo1,
  zo0,
  zo4,
  zo3,
  zo2,
  zo21,
  zo13,
  zo5,
  zo14,
  zo7,
  zo15]
end Go.Proofs.YtpcbccpobhdokaaGreatDoor

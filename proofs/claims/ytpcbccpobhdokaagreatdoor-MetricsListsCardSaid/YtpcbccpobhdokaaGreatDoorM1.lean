/- What may be behind (*collector).entries on the example's network: the metrics of the counts, in some order. -/
import Derived.Test.YtpcbccpobhdokaaGreatDoorX4
import Derived.Test.YtpcbccpobhdokaaGreatDoorC0
import Derived.Test.YtpcbccpobhdokaaGreatDoorEh
set_option linter.unusedSimpArgs false
set_option linter.unusedVariables false
set_option linter.all false
namespace Go.Proofs.YtpcbccpobhdokaaGreatDoor
open Go.RowKit
open Go.Proofs.YtpcbccpobhdokaaGreatDoor.Eng
noncomputable def bodyOf (fn : Func) : Code := match fn.body with | some c => c | none => .skip
noncomputable def sl : Code → Code | .seq a _ => a | c => c
noncomputable def sr : Code → Code | .seq _ b => b | c => c
noncomputable def bl : Code → Code | .block _ c => c | c => c
noncomputable def lp : Code → Code | .loop c => c | c => c
noncomputable def opsOf : Code → Array Oper | .region _ o _ => o | _ => #[]
noncomputable def opAt (o : Array Oper) (i : Nat) : Oper := o.getD i { dst := none, op := .assign (.tmp 0), type := 0, pos := "", after := #[], guard := none }
def cel (p : Value × Value) : List Value := [p.1, .int .i64 (.ofNat 0), p.2, .int .i64 (.ofNat 1)]
def EV : Nat → Value × Value
  | 0 => (.string ⟨⟨[97, 99, 99, 101, 112, 116, 101, 100]⟩⟩, .int .i64 (.ofNat 1))
  | 1 => (.string ⟨⟨[114, 101, 102, 117, 115, 101, 100]⟩⟩, .int .i64 (.ofNat 0))
  | 2 => (.string ⟨⟨[109, 111, 118, 101, 100]⟩⟩, .int .i64 (.ofNat 0))
  | 3 => (.string ⟨⟨[100, 114, 111, 112, 112, 101, 100]⟩⟩, .int .i64 (.ofNat 0))
  | 4 => (.string ⟨⟨[100, 101, 108, 105, 118, 101, 114, 101, 100]⟩⟩, .int .i64 (.ofNat 1))
  | 5 => (.string ⟨⟨[100, 117, 112, 108, 105, 99, 97, 116, 101]⟩⟩, .int .i64 (.ofNat 0))
  | 6 => (.string ⟨⟨[114, 101, 106, 101, 99, 116, 101, 100]⟩⟩, .int .i64 (.ofNat 0))
  | 7 => (.string ⟨⟨[109, 105, 115, 115, 101, 100]⟩⟩, .int .i64 (.ofNat 0))
  | 8 => (.string ⟨⟨[108, 111, 115, 116]⟩⟩, .int .i64 (.ofNat 0))
  | 9 => (.string ⟨⟨[101, 120, 112, 105, 114, 101, 100]⟩⟩, .int .i64 (.ofNat 0))
  | 10 => (.string ⟨⟨[114, 101, 112, 108, 97, 110, 110, 101, 100]⟩⟩, .int .i64 (.ofNat 0))
  | 11 => (.string ⟨⟨[115, 116, 117, 99, 107]⟩⟩, .int .i64 (.ofNat 0))
  | _ => (undef, undef)
def KV : Nat → Value
  | 0 => .int .i64 (.ofNat 1)
  | 1 => .int .i64 (.ofNat 2)
  | 2 => .int .i64 (.ofNat 3)
  | 3 => .int .i64 (.ofNat 4)
  | 4 => .int .i64 (.ofNat 7)
  | 5 => .int .i64 (.ofNat 8)
  | 6 => .int .i64 (.ofNat 9)
  | 7 => .int .i64 (.ofNat 10)
  | 8 => .int .i64 (.ofNat 11)
  | 9 => .int .i64 (.ofNat 13)
  | 10 => .int .i64 (.ofNat 16)
  | 11 => .int .i64 (.ofNat 17)
  | _ => undef
def BASE : List (Nat × AO) := [(8, .cells [.int .i64 (.ofNat 0), .int .i64 (.ofNat 0), .int .i64 (.ofNat 0), .int .i64 (.ofNat 0), .int .i64 (.ofNat 0), .int .i64 (.ofNat 1), .int .i64 (.ofNat 2), .int .i64 (.ofNat 200), .int .i64 (.ofNat 0), .int .i64 (.ofNat 0), .slice none 0 0, .string ⟨⟨[104, 105]⟩⟩] 107),
  (10, .cells [.int .i64 (.ofNat 100), .int .i64 (.ofNat 100), .int .i64 (.ofNat 100)] 3),
  (11, .cells [.int .i64 (.ofNat 0), .int .i64 (.ofNat 1), .int .i64 (.ofNat 10), .int .i64 (.ofNat 60), .int .i64 (.ofNat 4), .int .i64 (.ofNat 5), .int .i64 (.ofNat 0), .int .i64 (.ofNat 1), .int .i64 (.ofNat 2), .int .i64 (.ofNat 50), .int .i64 (.ofNat 100), .int .i64 (.ofNat 4), .int .i64 (.ofNat 5), .int .i64 (.ofNat 0)] 118),
  (54, .cells [.int .i64 (.ofNat 0), .int .i64 (.ofNat 0), .int .i64 (.ofNat 0)] 3),
  (66, .cells [.int .i64 (.ofNat 0), .int .i64 (.ofNat 100), .bool true, .string ⟨⟨[76, 2, 0, 2, 0, 0, 0, 0, 0, 4, 131, 16, 0, 0, 48, 38, 6, 77, 66, 49, 0, 0, 0, 0, 0, 2, 4, 131, 16, 0, 0, 0, 4, 104, 105, 212, 203, 109, 147, 214, 41, 122, 157, 14, 4, 40, 0, 0, 0, 0, 0, 48, 5, 100, 61]⟩⟩, .int .i64 (.ofNat 55), .slice none 0 0, .slice none 0 0, .slice none 0 0, .int .i64 (.ofNat 1), .int .i64 (.ofNat 100), .bool true, .string ⟨⟨[76, 2, 50, 2, 0, 0, 0, 0, 0, 4, 131, 16, 0, 0, 48, 38, 6, 77, 66, 49, 0, 0, 0, 0, 0, 2, 4, 131, 16, 0, 0, 0, 4, 104, 105, 212, 203, 109, 147, 19, 253, 98, 34, 14, 4, 120, 0, 0, 0, 0, 0, 229, 110, 108, 243]⟩⟩, .int .i64 (.ofNat 55), .slice none 0 0, .slice none 0 0, .slice none 0 0, .int .i64 (.ofNat 2), .int .i64 (.ofNat 100), .bool true, .string ⟨⟨[78, 6, 129, 2, 2, 0, 0, 0, 0, 0, 4, 131, 16, 0, 0, 48, 38, 6, 77, 66, 49, 0, 0, 0, 0, 0, 2, 4, 131, 16, 0, 0, 0, 4, 104, 105, 212, 203, 109, 147, 32, 211, 105, 107]⟩⟩, .int .i64 (.ofNat 44), .slice none 0 0, .slice (some ⟨3525, 0, none⟩) 1 12682136550675316737, .slice none 0 0] 125),
  (662, .cells [.int .i64 (.ofNat 0), .int .i64 (.ofNat 10), .int .i64 (.ofNat 20), .int .i64 (.ofNat 25), .int .i64 (.ofNat 1), .int .i64 (.ofNat 50), .int .i64 (.ofNat 60), .int .i64 (.ofNat 65)] 211),
  (668, .cells [.int .i64 (.ofNat 1), .int .i64 (.ofNat 0), .int .i64 (.ofNat 2), .int .i64 (.ofNat 24), .int .i64 (.ofNat 0), .int .i64 (.ofNat 199), .int .i64 (.ofNat 0), .bool false, .slice (some ⟨662, 0, none⟩) 2 4611686018427387906, .int .i64 (.ofNat 1), .int .i64 (.ofNat 0)] 157),
  (3052, .cells [.int .i64 (.ofNat 1), .int .i64 (.ofNat 0), .int .i64 (.ofNat 1), .int .i64 (.ofNat 0), .int .i64 (.ofNat 0), .int .i64 (.ofNat 0), .int .i64 (.ofNat 0), .int .i64 (.ofNat 0), .int .i64 (.ofNat 2), .int .i64 (.ofNat 200), .int .i64 (.ofNat 0), .bool false, .string ⟨⟨[38, 6, 77, 66, 49, 0, 0, 0, 0, 0, 2, 4, 131, 16, 0, 0, 0, 4, 104, 105, 212, 203, 109, 147]⟩⟩, .int .i64 (.ofNat 10), .bool true, .int .i64 (.ofNat 25), .bool true, .int .i64 (.ofNat 30), .int .i64 (.ofNat 20), .int .i64 (.ofNat 3), .int .i64 (.ofNat 0), .int .i64 (.ofNat 0), .int .i64 (.ofNat 0), .bool true, .bool true, .int .i64 (.ofNat 1), .int .i64 (.ofNat 1), .int .i64 (.ofNat 1), .int .i64 (.ofNat 0), .int .i64 (.ofNat 0), .int .i64 (.ofNat 0), .int .i64 (.ofNat 0), .int .i64 (.ofNat 0), .int .i64 (.ofNat 2), .int .i64 (.ofNat 200), .int .i64 (.ofNat 0), .bool false, .string ⟨⟨[38, 6, 77, 66, 49, 0, 0, 0, 0, 0, 2, 4, 131, 16, 0, 0, 0, 4, 104, 105, 212, 203, 109, 147]⟩⟩, .int .i64 (.ofNat 50), .bool true, .int .i64 (.ofNat 65), .bool true, .int .i64 (.ofNat 70), .int .i64 (.ofNat 60), .int .i64 (.ofNat 3), .int .i64 (.ofNat 0), .int .i64 (.ofNat 0), .int .i64 (.ofNat 0), .bool true, .bool true] 169),
  (3141, .cells [.int .i64 (.ofNat 60), .int .i64 (.ofNat 4), .int .i64 (.ofNat 1), .int .i64 (.ofNat 65), .int .i64 (.ofNat 2), .int .i64 (.ofNat 1), .int .i64 (.ofNat 70), .int .i64 (.ofNat 3), .int .i64 (.ofNat 1), .int .i64 (.ofNat 200), .int .i64 (.ofNat 5), .int .i64 (.ofNat 0), .int .i64 (.ofNat 200), .int .i64 (.ofNat 5), .int .i64 (.ofNat 1)] 97),
  (3525, .cells [.int .i64 (.ofNat 1), .int .i64 (.ofNat 0), .int .i64 (.ofNat 0), .int .i64 (.ofNat 0), .int .i64 (.ofNat 0), .int .i64 (.ofNat 0), .int .i64 (.ofNat 2), .int .i64 (.ofNat 200), .int .i64 (.ofNat 0), .bool false, .string ⟨⟨[38, 6, 77, 66, 49, 0, 0, 0, 0, 0, 2, 4, 131, 16, 0, 0, 0, 4, 104, 105, 212, 203, 109, 147]⟩⟩] 165),
  (3531, .cells [.int .i64 (.ofNat 0), .int .i64 (.ofNat 1), .int .i64 (.ofNat 0), .int .i64 (.ofNat 1), .int .i64 (.negSucc 0), .int .i64 (.ofNat 65), .int .i64 (.ofNat 10), .int .i64 (.ofNat 5), .int .i64 (.ofNat 0), .int .i64 (.ofNat 1), .int .i64 (.ofNat 0), .int .i64 (.negSucc 0), .int .i64 (.ofNat 20), .int .i64 (.ofNat 12), .int .i64 (.ofNat 0), .int .i64 (.ofNat 1), .int .i64 (.negSucc 0), .int .i64 (.negSucc 0), .int .i64 (.ofNat 25), .int .i64 (.ofNat 6), .int .i64 (.ofNat 1), .int .i64 (.ofNat 1), .int .i64 (.ofNat 0), .int .i64 (.negSucc 0), .int .i64 (.ofNat 50), .int .i64 (.ofNat 5), .int .i64 (.ofNat 1), .int .i64 (.ofNat 1), .int .i64 (.ofNat 1), .int .i64 (.negSucc 0), .int .i64 (.ofNat 60), .int .i64 (.ofNat 12), .int .i64 (.ofNat 1), .int .i64 (.ofNat 1), .int .i64 (.negSucc 0), .int .i64 (.negSucc 0), .int .i64 (.ofNat 65), .int .i64 (.ofNat 7), .int .i64 (.ofNat 2), .int .i64 (.ofNat 1), .int .i64 (.ofNat 1), .int .i64 (.negSucc 0)] 152),
  (3900, .cells [.slice (some ⟨10, 0, none⟩) 3 3, .slice (some ⟨11, 0, none⟩) 2 2, .slice (some ⟨8, 0, none⟩) 1 1, .slice none 0 0, .slice none 0 0, .bool false, .int .i64 (.ofNat 200), .int .i64 (.ofNat 11), .slice (some ⟨10, 0, none⟩) 3 3, .slice (some ⟨11, 0, none⟩) 2 2, .slice none 0 0, .slice (some ⟨668, 0, none⟩) 1 12682136550675316737, .slice (some ⟨66, 0, none⟩) 3 9223372036854775811, .slice (some ⟨54, 0, none⟩) 3 3, .slice (some ⟨3052, 0, none⟩) 2 28823037615171174402, .slice (some ⟨3141, 15, none⟩) 0 3458764513820540928, .slice (some ⟨3531, 0, none⟩) 7 6917529027641081863] 61),
  (3902, .cells [.pointer (some ⟨3901, 0, none⟩)] 109),
  (3903, .cells [.slice (some ⟨10, 0, none⟩) 3 3, .slice (some ⟨11, 0, none⟩) 2 2, .slice (some ⟨8, 0, none⟩) 1 1, .slice none 0 0, .slice none 0 0, .bool false, .int .i64 (.ofNat 200), .int .i64 (.ofNat 11), .slice (some ⟨10, 0, none⟩) 3 3, .slice (some ⟨11, 0, none⟩) 2 2, .slice none 0 0, .slice (some ⟨668, 0, none⟩) 1 12682136550675316737, .slice (some ⟨66, 0, none⟩) 3 9223372036854775811, .slice (some ⟨54, 0, none⟩) 3 3, .slice (some ⟨3052, 0, none⟩) 2 28823037615171174402, .slice (some ⟨3141, 15, none⟩) 0 3458764513820540928, .slice (some ⟨3531, 0, none⟩) 7 6917529027641081863] 61),
  (3904, .map [(.int .i64 (.ofNat 1), .int .i64 (.ofNat 1)), (.int .i64 (.ofNat 5), .int .i64 (.ofNat 2)), (.int .i64 (.ofNat 12), .int .i64 (.ofNat 2)), (.int .i64 (.ofNat 6), .int .i64 (.ofNat 1)), (.int .i64 (.ofNat 7), .int .i64 (.ofNat 1))])]
def rowO : Nat → List (Value × Value) → List (Nat × AO)
  | 0, _ => [(3901, .cells [.slice none 0 0] 111)]
  | k + 1, l => [(3901, .cells [.slice (some ⟨3925 + 6 * (k + 1), 0, none⟩) (k + 1) (4611686018427387904 + (k + 1))] 111), (3925 + 6 * (k + 1), .cells (l.flatMap cel) 37)]
def liL (k : Nat) (l : List (Value × Value)) : List (Nat × AO) := BASE ++ rowO k l
noncomputable def HL (k : Nat) (l : List (Value × Value)) : AH := mkH (3926 + 6 * k) (liL k l)
def FB (y10 y11 y52 y53 y54 y55 y56 y57 y58 y59 y60 y61 y62 : Value) : List Value := [.pointer (some ⟨3901, 0, none⟩), .agg ⟨[.slice (some ⟨10, 0, none⟩) 3 3, .slice (some ⟨11, 0, none⟩) 2 2, .slice (some ⟨8, 0, none⟩) 1 1, .slice none 0 0, .slice none 0 0, .bool false, .int .i64 (.ofNat 200), .int .i64 (.ofNat 11), .slice (some ⟨10, 0, none⟩) 3 3, .slice (some ⟨11, 0, none⟩) 2 2, .slice none 0 0, .slice (some ⟨668, 0, none⟩) 1 12682136550675316737, .slice (some ⟨66, 0, none⟩) 3 9223372036854775811, .slice (some ⟨54, 0, none⟩) 3 3, .slice (some ⟨3052, 0, none⟩) 2 28823037615171174402, .slice (some ⟨3141, 15, none⟩) 0 3458764513820540928, .slice (some ⟨3531, 0, none⟩) 7 6917529027641081863]⟩, undef, .pointer (some ⟨3903, 0, none⟩), .map (some 3904), .int .i64 (.ofNat 65), undef, .pointer (some ⟨3911, 0, none⟩), .pointer (some ⟨3912, 0, none⟩), .bool true, y10, y11, undef, undef, .map (some 3904), .pointer (some ⟨3903, 16, none⟩), .slice (some ⟨3531, 0, none⟩) 7 6917529027641081863, .int .i64 (.ofNat 7), .int .i64 (.ofNat 7), .bool false, .pointer (some ⟨3531, 36, none⟩), .agg ⟨[.int .i64 (.ofNat 65), .int .i64 (.ofNat 7), .int .i64 (.ofNat 2), .int .i64 (.ofNat 1), .int .i64 (.ofNat 1), .int .i64 (.negSucc 0)]⟩, .map (some 3904), .pointer (some ⟨3911, 1, none⟩), .int .i64 (.ofNat 7), .int .i64 (.ofNat 0), .int .i64 (.ofNat 1), .pointer (some ⟨3911, 1, none⟩), .int .i64 (.ofNat 7), .bool true, .tuple ⟨[.agg ⟨[.int .i64 (.ofNat 1), .int .i64 (.ofNat 0), .int .i64 (.ofNat 2), .int .i64 (.ofNat 24), .int .i64 (.ofNat 0), .int .i64 (.ofNat 199), .int .i64 (.ofNat 0), .bool false, .slice (some ⟨662, 0, none⟩) 2 4611686018427387906, .int .i64 (.ofNat 1), .int .i64 (.ofNat 0)]⟩, .bool true]⟩, .pointer (some ⟨3903, 8, none⟩), .agg ⟨[.slice (some ⟨10, 0, none⟩) 3 3, .slice (some ⟨11, 0, none⟩) 2 2, .slice none 0 0, .slice (some ⟨668, 0, none⟩) 1 12682136550675316737]⟩, .pointer (some ⟨3903, 16, none⟩), .slice (some ⟨3531, 0, none⟩) 7 6917529027641081863, .pointer (some ⟨3911, 3, none⟩), .int .i64 (.ofNat 1), .int .i64 (.ofNat 1), .tuple ⟨[.agg ⟨[.int .i64 (.ofNat 1), .int .i64 (.ofNat 0), .int .i64 (.ofNat 2), .int .i64 (.ofNat 24), .int .i64 (.ofNat 0), .int .i64 (.ofNat 199), .int .i64 (.ofNat 0), .bool false, .slice (some ⟨662, 0, none⟩) 2 4611686018427387906, .int .i64 (.ofNat 1), .int .i64 (.ofNat 0)]⟩, .bool true]⟩, .agg ⟨[.int .i64 (.ofNat 1), .int .i64 (.ofNat 0), .int .i64 (.ofNat 2), .int .i64 (.ofNat 24), .int .i64 (.ofNat 0), .int .i64 (.ofNat 199), .int .i64 (.ofNat 0), .bool false, .slice (some ⟨662, 0, none⟩) 2 4611686018427387906, .int .i64 (.ofNat 1), .int .i64 (.ofNat 0)]⟩, .bool true, .int .i64 (.ofNat 0), .pointer (some ⟨3911, 0, none⟩), .int .i64 (.ofNat 65), .pointer (some ⟨3912, 1, none⟩), .pointer (some ⟨3912, 4, none⟩), .int .i64 (.ofNat 0), .int .i64 (.ofNat 65), .int .i64 (.ofNat 65), .int .i64 (.ofNat 7), .map (some 3924), .pointer (some ⟨3925, 0, none⟩), y52, y53, y54, y55, y56, y57, y58, y59, y60, y61, y62, undef, undef, undef, undef, undef, undef, undef, undef, undef, undef, undef, undef, undef, undef, undef, undef, undef]
def FE (i : Nat) (y57 y58 y59 y60 y61 y62 : Value) : List Value := FB (KV i) (EV i).1 (.tuple ⟨[.bool true, KV i, (EV i).1]⟩) (.bool true) (.tuple ⟨[KV i, (EV i).1]⟩) (KV i) (EV i).1 y57 y58 y59 y60 y61 y62
def FF1 (i : Nat) : List Value := FE i (.pointer (some ⟨3901, 0, none⟩)) (EV i).1 (.map (some 3904)) (KV i) (EV i).2 undef
noncomputable def c51 : Code := bodyOf Tryz.f51
noncomputable def p0 : Code := sl c51
noncomputable def p1 : Code := sl (sr c51)
noncomputable def p2 : Code := sl (sr (sr c51))
noncomputable def pA : Code := sl (sr (sr (sr c51)))
noncomputable def pB : Code := sl (sr (sr (sr (sr c51))))
noncomputable def pC : Code := sr (sr (sr (sr (sr c51))))
noncomputable def o11 : Array Oper := opsOf (sl pB)
noncomputable def xB : Code := lp (bl (sr pB))
noncomputable def o12 : Array Oper := opsOf (sl xB)
noncomputable def o13 : Array Oper := opsOf (sl (bl (sr (sr xB))))
noncomputable def r14 : Code := sr (bl (sr (sr xB)))
theorem body51 : Tryz.f51.body = some (.seq p0 (.seq p1 (.seq p2 (.seq pA (.seq (.seq (.region 11 o11 false) (.block 2 (.loop (headX 2 3 12 13 53 o12 o13 r14)))) pC))))) := by kernel_rfl
def RoundOk (k : Nat) : Prop := ∀ (l : List (Value × Value)), l.length = k → ∀ i, i < 12 → ∀ y57 y58 y59 y60 y61 y62 : Value,
  CodeRel Tryz.prog 6 r14 (frOf (FE i y57 y58 y59 y60 y61 y62)) (HL k l) (fun ex f g => ex = .normal ∧ f = frOf (FF1 i) ∧ g = HL (k + 1) (l ++ [EV i]))
theorem round0 : RoundOk 0 := by
  intro l hl i hi y57 y58 y59 y60 y61 y62
  match l, hl with
  | [], _ =>
    match i, hi with
    | 0, _ => exact CodeRel.view hyp0 (m := 100000) (l := FF1 0) (li := liL 1 ([] ++ [EV 0])) (by kernel_rfl) (by kernel_rfl) (by kernel_rfl)
    | 1, _ => exact CodeRel.view hyp0 (m := 100000) (l := FF1 1) (li := liL 1 ([] ++ [EV 1])) (by kernel_rfl) (by kernel_rfl) (by kernel_rfl)
    | 2, _ => exact CodeRel.view hyp0 (m := 100000) (l := FF1 2) (li := liL 1 ([] ++ [EV 2])) (by kernel_rfl) (by kernel_rfl) (by kernel_rfl)
    | 3, _ => exact CodeRel.view hyp0 (m := 100000) (l := FF1 3) (li := liL 1 ([] ++ [EV 3])) (by kernel_rfl) (by kernel_rfl) (by kernel_rfl)
    | 4, _ => exact CodeRel.view hyp0 (m := 100000) (l := FF1 4) (li := liL 1 ([] ++ [EV 4])) (by kernel_rfl) (by kernel_rfl) (by kernel_rfl)
    | 5, _ => exact CodeRel.view hyp0 (m := 100000) (l := FF1 5) (li := liL 1 ([] ++ [EV 5])) (by kernel_rfl) (by kernel_rfl) (by kernel_rfl)
    | 6, _ => exact CodeRel.view hyp0 (m := 100000) (l := FF1 6) (li := liL 1 ([] ++ [EV 6])) (by kernel_rfl) (by kernel_rfl) (by kernel_rfl)
    | 7, _ => exact CodeRel.view hyp0 (m := 100000) (l := FF1 7) (li := liL 1 ([] ++ [EV 7])) (by kernel_rfl) (by kernel_rfl) (by kernel_rfl)
    | 8, _ => exact CodeRel.view hyp0 (m := 100000) (l := FF1 8) (li := liL 1 ([] ++ [EV 8])) (by kernel_rfl) (by kernel_rfl) (by kernel_rfl)
    | 9, _ => exact CodeRel.view hyp0 (m := 100000) (l := FF1 9) (li := liL 1 ([] ++ [EV 9])) (by kernel_rfl) (by kernel_rfl) (by kernel_rfl)
    | 10, _ => exact CodeRel.view hyp0 (m := 100000) (l := FF1 10) (li := liL 1 ([] ++ [EV 10])) (by kernel_rfl) (by kernel_rfl) (by kernel_rfl)
    | 11, _ => exact CodeRel.view hyp0 (m := 100000) (l := FF1 11) (li := liL 1 ([] ++ [EV 11])) (by kernel_rfl) (by kernel_rfl) (by kernel_rfl)
theorem round1 : RoundOk 1 := by
  intro l hl i hi y57 y58 y59 y60 y61 y62
  match l, hl with
  | [q0], _ =>
    match i, hi with
    | 0, _ => exact CodeRel.view hyp0 (m := 100000) (l := FF1 0) (li := liL 2 ([q0] ++ [EV 0])) (by kernel_rfl) (by kernel_rfl) (by kernel_rfl)
    | 1, _ => exact CodeRel.view hyp0 (m := 100000) (l := FF1 1) (li := liL 2 ([q0] ++ [EV 1])) (by kernel_rfl) (by kernel_rfl) (by kernel_rfl)
    | 2, _ => exact CodeRel.view hyp0 (m := 100000) (l := FF1 2) (li := liL 2 ([q0] ++ [EV 2])) (by kernel_rfl) (by kernel_rfl) (by kernel_rfl)
    | 3, _ => exact CodeRel.view hyp0 (m := 100000) (l := FF1 3) (li := liL 2 ([q0] ++ [EV 3])) (by kernel_rfl) (by kernel_rfl) (by kernel_rfl)
    | 4, _ => exact CodeRel.view hyp0 (m := 100000) (l := FF1 4) (li := liL 2 ([q0] ++ [EV 4])) (by kernel_rfl) (by kernel_rfl) (by kernel_rfl)
    | 5, _ => exact CodeRel.view hyp0 (m := 100000) (l := FF1 5) (li := liL 2 ([q0] ++ [EV 5])) (by kernel_rfl) (by kernel_rfl) (by kernel_rfl)
    | 6, _ => exact CodeRel.view hyp0 (m := 100000) (l := FF1 6) (li := liL 2 ([q0] ++ [EV 6])) (by kernel_rfl) (by kernel_rfl) (by kernel_rfl)
    | 7, _ => exact CodeRel.view hyp0 (m := 100000) (l := FF1 7) (li := liL 2 ([q0] ++ [EV 7])) (by kernel_rfl) (by kernel_rfl) (by kernel_rfl)
    | 8, _ => exact CodeRel.view hyp0 (m := 100000) (l := FF1 8) (li := liL 2 ([q0] ++ [EV 8])) (by kernel_rfl) (by kernel_rfl) (by kernel_rfl)
    | 9, _ => exact CodeRel.view hyp0 (m := 100000) (l := FF1 9) (li := liL 2 ([q0] ++ [EV 9])) (by kernel_rfl) (by kernel_rfl) (by kernel_rfl)
    | 10, _ => exact CodeRel.view hyp0 (m := 100000) (l := FF1 10) (li := liL 2 ([q0] ++ [EV 10])) (by kernel_rfl) (by kernel_rfl) (by kernel_rfl)
    | 11, _ => exact CodeRel.view hyp0 (m := 100000) (l := FF1 11) (li := liL 2 ([q0] ++ [EV 11])) (by kernel_rfl) (by kernel_rfl) (by kernel_rfl)
theorem round2 : RoundOk 2 := by
  intro l hl i hi y57 y58 y59 y60 y61 y62
  match l, hl with
  | [q0, q1], _ =>
    match i, hi with
    | 0, _ => exact CodeRel.view hyp0 (m := 100000) (l := FF1 0) (li := liL 3 ([q0, q1] ++ [EV 0])) (by kernel_rfl) (by kernel_rfl) (by kernel_rfl)
    | 1, _ => exact CodeRel.view hyp0 (m := 100000) (l := FF1 1) (li := liL 3 ([q0, q1] ++ [EV 1])) (by kernel_rfl) (by kernel_rfl) (by kernel_rfl)
    | 2, _ => exact CodeRel.view hyp0 (m := 100000) (l := FF1 2) (li := liL 3 ([q0, q1] ++ [EV 2])) (by kernel_rfl) (by kernel_rfl) (by kernel_rfl)
    | 3, _ => exact CodeRel.view hyp0 (m := 100000) (l := FF1 3) (li := liL 3 ([q0, q1] ++ [EV 3])) (by kernel_rfl) (by kernel_rfl) (by kernel_rfl)
    | 4, _ => exact CodeRel.view hyp0 (m := 100000) (l := FF1 4) (li := liL 3 ([q0, q1] ++ [EV 4])) (by kernel_rfl) (by kernel_rfl) (by kernel_rfl)
    | 5, _ => exact CodeRel.view hyp0 (m := 100000) (l := FF1 5) (li := liL 3 ([q0, q1] ++ [EV 5])) (by kernel_rfl) (by kernel_rfl) (by kernel_rfl)
    | 6, _ => exact CodeRel.view hyp0 (m := 100000) (l := FF1 6) (li := liL 3 ([q0, q1] ++ [EV 6])) (by kernel_rfl) (by kernel_rfl) (by kernel_rfl)
    | 7, _ => exact CodeRel.view hyp0 (m := 100000) (l := FF1 7) (li := liL 3 ([q0, q1] ++ [EV 7])) (by kernel_rfl) (by kernel_rfl) (by kernel_rfl)
    | 8, _ => exact CodeRel.view hyp0 (m := 100000) (l := FF1 8) (li := liL 3 ([q0, q1] ++ [EV 8])) (by kernel_rfl) (by kernel_rfl) (by kernel_rfl)
    | 9, _ => exact CodeRel.view hyp0 (m := 100000) (l := FF1 9) (li := liL 3 ([q0, q1] ++ [EV 9])) (by kernel_rfl) (by kernel_rfl) (by kernel_rfl)
    | 10, _ => exact CodeRel.view hyp0 (m := 100000) (l := FF1 10) (li := liL 3 ([q0, q1] ++ [EV 10])) (by kernel_rfl) (by kernel_rfl) (by kernel_rfl)
    | 11, _ => exact CodeRel.view hyp0 (m := 100000) (l := FF1 11) (li := liL 3 ([q0, q1] ++ [EV 11])) (by kernel_rfl) (by kernel_rfl) (by kernel_rfl)
theorem round3 : RoundOk 3 := by
  intro l hl i hi y57 y58 y59 y60 y61 y62
  match l, hl with
  | [q0, q1, q2], _ =>
    match i, hi with
    | 0, _ => exact CodeRel.view hyp0 (m := 100000) (l := FF1 0) (li := liL 4 ([q0, q1, q2] ++ [EV 0])) (by kernel_rfl) (by kernel_rfl) (by kernel_rfl)
    | 1, _ => exact CodeRel.view hyp0 (m := 100000) (l := FF1 1) (li := liL 4 ([q0, q1, q2] ++ [EV 1])) (by kernel_rfl) (by kernel_rfl) (by kernel_rfl)
    | 2, _ => exact CodeRel.view hyp0 (m := 100000) (l := FF1 2) (li := liL 4 ([q0, q1, q2] ++ [EV 2])) (by kernel_rfl) (by kernel_rfl) (by kernel_rfl)
    | 3, _ => exact CodeRel.view hyp0 (m := 100000) (l := FF1 3) (li := liL 4 ([q0, q1, q2] ++ [EV 3])) (by kernel_rfl) (by kernel_rfl) (by kernel_rfl)
    | 4, _ => exact CodeRel.view hyp0 (m := 100000) (l := FF1 4) (li := liL 4 ([q0, q1, q2] ++ [EV 4])) (by kernel_rfl) (by kernel_rfl) (by kernel_rfl)
    | 5, _ => exact CodeRel.view hyp0 (m := 100000) (l := FF1 5) (li := liL 4 ([q0, q1, q2] ++ [EV 5])) (by kernel_rfl) (by kernel_rfl) (by kernel_rfl)
    | 6, _ => exact CodeRel.view hyp0 (m := 100000) (l := FF1 6) (li := liL 4 ([q0, q1, q2] ++ [EV 6])) (by kernel_rfl) (by kernel_rfl) (by kernel_rfl)
    | 7, _ => exact CodeRel.view hyp0 (m := 100000) (l := FF1 7) (li := liL 4 ([q0, q1, q2] ++ [EV 7])) (by kernel_rfl) (by kernel_rfl) (by kernel_rfl)
    | 8, _ => exact CodeRel.view hyp0 (m := 100000) (l := FF1 8) (li := liL 4 ([q0, q1, q2] ++ [EV 8])) (by kernel_rfl) (by kernel_rfl) (by kernel_rfl)
    | 9, _ => exact CodeRel.view hyp0 (m := 100000) (l := FF1 9) (li := liL 4 ([q0, q1, q2] ++ [EV 9])) (by kernel_rfl) (by kernel_rfl) (by kernel_rfl)
    | 10, _ => exact CodeRel.view hyp0 (m := 100000) (l := FF1 10) (li := liL 4 ([q0, q1, q2] ++ [EV 10])) (by kernel_rfl) (by kernel_rfl) (by kernel_rfl)
    | 11, _ => exact CodeRel.view hyp0 (m := 100000) (l := FF1 11) (li := liL 4 ([q0, q1, q2] ++ [EV 11])) (by kernel_rfl) (by kernel_rfl) (by kernel_rfl)
theorem round4 : RoundOk 4 := by
  intro l hl i hi y57 y58 y59 y60 y61 y62
  match l, hl with
  | [q0, q1, q2, q3], _ =>
    match i, hi with
    | 0, _ => exact CodeRel.view hyp0 (m := 100000) (l := FF1 0) (li := liL 5 ([q0, q1, q2, q3] ++ [EV 0])) (by kernel_rfl) (by kernel_rfl) (by kernel_rfl)
    | 1, _ => exact CodeRel.view hyp0 (m := 100000) (l := FF1 1) (li := liL 5 ([q0, q1, q2, q3] ++ [EV 1])) (by kernel_rfl) (by kernel_rfl) (by kernel_rfl)
    | 2, _ => exact CodeRel.view hyp0 (m := 100000) (l := FF1 2) (li := liL 5 ([q0, q1, q2, q3] ++ [EV 2])) (by kernel_rfl) (by kernel_rfl) (by kernel_rfl)
    | 3, _ => exact CodeRel.view hyp0 (m := 100000) (l := FF1 3) (li := liL 5 ([q0, q1, q2, q3] ++ [EV 3])) (by kernel_rfl) (by kernel_rfl) (by kernel_rfl)
    | 4, _ => exact CodeRel.view hyp0 (m := 100000) (l := FF1 4) (li := liL 5 ([q0, q1, q2, q3] ++ [EV 4])) (by kernel_rfl) (by kernel_rfl) (by kernel_rfl)
    | 5, _ => exact CodeRel.view hyp0 (m := 100000) (l := FF1 5) (li := liL 5 ([q0, q1, q2, q3] ++ [EV 5])) (by kernel_rfl) (by kernel_rfl) (by kernel_rfl)
    | 6, _ => exact CodeRel.view hyp0 (m := 100000) (l := FF1 6) (li := liL 5 ([q0, q1, q2, q3] ++ [EV 6])) (by kernel_rfl) (by kernel_rfl) (by kernel_rfl)
    | 7, _ => exact CodeRel.view hyp0 (m := 100000) (l := FF1 7) (li := liL 5 ([q0, q1, q2, q3] ++ [EV 7])) (by kernel_rfl) (by kernel_rfl) (by kernel_rfl)
    | 8, _ => exact CodeRel.view hyp0 (m := 100000) (l := FF1 8) (li := liL 5 ([q0, q1, q2, q3] ++ [EV 8])) (by kernel_rfl) (by kernel_rfl) (by kernel_rfl)
    | 9, _ => exact CodeRel.view hyp0 (m := 100000) (l := FF1 9) (li := liL 5 ([q0, q1, q2, q3] ++ [EV 9])) (by kernel_rfl) (by kernel_rfl) (by kernel_rfl)
    | 10, _ => exact CodeRel.view hyp0 (m := 100000) (l := FF1 10) (li := liL 5 ([q0, q1, q2, q3] ++ [EV 10])) (by kernel_rfl) (by kernel_rfl) (by kernel_rfl)
    | 11, _ => exact CodeRel.view hyp0 (m := 100000) (l := FF1 11) (li := liL 5 ([q0, q1, q2, q3] ++ [EV 11])) (by kernel_rfl) (by kernel_rfl) (by kernel_rfl)
theorem round5 : RoundOk 5 := by
  intro l hl i hi y57 y58 y59 y60 y61 y62
  match l, hl with
  | [q0, q1, q2, q3, q4], _ =>
    match i, hi with
    | 0, _ => exact CodeRel.view hyp0 (m := 100000) (l := FF1 0) (li := liL 6 ([q0, q1, q2, q3, q4] ++ [EV 0])) (by kernel_rfl) (by kernel_rfl) (by kernel_rfl)
    | 1, _ => exact CodeRel.view hyp0 (m := 100000) (l := FF1 1) (li := liL 6 ([q0, q1, q2, q3, q4] ++ [EV 1])) (by kernel_rfl) (by kernel_rfl) (by kernel_rfl)
    | 2, _ => exact CodeRel.view hyp0 (m := 100000) (l := FF1 2) (li := liL 6 ([q0, q1, q2, q3, q4] ++ [EV 2])) (by kernel_rfl) (by kernel_rfl) (by kernel_rfl)
    | 3, _ => exact CodeRel.view hyp0 (m := 100000) (l := FF1 3) (li := liL 6 ([q0, q1, q2, q3, q4] ++ [EV 3])) (by kernel_rfl) (by kernel_rfl) (by kernel_rfl)
    | 4, _ => exact CodeRel.view hyp0 (m := 100000) (l := FF1 4) (li := liL 6 ([q0, q1, q2, q3, q4] ++ [EV 4])) (by kernel_rfl) (by kernel_rfl) (by kernel_rfl)
    | 5, _ => exact CodeRel.view hyp0 (m := 100000) (l := FF1 5) (li := liL 6 ([q0, q1, q2, q3, q4] ++ [EV 5])) (by kernel_rfl) (by kernel_rfl) (by kernel_rfl)
    | 6, _ => exact CodeRel.view hyp0 (m := 100000) (l := FF1 6) (li := liL 6 ([q0, q1, q2, q3, q4] ++ [EV 6])) (by kernel_rfl) (by kernel_rfl) (by kernel_rfl)
    | 7, _ => exact CodeRel.view hyp0 (m := 100000) (l := FF1 7) (li := liL 6 ([q0, q1, q2, q3, q4] ++ [EV 7])) (by kernel_rfl) (by kernel_rfl) (by kernel_rfl)
    | 8, _ => exact CodeRel.view hyp0 (m := 100000) (l := FF1 8) (li := liL 6 ([q0, q1, q2, q3, q4] ++ [EV 8])) (by kernel_rfl) (by kernel_rfl) (by kernel_rfl)
    | 9, _ => exact CodeRel.view hyp0 (m := 100000) (l := FF1 9) (li := liL 6 ([q0, q1, q2, q3, q4] ++ [EV 9])) (by kernel_rfl) (by kernel_rfl) (by kernel_rfl)
    | 10, _ => exact CodeRel.view hyp0 (m := 100000) (l := FF1 10) (li := liL 6 ([q0, q1, q2, q3, q4] ++ [EV 10])) (by kernel_rfl) (by kernel_rfl) (by kernel_rfl)
    | 11, _ => exact CodeRel.view hyp0 (m := 100000) (l := FF1 11) (li := liL 6 ([q0, q1, q2, q3, q4] ++ [EV 11])) (by kernel_rfl) (by kernel_rfl) (by kernel_rfl)
theorem round6 : RoundOk 6 := by
  intro l hl i hi y57 y58 y59 y60 y61 y62
  match l, hl with
  | [q0, q1, q2, q3, q4, q5], _ =>
    match i, hi with
    | 0, _ => exact CodeRel.view hyp0 (m := 100000) (l := FF1 0) (li := liL 7 ([q0, q1, q2, q3, q4, q5] ++ [EV 0])) (by kernel_rfl) (by kernel_rfl) (by kernel_rfl)
    | 1, _ => exact CodeRel.view hyp0 (m := 100000) (l := FF1 1) (li := liL 7 ([q0, q1, q2, q3, q4, q5] ++ [EV 1])) (by kernel_rfl) (by kernel_rfl) (by kernel_rfl)
    | 2, _ => exact CodeRel.view hyp0 (m := 100000) (l := FF1 2) (li := liL 7 ([q0, q1, q2, q3, q4, q5] ++ [EV 2])) (by kernel_rfl) (by kernel_rfl) (by kernel_rfl)
    | 3, _ => exact CodeRel.view hyp0 (m := 100000) (l := FF1 3) (li := liL 7 ([q0, q1, q2, q3, q4, q5] ++ [EV 3])) (by kernel_rfl) (by kernel_rfl) (by kernel_rfl)
    | 4, _ => exact CodeRel.view hyp0 (m := 100000) (l := FF1 4) (li := liL 7 ([q0, q1, q2, q3, q4, q5] ++ [EV 4])) (by kernel_rfl) (by kernel_rfl) (by kernel_rfl)
    | 5, _ => exact CodeRel.view hyp0 (m := 100000) (l := FF1 5) (li := liL 7 ([q0, q1, q2, q3, q4, q5] ++ [EV 5])) (by kernel_rfl) (by kernel_rfl) (by kernel_rfl)
    | 6, _ => exact CodeRel.view hyp0 (m := 100000) (l := FF1 6) (li := liL 7 ([q0, q1, q2, q3, q4, q5] ++ [EV 6])) (by kernel_rfl) (by kernel_rfl) (by kernel_rfl)
    | 7, _ => exact CodeRel.view hyp0 (m := 100000) (l := FF1 7) (li := liL 7 ([q0, q1, q2, q3, q4, q5] ++ [EV 7])) (by kernel_rfl) (by kernel_rfl) (by kernel_rfl)
    | 8, _ => exact CodeRel.view hyp0 (m := 100000) (l := FF1 8) (li := liL 7 ([q0, q1, q2, q3, q4, q5] ++ [EV 8])) (by kernel_rfl) (by kernel_rfl) (by kernel_rfl)
    | 9, _ => exact CodeRel.view hyp0 (m := 100000) (l := FF1 9) (li := liL 7 ([q0, q1, q2, q3, q4, q5] ++ [EV 9])) (by kernel_rfl) (by kernel_rfl) (by kernel_rfl)
    | 10, _ => exact CodeRel.view hyp0 (m := 100000) (l := FF1 10) (li := liL 7 ([q0, q1, q2, q3, q4, q5] ++ [EV 10])) (by kernel_rfl) (by kernel_rfl) (by kernel_rfl)
    | 11, _ => exact CodeRel.view hyp0 (m := 100000) (l := FF1 11) (li := liL 7 ([q0, q1, q2, q3, q4, q5] ++ [EV 11])) (by kernel_rfl) (by kernel_rfl) (by kernel_rfl)
theorem round7 : RoundOk 7 := by
  intro l hl i hi y57 y58 y59 y60 y61 y62
  match l, hl with
  | [q0, q1, q2, q3, q4, q5, q6], _ =>
    match i, hi with
    | 0, _ => exact CodeRel.view hyp0 (m := 100000) (l := FF1 0) (li := liL 8 ([q0, q1, q2, q3, q4, q5, q6] ++ [EV 0])) (by kernel_rfl) (by kernel_rfl) (by kernel_rfl)
    | 1, _ => exact CodeRel.view hyp0 (m := 100000) (l := FF1 1) (li := liL 8 ([q0, q1, q2, q3, q4, q5, q6] ++ [EV 1])) (by kernel_rfl) (by kernel_rfl) (by kernel_rfl)
    | 2, _ => exact CodeRel.view hyp0 (m := 100000) (l := FF1 2) (li := liL 8 ([q0, q1, q2, q3, q4, q5, q6] ++ [EV 2])) (by kernel_rfl) (by kernel_rfl) (by kernel_rfl)
    | 3, _ => exact CodeRel.view hyp0 (m := 100000) (l := FF1 3) (li := liL 8 ([q0, q1, q2, q3, q4, q5, q6] ++ [EV 3])) (by kernel_rfl) (by kernel_rfl) (by kernel_rfl)
    | 4, _ => exact CodeRel.view hyp0 (m := 100000) (l := FF1 4) (li := liL 8 ([q0, q1, q2, q3, q4, q5, q6] ++ [EV 4])) (by kernel_rfl) (by kernel_rfl) (by kernel_rfl)
    | 5, _ => exact CodeRel.view hyp0 (m := 100000) (l := FF1 5) (li := liL 8 ([q0, q1, q2, q3, q4, q5, q6] ++ [EV 5])) (by kernel_rfl) (by kernel_rfl) (by kernel_rfl)
    | 6, _ => exact CodeRel.view hyp0 (m := 100000) (l := FF1 6) (li := liL 8 ([q0, q1, q2, q3, q4, q5, q6] ++ [EV 6])) (by kernel_rfl) (by kernel_rfl) (by kernel_rfl)
    | 7, _ => exact CodeRel.view hyp0 (m := 100000) (l := FF1 7) (li := liL 8 ([q0, q1, q2, q3, q4, q5, q6] ++ [EV 7])) (by kernel_rfl) (by kernel_rfl) (by kernel_rfl)
    | 8, _ => exact CodeRel.view hyp0 (m := 100000) (l := FF1 8) (li := liL 8 ([q0, q1, q2, q3, q4, q5, q6] ++ [EV 8])) (by kernel_rfl) (by kernel_rfl) (by kernel_rfl)
    | 9, _ => exact CodeRel.view hyp0 (m := 100000) (l := FF1 9) (li := liL 8 ([q0, q1, q2, q3, q4, q5, q6] ++ [EV 9])) (by kernel_rfl) (by kernel_rfl) (by kernel_rfl)
    | 10, _ => exact CodeRel.view hyp0 (m := 100000) (l := FF1 10) (li := liL 8 ([q0, q1, q2, q3, q4, q5, q6] ++ [EV 10])) (by kernel_rfl) (by kernel_rfl) (by kernel_rfl)
    | 11, _ => exact CodeRel.view hyp0 (m := 100000) (l := FF1 11) (li := liL 8 ([q0, q1, q2, q3, q4, q5, q6] ++ [EV 11])) (by kernel_rfl) (by kernel_rfl) (by kernel_rfl)
theorem round8 : RoundOk 8 := by
  intro l hl i hi y57 y58 y59 y60 y61 y62
  match l, hl with
  | [q0, q1, q2, q3, q4, q5, q6, q7], _ =>
    match i, hi with
    | 0, _ => exact CodeRel.view hyp0 (m := 100000) (l := FF1 0) (li := liL 9 ([q0, q1, q2, q3, q4, q5, q6, q7] ++ [EV 0])) (by kernel_rfl) (by kernel_rfl) (by kernel_rfl)
    | 1, _ => exact CodeRel.view hyp0 (m := 100000) (l := FF1 1) (li := liL 9 ([q0, q1, q2, q3, q4, q5, q6, q7] ++ [EV 1])) (by kernel_rfl) (by kernel_rfl) (by kernel_rfl)
    | 2, _ => exact CodeRel.view hyp0 (m := 100000) (l := FF1 2) (li := liL 9 ([q0, q1, q2, q3, q4, q5, q6, q7] ++ [EV 2])) (by kernel_rfl) (by kernel_rfl) (by kernel_rfl)
    | 3, _ => exact CodeRel.view hyp0 (m := 100000) (l := FF1 3) (li := liL 9 ([q0, q1, q2, q3, q4, q5, q6, q7] ++ [EV 3])) (by kernel_rfl) (by kernel_rfl) (by kernel_rfl)
    | 4, _ => exact CodeRel.view hyp0 (m := 100000) (l := FF1 4) (li := liL 9 ([q0, q1, q2, q3, q4, q5, q6, q7] ++ [EV 4])) (by kernel_rfl) (by kernel_rfl) (by kernel_rfl)
    | 5, _ => exact CodeRel.view hyp0 (m := 100000) (l := FF1 5) (li := liL 9 ([q0, q1, q2, q3, q4, q5, q6, q7] ++ [EV 5])) (by kernel_rfl) (by kernel_rfl) (by kernel_rfl)
    | 6, _ => exact CodeRel.view hyp0 (m := 100000) (l := FF1 6) (li := liL 9 ([q0, q1, q2, q3, q4, q5, q6, q7] ++ [EV 6])) (by kernel_rfl) (by kernel_rfl) (by kernel_rfl)
    | 7, _ => exact CodeRel.view hyp0 (m := 100000) (l := FF1 7) (li := liL 9 ([q0, q1, q2, q3, q4, q5, q6, q7] ++ [EV 7])) (by kernel_rfl) (by kernel_rfl) (by kernel_rfl)
    | 8, _ => exact CodeRel.view hyp0 (m := 100000) (l := FF1 8) (li := liL 9 ([q0, q1, q2, q3, q4, q5, q6, q7] ++ [EV 8])) (by kernel_rfl) (by kernel_rfl) (by kernel_rfl)
    | 9, _ => exact CodeRel.view hyp0 (m := 100000) (l := FF1 9) (li := liL 9 ([q0, q1, q2, q3, q4, q5, q6, q7] ++ [EV 9])) (by kernel_rfl) (by kernel_rfl) (by kernel_rfl)
    | 10, _ => exact CodeRel.view hyp0 (m := 100000) (l := FF1 10) (li := liL 9 ([q0, q1, q2, q3, q4, q5, q6, q7] ++ [EV 10])) (by kernel_rfl) (by kernel_rfl) (by kernel_rfl)
    | 11, _ => exact CodeRel.view hyp0 (m := 100000) (l := FF1 11) (li := liL 9 ([q0, q1, q2, q3, q4, q5, q6, q7] ++ [EV 11])) (by kernel_rfl) (by kernel_rfl) (by kernel_rfl)
theorem round9 : RoundOk 9 := by
  intro l hl i hi y57 y58 y59 y60 y61 y62
  match l, hl with
  | [q0, q1, q2, q3, q4, q5, q6, q7, q8], _ =>
    match i, hi with
    | 0, _ => exact CodeRel.view hyp0 (m := 100000) (l := FF1 0) (li := liL 10 ([q0, q1, q2, q3, q4, q5, q6, q7, q8] ++ [EV 0])) (by kernel_rfl) (by kernel_rfl) (by kernel_rfl)
    | 1, _ => exact CodeRel.view hyp0 (m := 100000) (l := FF1 1) (li := liL 10 ([q0, q1, q2, q3, q4, q5, q6, q7, q8] ++ [EV 1])) (by kernel_rfl) (by kernel_rfl) (by kernel_rfl)
    | 2, _ => exact CodeRel.view hyp0 (m := 100000) (l := FF1 2) (li := liL 10 ([q0, q1, q2, q3, q4, q5, q6, q7, q8] ++ [EV 2])) (by kernel_rfl) (by kernel_rfl) (by kernel_rfl)
    | 3, _ => exact CodeRel.view hyp0 (m := 100000) (l := FF1 3) (li := liL 10 ([q0, q1, q2, q3, q4, q5, q6, q7, q8] ++ [EV 3])) (by kernel_rfl) (by kernel_rfl) (by kernel_rfl)
    | 4, _ => exact CodeRel.view hyp0 (m := 100000) (l := FF1 4) (li := liL 10 ([q0, q1, q2, q3, q4, q5, q6, q7, q8] ++ [EV 4])) (by kernel_rfl) (by kernel_rfl) (by kernel_rfl)
    | 5, _ => exact CodeRel.view hyp0 (m := 100000) (l := FF1 5) (li := liL 10 ([q0, q1, q2, q3, q4, q5, q6, q7, q8] ++ [EV 5])) (by kernel_rfl) (by kernel_rfl) (by kernel_rfl)
    | 6, _ => exact CodeRel.view hyp0 (m := 100000) (l := FF1 6) (li := liL 10 ([q0, q1, q2, q3, q4, q5, q6, q7, q8] ++ [EV 6])) (by kernel_rfl) (by kernel_rfl) (by kernel_rfl)
    | 7, _ => exact CodeRel.view hyp0 (m := 100000) (l := FF1 7) (li := liL 10 ([q0, q1, q2, q3, q4, q5, q6, q7, q8] ++ [EV 7])) (by kernel_rfl) (by kernel_rfl) (by kernel_rfl)
    | 8, _ => exact CodeRel.view hyp0 (m := 100000) (l := FF1 8) (li := liL 10 ([q0, q1, q2, q3, q4, q5, q6, q7, q8] ++ [EV 8])) (by kernel_rfl) (by kernel_rfl) (by kernel_rfl)
    | 9, _ => exact CodeRel.view hyp0 (m := 100000) (l := FF1 9) (li := liL 10 ([q0, q1, q2, q3, q4, q5, q6, q7, q8] ++ [EV 9])) (by kernel_rfl) (by kernel_rfl) (by kernel_rfl)
    | 10, _ => exact CodeRel.view hyp0 (m := 100000) (l := FF1 10) (li := liL 10 ([q0, q1, q2, q3, q4, q5, q6, q7, q8] ++ [EV 10])) (by kernel_rfl) (by kernel_rfl) (by kernel_rfl)
    | 11, _ => exact CodeRel.view hyp0 (m := 100000) (l := FF1 11) (li := liL 10 ([q0, q1, q2, q3, q4, q5, q6, q7, q8] ++ [EV 11])) (by kernel_rfl) (by kernel_rfl) (by kernel_rfl)
theorem round10 : RoundOk 10 := by
  intro l hl i hi y57 y58 y59 y60 y61 y62
  match l, hl with
  | [q0, q1, q2, q3, q4, q5, q6, q7, q8, q9], _ =>
    match i, hi with
    | 0, _ => exact CodeRel.view hyp0 (m := 100000) (l := FF1 0) (li := liL 11 ([q0, q1, q2, q3, q4, q5, q6, q7, q8, q9] ++ [EV 0])) (by kernel_rfl) (by kernel_rfl) (by kernel_rfl)
    | 1, _ => exact CodeRel.view hyp0 (m := 100000) (l := FF1 1) (li := liL 11 ([q0, q1, q2, q3, q4, q5, q6, q7, q8, q9] ++ [EV 1])) (by kernel_rfl) (by kernel_rfl) (by kernel_rfl)
    | 2, _ => exact CodeRel.view hyp0 (m := 100000) (l := FF1 2) (li := liL 11 ([q0, q1, q2, q3, q4, q5, q6, q7, q8, q9] ++ [EV 2])) (by kernel_rfl) (by kernel_rfl) (by kernel_rfl)
    | 3, _ => exact CodeRel.view hyp0 (m := 100000) (l := FF1 3) (li := liL 11 ([q0, q1, q2, q3, q4, q5, q6, q7, q8, q9] ++ [EV 3])) (by kernel_rfl) (by kernel_rfl) (by kernel_rfl)
    | 4, _ => exact CodeRel.view hyp0 (m := 100000) (l := FF1 4) (li := liL 11 ([q0, q1, q2, q3, q4, q5, q6, q7, q8, q9] ++ [EV 4])) (by kernel_rfl) (by kernel_rfl) (by kernel_rfl)
    | 5, _ => exact CodeRel.view hyp0 (m := 100000) (l := FF1 5) (li := liL 11 ([q0, q1, q2, q3, q4, q5, q6, q7, q8, q9] ++ [EV 5])) (by kernel_rfl) (by kernel_rfl) (by kernel_rfl)
    | 6, _ => exact CodeRel.view hyp0 (m := 100000) (l := FF1 6) (li := liL 11 ([q0, q1, q2, q3, q4, q5, q6, q7, q8, q9] ++ [EV 6])) (by kernel_rfl) (by kernel_rfl) (by kernel_rfl)
    | 7, _ => exact CodeRel.view hyp0 (m := 100000) (l := FF1 7) (li := liL 11 ([q0, q1, q2, q3, q4, q5, q6, q7, q8, q9] ++ [EV 7])) (by kernel_rfl) (by kernel_rfl) (by kernel_rfl)
    | 8, _ => exact CodeRel.view hyp0 (m := 100000) (l := FF1 8) (li := liL 11 ([q0, q1, q2, q3, q4, q5, q6, q7, q8, q9] ++ [EV 8])) (by kernel_rfl) (by kernel_rfl) (by kernel_rfl)
    | 9, _ => exact CodeRel.view hyp0 (m := 100000) (l := FF1 9) (li := liL 11 ([q0, q1, q2, q3, q4, q5, q6, q7, q8, q9] ++ [EV 9])) (by kernel_rfl) (by kernel_rfl) (by kernel_rfl)
    | 10, _ => exact CodeRel.view hyp0 (m := 100000) (l := FF1 10) (li := liL 11 ([q0, q1, q2, q3, q4, q5, q6, q7, q8, q9] ++ [EV 10])) (by kernel_rfl) (by kernel_rfl) (by kernel_rfl)
    | 11, _ => exact CodeRel.view hyp0 (m := 100000) (l := FF1 11) (li := liL 11 ([q0, q1, q2, q3, q4, q5, q6, q7, q8, q9] ++ [EV 11])) (by kernel_rfl) (by kernel_rfl) (by kernel_rfl)
theorem round11 : RoundOk 11 := by
  intro l hl i hi y57 y58 y59 y60 y61 y62
  match l, hl with
  | [q0, q1, q2, q3, q4, q5, q6, q7, q8, q9, q10], _ =>
    match i, hi with
    | 0, _ => exact CodeRel.view hyp0 (m := 100000) (l := FF1 0) (li := liL 12 ([q0, q1, q2, q3, q4, q5, q6, q7, q8, q9, q10] ++ [EV 0])) (by kernel_rfl) (by kernel_rfl) (by kernel_rfl)
    | 1, _ => exact CodeRel.view hyp0 (m := 100000) (l := FF1 1) (li := liL 12 ([q0, q1, q2, q3, q4, q5, q6, q7, q8, q9, q10] ++ [EV 1])) (by kernel_rfl) (by kernel_rfl) (by kernel_rfl)
    | 2, _ => exact CodeRel.view hyp0 (m := 100000) (l := FF1 2) (li := liL 12 ([q0, q1, q2, q3, q4, q5, q6, q7, q8, q9, q10] ++ [EV 2])) (by kernel_rfl) (by kernel_rfl) (by kernel_rfl)
    | 3, _ => exact CodeRel.view hyp0 (m := 100000) (l := FF1 3) (li := liL 12 ([q0, q1, q2, q3, q4, q5, q6, q7, q8, q9, q10] ++ [EV 3])) (by kernel_rfl) (by kernel_rfl) (by kernel_rfl)
    | 4, _ => exact CodeRel.view hyp0 (m := 100000) (l := FF1 4) (li := liL 12 ([q0, q1, q2, q3, q4, q5, q6, q7, q8, q9, q10] ++ [EV 4])) (by kernel_rfl) (by kernel_rfl) (by kernel_rfl)
    | 5, _ => exact CodeRel.view hyp0 (m := 100000) (l := FF1 5) (li := liL 12 ([q0, q1, q2, q3, q4, q5, q6, q7, q8, q9, q10] ++ [EV 5])) (by kernel_rfl) (by kernel_rfl) (by kernel_rfl)
    | 6, _ => exact CodeRel.view hyp0 (m := 100000) (l := FF1 6) (li := liL 12 ([q0, q1, q2, q3, q4, q5, q6, q7, q8, q9, q10] ++ [EV 6])) (by kernel_rfl) (by kernel_rfl) (by kernel_rfl)
    | 7, _ => exact CodeRel.view hyp0 (m := 100000) (l := FF1 7) (li := liL 12 ([q0, q1, q2, q3, q4, q5, q6, q7, q8, q9, q10] ++ [EV 7])) (by kernel_rfl) (by kernel_rfl) (by kernel_rfl)
    | 8, _ => exact CodeRel.view hyp0 (m := 100000) (l := FF1 8) (li := liL 12 ([q0, q1, q2, q3, q4, q5, q6, q7, q8, q9, q10] ++ [EV 8])) (by kernel_rfl) (by kernel_rfl) (by kernel_rfl)
    | 9, _ => exact CodeRel.view hyp0 (m := 100000) (l := FF1 9) (li := liL 12 ([q0, q1, q2, q3, q4, q5, q6, q7, q8, q9, q10] ++ [EV 9])) (by kernel_rfl) (by kernel_rfl) (by kernel_rfl)
    | 10, _ => exact CodeRel.view hyp0 (m := 100000) (l := FF1 10) (li := liL 12 ([q0, q1, q2, q3, q4, q5, q6, q7, q8, q9, q10] ++ [EV 10])) (by kernel_rfl) (by kernel_rfl) (by kernel_rfl)
    | 11, _ => exact CodeRel.view hyp0 (m := 100000) (l := FF1 11) (li := liL 12 ([q0, q1, q2, q3, q4, q5, q6, q7, q8, q9, q10] ++ [EV 11])) (by kernel_rfl) (by kernel_rfl) (by kernel_rfl)
end Go.Proofs.YtpcbccpobhdokaaGreatDoor
namespace Go.Proofs.YtpcbccpobhdokaaGreatDoor
open Go.RowKit
open Go.Proofs.YtpcbccpobhdokaaGreatDoor.Eng
theorem nodup_len : ∀ (n : Nat) (l : List Nat), l.Nodup → (∀ i ∈ l, i < n) → l.length ≤ n
  | 0, [], _, _ => Nat.le_refl _
  | 0, i :: l, _, h => absurd (h i (by simp)) (by omega)
  | n + 1, l, hn, h => by
    have h1 := nodup_len n (l.erase n) (hn.erase n) (fun i hi => by
      have := hn.mem_erase_iff.1 hi
      have := h i this.2
      omega)
    rw [List.length_erase] at h1
    split at h1 <;> omega
theorem sub_len : ∀ (a l : List Nat), a.Nodup → (∀ i ∈ a, i ∈ l) → a.length ≤ l.length
  | [], _, _, _ => Nat.zero_le _
  | x :: a, l, hn, h => by
    rw [List.nodup_cons] at hn
    have hx := h x (by simp)
    have h1 := sub_len a (l.erase x) hn.2 (fun i hi => (List.mem_erase_of_ne (by rintro rfl; exact hn.1 hi)).2 (h i (by simp [hi])))
    rw [List.length_erase, if_pos (by simpa using hx)] at h1
    have : 0 < l.length := List.length_pos_of_mem hx
    simp only [List.length_cons]; omega
theorem rounds : ∀ k, k < 12 → RoundOk k
  | 0, _ => round0
  | 1, _ => round1
  | 2, _ => round2
  | 3, _ => round3
  | 4, _ => round4
  | 5, _ => round5
  | 6, _ => round6
  | 7, _ => round7
  | 8, _ => round8
  | 9, _ => round9
  | 10, _ => round10
  | 11, _ => round11
structure Out (l : List Nat) : Prop where
  lt : ∀ i ∈ l, i < 12
  nd : l.Nodup
theorem Out.len {l : List Nat} (h : Out l) : l.length ≤ 12 := nodup_len 12 l h.nd h.lt
theorem Out.more {l : List Nat} (h : Out l) {i : Nat} (hi : i < 12) (hn : i ∉ l) : Out (l ++ [i]) :=
  ⟨fun j hj => by rcases List.mem_append.1 hj with h1 | h1; exact h.lt j h1; simp at h1; omega, by
    rw [List.nodup_append]
    exact ⟨h.nd, by simp, fun a ha b hb e => by simp at hb; subst hb; subst e; exact hn ha⟩⟩
theorem es_get : ∀ e ∈ ES.toList, ∃ i, i < 12 ∧ e = { key := KV i, val := (EV i).1, born := i } := by
  intro e he
  simp only [ES, List.mem_cons, List.not_mem_nil, or_false] at he
  rcases he with rfl | rfl | rfl | rfl | rfl | rfl | rfl | rfl | rfl | rfl | rfl | rfl
  · exact ⟨0, by decide, rfl⟩
  · exact ⟨1, by decide, rfl⟩
  · exact ⟨2, by decide, rfl⟩
  · exact ⟨3, by decide, rfl⟩
  · exact ⟨4, by decide, rfl⟩
  · exact ⟨5, by decide, rfl⟩
  · exact ⟨6, by decide, rfl⟩
  · exact ⟨7, by decide, rfl⟩
  · exact ⟨8, by decide, rfl⟩
  · exact ⟨9, by decide, rfl⟩
  · exact ⟨10, by decide, rfl⟩
  · exact ⟨11, by decide, rfl⟩
theorem es_all : ∀ i, i < 12 → ({ key := KV i, val := (EV i).1, born := i } : MapEntry) ∈ ES.toList
  | 0, _ => by simp [ES, KV, EV]
  | 1, _ => by simp [ES, KV, EV]
  | 2, _ => by simp [ES, KV, EV]
  | 3, _ => by simp [ES, KV, EV]
  | 4, _ => by simp [ES, KV, EV]
  | 5, _ => by simp [ES, KV, EV]
  | 6, _ => by simp [ES, KV, EV]
  | 7, _ => by simp [ES, KV, EV]
  | 8, _ => by simp [ES, KV, EV]
  | 9, _ => by simp [ES, KV, EV]
  | 10, _ => by simp [ES, KV, EV]
  | 11, _ => by simp [ES, KV, EV]
def Inv (seen : Array Nat) (fr : Fr) (H : AH) : Prop := ∃ l : List Nat, seen = ⟨l⟩ ∧ Out l ∧ (∃ y10 y11 y52 y53 y54 y55 y56 y57 y58 y59 y60 y61 y62, fr = frOf (FB y10 y11 y52 y53 y54 y55 y56 y57 y58 y59 y60 y61 y62)) ∧ H = HL l.length (l.map EV)
def F1 : List Value := FB undef undef undef undef undef undef undef undef undef undef undef undef undef
def F0 : List Value := (F1.set 50 undef).set 51 undef
noncomputable def H1 : AH := mkH 3924 (liL 0 [])
def Behind (e : Ex) (f : Fr) (g : AH) : Prop := e = .normal ∧ ∃ l : List Nat, Out l ∧ l.length = 12 ∧ (∃ y10 y11 y52 y53 y54 y55 y56 y57 y58 y59 y60 y61 y62, f = frOf (FB y10 y11 y52 y53 y54 y55 y56 y57 y58 y59 y60 y61 y62)) ∧ g = HL 12 (l.map EV)
set_option maxRecDepth 100000 in
theorem entB : CodeRel Tryz.prog 6 (.seq (.region 11 o11 false) (.block 2 (.loop (headX 2 3 12 13 53 o12 o13 r14)))) (frOf F0) H1 Behind := by
  have hnx : H1.next = 3924 := by kernel_rfl
  refine map_range (P := Tryz.prog) (nG := 6) (tm := 50) (ti := 51) (tc := 53) (t := 161) (f := 89) (oC := opAt o11 0) (oR := opAt o11 1) (oN := opAt o12 0) (oX := opAt o12 1) (oE := opAt o13 0) (l13 := [opAt o13 1, opAt o13 2, opAt o13 3, opAt o13 4]) (c := ⟨.value (.func 89), #[], #[]⟩) (clock := 12) (ES := ES) (Inv := Inv)
    (by kernel_rfl) (by kernel_rfl) rfl rfl (by kernel_rfl) (by kernel_rfl) (by kernel_rfl) (by kernel_rfl) (by kernel_rfl) Tryz.func89 (b := bodyOf Tryz.f89) (by kernel_rfl) (by kernel_rfl) counted_ex und161 (by omega) (by kernel_rfl) (by kernel_rfl) (by kernel_rfl) (by kernel_rfl) (by kernel_rfl) (by kernel_rfl) ?_ ?_ ?_ ?_ ?_ ?_ ?_
  · intro x hx
    obtain ⟨i, hi, rfl⟩ := es_get x hx
    exact hi
  · show ([0, 1, 2, 3, 4, 5, 6, 7, 8, 9, 10, 11] : List Nat).Nodup
    decide
  · intro e he J
    simp only [ES, List.mem_cons, List.not_mem_nil, or_false] at he
    rcases he with rfl | rfl | rfl | rfl | rfl | rfl | rfl | rfl | rfl | rfl | rfl | rfl <;> exact ⟨.int _ _, .string _⟩
  · refine ⟨[], rfl, ⟨by simp, by simp⟩, ⟨undef, undef, undef, undef, undef, undef, undef, undef, undef, undef, undef, undef, undef, ?_⟩, ?_⟩
    · kernel_rfl
    · kernel_rfl
  · rintro seen fr' H' ⟨l, rfl, ho, ⟨y10, y11, y52, y53, y54, y55, y56, y57, y58, y59, y60, y61, y62, rfl⟩, rfl⟩
    rw [hnx]
    kernel_rfl
  · rintro seen fr' H' ⟨l, rfl, ho, ⟨y10, y11, y52, y53, y54, y55, y56, y57, y58, y59, y60, y61, y62, rfl⟩, rfl⟩ h0
    have hall := all_seen ES ⟨l⟩ h0
    have hmem : ∀ i, i < 12 → i ∈ l := fun i hi => by
      have := hall _ (es_all i hi)
      simpa using this
    have hlen : l.length = 12 := by
      have h1 := ho.len
      have h2 := sub_len [0, 1, 2, 3, 4, 5, 6, 7, 8, 9, 10, 11] l (by decide) (fun i hi => hmem i (by simp at hi; omega))
      simp at h2; omega
    refine ⟨putD (opAt o12 1).dst (.bool false) (putD (opAt o12 0).dst (.tuple ⟨[.bool false]⟩) (frOf (FB y10 y11 y52 y53 y54 y55 y56 y57 y58 y59 y60 y61 y62))), .step _ _ _ _ (.bool false) _ _ _ (by kernel_rfl) ?_ (.nil _ _), by kernel_rfl, rfl, l, ho, hlen, ⟨y10, y11, .tuple ⟨[.bool false]⟩, .bool false, y54, y55, y56, y57, y58, y59, y60, y61, y62, by kernel_rfl⟩, by rw [hlen]⟩
    rw [show (opAt o12 1).op = .extract (.tmp 52) 0 by kernel_rfl]
    exact ⟨by kernel_rfl, rfl⟩
  · rintro seen fr' H' ⟨l, rfl, ho, ⟨y10, y11, y52, y53, y54, y55, y56, y57, y58, y59, y60, y61, y62, rfl⟩, rfl⟩ e he
    obtain ⟨h1, h2⟩ := mem_left he
    obtain ⟨i, hi, rfl⟩ := es_get e h1
    have hni : i ∉ l := by simpa using h2
    have hl : l.length < 12 := by
      have := (ho.more hi hni).len
      simp at this; omega
    rw [hnx]
    refine ⟨putD (opAt o12 1).dst (.bool true) (putD (opAt o12 0).dst (.tuple ⟨[.bool true, KV i, (EV i).1]⟩) (frOf (FB y10 y11 y52 y53 y54 y55 y56 y57 y58 y59 y60 y61 y62))), frOf (FE i y57 y58 y59 y60 y61 y62), .step _ _ _ _ (.bool true) (HL l.length (l.map EV)) _ _ (by kernel_rfl) ?_ (.nil _ _), by kernel_rfl, by kernel_rfl, ?_, ?_⟩
    · rw [show (opAt o12 1).op = .extract (.tmp 52) 0 by kernel_rfl]
      exact ⟨by kernel_rfl, rfl⟩
    · refine .step _ _ _ _ (KV i) (HL l.length (l.map EV)) _ _ (by kernel_rfl) ?_ (.step _ _ _ _ (EV i).1 (HL l.length (l.map EV)) _ _ (by kernel_rfl) ?_ (.step _ _ _ _ (KV i) (HL l.length (l.map EV)) _ _ (by kernel_rfl) ?_ (.step _ _ _ _ (EV i).1 (HL l.length (l.map EV)) _ _ (by kernel_rfl) ?_ ?_)))
      · rw [show (opAt o13 1).op = .extract (.tmp 54) 0 by kernel_rfl]; exact ⟨by kernel_rfl, rfl⟩
      · rw [show (opAt o13 2).op = .extract (.tmp 54) 1 by kernel_rfl]; exact ⟨by kernel_rfl, rfl⟩
      · rw [show (opAt o13 3).op = .assign (.tmp 55) by kernel_rfl]; exact ⟨by kernel_rfl, rfl⟩
      · rw [show (opAt o13 4).op = .assign (.tmp 56) by kernel_rfl]; exact ⟨by kernel_rfl, rfl⟩
      · have hf : putD (opAt o13 4).dst (EV i).1 (putD (opAt o13 3).dst (KV i) (putD (opAt o13 2).dst (EV i).1 (putD (opAt o13 1).dst (KV i) (putD (opAt o13 0).dst (.tuple ⟨[KV i, (EV i).1]⟩) (putD (opAt o12 1).dst (.bool true) (putD (opAt o12 0).dst (.tuple ⟨[.bool true, KV i, (EV i).1]⟩) (frOf (FB y10 y11 y52 y53 y54 y55 y56 y57 y58 y59 y60 y61 y62)))))))) = frOf (FE i y57 y58 y59 y60 y61 y62) := by kernel_rfl
        rw [← hf]
        exact .nil _ _
    · refine (rounds l.length hl (l.map EV) (by simp) i hi y57 y58 y59 y60 y61 y62).mono ?_
      rintro ex f g ⟨rfl, rfl, rfl⟩
      exact ⟨rfl, l ++ [i], by simp, ho.more hi hni, ⟨_, _, _, _, _, _, _, _, _, _, _, _, _, rfl⟩, by simp⟩
end Go.Proofs.YtpcbccpobhdokaaGreatDoor
namespace Go.Proofs.YtpcbccpobhdokaaGreatDoor
open Go.RowKit
open Go.Proofs.YtpcbccpobhdokaaGreatDoor.Eng
def A51 : List Value := [.pointer (some ⟨3901, 0, none⟩), .agg ⟨[.slice (some ⟨10, 0, none⟩) 3 3, .slice (some ⟨11, 0, none⟩) 2 2, .slice (some ⟨8, 0, none⟩) 1 1, .slice none 0 0, .slice none 0 0, .bool false, .int .i64 (.ofNat 200), .int .i64 (.ofNat 11), .slice (some ⟨10, 0, none⟩) 3 3, .slice (some ⟨11, 0, none⟩) 2 2, .slice none 0 0, .slice (some ⟨668, 0, none⟩) 1 12682136550675316737, .slice (some ⟨66, 0, none⟩) 3 9223372036854775811, .slice (some ⟨54, 0, none⟩) 3 3, .slice (some ⟨3052, 0, none⟩) 2 28823037615171174402, .slice (some ⟨3141, 15, none⟩) 0 3458764513820540928, .slice (some ⟨3531, 0, none⟩) 7 6917529027641081863]⟩]
def L51 : List (Nat × AO) := [(10, .cells [.int .i64 (.ofNat 100), .int .i64 (.ofNat 100), .int .i64 (.ofNat 100)] 3),
  (11, .cells [.int .i64 (.ofNat 0), .int .i64 (.ofNat 1), .int .i64 (.ofNat 10), .int .i64 (.ofNat 60), .int .i64 (.ofNat 4), .int .i64 (.ofNat 5), .int .i64 (.ofNat 0), .int .i64 (.ofNat 1), .int .i64 (.ofNat 2), .int .i64 (.ofNat 50), .int .i64 (.ofNat 100), .int .i64 (.ofNat 4), .int .i64 (.ofNat 5), .int .i64 (.ofNat 0)] 118),
  (8, .cells [.int .i64 (.ofNat 0), .int .i64 (.ofNat 0), .int .i64 (.ofNat 0), .int .i64 (.ofNat 0), .int .i64 (.ofNat 0), .int .i64 (.ofNat 1), .int .i64 (.ofNat 2), .int .i64 (.ofNat 200), .int .i64 (.ofNat 0), .int .i64 (.ofNat 0), .slice none 0 0, .string ⟨⟨[104, 105]⟩⟩] 107),
  (668, .cells [.int .i64 (.ofNat 1), .int .i64 (.ofNat 0), .int .i64 (.ofNat 2), .int .i64 (.ofNat 24), .int .i64 (.ofNat 0), .int .i64 (.ofNat 199), .int .i64 (.ofNat 0), .bool false, .slice (some ⟨662, 0, none⟩) 2 4611686018427387906, .int .i64 (.ofNat 1), .int .i64 (.ofNat 0)] 157),
  (662, .cells [.int .i64 (.ofNat 0), .int .i64 (.ofNat 10), .int .i64 (.ofNat 20), .int .i64 (.ofNat 25), .int .i64 (.ofNat 1), .int .i64 (.ofNat 50), .int .i64 (.ofNat 60), .int .i64 (.ofNat 65)] 211),
  (66, .cells [.int .i64 (.ofNat 0), .int .i64 (.ofNat 100), .bool true, .string ⟨⟨[76, 2, 0, 2, 0, 0, 0, 0, 0, 4, 131, 16, 0, 0, 48, 38, 6, 77, 66, 49, 0, 0, 0, 0, 0, 2, 4, 131, 16, 0, 0, 0, 4, 104, 105, 212, 203, 109, 147, 214, 41, 122, 157, 14, 4, 40, 0, 0, 0, 0, 0, 48, 5, 100, 61]⟩⟩, .int .i64 (.ofNat 55), .slice none 0 0, .slice none 0 0, .slice none 0 0, .int .i64 (.ofNat 1), .int .i64 (.ofNat 100), .bool true, .string ⟨⟨[76, 2, 50, 2, 0, 0, 0, 0, 0, 4, 131, 16, 0, 0, 48, 38, 6, 77, 66, 49, 0, 0, 0, 0, 0, 2, 4, 131, 16, 0, 0, 0, 4, 104, 105, 212, 203, 109, 147, 19, 253, 98, 34, 14, 4, 120, 0, 0, 0, 0, 0, 229, 110, 108, 243]⟩⟩, .int .i64 (.ofNat 55), .slice none 0 0, .slice none 0 0, .slice none 0 0, .int .i64 (.ofNat 2), .int .i64 (.ofNat 100), .bool true, .string ⟨⟨[78, 6, 129, 2, 2, 0, 0, 0, 0, 0, 4, 131, 16, 0, 0, 48, 38, 6, 77, 66, 49, 0, 0, 0, 0, 0, 2, 4, 131, 16, 0, 0, 0, 4, 104, 105, 212, 203, 109, 147, 32, 211, 105, 107]⟩⟩, .int .i64 (.ofNat 44), .slice none 0 0, .slice (some ⟨3525, 0, none⟩) 1 12682136550675316737, .slice none 0 0] 125),
  (3525, .cells [.int .i64 (.ofNat 1), .int .i64 (.ofNat 0), .int .i64 (.ofNat 0), .int .i64 (.ofNat 0), .int .i64 (.ofNat 0), .int .i64 (.ofNat 0), .int .i64 (.ofNat 2), .int .i64 (.ofNat 200), .int .i64 (.ofNat 0), .bool false, .string ⟨⟨[38, 6, 77, 66, 49, 0, 0, 0, 0, 0, 2, 4, 131, 16, 0, 0, 0, 4, 104, 105, 212, 203, 109, 147]⟩⟩] 165),
  (54, .cells [.int .i64 (.ofNat 0), .int .i64 (.ofNat 0), .int .i64 (.ofNat 0)] 3),
  (3052, .cells [.int .i64 (.ofNat 1), .int .i64 (.ofNat 0), .int .i64 (.ofNat 1), .int .i64 (.ofNat 0), .int .i64 (.ofNat 0), .int .i64 (.ofNat 0), .int .i64 (.ofNat 0), .int .i64 (.ofNat 0), .int .i64 (.ofNat 2), .int .i64 (.ofNat 200), .int .i64 (.ofNat 0), .bool false, .string ⟨⟨[38, 6, 77, 66, 49, 0, 0, 0, 0, 0, 2, 4, 131, 16, 0, 0, 0, 4, 104, 105, 212, 203, 109, 147]⟩⟩, .int .i64 (.ofNat 10), .bool true, .int .i64 (.ofNat 25), .bool true, .int .i64 (.ofNat 30), .int .i64 (.ofNat 20), .int .i64 (.ofNat 3), .int .i64 (.ofNat 0), .int .i64 (.ofNat 0), .int .i64 (.ofNat 0), .bool true, .bool true, .int .i64 (.ofNat 1), .int .i64 (.ofNat 1), .int .i64 (.ofNat 1), .int .i64 (.ofNat 0), .int .i64 (.ofNat 0), .int .i64 (.ofNat 0), .int .i64 (.ofNat 0), .int .i64 (.ofNat 0), .int .i64 (.ofNat 2), .int .i64 (.ofNat 200), .int .i64 (.ofNat 0), .bool false, .string ⟨⟨[38, 6, 77, 66, 49, 0, 0, 0, 0, 0, 2, 4, 131, 16, 0, 0, 0, 4, 104, 105, 212, 203, 109, 147]⟩⟩, .int .i64 (.ofNat 50), .bool true, .int .i64 (.ofNat 65), .bool true, .int .i64 (.ofNat 70), .int .i64 (.ofNat 60), .int .i64 (.ofNat 3), .int .i64 (.ofNat 0), .int .i64 (.ofNat 0), .int .i64 (.ofNat 0), .bool true, .bool true] 169),
  (3141, .cells [.int .i64 (.ofNat 60), .int .i64 (.ofNat 4), .int .i64 (.ofNat 1), .int .i64 (.ofNat 65), .int .i64 (.ofNat 2), .int .i64 (.ofNat 1), .int .i64 (.ofNat 70), .int .i64 (.ofNat 3), .int .i64 (.ofNat 1), .int .i64 (.ofNat 200), .int .i64 (.ofNat 5), .int .i64 (.ofNat 0), .int .i64 (.ofNat 200), .int .i64 (.ofNat 5), .int .i64 (.ofNat 1)] 97),
  (3531, .cells [.int .i64 (.ofNat 0), .int .i64 (.ofNat 1), .int .i64 (.ofNat 0), .int .i64 (.ofNat 1), .int .i64 (.negSucc 0), .int .i64 (.ofNat 65), .int .i64 (.ofNat 10), .int .i64 (.ofNat 5), .int .i64 (.ofNat 0), .int .i64 (.ofNat 1), .int .i64 (.ofNat 0), .int .i64 (.negSucc 0), .int .i64 (.ofNat 20), .int .i64 (.ofNat 12), .int .i64 (.ofNat 0), .int .i64 (.ofNat 1), .int .i64 (.negSucc 0), .int .i64 (.negSucc 0), .int .i64 (.ofNat 25), .int .i64 (.ofNat 6), .int .i64 (.ofNat 1), .int .i64 (.ofNat 1), .int .i64 (.ofNat 0), .int .i64 (.negSucc 0), .int .i64 (.ofNat 50), .int .i64 (.ofNat 5), .int .i64 (.ofNat 1), .int .i64 (.ofNat 1), .int .i64 (.ofNat 1), .int .i64 (.negSucc 0), .int .i64 (.ofNat 60), .int .i64 (.ofNat 12), .int .i64 (.ofNat 1), .int .i64 (.ofNat 1), .int .i64 (.negSucc 0), .int .i64 (.negSucc 0), .int .i64 (.ofNat 65), .int .i64 (.ofNat 7), .int .i64 (.ofNat 2), .int .i64 (.ofNat 1), .int .i64 (.ofNat 1), .int .i64 (.negSucc 0)] 152),
  (3900, .cells [.slice (some ⟨10, 0, none⟩) 3 3, .slice (some ⟨11, 0, none⟩) 2 2, .slice (some ⟨8, 0, none⟩) 1 1, .slice none 0 0, .slice none 0 0, .bool false, .int .i64 (.ofNat 200), .int .i64 (.ofNat 11), .slice (some ⟨10, 0, none⟩) 3 3, .slice (some ⟨11, 0, none⟩) 2 2, .slice none 0 0, .slice (some ⟨668, 0, none⟩) 1 12682136550675316737, .slice (some ⟨66, 0, none⟩) 3 9223372036854775811, .slice (some ⟨54, 0, none⟩) 3 3, .slice (some ⟨3052, 0, none⟩) 2 28823037615171174402, .slice (some ⟨3141, 15, none⟩) 0 3458764513820540928, .slice (some ⟨3531, 0, none⟩) 7 6917529027641081863] 61),
  (3901, .cells [.slice none 0 0] 111),
  (3902, .cells [.pointer (some ⟨3901, 0, none⟩)] 109)]
noncomputable def H51 : AH := mkH 3903 L51
def fp1 : List Value := [.pointer (some ⟨3901, 0, none⟩), .agg ⟨[.slice (some ⟨10, 0, none⟩) 3 3, .slice (some ⟨11, 0, none⟩) 2 2, .slice (some ⟨8, 0, none⟩) 1 1, .slice none 0 0, .slice none 0 0, .bool false, .int .i64 (.ofNat 200), .int .i64 (.ofNat 11), .slice (some ⟨10, 0, none⟩) 3 3, .slice (some ⟨11, 0, none⟩) 2 2, .slice none 0 0, .slice (some ⟨668, 0, none⟩) 1 12682136550675316737, .slice (some ⟨66, 0, none⟩) 3 9223372036854775811, .slice (some ⟨54, 0, none⟩) 3 3, .slice (some ⟨3052, 0, none⟩) 2 28823037615171174402, .slice (some ⟨3141, 15, none⟩) 0 3458764513820540928, .slice (some ⟨3531, 0, none⟩) 7 6917529027641081863]⟩, undef, .pointer (some ⟨3903, 0, none⟩), undef, undef, undef, undef, undef, undef, undef, undef, undef, undef, undef, undef, undef, undef, undef, undef, undef, undef, undef, undef, undef, undef, undef, undef, undef, undef, undef, undef, undef, undef, undef, undef, undef, undef, undef, undef, undef, undef, undef, undef, undef, undef, undef, undef, undef, undef, undef, undef, undef, undef, undef, undef, undef, undef, undef, undef, undef, undef, undef, undef, undef, undef, undef, undef, undef, undef, undef, undef, undef, undef, undef, undef, undef, undef, undef, undef]
def lp1 : List (Nat × AO) := [(8, .cells [.int .i64 (.ofNat 0), .int .i64 (.ofNat 0), .int .i64 (.ofNat 0), .int .i64 (.ofNat 0), .int .i64 (.ofNat 0), .int .i64 (.ofNat 1), .int .i64 (.ofNat 2), .int .i64 (.ofNat 200), .int .i64 (.ofNat 0), .int .i64 (.ofNat 0), .slice none 0 0, .string ⟨⟨[104, 105]⟩⟩] 107),
  (10, .cells [.int .i64 (.ofNat 100), .int .i64 (.ofNat 100), .int .i64 (.ofNat 100)] 3),
  (11, .cells [.int .i64 (.ofNat 0), .int .i64 (.ofNat 1), .int .i64 (.ofNat 10), .int .i64 (.ofNat 60), .int .i64 (.ofNat 4), .int .i64 (.ofNat 5), .int .i64 (.ofNat 0), .int .i64 (.ofNat 1), .int .i64 (.ofNat 2), .int .i64 (.ofNat 50), .int .i64 (.ofNat 100), .int .i64 (.ofNat 4), .int .i64 (.ofNat 5), .int .i64 (.ofNat 0)] 118),
  (54, .cells [.int .i64 (.ofNat 0), .int .i64 (.ofNat 0), .int .i64 (.ofNat 0)] 3),
  (66, .cells [.int .i64 (.ofNat 0), .int .i64 (.ofNat 100), .bool true, .string ⟨⟨[76, 2, 0, 2, 0, 0, 0, 0, 0, 4, 131, 16, 0, 0, 48, 38, 6, 77, 66, 49, 0, 0, 0, 0, 0, 2, 4, 131, 16, 0, 0, 0, 4, 104, 105, 212, 203, 109, 147, 214, 41, 122, 157, 14, 4, 40, 0, 0, 0, 0, 0, 48, 5, 100, 61]⟩⟩, .int .i64 (.ofNat 55), .slice none 0 0, .slice none 0 0, .slice none 0 0, .int .i64 (.ofNat 1), .int .i64 (.ofNat 100), .bool true, .string ⟨⟨[76, 2, 50, 2, 0, 0, 0, 0, 0, 4, 131, 16, 0, 0, 48, 38, 6, 77, 66, 49, 0, 0, 0, 0, 0, 2, 4, 131, 16, 0, 0, 0, 4, 104, 105, 212, 203, 109, 147, 19, 253, 98, 34, 14, 4, 120, 0, 0, 0, 0, 0, 229, 110, 108, 243]⟩⟩, .int .i64 (.ofNat 55), .slice none 0 0, .slice none 0 0, .slice none 0 0, .int .i64 (.ofNat 2), .int .i64 (.ofNat 100), .bool true, .string ⟨⟨[78, 6, 129, 2, 2, 0, 0, 0, 0, 0, 4, 131, 16, 0, 0, 48, 38, 6, 77, 66, 49, 0, 0, 0, 0, 0, 2, 4, 131, 16, 0, 0, 0, 4, 104, 105, 212, 203, 109, 147, 32, 211, 105, 107]⟩⟩, .int .i64 (.ofNat 44), .slice none 0 0, .slice (some ⟨3525, 0, none⟩) 1 12682136550675316737, .slice none 0 0] 125),
  (662, .cells [.int .i64 (.ofNat 0), .int .i64 (.ofNat 10), .int .i64 (.ofNat 20), .int .i64 (.ofNat 25), .int .i64 (.ofNat 1), .int .i64 (.ofNat 50), .int .i64 (.ofNat 60), .int .i64 (.ofNat 65)] 211),
  (668, .cells [.int .i64 (.ofNat 1), .int .i64 (.ofNat 0), .int .i64 (.ofNat 2), .int .i64 (.ofNat 24), .int .i64 (.ofNat 0), .int .i64 (.ofNat 199), .int .i64 (.ofNat 0), .bool false, .slice (some ⟨662, 0, none⟩) 2 4611686018427387906, .int .i64 (.ofNat 1), .int .i64 (.ofNat 0)] 157),
  (3052, .cells [.int .i64 (.ofNat 1), .int .i64 (.ofNat 0), .int .i64 (.ofNat 1), .int .i64 (.ofNat 0), .int .i64 (.ofNat 0), .int .i64 (.ofNat 0), .int .i64 (.ofNat 0), .int .i64 (.ofNat 0), .int .i64 (.ofNat 2), .int .i64 (.ofNat 200), .int .i64 (.ofNat 0), .bool false, .string ⟨⟨[38, 6, 77, 66, 49, 0, 0, 0, 0, 0, 2, 4, 131, 16, 0, 0, 0, 4, 104, 105, 212, 203, 109, 147]⟩⟩, .int .i64 (.ofNat 10), .bool true, .int .i64 (.ofNat 25), .bool true, .int .i64 (.ofNat 30), .int .i64 (.ofNat 20), .int .i64 (.ofNat 3), .int .i64 (.ofNat 0), .int .i64 (.ofNat 0), .int .i64 (.ofNat 0), .bool true, .bool true, .int .i64 (.ofNat 1), .int .i64 (.ofNat 1), .int .i64 (.ofNat 1), .int .i64 (.ofNat 0), .int .i64 (.ofNat 0), .int .i64 (.ofNat 0), .int .i64 (.ofNat 0), .int .i64 (.ofNat 0), .int .i64 (.ofNat 2), .int .i64 (.ofNat 200), .int .i64 (.ofNat 0), .bool false, .string ⟨⟨[38, 6, 77, 66, 49, 0, 0, 0, 0, 0, 2, 4, 131, 16, 0, 0, 0, 4, 104, 105, 212, 203, 109, 147]⟩⟩, .int .i64 (.ofNat 50), .bool true, .int .i64 (.ofNat 65), .bool true, .int .i64 (.ofNat 70), .int .i64 (.ofNat 60), .int .i64 (.ofNat 3), .int .i64 (.ofNat 0), .int .i64 (.ofNat 0), .int .i64 (.ofNat 0), .bool true, .bool true] 169),
  (3141, .cells [.int .i64 (.ofNat 60), .int .i64 (.ofNat 4), .int .i64 (.ofNat 1), .int .i64 (.ofNat 65), .int .i64 (.ofNat 2), .int .i64 (.ofNat 1), .int .i64 (.ofNat 70), .int .i64 (.ofNat 3), .int .i64 (.ofNat 1), .int .i64 (.ofNat 200), .int .i64 (.ofNat 5), .int .i64 (.ofNat 0), .int .i64 (.ofNat 200), .int .i64 (.ofNat 5), .int .i64 (.ofNat 1)] 97),
  (3525, .cells [.int .i64 (.ofNat 1), .int .i64 (.ofNat 0), .int .i64 (.ofNat 0), .int .i64 (.ofNat 0), .int .i64 (.ofNat 0), .int .i64 (.ofNat 0), .int .i64 (.ofNat 2), .int .i64 (.ofNat 200), .int .i64 (.ofNat 0), .bool false, .string ⟨⟨[38, 6, 77, 66, 49, 0, 0, 0, 0, 0, 2, 4, 131, 16, 0, 0, 0, 4, 104, 105, 212, 203, 109, 147]⟩⟩] 165),
  (3531, .cells [.int .i64 (.ofNat 0), .int .i64 (.ofNat 1), .int .i64 (.ofNat 0), .int .i64 (.ofNat 1), .int .i64 (.negSucc 0), .int .i64 (.ofNat 65), .int .i64 (.ofNat 10), .int .i64 (.ofNat 5), .int .i64 (.ofNat 0), .int .i64 (.ofNat 1), .int .i64 (.ofNat 0), .int .i64 (.negSucc 0), .int .i64 (.ofNat 20), .int .i64 (.ofNat 12), .int .i64 (.ofNat 0), .int .i64 (.ofNat 1), .int .i64 (.negSucc 0), .int .i64 (.negSucc 0), .int .i64 (.ofNat 25), .int .i64 (.ofNat 6), .int .i64 (.ofNat 1), .int .i64 (.ofNat 1), .int .i64 (.ofNat 0), .int .i64 (.negSucc 0), .int .i64 (.ofNat 50), .int .i64 (.ofNat 5), .int .i64 (.ofNat 1), .int .i64 (.ofNat 1), .int .i64 (.ofNat 1), .int .i64 (.negSucc 0), .int .i64 (.ofNat 60), .int .i64 (.ofNat 12), .int .i64 (.ofNat 1), .int .i64 (.ofNat 1), .int .i64 (.negSucc 0), .int .i64 (.negSucc 0), .int .i64 (.ofNat 65), .int .i64 (.ofNat 7), .int .i64 (.ofNat 2), .int .i64 (.ofNat 1), .int .i64 (.ofNat 1), .int .i64 (.negSucc 0)] 152),
  (3900, .cells [.slice (some ⟨10, 0, none⟩) 3 3, .slice (some ⟨11, 0, none⟩) 2 2, .slice (some ⟨8, 0, none⟩) 1 1, .slice none 0 0, .slice none 0 0, .bool false, .int .i64 (.ofNat 200), .int .i64 (.ofNat 11), .slice (some ⟨10, 0, none⟩) 3 3, .slice (some ⟨11, 0, none⟩) 2 2, .slice none 0 0, .slice (some ⟨668, 0, none⟩) 1 12682136550675316737, .slice (some ⟨66, 0, none⟩) 3 9223372036854775811, .slice (some ⟨54, 0, none⟩) 3 3, .slice (some ⟨3052, 0, none⟩) 2 28823037615171174402, .slice (some ⟨3141, 15, none⟩) 0 3458764513820540928, .slice (some ⟨3531, 0, none⟩) 7 6917529027641081863] 61),
  (3901, .cells [.slice none 0 0] 111),
  (3902, .cells [.pointer (some ⟨3901, 0, none⟩)] 109),
  (3903, .cells [.slice (some ⟨10, 0, none⟩) 3 3, .slice (some ⟨11, 0, none⟩) 2 2, .slice (some ⟨8, 0, none⟩) 1 1, .slice none 0 0, .slice none 0 0, .bool false, .int .i64 (.ofNat 200), .int .i64 (.ofNat 11), .slice (some ⟨10, 0, none⟩) 3 3, .slice (some ⟨11, 0, none⟩) 2 2, .slice none 0 0, .slice (some ⟨668, 0, none⟩) 1 12682136550675316737, .slice (some ⟨66, 0, none⟩) 3 9223372036854775811, .slice (some ⟨54, 0, none⟩) 3 3, .slice (some ⟨3052, 0, none⟩) 2 28823037615171174402, .slice (some ⟨3141, 15, none⟩) 0 3458764513820540928, .slice (some ⟨3531, 0, none⟩) 7 6917529027641081863] 61)]
def fp2 : List Value := [.pointer (some ⟨3901, 0, none⟩), .agg ⟨[.slice (some ⟨10, 0, none⟩) 3 3, .slice (some ⟨11, 0, none⟩) 2 2, .slice (some ⟨8, 0, none⟩) 1 1, .slice none 0 0, .slice none 0 0, .bool false, .int .i64 (.ofNat 200), .int .i64 (.ofNat 11), .slice (some ⟨10, 0, none⟩) 3 3, .slice (some ⟨11, 0, none⟩) 2 2, .slice none 0 0, .slice (some ⟨668, 0, none⟩) 1 12682136550675316737, .slice (some ⟨66, 0, none⟩) 3 9223372036854775811, .slice (some ⟨54, 0, none⟩) 3 3, .slice (some ⟨3052, 0, none⟩) 2 28823037615171174402, .slice (some ⟨3141, 15, none⟩) 0 3458764513820540928, .slice (some ⟨3531, 0, none⟩) 7 6917529027641081863]⟩, undef, .pointer (some ⟨3903, 0, none⟩), .map (some 3904), undef, undef, undef, undef, undef, undef, undef, undef, undef, .map (some 3904), undef, undef, undef, undef, undef, undef, undef, undef, undef, undef, undef, undef, undef, undef, undef, undef, undef, undef, undef, undef, undef, undef, undef, undef, undef, undef, undef, undef, undef, undef, undef, undef, undef, undef, undef, undef, undef, undef, undef, undef, undef, undef, undef, undef, undef, undef, undef, undef, undef, undef, undef, undef, undef, undef, undef, undef, undef, undef, undef, undef, undef, undef, undef, undef, undef]
def lp2 : List (Nat × AO) := [(8, .cells [.int .i64 (.ofNat 0), .int .i64 (.ofNat 0), .int .i64 (.ofNat 0), .int .i64 (.ofNat 0), .int .i64 (.ofNat 0), .int .i64 (.ofNat 1), .int .i64 (.ofNat 2), .int .i64 (.ofNat 200), .int .i64 (.ofNat 0), .int .i64 (.ofNat 0), .slice none 0 0, .string ⟨⟨[104, 105]⟩⟩] 107),
  (10, .cells [.int .i64 (.ofNat 100), .int .i64 (.ofNat 100), .int .i64 (.ofNat 100)] 3),
  (11, .cells [.int .i64 (.ofNat 0), .int .i64 (.ofNat 1), .int .i64 (.ofNat 10), .int .i64 (.ofNat 60), .int .i64 (.ofNat 4), .int .i64 (.ofNat 5), .int .i64 (.ofNat 0), .int .i64 (.ofNat 1), .int .i64 (.ofNat 2), .int .i64 (.ofNat 50), .int .i64 (.ofNat 100), .int .i64 (.ofNat 4), .int .i64 (.ofNat 5), .int .i64 (.ofNat 0)] 118),
  (54, .cells [.int .i64 (.ofNat 0), .int .i64 (.ofNat 0), .int .i64 (.ofNat 0)] 3),
  (66, .cells [.int .i64 (.ofNat 0), .int .i64 (.ofNat 100), .bool true, .string ⟨⟨[76, 2, 0, 2, 0, 0, 0, 0, 0, 4, 131, 16, 0, 0, 48, 38, 6, 77, 66, 49, 0, 0, 0, 0, 0, 2, 4, 131, 16, 0, 0, 0, 4, 104, 105, 212, 203, 109, 147, 214, 41, 122, 157, 14, 4, 40, 0, 0, 0, 0, 0, 48, 5, 100, 61]⟩⟩, .int .i64 (.ofNat 55), .slice none 0 0, .slice none 0 0, .slice none 0 0, .int .i64 (.ofNat 1), .int .i64 (.ofNat 100), .bool true, .string ⟨⟨[76, 2, 50, 2, 0, 0, 0, 0, 0, 4, 131, 16, 0, 0, 48, 38, 6, 77, 66, 49, 0, 0, 0, 0, 0, 2, 4, 131, 16, 0, 0, 0, 4, 104, 105, 212, 203, 109, 147, 19, 253, 98, 34, 14, 4, 120, 0, 0, 0, 0, 0, 229, 110, 108, 243]⟩⟩, .int .i64 (.ofNat 55), .slice none 0 0, .slice none 0 0, .slice none 0 0, .int .i64 (.ofNat 2), .int .i64 (.ofNat 100), .bool true, .string ⟨⟨[78, 6, 129, 2, 2, 0, 0, 0, 0, 0, 4, 131, 16, 0, 0, 48, 38, 6, 77, 66, 49, 0, 0, 0, 0, 0, 2, 4, 131, 16, 0, 0, 0, 4, 104, 105, 212, 203, 109, 147, 32, 211, 105, 107]⟩⟩, .int .i64 (.ofNat 44), .slice none 0 0, .slice (some ⟨3525, 0, none⟩) 1 12682136550675316737, .slice none 0 0] 125),
  (662, .cells [.int .i64 (.ofNat 0), .int .i64 (.ofNat 10), .int .i64 (.ofNat 20), .int .i64 (.ofNat 25), .int .i64 (.ofNat 1), .int .i64 (.ofNat 50), .int .i64 (.ofNat 60), .int .i64 (.ofNat 65)] 211),
  (668, .cells [.int .i64 (.ofNat 1), .int .i64 (.ofNat 0), .int .i64 (.ofNat 2), .int .i64 (.ofNat 24), .int .i64 (.ofNat 0), .int .i64 (.ofNat 199), .int .i64 (.ofNat 0), .bool false, .slice (some ⟨662, 0, none⟩) 2 4611686018427387906, .int .i64 (.ofNat 1), .int .i64 (.ofNat 0)] 157),
  (3052, .cells [.int .i64 (.ofNat 1), .int .i64 (.ofNat 0), .int .i64 (.ofNat 1), .int .i64 (.ofNat 0), .int .i64 (.ofNat 0), .int .i64 (.ofNat 0), .int .i64 (.ofNat 0), .int .i64 (.ofNat 0), .int .i64 (.ofNat 2), .int .i64 (.ofNat 200), .int .i64 (.ofNat 0), .bool false, .string ⟨⟨[38, 6, 77, 66, 49, 0, 0, 0, 0, 0, 2, 4, 131, 16, 0, 0, 0, 4, 104, 105, 212, 203, 109, 147]⟩⟩, .int .i64 (.ofNat 10), .bool true, .int .i64 (.ofNat 25), .bool true, .int .i64 (.ofNat 30), .int .i64 (.ofNat 20), .int .i64 (.ofNat 3), .int .i64 (.ofNat 0), .int .i64 (.ofNat 0), .int .i64 (.ofNat 0), .bool true, .bool true, .int .i64 (.ofNat 1), .int .i64 (.ofNat 1), .int .i64 (.ofNat 1), .int .i64 (.ofNat 0), .int .i64 (.ofNat 0), .int .i64 (.ofNat 0), .int .i64 (.ofNat 0), .int .i64 (.ofNat 0), .int .i64 (.ofNat 2), .int .i64 (.ofNat 200), .int .i64 (.ofNat 0), .bool false, .string ⟨⟨[38, 6, 77, 66, 49, 0, 0, 0, 0, 0, 2, 4, 131, 16, 0, 0, 0, 4, 104, 105, 212, 203, 109, 147]⟩⟩, .int .i64 (.ofNat 50), .bool true, .int .i64 (.ofNat 65), .bool true, .int .i64 (.ofNat 70), .int .i64 (.ofNat 60), .int .i64 (.ofNat 3), .int .i64 (.ofNat 0), .int .i64 (.ofNat 0), .int .i64 (.ofNat 0), .bool true, .bool true] 169),
  (3141, .cells [.int .i64 (.ofNat 60), .int .i64 (.ofNat 4), .int .i64 (.ofNat 1), .int .i64 (.ofNat 65), .int .i64 (.ofNat 2), .int .i64 (.ofNat 1), .int .i64 (.ofNat 70), .int .i64 (.ofNat 3), .int .i64 (.ofNat 1), .int .i64 (.ofNat 200), .int .i64 (.ofNat 5), .int .i64 (.ofNat 0), .int .i64 (.ofNat 200), .int .i64 (.ofNat 5), .int .i64 (.ofNat 1)] 97),
  (3525, .cells [.int .i64 (.ofNat 1), .int .i64 (.ofNat 0), .int .i64 (.ofNat 0), .int .i64 (.ofNat 0), .int .i64 (.ofNat 0), .int .i64 (.ofNat 0), .int .i64 (.ofNat 2), .int .i64 (.ofNat 200), .int .i64 (.ofNat 0), .bool false, .string ⟨⟨[38, 6, 77, 66, 49, 0, 0, 0, 0, 0, 2, 4, 131, 16, 0, 0, 0, 4, 104, 105, 212, 203, 109, 147]⟩⟩] 165),
  (3531, .cells [.int .i64 (.ofNat 0), .int .i64 (.ofNat 1), .int .i64 (.ofNat 0), .int .i64 (.ofNat 1), .int .i64 (.negSucc 0), .int .i64 (.ofNat 65), .int .i64 (.ofNat 10), .int .i64 (.ofNat 5), .int .i64 (.ofNat 0), .int .i64 (.ofNat 1), .int .i64 (.ofNat 0), .int .i64 (.negSucc 0), .int .i64 (.ofNat 20), .int .i64 (.ofNat 12), .int .i64 (.ofNat 0), .int .i64 (.ofNat 1), .int .i64 (.negSucc 0), .int .i64 (.negSucc 0), .int .i64 (.ofNat 25), .int .i64 (.ofNat 6), .int .i64 (.ofNat 1), .int .i64 (.ofNat 1), .int .i64 (.ofNat 0), .int .i64 (.negSucc 0), .int .i64 (.ofNat 50), .int .i64 (.ofNat 5), .int .i64 (.ofNat 1), .int .i64 (.ofNat 1), .int .i64 (.ofNat 1), .int .i64 (.negSucc 0), .int .i64 (.ofNat 60), .int .i64 (.ofNat 12), .int .i64 (.ofNat 1), .int .i64 (.ofNat 1), .int .i64 (.negSucc 0), .int .i64 (.negSucc 0), .int .i64 (.ofNat 65), .int .i64 (.ofNat 7), .int .i64 (.ofNat 2), .int .i64 (.ofNat 1), .int .i64 (.ofNat 1), .int .i64 (.negSucc 0)] 152),
  (3900, .cells [.slice (some ⟨10, 0, none⟩) 3 3, .slice (some ⟨11, 0, none⟩) 2 2, .slice (some ⟨8, 0, none⟩) 1 1, .slice none 0 0, .slice none 0 0, .bool false, .int .i64 (.ofNat 200), .int .i64 (.ofNat 11), .slice (some ⟨10, 0, none⟩) 3 3, .slice (some ⟨11, 0, none⟩) 2 2, .slice none 0 0, .slice (some ⟨668, 0, none⟩) 1 12682136550675316737, .slice (some ⟨66, 0, none⟩) 3 9223372036854775811, .slice (some ⟨54, 0, none⟩) 3 3, .slice (some ⟨3052, 0, none⟩) 2 28823037615171174402, .slice (some ⟨3141, 15, none⟩) 0 3458764513820540928, .slice (some ⟨3531, 0, none⟩) 7 6917529027641081863] 61),
  (3901, .cells [.slice none 0 0] 111),
  (3902, .cells [.pointer (some ⟨3901, 0, none⟩)] 109),
  (3903, .cells [.slice (some ⟨10, 0, none⟩) 3 3, .slice (some ⟨11, 0, none⟩) 2 2, .slice (some ⟨8, 0, none⟩) 1 1, .slice none 0 0, .slice none 0 0, .bool false, .int .i64 (.ofNat 200), .int .i64 (.ofNat 11), .slice (some ⟨10, 0, none⟩) 3 3, .slice (some ⟨11, 0, none⟩) 2 2, .slice none 0 0, .slice (some ⟨668, 0, none⟩) 1 12682136550675316737, .slice (some ⟨66, 0, none⟩) 3 9223372036854775811, .slice (some ⟨54, 0, none⟩) 3 3, .slice (some ⟨3052, 0, none⟩) 2 28823037615171174402, .slice (some ⟨3141, 15, none⟩) 0 3458764513820540928, .slice (some ⟨3531, 0, none⟩) 7 6917529027641081863] 61),
  (3904, .map [])]
def fp3 : List Value := [.pointer (some ⟨3901, 0, none⟩), .agg ⟨[.slice (some ⟨10, 0, none⟩) 3 3, .slice (some ⟨11, 0, none⟩) 2 2, .slice (some ⟨8, 0, none⟩) 1 1, .slice none 0 0, .slice none 0 0, .bool false, .int .i64 (.ofNat 200), .int .i64 (.ofNat 11), .slice (some ⟨10, 0, none⟩) 3 3, .slice (some ⟨11, 0, none⟩) 2 2, .slice none 0 0, .slice (some ⟨668, 0, none⟩) 1 12682136550675316737, .slice (some ⟨66, 0, none⟩) 3 9223372036854775811, .slice (some ⟨54, 0, none⟩) 3 3, .slice (some ⟨3052, 0, none⟩) 2 28823037615171174402, .slice (some ⟨3141, 15, none⟩) 0 3458764513820540928, .slice (some ⟨3531, 0, none⟩) 7 6917529027641081863]⟩, undef, .pointer (some ⟨3903, 0, none⟩), .map (some 3904), .int .i64 (.ofNat 0), undef, undef, undef, undef, undef, undef, undef, undef, .map (some 3904), undef, undef, undef, undef, undef, undef, undef, undef, undef, undef, undef, undef, undef, undef, undef, undef, undef, undef, undef, undef, undef, undef, undef, undef, undef, undef, undef, undef, undef, undef, undef, undef, undef, undef, undef, undef, undef, undef, undef, undef, undef, undef, undef, undef, undef, undef, undef, undef, undef, undef, undef, undef, undef, undef, undef, undef, undef, undef, undef, undef, undef, undef, undef, undef, undef]
def lp3 : List (Nat × AO) := [(8, .cells [.int .i64 (.ofNat 0), .int .i64 (.ofNat 0), .int .i64 (.ofNat 0), .int .i64 (.ofNat 0), .int .i64 (.ofNat 0), .int .i64 (.ofNat 1), .int .i64 (.ofNat 2), .int .i64 (.ofNat 200), .int .i64 (.ofNat 0), .int .i64 (.ofNat 0), .slice none 0 0, .string ⟨⟨[104, 105]⟩⟩] 107),
  (10, .cells [.int .i64 (.ofNat 100), .int .i64 (.ofNat 100), .int .i64 (.ofNat 100)] 3),
  (11, .cells [.int .i64 (.ofNat 0), .int .i64 (.ofNat 1), .int .i64 (.ofNat 10), .int .i64 (.ofNat 60), .int .i64 (.ofNat 4), .int .i64 (.ofNat 5), .int .i64 (.ofNat 0), .int .i64 (.ofNat 1), .int .i64 (.ofNat 2), .int .i64 (.ofNat 50), .int .i64 (.ofNat 100), .int .i64 (.ofNat 4), .int .i64 (.ofNat 5), .int .i64 (.ofNat 0)] 118),
  (54, .cells [.int .i64 (.ofNat 0), .int .i64 (.ofNat 0), .int .i64 (.ofNat 0)] 3),
  (66, .cells [.int .i64 (.ofNat 0), .int .i64 (.ofNat 100), .bool true, .string ⟨⟨[76, 2, 0, 2, 0, 0, 0, 0, 0, 4, 131, 16, 0, 0, 48, 38, 6, 77, 66, 49, 0, 0, 0, 0, 0, 2, 4, 131, 16, 0, 0, 0, 4, 104, 105, 212, 203, 109, 147, 214, 41, 122, 157, 14, 4, 40, 0, 0, 0, 0, 0, 48, 5, 100, 61]⟩⟩, .int .i64 (.ofNat 55), .slice none 0 0, .slice none 0 0, .slice none 0 0, .int .i64 (.ofNat 1), .int .i64 (.ofNat 100), .bool true, .string ⟨⟨[76, 2, 50, 2, 0, 0, 0, 0, 0, 4, 131, 16, 0, 0, 48, 38, 6, 77, 66, 49, 0, 0, 0, 0, 0, 2, 4, 131, 16, 0, 0, 0, 4, 104, 105, 212, 203, 109, 147, 19, 253, 98, 34, 14, 4, 120, 0, 0, 0, 0, 0, 229, 110, 108, 243]⟩⟩, .int .i64 (.ofNat 55), .slice none 0 0, .slice none 0 0, .slice none 0 0, .int .i64 (.ofNat 2), .int .i64 (.ofNat 100), .bool true, .string ⟨⟨[78, 6, 129, 2, 2, 0, 0, 0, 0, 0, 4, 131, 16, 0, 0, 48, 38, 6, 77, 66, 49, 0, 0, 0, 0, 0, 2, 4, 131, 16, 0, 0, 0, 4, 104, 105, 212, 203, 109, 147, 32, 211, 105, 107]⟩⟩, .int .i64 (.ofNat 44), .slice none 0 0, .slice (some ⟨3525, 0, none⟩) 1 12682136550675316737, .slice none 0 0] 125),
  (662, .cells [.int .i64 (.ofNat 0), .int .i64 (.ofNat 10), .int .i64 (.ofNat 20), .int .i64 (.ofNat 25), .int .i64 (.ofNat 1), .int .i64 (.ofNat 50), .int .i64 (.ofNat 60), .int .i64 (.ofNat 65)] 211),
  (668, .cells [.int .i64 (.ofNat 1), .int .i64 (.ofNat 0), .int .i64 (.ofNat 2), .int .i64 (.ofNat 24), .int .i64 (.ofNat 0), .int .i64 (.ofNat 199), .int .i64 (.ofNat 0), .bool false, .slice (some ⟨662, 0, none⟩) 2 4611686018427387906, .int .i64 (.ofNat 1), .int .i64 (.ofNat 0)] 157),
  (3052, .cells [.int .i64 (.ofNat 1), .int .i64 (.ofNat 0), .int .i64 (.ofNat 1), .int .i64 (.ofNat 0), .int .i64 (.ofNat 0), .int .i64 (.ofNat 0), .int .i64 (.ofNat 0), .int .i64 (.ofNat 0), .int .i64 (.ofNat 2), .int .i64 (.ofNat 200), .int .i64 (.ofNat 0), .bool false, .string ⟨⟨[38, 6, 77, 66, 49, 0, 0, 0, 0, 0, 2, 4, 131, 16, 0, 0, 0, 4, 104, 105, 212, 203, 109, 147]⟩⟩, .int .i64 (.ofNat 10), .bool true, .int .i64 (.ofNat 25), .bool true, .int .i64 (.ofNat 30), .int .i64 (.ofNat 20), .int .i64 (.ofNat 3), .int .i64 (.ofNat 0), .int .i64 (.ofNat 0), .int .i64 (.ofNat 0), .bool true, .bool true, .int .i64 (.ofNat 1), .int .i64 (.ofNat 1), .int .i64 (.ofNat 1), .int .i64 (.ofNat 0), .int .i64 (.ofNat 0), .int .i64 (.ofNat 0), .int .i64 (.ofNat 0), .int .i64 (.ofNat 0), .int .i64 (.ofNat 2), .int .i64 (.ofNat 200), .int .i64 (.ofNat 0), .bool false, .string ⟨⟨[38, 6, 77, 66, 49, 0, 0, 0, 0, 0, 2, 4, 131, 16, 0, 0, 0, 4, 104, 105, 212, 203, 109, 147]⟩⟩, .int .i64 (.ofNat 50), .bool true, .int .i64 (.ofNat 65), .bool true, .int .i64 (.ofNat 70), .int .i64 (.ofNat 60), .int .i64 (.ofNat 3), .int .i64 (.ofNat 0), .int .i64 (.ofNat 0), .int .i64 (.ofNat 0), .bool true, .bool true] 169),
  (3141, .cells [.int .i64 (.ofNat 60), .int .i64 (.ofNat 4), .int .i64 (.ofNat 1), .int .i64 (.ofNat 65), .int .i64 (.ofNat 2), .int .i64 (.ofNat 1), .int .i64 (.ofNat 70), .int .i64 (.ofNat 3), .int .i64 (.ofNat 1), .int .i64 (.ofNat 200), .int .i64 (.ofNat 5), .int .i64 (.ofNat 0), .int .i64 (.ofNat 200), .int .i64 (.ofNat 5), .int .i64 (.ofNat 1)] 97),
  (3525, .cells [.int .i64 (.ofNat 1), .int .i64 (.ofNat 0), .int .i64 (.ofNat 0), .int .i64 (.ofNat 0), .int .i64 (.ofNat 0), .int .i64 (.ofNat 0), .int .i64 (.ofNat 2), .int .i64 (.ofNat 200), .int .i64 (.ofNat 0), .bool false, .string ⟨⟨[38, 6, 77, 66, 49, 0, 0, 0, 0, 0, 2, 4, 131, 16, 0, 0, 0, 4, 104, 105, 212, 203, 109, 147]⟩⟩] 165),
  (3531, .cells [.int .i64 (.ofNat 0), .int .i64 (.ofNat 1), .int .i64 (.ofNat 0), .int .i64 (.ofNat 1), .int .i64 (.negSucc 0), .int .i64 (.ofNat 65), .int .i64 (.ofNat 10), .int .i64 (.ofNat 5), .int .i64 (.ofNat 0), .int .i64 (.ofNat 1), .int .i64 (.ofNat 0), .int .i64 (.negSucc 0), .int .i64 (.ofNat 20), .int .i64 (.ofNat 12), .int .i64 (.ofNat 0), .int .i64 (.ofNat 1), .int .i64 (.negSucc 0), .int .i64 (.negSucc 0), .int .i64 (.ofNat 25), .int .i64 (.ofNat 6), .int .i64 (.ofNat 1), .int .i64 (.ofNat 1), .int .i64 (.ofNat 0), .int .i64 (.negSucc 0), .int .i64 (.ofNat 50), .int .i64 (.ofNat 5), .int .i64 (.ofNat 1), .int .i64 (.ofNat 1), .int .i64 (.ofNat 1), .int .i64 (.negSucc 0), .int .i64 (.ofNat 60), .int .i64 (.ofNat 12), .int .i64 (.ofNat 1), .int .i64 (.ofNat 1), .int .i64 (.negSucc 0), .int .i64 (.negSucc 0), .int .i64 (.ofNat 65), .int .i64 (.ofNat 7), .int .i64 (.ofNat 2), .int .i64 (.ofNat 1), .int .i64 (.ofNat 1), .int .i64 (.negSucc 0)] 152),
  (3900, .cells [.slice (some ⟨10, 0, none⟩) 3 3, .slice (some ⟨11, 0, none⟩) 2 2, .slice (some ⟨8, 0, none⟩) 1 1, .slice none 0 0, .slice none 0 0, .bool false, .int .i64 (.ofNat 200), .int .i64 (.ofNat 11), .slice (some ⟨10, 0, none⟩) 3 3, .slice (some ⟨11, 0, none⟩) 2 2, .slice none 0 0, .slice (some ⟨668, 0, none⟩) 1 12682136550675316737, .slice (some ⟨66, 0, none⟩) 3 9223372036854775811, .slice (some ⟨54, 0, none⟩) 3 3, .slice (some ⟨3052, 0, none⟩) 2 28823037615171174402, .slice (some ⟨3141, 15, none⟩) 0 3458764513820540928, .slice (some ⟨3531, 0, none⟩) 7 6917529027641081863] 61),
  (3901, .cells [.slice none 0 0] 111),
  (3902, .cells [.pointer (some ⟨3901, 0, none⟩)] 109),
  (3903, .cells [.slice (some ⟨10, 0, none⟩) 3 3, .slice (some ⟨11, 0, none⟩) 2 2, .slice (some ⟨8, 0, none⟩) 1 1, .slice none 0 0, .slice none 0 0, .bool false, .int .i64 (.ofNat 200), .int .i64 (.ofNat 11), .slice (some ⟨10, 0, none⟩) 3 3, .slice (some ⟨11, 0, none⟩) 2 2, .slice none 0 0, .slice (some ⟨668, 0, none⟩) 1 12682136550675316737, .slice (some ⟨66, 0, none⟩) 3 9223372036854775811, .slice (some ⟨54, 0, none⟩) 3 3, .slice (some ⟨3052, 0, none⟩) 2 28823037615171174402, .slice (some ⟨3141, 15, none⟩) 0 3458764513820540928, .slice (some ⟨3531, 0, none⟩) 7 6917529027641081863] 61),
  (3904, .map [])]
theorem run_p0 : CodeRel Tryz.prog 6 p0 (frOf A51) H51 (fun e f g => e = .normal ∧ f = frOf fp1 ∧ g = mkH 3904 lp1) :=
  CodeRel.view hyp0 (m := 100000) (by kernel_rfl) (by kernel_rfl) (by kernel_rfl)
theorem run_p1 : CodeRel Tryz.prog 6 p1 (frOf fp1) (mkH 3904 lp1) (fun e f g => e = .normal ∧ f = frOf fp2 ∧ g = mkH 3905 lp2) :=
  CodeRel.view hyp0 (m := 100000) (by kernel_rfl) (by kernel_rfl) (by kernel_rfl)
theorem run_p2 : CodeRel Tryz.prog 6 p2 (frOf fp2) (mkH 3905 lp2) (fun e f g => e = .normal ∧ f = frOf fp3 ∧ g = mkH 3905 lp3) :=
  CodeRel.view hyp0 (m := 100000) (by kernel_rfl) (by kernel_rfl) (by kernel_rfl)
theorem run_pA : CodeRel Tryz.prog 6 pA (frOf fp3) (mkH 3905 lp3) (fun e f g => e = .normal ∧ f = frOf F0 ∧ g = H1) :=
  CodeRel.view hyp0 (m := 100000) (by kernel_rfl) (by kernel_rfl) (by kernel_rfl)
def BASE2 : List (Nat × AO) := [(10, .cells [.int .i64 (.ofNat 100), .int .i64 (.ofNat 100), .int .i64 (.ofNat 100)] 3),
  (11, .cells [.int .i64 (.ofNat 0), .int .i64 (.ofNat 1), .int .i64 (.ofNat 10), .int .i64 (.ofNat 60), .int .i64 (.ofNat 4), .int .i64 (.ofNat 5), .int .i64 (.ofNat 0), .int .i64 (.ofNat 1), .int .i64 (.ofNat 2), .int .i64 (.ofNat 50), .int .i64 (.ofNat 100), .int .i64 (.ofNat 4), .int .i64 (.ofNat 5), .int .i64 (.ofNat 0)] 118),
  (8, .cells [.int .i64 (.ofNat 0), .int .i64 (.ofNat 0), .int .i64 (.ofNat 0), .int .i64 (.ofNat 0), .int .i64 (.ofNat 0), .int .i64 (.ofNat 1), .int .i64 (.ofNat 2), .int .i64 (.ofNat 200), .int .i64 (.ofNat 0), .int .i64 (.ofNat 0), .slice none 0 0, .string ⟨⟨[104, 105]⟩⟩] 107),
  (668, .cells [.int .i64 (.ofNat 1), .int .i64 (.ofNat 0), .int .i64 (.ofNat 2), .int .i64 (.ofNat 24), .int .i64 (.ofNat 0), .int .i64 (.ofNat 199), .int .i64 (.ofNat 0), .bool false, .slice (some ⟨662, 0, none⟩) 2 4611686018427387906, .int .i64 (.ofNat 1), .int .i64 (.ofNat 0)] 157),
  (662, .cells [.int .i64 (.ofNat 0), .int .i64 (.ofNat 10), .int .i64 (.ofNat 20), .int .i64 (.ofNat 25), .int .i64 (.ofNat 1), .int .i64 (.ofNat 50), .int .i64 (.ofNat 60), .int .i64 (.ofNat 65)] 211),
  (66, .cells [.int .i64 (.ofNat 0), .int .i64 (.ofNat 100), .bool true, .string ⟨⟨[76, 2, 0, 2, 0, 0, 0, 0, 0, 4, 131, 16, 0, 0, 48, 38, 6, 77, 66, 49, 0, 0, 0, 0, 0, 2, 4, 131, 16, 0, 0, 0, 4, 104, 105, 212, 203, 109, 147, 214, 41, 122, 157, 14, 4, 40, 0, 0, 0, 0, 0, 48, 5, 100, 61]⟩⟩, .int .i64 (.ofNat 55), .slice none 0 0, .slice none 0 0, .slice none 0 0, .int .i64 (.ofNat 1), .int .i64 (.ofNat 100), .bool true, .string ⟨⟨[76, 2, 50, 2, 0, 0, 0, 0, 0, 4, 131, 16, 0, 0, 48, 38, 6, 77, 66, 49, 0, 0, 0, 0, 0, 2, 4, 131, 16, 0, 0, 0, 4, 104, 105, 212, 203, 109, 147, 19, 253, 98, 34, 14, 4, 120, 0, 0, 0, 0, 0, 229, 110, 108, 243]⟩⟩, .int .i64 (.ofNat 55), .slice none 0 0, .slice none 0 0, .slice none 0 0, .int .i64 (.ofNat 2), .int .i64 (.ofNat 100), .bool true, .string ⟨⟨[78, 6, 129, 2, 2, 0, 0, 0, 0, 0, 4, 131, 16, 0, 0, 48, 38, 6, 77, 66, 49, 0, 0, 0, 0, 0, 2, 4, 131, 16, 0, 0, 0, 4, 104, 105, 212, 203, 109, 147, 32, 211, 105, 107]⟩⟩, .int .i64 (.ofNat 44), .slice none 0 0, .slice (some ⟨3525, 0, none⟩) 1 12682136550675316737, .slice none 0 0] 125),
  (3525, .cells [.int .i64 (.ofNat 1), .int .i64 (.ofNat 0), .int .i64 (.ofNat 0), .int .i64 (.ofNat 0), .int .i64 (.ofNat 0), .int .i64 (.ofNat 0), .int .i64 (.ofNat 2), .int .i64 (.ofNat 200), .int .i64 (.ofNat 0), .bool false, .string ⟨⟨[38, 6, 77, 66, 49, 0, 0, 0, 0, 0, 2, 4, 131, 16, 0, 0, 0, 4, 104, 105, 212, 203, 109, 147]⟩⟩] 165),
  (54, .cells [.int .i64 (.ofNat 0), .int .i64 (.ofNat 0), .int .i64 (.ofNat 0)] 3),
  (3052, .cells [.int .i64 (.ofNat 1), .int .i64 (.ofNat 0), .int .i64 (.ofNat 1), .int .i64 (.ofNat 0), .int .i64 (.ofNat 0), .int .i64 (.ofNat 0), .int .i64 (.ofNat 0), .int .i64 (.ofNat 0), .int .i64 (.ofNat 2), .int .i64 (.ofNat 200), .int .i64 (.ofNat 0), .bool false, .string ⟨⟨[38, 6, 77, 66, 49, 0, 0, 0, 0, 0, 2, 4, 131, 16, 0, 0, 0, 4, 104, 105, 212, 203, 109, 147]⟩⟩, .int .i64 (.ofNat 10), .bool true, .int .i64 (.ofNat 25), .bool true, .int .i64 (.ofNat 30), .int .i64 (.ofNat 20), .int .i64 (.ofNat 3), .int .i64 (.ofNat 0), .int .i64 (.ofNat 0), .int .i64 (.ofNat 0), .bool true, .bool true, .int .i64 (.ofNat 1), .int .i64 (.ofNat 1), .int .i64 (.ofNat 1), .int .i64 (.ofNat 0), .int .i64 (.ofNat 0), .int .i64 (.ofNat 0), .int .i64 (.ofNat 0), .int .i64 (.ofNat 0), .int .i64 (.ofNat 2), .int .i64 (.ofNat 200), .int .i64 (.ofNat 0), .bool false, .string ⟨⟨[38, 6, 77, 66, 49, 0, 0, 0, 0, 0, 2, 4, 131, 16, 0, 0, 0, 4, 104, 105, 212, 203, 109, 147]⟩⟩, .int .i64 (.ofNat 50), .bool true, .int .i64 (.ofNat 65), .bool true, .int .i64 (.ofNat 70), .int .i64 (.ofNat 60), .int .i64 (.ofNat 3), .int .i64 (.ofNat 0), .int .i64 (.ofNat 0), .int .i64 (.ofNat 0), .bool true, .bool true] 169),
  (3141, .cells [.int .i64 (.ofNat 60), .int .i64 (.ofNat 4), .int .i64 (.ofNat 1), .int .i64 (.ofNat 65), .int .i64 (.ofNat 2), .int .i64 (.ofNat 1), .int .i64 (.ofNat 70), .int .i64 (.ofNat 3), .int .i64 (.ofNat 1), .int .i64 (.ofNat 200), .int .i64 (.ofNat 5), .int .i64 (.ofNat 0), .int .i64 (.ofNat 200), .int .i64 (.ofNat 5), .int .i64 (.ofNat 1)] 97),
  (3531, .cells [.int .i64 (.ofNat 0), .int .i64 (.ofNat 1), .int .i64 (.ofNat 0), .int .i64 (.ofNat 1), .int .i64 (.negSucc 0), .int .i64 (.ofNat 65), .int .i64 (.ofNat 10), .int .i64 (.ofNat 5), .int .i64 (.ofNat 0), .int .i64 (.ofNat 1), .int .i64 (.ofNat 0), .int .i64 (.negSucc 0), .int .i64 (.ofNat 20), .int .i64 (.ofNat 12), .int .i64 (.ofNat 0), .int .i64 (.ofNat 1), .int .i64 (.negSucc 0), .int .i64 (.negSucc 0), .int .i64 (.ofNat 25), .int .i64 (.ofNat 6), .int .i64 (.ofNat 1), .int .i64 (.ofNat 1), .int .i64 (.ofNat 0), .int .i64 (.negSucc 0), .int .i64 (.ofNat 50), .int .i64 (.ofNat 5), .int .i64 (.ofNat 1), .int .i64 (.ofNat 1), .int .i64 (.ofNat 1), .int .i64 (.negSucc 0), .int .i64 (.ofNat 60), .int .i64 (.ofNat 12), .int .i64 (.ofNat 1), .int .i64 (.ofNat 1), .int .i64 (.negSucc 0), .int .i64 (.negSucc 0), .int .i64 (.ofNat 65), .int .i64 (.ofNat 7), .int .i64 (.ofNat 2), .int .i64 (.ofNat 1), .int .i64 (.ofNat 1), .int .i64 (.negSucc 0)] 152),
  (3900, .cells [.slice (some ⟨10, 0, none⟩) 3 3, .slice (some ⟨11, 0, none⟩) 2 2, .slice (some ⟨8, 0, none⟩) 1 1, .slice none 0 0, .slice none 0 0, .bool false, .int .i64 (.ofNat 200), .int .i64 (.ofNat 11), .slice (some ⟨10, 0, none⟩) 3 3, .slice (some ⟨11, 0, none⟩) 2 2, .slice none 0 0, .slice (some ⟨668, 0, none⟩) 1 12682136550675316737, .slice (some ⟨66, 0, none⟩) 3 9223372036854775811, .slice (some ⟨54, 0, none⟩) 3 3, .slice (some ⟨3052, 0, none⟩) 2 28823037615171174402, .slice (some ⟨3141, 15, none⟩) 0 3458764513820540928, .slice (some ⟨3531, 0, none⟩) 7 6917529027641081863] 61),
  (3902, .cells [.pointer (some ⟨3901, 0, none⟩)] 109)]
def Q2 : List (Value × Value) := [(.string ⟨⟨[108, 97, 116, 101, 110, 99, 121]⟩⟩, .int .i64 (.ofNat 65)), (.string ⟨⟨[115, 117, 99, 99, 101, 115, 115]⟩⟩, .int .i64 (.ofNat 1))]
def liC (q : List (Value × Value)) : List (Nat × AO) := BASE2 ++ [(3901, .cells [.slice (some ⟨4009, 0, none⟩) 14 4611686018427387918] 111), (4009, .cells ((q ++ Q2).flatMap cel) 37)]
noncomputable def HC (q : List (Value × Value)) : AH := mkH 4010 (liC q)
def FC (y10 y11 y52 y53 y54 y55 y56 y57 y58 y59 y60 y61 y62 : Value) : List Value := [.pointer (some ⟨3901, 0, none⟩), .agg ⟨[.slice (some ⟨10, 0, none⟩) 3 3, .slice (some ⟨11, 0, none⟩) 2 2, .slice (some ⟨8, 0, none⟩) 1 1, .slice none 0 0, .slice none 0 0, .bool false, .int .i64 (.ofNat 200), .int .i64 (.ofNat 11), .slice (some ⟨10, 0, none⟩) 3 3, .slice (some ⟨11, 0, none⟩) 2 2, .slice none 0 0, .slice (some ⟨668, 0, none⟩) 1 12682136550675316737, .slice (some ⟨66, 0, none⟩) 3 9223372036854775811, .slice (some ⟨54, 0, none⟩) 3 3, .slice (some ⟨3052, 0, none⟩) 2 28823037615171174402, .slice (some ⟨3141, 15, none⟩) 0 3458764513820540928, .slice (some ⟨3531, 0, none⟩) 7 6917529027641081863]⟩, undef, .pointer (some ⟨3903, 0, none⟩), .map (some 3904), .int .i64 (.ofNat 65), undef, .pointer (some ⟨3911, 0, none⟩), .pointer (some ⟨3912, 0, none⟩), .bool true, y10, y11, .int .i64 (.ofNat 1), .int .i64 (.ofNat 1), .map (some 3904), .pointer (some ⟨3903, 16, none⟩), .slice (some ⟨3531, 0, none⟩) 7 6917529027641081863, .int .i64 (.ofNat 7), .int .i64 (.ofNat 7), .bool false, .pointer (some ⟨3531, 36, none⟩), .agg ⟨[.int .i64 (.ofNat 65), .int .i64 (.ofNat 7), .int .i64 (.ofNat 2), .int .i64 (.ofNat 1), .int .i64 (.ofNat 1), .int .i64 (.negSucc 0)]⟩, .map (some 3904), .pointer (some ⟨3911, 1, none⟩), .int .i64 (.ofNat 7), .int .i64 (.ofNat 0), .int .i64 (.ofNat 1), .pointer (some ⟨3911, 1, none⟩), .int .i64 (.ofNat 7), .bool true, .tuple ⟨[.agg ⟨[.int .i64 (.ofNat 1), .int .i64 (.ofNat 0), .int .i64 (.ofNat 2), .int .i64 (.ofNat 24), .int .i64 (.ofNat 0), .int .i64 (.ofNat 199), .int .i64 (.ofNat 0), .bool false, .slice (some ⟨662, 0, none⟩) 2 4611686018427387906, .int .i64 (.ofNat 1), .int .i64 (.ofNat 0)]⟩, .bool true]⟩, .pointer (some ⟨3903, 8, none⟩), .agg ⟨[.slice (some ⟨10, 0, none⟩) 3 3, .slice (some ⟨11, 0, none⟩) 2 2, .slice none 0 0, .slice (some ⟨668, 0, none⟩) 1 12682136550675316737]⟩, .pointer (some ⟨3903, 16, none⟩), .slice (some ⟨3531, 0, none⟩) 7 6917529027641081863, .pointer (some ⟨3911, 3, none⟩), .int .i64 (.ofNat 1), .int .i64 (.ofNat 1), .tuple ⟨[.agg ⟨[.int .i64 (.ofNat 1), .int .i64 (.ofNat 0), .int .i64 (.ofNat 2), .int .i64 (.ofNat 24), .int .i64 (.ofNat 0), .int .i64 (.ofNat 199), .int .i64 (.ofNat 0), .bool false, .slice (some ⟨662, 0, none⟩) 2 4611686018427387906, .int .i64 (.ofNat 1), .int .i64 (.ofNat 0)]⟩, .bool true]⟩, .agg ⟨[.int .i64 (.ofNat 1), .int .i64 (.ofNat 0), .int .i64 (.ofNat 2), .int .i64 (.ofNat 24), .int .i64 (.ofNat 0), .int .i64 (.ofNat 199), .int .i64 (.ofNat 0), .bool false, .slice (some ⟨662, 0, none⟩) 2 4611686018427387906, .int .i64 (.ofNat 1), .int .i64 (.ofNat 0)]⟩, .bool true, .int .i64 (.ofNat 0), .pointer (some ⟨3911, 0, none⟩), .int .i64 (.ofNat 65), .pointer (some ⟨3912, 1, none⟩), .pointer (some ⟨3912, 4, none⟩), .int .i64 (.ofNat 0), .int .i64 (.ofNat 65), .int .i64 (.ofNat 65), .int .i64 (.ofNat 7), .map (some 3924), .pointer (some ⟨3925, 0, none⟩), y52, y53, y54, y55, y56, y57, y58, y59, y60, y61, y62, .map (some 3904), .int .i64 (.ofNat 1), .int .i64 (.ofNat 1), .bool true, .pointer (some ⟨3901, 0, none⟩), .int .i64 (.ofNat 65), .int .i64 (.ofNat 1), undef, .map (some 3904), .int .i64 (.ofNat 1), .int .i64 (.ofNat 1), .bool true, .pointer (some ⟨3901, 0, none⟩), .map (some 3904), .int .i64 (.ofNat 1), .int .i64 (.ofNat 1), undef]
theorem run_pC (q : List (Value × Value)) (hq : q.length = 12) (y10 y11 y52 y53 y54 y55 y56 y57 y58 y59 y60 y61 y62 : Value) : CodeRel Tryz.prog 6 pC (frOf (FB y10 y11 y52 y53 y54 y55 y56 y57 y58 y59 y60 y61 y62)) (HL 12 q) (fun e f g => e = .normal ∧ f = frOf (FC y10 y11 y52 y53 y54 y55 y56 y57 y58 y59 y60 y61 y62) ∧ g = HC q) :=
  match q, hq with
  | [q0, q1, q2, q3, q4, q5, q6, q7, q8, q9, q10, q11], _ => CodeRel.view hyp0 (m := 100000) (by kernel_rfl) (by kernel_rfl) (by kernel_rfl)
theorem ok51 : okFunc 6 Tryz.f51 = true := by kernel_rfl
theorem entries_rel : CallRel Tryz.prog 6 (.func (.func 51) #[] #[]) A51 H51 (fun v g => v = resOf [] ∧ ∃ l : List Nat, Out l ∧ l.length = 12 ∧ g = HC (l.map EV)) := by
  refine body_rel Tryz.func51 body51 ok51 (by decide) (Φ := fun e f g => e = .normal ∧ ∃ l : List Nat, Out l ∧ l.length = 12 ∧ g = HC (l.map EV)) ?_ ?_
  · refine run_p0.seq (fun e f g h => h.1) ?_
    rintro f g ⟨-, rfl, rfl⟩
    refine run_p1.seq (fun e f g h => h.1) ?_
    rintro f g ⟨-, rfl, rfl⟩
    refine run_p2.seq (fun e f g h => h.1) ?_
    rintro f g ⟨-, rfl, rfl⟩
    refine run_pA.seq (fun e f g h => h.1) ?_
    rintro f g ⟨-, rfl, rfl⟩
    refine entB.seq (fun e f g h => h.1) ?_
    rintro f g ⟨-, l, ho, hl, ⟨y10, y11, y52, y53, y54, y55, y56, y57, y58, y59, y60, y61, y62, rfl⟩, rfl⟩
    refine (run_pC (l.map EV) (by simpa using hl) y10 y11 y52 y53 y54 y55 y56 y57 y58 y59 y60 y61 y62).mono ?_
    rintro e f g ⟨rfl, rfl, rfl⟩
    exact ⟨rfl, l, ho, hl, rfl⟩
  · rintro e f g ⟨rfl, l, ho, hl, rfl⟩
    exact ⟨.inl rfl, [], rfl, rfl, l, ho, hl, rfl⟩
#print axioms entries_rel
end Go.Proofs.YtpcbccpobhdokaaGreatDoor

/- Encode, exactly. -/
import Derived.Test.YthlfhfliidhelaaGreatDoorK4e
set_option linter.unusedSimpArgs false
set_option linter.unusedVariables false
set_option linter.all false
namespace Go.Proofs.YthlfhfliidhelaaGreatDoor
open Go.RowKit
attribute [local go_sem] Oper.semAt_some
def txL (b : ByteArray) : List UInt8 := intL (b.data.toList.length : Int) ++ b.data.toList
def magL : List UInt8 := intL (([77, 65, 49] : List UInt8).length : Int) ++ [77, 65, 49]
def encT (a : Arc) : List UInt8 := magL ++ txL a.ms ++ txL a.lg
def encO (a : Arc) : List UInt8 := encT a ++ encL (tksL a.tk) ++ encL (ansL a.an) ++ encL (demsL a.dm)
def ArcRng (a : Arc) : Prop := AllRng (tksL a.tk) ∧ AllRng (ansL a.an) ∧ AllRng (demsL a.dm)
def EncPost (a : Arc) (w : World) (e : Ending) (w' : World) : Prop :=
  Below w.heap.size w w' ∧ ((ArcRng a ∧ (encO a).length ≤ 65536 ∧ e = .returned (.tuple #[.string ⟨(sealL (intL (encO a).length) (encO a)).toArray⟩, .int .i64 0])) ∨
    (¬ ArcRng a ∧ e = .returned (.tuple #[.string ⟨#[]⟩, .int .i64 2])) ∨ (ArcRng a ∧ 65536 < (encO a).length ∧ e = .returned (.tuple #[.string ⟨#[]⟩, .int .i64 4])))
def preT (a : Arc) : Nat → List UInt8
  | 0 => magL
  | 1 => magL ++ txL a.ms
  | _ => encT a
def preL (a : Arc) : Nat → List UInt8
  | 0 => encT a
  | 1 => encT a ++ encL (tksL a.tk)
  | 2 => encT a ++ encL (tksL a.tk) ++ encL (ansL a.an)
  | _ => encO a
def preR (a : Arc) : Nat → Prop
  | 0 => True
  | 1 => AllRng (tksL a.tk)
  | 2 => AllRng (tksL a.tk) ∧ AllRng (ansL a.an)
  | _ => ArcRng a
theorem index3 (w : World) (A B C : Option Addr) (a b c d e f : Nat) : (Instr.index 67 (.agg #[.slice A a d, .slice B b e, .slice C c f]) (.int .i64 0)).run Tryz.prog w = .ok (.slice A a d) w ∧
    (Instr.index 67 (.agg #[.slice A a d, .slice B b e, .slice C c f]) (.int .i64 1)).run Tryz.prog w = .ok (.slice B b e) w ∧ (Instr.index 67 (.agg #[.slice A a d, .slice B b e, .slice C c f]) (.int .i64 2)).run Tryz.prog w = .ok (.slice C c f) w := by
  refine ⟨?_, ?_, ?_⟩ <;> simp [Instr.index, asIntOf, run_underlying Tryz.underlying67, go_sem]
theorem text_b (b : ByteArray) (hb : b.size ≤ 65536) (w : World) : Calls Tryz.prog 13 #[.string b] w fun e w' =>
    e = .returned (.tuple #[.string ⟨(intL (b.data.toList.length : Int) ++ b.data.toList).toArray⟩, .int .i64 0]) ∧ Below w.heap.size w w' := text_any b.data.toList hb w
theorem intL_nat (n : Nat) (hn : n ≤ 1000000) : (intL (n : Int)).length ≤ 9 := intL_len (by omega) (by omega)
set_option maxRecDepth 100000 in
theorem seal_ex (HT : TableOk) (s : List UInt8) (hm : s.length ≤ 900000) (w : World) : Calls Tryz.prog 16 #[.string ⟨s.toArray⟩] w fun e w' =>
    ((s.length ≤ 65536 ∧ e = .returned (.tuple #[.string ⟨(sealL (intL s.length) s).toArray⟩, .int .i64 0]) ∧ Head (intL s.length) s.length) ∨ (65536 < s.length ∧ e = .returned (.tuple #[.string ⟨#[]⟩, .int .i64 4]))) ∧ Below w.heap.size w w' := by
  by_cases hs : s.length ≤ 65536
  · have hl2 := ba_size (intL s.length ++ s)
    have hl3 := intL_len (n := s.length) (by omega) (by omega)
    have hl4 := ba_size (tailL (intL s.length ++ s))
    have hl5 : (tailL (intL s.length ++ s)).length = 4 := rfl
    have hl6 : (intL s.length ++ s).length ≤ 65545 := by rw [List.length_append]; omega
    have HA := Lib.hid (ba_app (intL s.length ++ s) (tailL (intL s.length ++ s)))
    have HD := Lib.hid (head_int s.length (by omega))
    have HS : Hid ((intL s.length ++ s) ++ tailL (intL s.length ++ s) = sealL (intL s.length) s) := rfl
    go_enter Tryz.func16, Tryz.ntmps16
    go_wp2_with fail
    refine (text_any s hs _).mono ?_
    rintro e w1 ⟨rfl, hb1⟩
    generalize intL s.length ++ s = t at *
    go_wp2_with fail
    refine (tail_any HT t (by omega) _).mono ?_
    rintro e w2 ⟨rfl, hb2⟩
    go_wp2_with fail
    go_ret2
    exact ⟨.inl ⟨hs, by rw [← HS.out, ← HA.out]; rfl, HD.out⟩, bt hb1 hb2⟩
  · go_enter Tryz.func16, Tryz.ntmps16
    go_wp2_with fail
    refine (text_bad s hs (by omega) _).mono ?_
    rintro e w1 ⟨rfl, hb1⟩
    go_wp2_with fail
    go_ret2
    exact ⟨.inr ⟨by omega, rfl⟩, hb1⟩
set_option maxRecDepth 100000 in
set_option maxHeartbeats 4000000 in
theorem encode_any (HT : TableOk) (a : Arc) (VT VA VD : Value) (w : World) (hG : GB a) (h : ArcAt w w.heap.size VT VA VD a) : Calls Tryz.prog 6 #[.agg #[.string a.ms, .string a.lg, VT, VA, VD]] w (EncPost a w) := by
  have hms := hG.ms
  have hlg := hG.lg
  have HA := Lib.hid h
  have HG := Lib.hid hG
  obtain ⟨AT, cT, rfl, _, _, _⟩ := h.tk
  obtain ⟨AA, cA, rfl, _, _, _⟩ := h.an
  obtain ⟨AD, cD, rfl, _, _, _⟩ := h.dm
  clear h hG
  have HL := Lib.hid (intL_nat 3 (by decide))
  go_enter Tryz.func6, Tryz.ntmps6
  go_wp2_with fail
  refine (text_any [77, 65, 49] (by decide) _).mono ?_
  rintro e w1 ⟨rfl, hb1⟩
  have HO : Hid ((intL (([77, 65, 49] : List UInt8).length : Int) ++ [77, 65, 49]).length ≤ 12) := by
    show _ ≤ _
    rw [List.length_append]
    have := HL.out
    simp at this ⊢
    omega
  have hom : intL (([77, 65, 49] : List UInt8).length : Int) ++ [77, 65, 49] = magL := rfl
  rw [hom] at HO
  simp only [hom]
  clear hom
  generalize hom : magL = o0 at *
  have HOM := Lib.hid hom
  clear hom
  have hk := bc (B := w.heap.size + 1) hb1 (by simp)
  have hB1 : Below w.heap.size w w1 := ((Below.refl _ w).alloc (Nat.le_refl _) _).trans (hb1.mono (by simp))
  have hz1 : w.heap.size + 1 ≤ w1.heap.size := by have := hb1.size; simpa using this
  clear hb1
  go_wp2_with fail
  have c0 : (w1.alloc (.cells #[.string a.ms, .string a.lg] 9)).cell? ⟨w1.heap.size, 0, none⟩ = some (.string a.ms) := cell_of_row _ _ 0 _ _ _ (World.alloc_heap_new _ _)
  have c1 : (w1.alloc (.cells #[.string a.ms, .string a.lg] 9)).cell? ⟨w1.heap.size, 1, none⟩ = some (.string a.lg) := cell_of_row _ _ 1 _ _ _ (World.alloc_heap_new _ _)
  have hB2 : Below w.heap.size w (w1.alloc (.cells #[.string a.ms, .string a.lg] 9)) := hB1.alloc (by omega) _
  have hbx : (w1.alloc (.cells #[.string a.ms, .string a.lg] 9)).cell? ⟨w.heap.size, 0, none⟩ = some (.string a.ms) ∧ (w1.alloc (.cells #[.string a.ms, .string a.lg] 9)).cell? ⟨w.heap.size, 1, none⟩ = some (.string a.lg) ∧ (w1.alloc (.cells #[.string a.ms, .string a.lg] 9)).cell? ⟨w.heap.size, 2, none⟩ = some (.slice AT a.tk.length cT) ∧
      (w1.alloc (.cells #[.string a.ms, .string a.lg] 9)).cell? ⟨w.heap.size, 3, none⟩ = some (.slice AA a.an.length cA) ∧ (w1.alloc (.cells #[.string a.ms, .string a.lg] 9)).cell? ⟨w.heap.size, 4, none⟩ = some (.slice AD a.dm.length cD) := by
    have hn : ∀ j, (w1.alloc (.cells #[.string a.ms, .string a.lg] 9)).cell? ⟨w.heap.size, j, none⟩ = (#[.string a.ms, .string a.lg, .slice AT a.tk.length cT, .slice AA a.an.length cA, .slice AD a.dm.length cD] : Array Value)[j]? := fun j => by
      rw [World.cell?_of_block (a := ⟨w.heap.size, j, none⟩) (Below.heap_alloc w1 _ w.heap.size (by omega)), hk _ _ (by omega)]
      exact cell_of_row _ _ j _ _ _ (World.alloc_heap_new w _)
    exact ⟨hn 0, hn 1, hn 2, hn 3, hn 4⟩
  have hsz : (w1.alloc (.cells #[.string a.ms, .string a.lg] 9)).heap.size = w1.heap.size + 1 := by simp
  have HBX := Lib.hid hbx
  clear hbx hk hB1
  generalize w1.alloc (.cells #[.string a.ms, .string a.lg] 9) = W0 at *
  have HC := Lib.hid (show _ ∧ _ from ⟨c0, c1⟩)
  have HB2 := Lib.hid hB2
  clear c0 c1 hB2
  go_loopw [4, 24] (fun o i wr => ∃ (k : Nat) (l : List UInt8), k ≤ 2 ∧ i = .int .i64 k ∧ o = .string ⟨l.toArray⟩ ∧ Hid (l.length ≤ 12 + 4009 * k ∧ Below W0.heap.size W0 wr) ∧ Hid (l = preT a k)) (fun _ i _ => 2 - (intOf i).toNat)
  case atStart => exact ⟨0, o0, by omega, rfl, rfl, ⟨HO.out, Below.refl _ _⟩, HOM.out.symm⟩
  case round =>
    obtain ⟨k, l, hk, rfl, rfl, HI, HE⟩ := hrel
    rename World => wr
    have hzr := HI.out.2.size
    by_cases hk2 : k = 2
    · subst hk2
      have d0 := (HI.out.2.cell (p := ⟨w.heap.size, 0, none⟩) (by show w.heap.size < _; omega)).trans HBX.out.1
      have d1 := (HI.out.2.cell (p := ⟨w.heap.size, 1, none⟩) (by show w.heap.size < _; omega)).trans HBX.out.2.1
      have d2 := (HI.out.2.cell (p := ⟨w.heap.size, 2, none⟩) (by show w.heap.size < _; omega)).trans HBX.out.2.2.1
      have d3 := (HI.out.2.cell (p := ⟨w.heap.size, 3, none⟩) (by show w.heap.size < _; omega)).trans HBX.out.2.2.2.1
      have d4 := (HI.out.2.cell (p := ⟨w.heap.size, 4, none⟩) (by show w.heap.size < _; omega)).trans HBX.out.2.2.2.2
      have HBW : Hid (Below w.heap.size w wr) := HB2.out.trans (HI.out.2.mono (by omega))
      have HL2 := Lib.hid HI.out.1
      clear HI HB2 HC HBX
      go_wp2_with fail
      refine (lists_any a _ _ _ _ HG.out ((HA.out.below HBW.out).more HBW.out.size)).mono ?_
      rintro e w2 ⟨hb2, V0, V1, V2, l0, l1, l2, rfl, hi0, hi1, hi2, n0, n1, n2, q0, q1, q2⟩
      have HQ0 := Lib.hid q0
      have HQ1 := Lib.hid q1
      have HQ2 := Lib.hid q2
      clear q0 q1 q2
      have HI0 := Lib.hid hi0
      have HI1 := Lib.hid hi1
      have HI2 := Lib.hid hi2
      have HBW2 : Hid (Below w.heap.size w w2) := HBW.out.trans (hb2.mono HBW.out.size)
      obtain ⟨A0, c0, rfl, _, _, _⟩ := hi0
      obtain ⟨A1, c1, rfl, _, _, _⟩ := hi1
      obtain ⟨A2, c2, rfl, _, _, _⟩ := hi2
      clear hb2 d0 d1 d2 d3 d4 HBW
      go_wp2_with fail
      go_loopw [4, 42] (fun o i wr => ∃ (k : Nat) (l : List UInt8), k ≤ 3 ∧ i = .int .i64 k ∧ o = .string ⟨l.toArray⟩ ∧ Hid (l.length ≤ 8030 + 72009 * k ∧ Below w2.heap.size w2 wr) ∧ Hid (l = preL a k ∧ preR a k)) (fun _ i _ => 3 - (intOf i).toNat)
      case atStart => exact ⟨0, l, by omega, rfl, rfl, ⟨by have := HL2.out; omega, Below.refl _ _⟩, HE.out, trivial⟩
      case round =>
        clear HE
        obtain ⟨k, l, hk, rfl, rfl, HI, HE⟩ := hrel
        rename World => wr
        have hsl := ba_size l
        have hll := HI.out.1
        by_cases hk3 : k = 3
        · subst hk3
          go_wp2_with fail
          refine (seal_ex HT l (by omega) _).mono ?_
          rintro e w3 ⟨(⟨hs6, rfl, hH⟩ | ⟨hs6, rfl⟩), hb3⟩
          · have HB3 := Lib.hid hb3
            have HS6 := Lib.hid hs6
            clear hH hb3 hs6
            go_wp2_with fail
            go_ret2
            exact ⟨(HBW2.out.trans (HI.out.2.mono HBW2.out.size)).trans (HB3.out.mono (by have := HBW2.out.size; have := HI.out.2.size; omega)), .inl ⟨HE.out.2, by have h6 := HS6.out; rw [HE.out.1] at h6; exact h6, by rw [HE.out.1]; rfl⟩⟩
          · have HB3 := Lib.hid hb3
            have HS6 := Lib.hid hs6
            clear hb3 hs6
            go_wp2_with fail
            go_ret2
            exact ⟨(HBW2.out.trans (HI.out.2.mono HBW2.out.size)).trans (HB3.out.mono (by have := HBW2.out.size; have := HI.out.2.size; omega)), .inr (.inr ⟨HE.out.2, by have h6 := HS6.out; rw [HE.out.1] at h6; exact h6, rfl⟩)⟩
        · obtain rfl | rfl | rfl : k = 0 ∨ k = 1 ∨ k = 2 := by omega
          · have hI := (HI0.out.below HI.out.2).more HI.out.2.size
            obtain ⟨x0, x1, x2⟩ := index3 wr A0 A1 A2 l0.length l1.length l2.length c0 c1 c2
            go_wp2_with fail
            clear x0 x1 x2
            refine (list_any l0 n0 _ _ hI).mono ?_
            rintro e w3 ⟨hb3, (⟨hR, hbl, rfl⟩ | ⟨hR, rfl⟩)⟩
            · have HR := Lib.hid hR
              clear hR
              generalize hbb : encL l0 = b at *
              have HBB := Lib.hid hbb
              clear hbb
              have HB3 := Lib.hid hb3
              have HAP := Lib.hid (ba_app l b)
              have hsb := ba_size b
              clear hb3
              go_wp2_with fail
              rw [HAP.out]
              go_roundw
              case rel => exact ⟨0 + 1, l ++ b, by omega, by go_num, rfl, ⟨by rw [List.length_append]; omega, HI.out.2.trans (HB3.out.mono HI.out.2.size)⟩, by rw [HE.out.1, ← HBB.out, HQ0.out]; rfl, show AllRng (tksL a.tk) from HQ0.out ▸ HR.out⟩
              case measure => simp [intOf]
            · have HR := Lib.hid hR
              clear hR
              have HB3 := Lib.hid hb3
              clear hb3
              go_wp2_with fail
              go_ret2
              exact ⟨(HBW2.out.trans (HI.out.2.mono HBW2.out.size)).trans (HB3.out.mono (by have := HBW2.out.size; have := HI.out.2.size; omega)), .inr (.inl ⟨fun h => HR.out (HQ0.out ▸ h.1), rfl⟩)⟩
          · have hI := (HI1.out.below HI.out.2).more HI.out.2.size
            obtain ⟨x0, x1, x2⟩ := index3 wr A0 A1 A2 l0.length l1.length l2.length c0 c1 c2
            go_wp2_with fail
            clear x0 x1 x2
            refine (list_any l1 n1 _ _ hI).mono ?_
            rintro e w3 ⟨hb3, (⟨hR, hbl, rfl⟩ | ⟨hR, rfl⟩)⟩
            · have HR := Lib.hid hR
              clear hR
              generalize hbb : encL l1 = b at *
              have HBB := Lib.hid hbb
              clear hbb
              have HB3 := Lib.hid hb3
              have HAP := Lib.hid (ba_app l b)
              have hsb := ba_size b
              clear hb3
              go_wp2_with fail
              rw [HAP.out]
              go_roundw
              case rel => exact ⟨1 + 1, l ++ b, by omega, by go_num, rfl, ⟨by rw [List.length_append]; omega, HI.out.2.trans (HB3.out.mono HI.out.2.size)⟩, by rw [HE.out.1, ← HBB.out, HQ1.out]; rfl, ⟨HE.out.2, HQ1.out ▸ HR.out⟩⟩
              case measure => simp [intOf]
            · have HR := Lib.hid hR
              clear hR
              have HB3 := Lib.hid hb3
              clear hb3
              go_wp2_with fail
              go_ret2
              exact ⟨(HBW2.out.trans (HI.out.2.mono HBW2.out.size)).trans (HB3.out.mono (by have := HBW2.out.size; have := HI.out.2.size; omega)), .inr (.inl ⟨fun h => HR.out (HQ1.out ▸ h.2.1), rfl⟩)⟩
          · have hI := (HI2.out.below HI.out.2).more HI.out.2.size
            obtain ⟨x0, x1, x2⟩ := index3 wr A0 A1 A2 l0.length l1.length l2.length c0 c1 c2
            go_wp2_with fail
            clear x0 x1 x2
            refine (list_any l2 n2 _ _ hI).mono ?_
            rintro e w3 ⟨hb3, (⟨hR, hbl, rfl⟩ | ⟨hR, rfl⟩)⟩
            · have HR := Lib.hid hR
              clear hR
              generalize hbb : encL l2 = b at *
              have HBB := Lib.hid hbb
              clear hbb
              have HB3 := Lib.hid hb3
              have HAP := Lib.hid (ba_app l b)
              have hsb := ba_size b
              clear hb3
              go_wp2_with fail
              rw [HAP.out]
              go_roundw
              case rel => exact ⟨2 + 1, l ++ b, by omega, by go_num, rfl, ⟨by rw [List.length_append]; omega, HI.out.2.trans (HB3.out.mono HI.out.2.size)⟩, by rw [HE.out.1, ← HBB.out, HQ2.out]; rfl, ⟨HE.out.2.1, HE.out.2.2, HQ2.out ▸ HR.out⟩⟩
              case measure => simp [intOf]
            · have HR := Lib.hid hR
              clear hR
              have HB3 := Lib.hid hb3
              clear hb3
              go_wp2_with fail
              go_ret2
              exact ⟨(HBW2.out.trans (HI.out.2.mono HBW2.out.size)).trans (HB3.out.mono (by have := HBW2.out.size; have := HI.out.2.size; omega)), .inr (.inl ⟨fun h => HR.out (HQ2.out ▸ h.2.2), rfl⟩)⟩
    · have hsl := ba_size l
      have hll := HI.out.1
      have e0 := (HI.out.2.cell (p := ⟨w1.heap.size, 0, none⟩) (by show w1.heap.size < _; omega)).trans HC.out.1
      have e1 := (HI.out.2.cell (p := ⟨w1.heap.size, 1, none⟩) (by show w1.heap.size < _; omega)).trans HC.out.2
      obtain rfl | rfl : k = 0 ∨ k = 1 := by omega
      · go_wp2_with fail
        refine (text_b a.ms (by omega) _).mono ?_
        rintro e w3 ⟨rfl, hb3⟩
        have hlx : (intL (a.ms.data.toList.length : Int) ++ a.ms.data.toList).length ≤ 4009 := by
          have h1 : a.ms.data.toList.length = a.ms.size := rfl
          have h2 := intL_nat a.ms.data.toList.length (by omega)
          rw [List.length_append]
          omega
        generalize hbb : intL (a.ms.data.toList.length : Int) ++ a.ms.data.toList = b at *
        have HBB := Lib.hid hbb
        clear hbb
        have HB3 := Lib.hid hb3
        have HAP := Lib.hid (ba_app l b)
        have hsb := ba_size b
        clear hb3
        go_wp2_with fail
        rw [HAP.out]
        go_roundw
        case rel => exact ⟨0 + 1, l ++ b, by omega, by go_num, rfl, ⟨by rw [List.length_append]; omega, HI.out.2.trans (HB3.out.mono HI.out.2.size)⟩, by rw [HE.out, ← HBB.out]; rfl⟩
        case measure => simp [intOf]
      · go_wp2_with fail
        refine (text_b a.lg (by omega) _).mono ?_
        rintro e w3 ⟨rfl, hb3⟩
        have hlx : (intL (a.lg.data.toList.length : Int) ++ a.lg.data.toList).length ≤ 4009 := by
          have h1 : a.lg.data.toList.length = a.lg.size := rfl
          have h2 := intL_nat a.lg.data.toList.length (by omega)
          rw [List.length_append]
          omega
        generalize hbb : intL (a.lg.data.toList.length : Int) ++ a.lg.data.toList = b at *
        have HBB := Lib.hid hbb
        clear hbb
        have HB3 := Lib.hid hb3
        have HAP := Lib.hid (ba_app l b)
        have hsb := ba_size b
        clear hb3
        go_wp2_with fail
        rw [HAP.out]
        go_roundw
        case rel => exact ⟨1 + 1, l ++ b, by omega, by go_num, rfl, ⟨by rw [List.length_append]; omega, HI.out.2.trans (HB3.out.mono HI.out.2.size)⟩, by rw [HE.out, ← HBB.out]; rfl⟩
        case measure => simp [intOf]
end Go.Proofs.YthlfhfliidhelaaGreatDoor

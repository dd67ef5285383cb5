/- metrics.Find. -/
import Derived.Test.YtpcbccpobhdokaaGreatDoorA5
set_option linter.unusedSimpArgs false
set_option linter.unusedVariables false
set_option linter.all false
namespace Go.Proofs.YtpcbccpobhdokaaGreatDoor
open Go.RowKit
def hitM (n : ByteArray) (i : Int) (x : Met) : Bool := (x.n.toList == n.toList) && (x.i == i)
def idxM (n : ByteArray) (i : Int) : List Met → Nat → Int
  | [], _ => -1
  | x :: l, k => if hitM n i x then (k : Int) else idxM n i l (k + 1)
theorem idx_ge (n : ByteArray) (i : Int) : ∀ (l : List Met) (k : Nat), idxM n i l k = -1 ∨ ((k : Int) ≤ idxM n i l k ∧ idxM n i l k < ((k + l.length : Nat) : Int))
  | [], k => .inl rfl
  | x :: l, k => by
    rw [idxM]
    by_cases h : hitM n i x
    · rw [if_pos h]; right; simp only [List.length_cons]; omega
    · rw [if_neg h]
      rcases idx_ge n i l (k + 1) with h1 | ⟨h1, h2⟩
      · exact .inl h1
      · right; simp only [List.length_cons]; omega
def Boxes (n : ByteArray) (i : Int) (p q : Nat) (W : World) : Prop := W.cell? ⟨p, 0, none⟩ = some (.string n) ∧ W.cell? ⟨q, 0, none⟩ = some (.int .i64 i)
set_option maxHeartbeats 4000000 in
theorem hit_any (n : ByteArray) (i : Int) (p q : Nat) (x : Met) (W : World) (hb : Boxes n i p q W) : Calls Tryz.prog 35 #[.agg #[.string x.n, .int .i64 x.i, .int .i64 x.a, .int .i64 x.b], .pointer (some ⟨p, 0, none⟩), .pointer (some ⟨q, 0, none⟩)] W fun e w' => e = .returned (.bool (hitM n i x)) ∧ Below W.heap.size W w' := by
  have k0 := cal (o := .cells #[.string x.n, .int .i64 x.i, .int .i64 x.a, .int .i64 x.b] 37) hb.1
  have k1 := cal (o := .cells #[.string x.n, .int .i64 x.i, .int .i64 x.a, .int .i64 x.b] 37) hb.2
  unfold hitM
  cases h1 : (x.n.toList == n.toList) with
  | false =>
    go_enter Tryz.func35, Tryz.ntmps35
    go_wp2_with fail
    refine bodyPost_ret (by (simp [results, Tryz.results35, go_sem, *]; try rfl)) rfl ?_
    exact ⟨rfl, (Below.refl _ W).alloc (Nat.le_refl _) _⟩
  | true =>
    cases h2 : (x.i == i) with
    | false =>
      go_enter Tryz.func35, Tryz.ntmps35
      go_wp2_with fail
      refine bodyPost_ret (by (simp [results, Tryz.results35, go_sem, *]; try rfl)) rfl ?_
      exact ⟨rfl, (Below.refl _ W).alloc (Nat.le_refl _) _⟩
    | true =>
      go_enter Tryz.func35, Tryz.ntmps35
      go_wp2_with fail
      refine bodyPost_ret (by (simp [results, Tryz.results35, go_sem, *]; try rfl)) rfl ?_
      exact ⟨rfl, (Below.refl _ W).alloc (Nat.le_refl _) _⟩
theorem idx_drop (n : ByteArray) (i : Int) (l : List Met) (k : Nat) (h : k < l.length) : idxM n i (l.drop k) k = if hitM n i (l.getD k mz) then (k : Int) else idxM n i (l.drop (k + 1)) (k + 1) := by
  rw [drop_get l k h, idxM]
set_option maxHeartbeats 4000000 in
theorem indexM_any (n : ByteArray) (i : Int) (p q : Nat) (l : List Met) (V : Value) (w : World) (h : Mets w w.heap.size V l) (hl : l.length < 1000000) (hb : Boxes n i p q w) : Calls Tryz.prog 34 #[V, .func (.func 35) #[] #[.pointer (some ⟨p, 0, none⟩), .pointer (some ⟨q, 0, none⟩)]] w fun e w' => e = .returned (.int .i64 (idxM n i l 0)) ∧ Below w.heap.size w w' := by
  have hp : p < w.heap.size ∧ q < w.heap.size := ⟨World.block_lt_of_cell? _ _ hb.1, World.block_lt_of_cell? _ _ hb.2⟩
  have HC := Lib.hid (fun (x : Met) (W : World) (hw : Below w.heap.size w W) => hit_any n i p q x W ⟨(hw.cell (p := ⟨p, 0, none⟩) hp.1).trans hb.1, (hw.cell (p := ⟨q, 0, none⟩) hp.2).trans hb.2⟩)
  obtain ⟨A, c, rfl, h1, h2, h3⟩ := h
  have H3 := Lib.hid h3
  clear h3 hb hp
  go_enter Tryz.func34, Tryz.ntmps34
  go_wp2_with fail
  go_loopw [8] (fun s wr => ∃ k : Nat, k ≤ l.length ∧ s = .int .i64 k ∧ Hid (idxM n i (l.drop k) k = idxM n i l 0) ∧ Hid (Below w.heap.size w wr)) (fun s _ => l.length - (intOf s).toNat)
  case atStart => exact ⟨0, Nat.zero_le _, rfl, rfl, Below.refl _ _⟩
  case round =>
    obtain ⟨k, hk, rfl, HI, HB⟩ := hrel
    rename World => wq
    by_cases hkt : k < l.length
    · obtain ⟨B, o, rfl, hBl, hc⟩ := H3.out (by omega)
      have hkz : (k : Int) < (l.length : Int) := by omega
      have hx := hc k hkt
      have HD := Lib.hid (idx_drop n i l k hkt)
      obtain ⟨x, hxe⟩ : ∃ x, l.getD k mz = x := ⟨_, rfl⟩
      rw [hxe] at hx HD
      obtain ⟨g0, g1, g2, g3⟩ := hx
      have ec : ∀ q, wq.cell? ⟨B, q, none⟩ = w.cell? ⟨B, q, none⟩ := fun q => HB.out.cell (p := ⟨B, q, none⟩) hBl
      have c0 := (ec _).trans g0
      have c1 := (ec _).trans g1
      have c2 := (ec _).trans g2
      have c3 := (ec _).trans g3
      have HCC := Lib.hid (HC.out x wq HB.out)
      clear hc hxe g0 g1 g2 g3 ec
      go_wp2_with fail
      refine HCC.out.mono ?_
      rintro e w1 ⟨rfl, hb1⟩
      have HB1 := Lib.hid (HB.out.trans (hb1.mono HB.out.size))
      clear hb1
      cases hh : hitM n i x with
      | true =>
        have HR := Lib.hid (show idxM n i l 0 = (k : Int) by rw [← HI.out, HD.out, hh]; rfl)
        go_wp2_with fail
        refine bodyPost_ret (by (simp [results, Tryz.results34, go_sem, *]; try rfl)) rfl ?_
        exact ⟨by rw [HR.out], HB1.out⟩
      | false =>
        have HR := Lib.hid (show idxM n i (l.drop (k + 1)) (k + 1) = idxM n i l 0 by rw [← HI.out, HD.out, hh]; rfl)
        go_wp2_with fail
        go_roundw
        case rel => exact ⟨k + 1, by omega, by go_num, HR.out, HB1.out⟩
        case measure => simp [intOf]; omega
    · have hkz : ¬ (k : Int) < (l.length : Int) := by omega
      have HR := Lib.hid (show idxM n i l 0 = -1 by rw [← HI.out, show k = l.length by omega, List.drop_length]; rfl)
      go_wp2_with fail
      refine bodyPost_ret (by (simp [results, Tryz.results34, go_sem, *]; try rfl)) rfl ?_
      exact ⟨by rw [HR.out], HB.out⟩
def findV (l : List Met) (n : ByteArray) (i : Int) : Option (Int × Int) := (l.find? (hitM n i)).map fun x => (x.a, x.b)
def resV (o : Option (Int × Int)) : Value := match o with
  | none => .tuple #[.agg #[.int .i64 0, .int .i64 0], .bool false]
  | some (a, b) => .tuple #[.agg #[.int .i64 a, .int .i64 b], .bool true]
theorem idx_find (n : ByteArray) (i : Int) : ∀ (l : List Met) (k : Nat), (idxM n i l k = -1 ∧ l.find? (hitM n i) = none) ∨ ∃ j, j < l.length ∧ idxM n i l k = ((k + j : Nat) : Int) ∧ l.find? (hitM n i) = some (l.getD j mz)
  | [], k => .inl ⟨rfl, rfl⟩
  | x :: l, k => by
    rw [idxM]
    by_cases h : hitM n i x = true
    · rw [if_pos h]
      exact .inr ⟨0, by simp, by simp, by rw [List.find?_cons_of_pos h]; rfl⟩
    · rw [if_neg h, List.find?_cons_of_neg h]
      rcases idx_find n i l (k + 1) with h1 | ⟨j, h1, h2, h3⟩
      · exact .inl h1
      · exact .inr ⟨j + 1, by simpa using h1, by rw [h2]; congr 1; omega, by rw [h3]; rfl⟩
set_option maxHeartbeats 4000000 in
theorem find_any (l : List Met) (V : Value) (n : ByteArray) (i : Int) (w : World) (h : Mets w w.heap.size V l) (hl : l.length < 1000000) : Calls Tryz.prog 12 #[V, .string n, .int .i64 i] w fun e w' => e = .returned (resV (findV l n i)) ∧ Below w.heap.size w w' := by
  obtain ⟨W, hW⟩ : ∃ W, W = ((w.alloc (.cells #[.string n] 9)).alloc (.cells #[.int .i64 i] 3)).alloc (.cells #[.int .i64 0, .int .i64 0] 30) := ⟨_, rfl⟩
  have hz : W.heap.size = w.heap.size + 3 := by rw [hW]; simp
  have hBL : Below w.heap.size w W := by
    rw [hW]; exact ((((Below.refl _ w).alloc (Nat.le_refl _) _).alloc (by simp) _).alloc (by simp; omega) _)
  have b0 : W.cell? ⟨w.heap.size, 0, none⟩ = some (.string n) := by rw [hW]; exact cal (cal (cell_of_row _ _ 0 _ _ _ (heap_alloc_last _ _)))
  have b1 : W.cell? ⟨w.heap.size + 1, 0, none⟩ = some (.int .i64 i) := by rw [hW]; exact cal (cell_last1 w _ _ 0 rfl)
  have d0 : W.cell? ⟨w.heap.size + 1 + 1, 0, none⟩ = some (.int .i64 0) := by rw [hW]; exact cell_last2 w _ _ _ 0 rfl
  have d1 : W.cell? ⟨w.heap.size + 1 + 1, 1, none⟩ = some (.int .i64 0) := by rw [hW]; exact cell_last2 w _ _ _ 1 rfl
  have bz : ∀ o, W.frozen? ⟨w.heap.size + 1 + 1, o, none⟩ = false := fun o => by
    have h := f_box ((w.alloc (.cells #[.string n] 9)).alloc (.cells #[.int .i64 i] 3)) o
    simp only [World.size_alloc] at h
    rw [hW]; exact h
  have hM := h.base hBL hBL.size
  have HI := Lib.hid (indexM_any n i w.heap.size (w.heap.size + 1) l V W hM hl ⟨b0, b1⟩)
  have HBL := Lib.hid hBL
  obtain ⟨A, c, rfl, h1, h2, h3⟩ := hM
  have H3 := Lib.hid h3
  clear h3 hBL b0 b1 h
  unfold findV
  rcases idx_find n i l 0 with ⟨e1, e2⟩ | ⟨j, hj, e1, e2⟩
  · rw [e1] at HI
    rw [e2]
    clear e1 e2
    go_enter Tryz.func12, Tryz.ntmps12
    go_upto_region 1 with fail
    rw [← hW]
    clear hW
    go_wp2_with fail
    refine HI.out.mono ?_
    rintro e w1 ⟨rfl, hb1⟩
    have c0 := (hb1.cell (p := ⟨w.heap.size + 1 + 1, 0, none⟩) (by show w.heap.size + 1 + 1 < _; omega)).trans d0
    have c1 := (hb1.cell (p := ⟨w.heap.size + 1 + 1, 1, none⟩) (by show w.heap.size + 1 + 1 < _; omega)).trans d1
    have f0 := (hb1.frozen (p := ⟨w.heap.size + 1 + 1, 0, none⟩) (by show w.heap.size + 1 + 1 < _; omega)).trans (bz 0)
    have f1 := (hb1.frozen (p := ⟨w.heap.size + 1 + 1, 1, none⟩) (by show w.heap.size + 1 + 1 < _; omega)).trans (bz 1)
    have HB := Lib.hid (HBL.out.trans (hb1.mono (by omega)))
    clear bz d0 d1 hb1
    go_wp2_with fail
    obtain ⟨r0, r1⟩ := two_cells c0 c1 (.int .i64 0) (.int .i64 0)
    refine bodyPost_ret (by (simp [results, Tryz.results12, go_sem, r0, r1]; try rfl)) rfl ?_
    exact ⟨rfl, below_two HB.out (by omega) _ _⟩
  · rw [e1, Nat.zero_add] at HI
    rw [e2]
    obtain ⟨B, o, rfl, hB, hc⟩ := H3.out (by omega)
    have hx := hc j hj
    obtain ⟨x, hxe⟩ : ∃ x, l.getD j mz = x := ⟨_, rfl⟩
    rw [hxe] at hx ⊢
    obtain ⟨_, _, g2, g3⟩ := hx
    have hjz : (j : Int) < (l.length : Int) := by omega
    have hj0 : ¬ (j : Int) < 0 := by omega
    clear e1 e2 hc hxe
    go_enter Tryz.func12, Tryz.ntmps12
    go_upto_region 1 with fail
    rw [← hW]
    clear hW
    go_wp2_with fail
    refine HI.out.mono ?_
    rintro e w1 ⟨rfl, hb1⟩
    have c0 := (hb1.cell (p := ⟨w.heap.size + 1 + 1, 0, none⟩) (by show w.heap.size + 1 + 1 < _; omega)).trans d0
    have c1 := (hb1.cell (p := ⟨w.heap.size + 1 + 1, 1, none⟩) (by show w.heap.size + 1 + 1 < _; omega)).trans d1
    have f0 := (hb1.frozen (p := ⟨w.heap.size + 1 + 1, 0, none⟩) (by show w.heap.size + 1 + 1 < _; omega)).trans (bz 0)
    have f1 := (hb1.frozen (p := ⟨w.heap.size + 1 + 1, 1, none⟩) (by show w.heap.size + 1 + 1 < _; omega)).trans (bz 1)
    have k2 := (hb1.cell (p := ⟨B, o + j * 4 + 2, none⟩) (by show B < _; omega)).trans g2
    have k3 := (hb1.cell (p := ⟨B, o + j * 4 + 2 + 1, none⟩) (by show B < _; omega)).trans g3
    have HB := Lib.hid (HBL.out.trans (hb1.mono (by omega)))
    clear bz d0 d1 hb1 g2 g3
    go_wp2_with fail
    obtain ⟨r0, r1⟩ := two_cells c0 c1 (.int .i64 x.a) (.int .i64 x.b)
    refine bodyPost_ret (by (simp [results, Tryz.results12, go_sem, r0, r1]; try rfl)) rfl ?_
    exact ⟨rfl, below_two HB.out (by omega) _ _⟩
end Go.Proofs.YtpcbccpobhdokaaGreatDoor

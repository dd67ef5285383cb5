/- slices.Equal and slices.Contains over integers; Great. -/
import Derived.Test.YtgnlanfpholdaaaDoorF8
namespace Go.Proofs.YtgnlanfpholdaaaDoor
open Go.RowKit Go.Shelf
theorem eq_any (v1 v2 : Value) (xs ys : List Int) (w : World) (B1 B2 : Nat) (h1 : Ints w B1 v1 xs) (h2 : Ints w B2 v2 ys) : Calls Tryd.prog 18 #[v1, v2] w fun e w' => e = .returned (.bool (decide (xs = ys))) ∧ Below w.heap.size w w' := by
  obtain ⟨A1, c1, rfl, a1, m1, k1⟩ := h1
  obtain ⟨A2, c2, rfl, a2, m2, k2⟩ := h2
  unfold maxLen at m1 m2
  by_cases hl : xs.length = ys.length
  · by_cases h0 : 0 < xs.length
    · obtain ⟨b1, o1, rfl, _, g1⟩ := k1 h0
      obtain ⟨b2, o2, rfl, _, g2⟩ := k2 (by omega)
      refine (Tryd.slices_Equal_int b1 o1 xs.length c1 b2 o2 ys.length c2 xs ys w (Nat.le_refl _) (Nat.le_refl _) (by omega) (by omega) g1 g2).mono ?_
      rintro e w1 ⟨rfl, n, rfl⟩
      refine ⟨ret_bool ?_, below_drewN (Below.refl _ _) n⟩
      rw [List.take_length, List.take_length]
      by_cases h : xs = ys <;> simp [h]
    · have hx : xs = [] := List.eq_nil_of_length_eq_zero (by omega)
      have hy : ys = [] := List.eq_nil_of_length_eq_zero (by omega)
      subst hx; subst hy
      refine (Tryd.slices_Equal_int_empty A1 A2 c1 0 c2 w (by omega)).mono ?_
      rintro e w1 ⟨rfl, rfl⟩
      exact ⟨rfl, Below.refl _ _⟩
  · refine (Tryd.slices_Equal_int_lens A1 A2 xs.length c1 ys.length c2 w hl).mono ?_
    rintro e w1 ⟨rfl, rfl⟩
    refine ⟨ret_bool ?_, Below.refl _ _⟩
    rw [decide_eq_false]
    intro h
    exact hl (by rw [h])
theorem has_any (v : Value) (xs : List Int) (x : Int) (w : World) (B : Nat) (h : Ints w B v xs) : Calls Tryd.prog 24 #[v, .int .i64 x] w fun e w' => e = .returned (.bool (xs.contains x)) ∧ w' = w := by
  obtain ⟨A, c, rfl, a, m, k⟩ := h
  unfold maxLen at m
  by_cases h0 : 0 < xs.length
  · obtain ⟨b, o, rfl, _, g⟩ := k h0
    have := Tryd.slices_Contains_int b o xs.length c xs x w (Nat.le_refl _) (by omega) g
    rwa [List.take_length] at this
  · have hx : xs = [] := List.eq_nil_of_length_eq_zero (by omega)
    subst hx
    exact Tryd.slices_Contains_int_empty A c x w
/-- larger than the laws examine -/
def greatB (qs : List Int) (cs : List Con) : Bool := decide (20 < qs.length ∨ (12 < cs.length ∧ cs.length ≤ 64) ∨ 70 < cs.length)
set_option maxHeartbeats 2000000 in
theorem great_any (qv cv : Value) (qs : List Int) (cs : List Con) (w : World) (hq : Ints w w.heap.size qv qs) (hc : Cons w w.heap.size cv cs) : Calls Tryd.prog 11 #[.agg #[qv, cv]] w fun e w' => e = .returned (.bool (greatB qs cs)) ∧ Below w.heap.size w w' := by
  obtain ⟨A1, c1, rfl, hc1, hm1, _⟩ := hq
  obtain ⟨A2, c2, rfl, hc2, hm2, _⟩ := hc
  unfold maxLen at hm1 hm2
  by_cases h1 : 20 < qs.length
  · have HG : Hid (greatB qs cs = true) := by show _ = _; simp only [greatB, decide_eq_true_eq]; omega
    have i1 : (20 : Int) < qs.length := by omega
    go_enter Tryd.func11, Tryd.ntmps11
    go_wp2_with fail
    go_ret
    exact ⟨ret_bool (Eq.trans (by first | rfl | (simp; done) | (simp; omega)) HG.out.symm), by (repeat' (first | (with_reducible exact Below.refl _ _) | (with_reducible refine Below.alloc ?_ ?_ _) | (with_reducible refine Below.drew ?_) | (with_reducible refine below_drewN ?_ _) | (with_reducible refine Below.setCell ?_ ?_ _) | (with_reducible refine Below.trans ?_ (Below.mono (by assumption) ?_)) | (with_reducible exact Nat.le_refl _) | omega | (simp; omega) | (simp; done)))⟩
  · have i1 : (qs.length : Int) ≤ 20 := by omega
    by_cases h2 : 12 < cs.length
    · have i2 : (12 : Int) < cs.length := by omega
      by_cases h3 : cs.length ≤ 64
      · have HG : Hid (greatB qs cs = true) := by show _ = _; simp only [greatB, decide_eq_true_eq]; omega
        have i3 : (cs.length : Int) ≤ 64 := by omega
        go_enter Tryd.func11, Tryd.ntmps11
        go_wp2_with fail
        go_ret
        exact ⟨ret_bool (Eq.trans (by first | rfl | (simp; done) | (simp; omega)) HG.out.symm), by (repeat' (first | (with_reducible exact Below.refl _ _) | (with_reducible refine Below.alloc ?_ ?_ _) | (with_reducible refine Below.drew ?_) | (with_reducible refine below_drewN ?_ _) | (with_reducible refine Below.setCell ?_ ?_ _) | (with_reducible refine Below.trans ?_ (Below.mono (by assumption) ?_)) | (with_reducible exact Nat.le_refl _) | omega | (simp; omega) | (simp; done)))⟩
      · have i3 : (64 : Int) < cs.length := by omega
        by_cases h4 : 70 < cs.length
        · have HG : Hid (greatB qs cs = true) := by show _ = _; simp only [greatB, decide_eq_true_eq]; omega
          have i4 : (70 : Int) < cs.length := by omega
          go_enter Tryd.func11, Tryd.ntmps11
          go_wp2_with fail
          go_ret
          exact ⟨ret_bool (Eq.trans (by first | rfl | (simp; done) | (simp; omega)) HG.out.symm), by (repeat' (first | (with_reducible exact Below.refl _ _) | (with_reducible refine Below.alloc ?_ ?_ _) | (with_reducible refine Below.drew ?_) | (with_reducible refine below_drewN ?_ _) | (with_reducible refine Below.setCell ?_ ?_ _) | (with_reducible refine Below.trans ?_ (Below.mono (by assumption) ?_)) | (with_reducible exact Nat.le_refl _) | omega | (simp; omega) | (simp; done)))⟩
        · have HG : Hid (greatB qs cs = false) := by show _ = _; simp only [greatB, decide_eq_false_iff_not]; omega
          have i4 : (cs.length : Int) ≤ 70 := by omega
          go_enter Tryd.func11, Tryd.ntmps11
          go_wp2_with fail
          go_ret
          exact ⟨ret_bool (Eq.trans (by first | rfl | (simp; done) | (simp; omega)) HG.out.symm), by (repeat' (first | (with_reducible exact Below.refl _ _) | (with_reducible refine Below.alloc ?_ ?_ _) | (with_reducible refine Below.drew ?_) | (with_reducible refine below_drewN ?_ _) | (with_reducible refine Below.setCell ?_ ?_ _) | (with_reducible refine Below.trans ?_ (Below.mono (by assumption) ?_)) | (with_reducible exact Nat.le_refl _) | omega | (simp; omega) | (simp; done)))⟩
    · have HG : Hid (greatB qs cs = false) := by show _ = _; simp only [greatB, decide_eq_false_iff_not]; omega
      have i2 : (cs.length : Int) ≤ 12 := by omega
      have i4 : (cs.length : Int) ≤ 70 := by omega
      go_enter Tryd.func11, Tryd.ntmps11
      go_wp2_with fail
      go_ret
      exact ⟨ret_bool (Eq.trans (by first | rfl | (simp; done) | (simp; omega)) HG.out.symm), by (repeat' (first | (with_reducible exact Below.refl _ _) | (with_reducible refine Below.alloc ?_ ?_ _) | (with_reducible refine Below.drew ?_) | (with_reducible refine below_drewN ?_ _) | (with_reducible refine Below.setCell ?_ ?_ _) | (with_reducible refine Below.trans ?_ (Below.mono (by assumption) ?_)) | (with_reducible exact Nat.le_refl _) | omega | (simp; omega) | (simp; done)))⟩
end Go.Proofs.YtgnlanfpholdaaaDoor

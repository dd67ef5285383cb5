/- slices.Contains over endpoints, slices.Equal over integers. -/
import Derived.Test.YtbhmmffompapdaaDoorE14
namespace Go.Proofs.YtbhmmffompapdaaDoor
open Go.RowKit
theorem equal_any (va vb : Value) (a b : List Int) (w : World) (B : Nat) (ha : Ints w B va a) (hb : Ints w B vb b) : Calls Tryd.prog 22 #[va, vb] w fun e w' => e = .returned (.bool (decide (a = b))) ∧ ∃ q, w' = w.drewN q := by
  obtain ⟨A1, c1, rfl, hc1, hm1, hA1⟩ := ha
  obtain ⟨A2, c2, rfl, hc2, hm2, hA2⟩ := hb
  unfold maxLen at hm1 hm2
  by_cases hl : a.length = b.length
  · by_cases h0 : 0 < a.length
    · obtain ⟨b1, o1, rfl, _, hx1⟩ := hA1 h0
      obtain ⟨b2, o2, rfl, _, hx2⟩ := hA2 (by omega)
      refine (Tryd.slices_Equal_int b1 o1 a.length c1 b2 o2 b.length c2 a b w (Nat.le_refl _) (Nat.le_refl _) (by omega) (by omega) hx1 hx2).mono ?_
      rintro e w' ⟨rfl, h⟩
      refine ⟨?_, h⟩
      have : (a == b) = decide (a = b) := by rw [Bool.eq_iff_iff]; simp
      rw [List.take_length, List.take_length, this]
    · obtain rfl : a = [] := by cases a <;> simp_all
      obtain rfl : b = [] := by cases b <;> simp_all
      refine (Tryd.slices_Equal_int_empty A1 A2 c1 0 c2 w (by omega)).mono ?_
      rintro e w' ⟨rfl, rfl⟩
      exact ⟨rfl, 0, rfl⟩
  · refine (Tryd.slices_Equal_int_lens A1 A2 a.length c1 b.length c2 w hl).mono ?_
    rintro e w' ⟨rfl, rfl⟩
    exact ⟨by rw [decide_eq_false fun e => hl (by rw [e])], 0, rfl⟩
/-- the first place of an endpoint in a list, from k on -/
def epFind (p : Int × Int) : List (Int × Int) → Nat → Int
  | [], _ => -1
  | a :: t, k => if p = a then (k : Int) else epFind p t (k + 1)
theorem epFind_step (l : List (Int × Int)) (p : Int × Int) (k : Nat) (h : k < l.length) : epFind p (l.drop k) k = if p = l.getD k (0, 0) then (k : Int) else epFind p (l.drop (k + 1)) (k + 1) := by
  rw [drop_eq l k h, epFind]
theorem epFind_has (p : Int × Int) : ∀ (l : List (Int × Int)) (k : Nat), decide (0 ≤ epFind p l k) = l.contains p
  | [], k => by simp [epFind]
  | a :: t, k => by
    rw [epFind, List.contains_cons]
    by_cases h : p = a
    · simp [h]
    · rw [if_neg h, epFind_has p t (k + 1)]; simp [h]
set_option maxHeartbeats 1000000 in
theorem indexEp_any (v : Value) (l : List (Int × Int)) (k1 n1 : Int) (w : World) (ha : Eps w w.heap.size v l) : Calls Tryd.prog 37 #[v, .agg #[.int .i64 k1, .int .i64 n1]] w fun e w' => e = .returned (.int .i64 (epFind (k1, n1) l 0)) ∧ Below w.heap.size w w' := by
  obtain ⟨A1, c1, rfl, hc1, hm1, hA1⟩ := ha
  unfold maxLen at hm1
  have HA1 := Lib.hid hA1
  clear hA1
  go_enter Tryd.func37, Tryd.ntmps37
  go_wp2_with fail
  go_loopw [8] (fun i wr => ∃ k : Nat, k ≤ l.length ∧ i = .int .i64 k ∧ Hid (epFind (k1, n1) (l.drop k) k = epFind (k1, n1) l 0) ∧ ∃ q, wr = (w.alloc (.cells #[.int .i64 k1, .int .i64 n1] 23)).drewN q) (fun i _ => l.length - (intOf i).toNat)
  case atStart => exact ⟨0, by omega, rfl, rfl, 0, rfl⟩
  case round =>
    obtain ⟨k, hk, rfl, hr, q, rfl⟩ := hrel
    by_cases hlt : k < l.length
    · obtain ⟨b1, o1, rfl, hb1, hcell1⟩ := HA1.out (by omega)
      obtain ⟨x1, x2⟩ := hcell1 k hlt
      have HST := Lib.hid (epFind_step l (k1, n1) k hlt)
      clear hcell1
      generalize l.getD k (0, 0) = p2 at *
      obtain ⟨k2, n2⟩ := p2
      have y1 : (w.alloc (.cells #[.int .i64 k1, .int .i64 n1] 23)).cell? ⟨b1, o1 + k * 2, none⟩ = some (.int .i64 k2) := by rw [World.cell?_alloc_lt _ _ _ hb1]; exact x1
      have y2 : (w.alloc (.cells #[.int .i64 k1, .int .i64 n1] 23)).cell? ⟨b1, o1 + k * 2 + 1, none⟩ = some (.int .i64 n2) := by rw [World.cell?_alloc_lt _ _ _ hb1]; exact x2
      have i1 : (0 : Int) ≤ k := by omega
      have i2 : (k : Int) < l.length := by omega
      cases hq : decide ((k1, n1) = (k2, n2))
      · have hne : ∀ w, (binOp .eql 23 (.agg #[.int .i64 k1, .int .i64 n1]) (.agg #[.int .i64 k2, .int .i64 n2])).run Tryd.prog w = .ok (.bool false) w := fun w => by rw [eql_ep, hq]
        have HT : Hid (epFind (k1, n1) (l.drop (k + 1)) (k + 1) = epFind (k1, n1) l 0) := by show _ = _; rw [← hr.out, HST.out, if_neg (of_decide_eq_false hq)]
        clear hq
        go_wp2_with fail
        go_quiet (fail)
        go_wp2_with fail
        go_roundw
        case rel => exact ⟨k + 1, by omega, by go_num, HT, _, rfl⟩
        case measure => simp [intOf]; omega
      · have hne : ∀ w, (binOp .eql 23 (.agg #[.int .i64 k1, .int .i64 n1]) (.agg #[.int .i64 k2, .int .i64 n2])).run Tryd.prog w = .ok (.bool true) w := fun w => by rw [eql_ep, hq]
        have HT : Hid (epFind (k1, n1) l 0 = k) := by show _ = _; rw [← hr.out, HST.out, if_pos (of_decide_eq_true hq)]
        clear hq
        go_wp2_with fail
        go_quiet (fail)
        go_wp2_with fail
        go_ret
        exact ⟨by rw [HT.out]; rfl, by (repeat' (first | (with_reducible exact Below.refl _ _) | (with_reducible refine Below.alloc ?_ ?_ _) | (with_reducible refine Below.drew ?_) | (with_reducible refine below_drewN ?_ _) | (with_reducible refine Below.setCell ?_ ?_ _) | (with_reducible refine Below.trans ?_ (Below.mono (by assumption) ?_)) | (with_reducible exact Nat.le_refl _) | omega | (simp; omega) | (simp; done)))⟩
    · have HT : Hid (epFind (k1, n1) l 0 = -1) := by show _ = _; rw [← hr.out, List.drop_of_length_le (by omega)]; rfl
      go_wp2_with fail
      go_ret
      exact ⟨by rw [HT.out]; rfl, by (repeat' (first | (with_reducible exact Below.refl _ _) | (with_reducible refine Below.alloc ?_ ?_ _) | (with_reducible refine Below.drew ?_) | (with_reducible refine below_drewN ?_ _) | (with_reducible refine Below.setCell ?_ ?_ _) | (with_reducible refine Below.trans ?_ (Below.mono (by assumption) ?_)) | (with_reducible exact Nat.le_refl _) | omega | (simp; omega) | (simp; done)))⟩
theorem contEp_any (v : Value) (l : List (Int × Int)) (k1 n1 : Int) (w : World) (ha : Eps w w.heap.size v l) : Calls Tryd.prog 17 #[v, .agg #[.int .i64 k1, .int .i64 n1]] w fun e w' => e = .returned (.bool (l.contains (k1, n1))) ∧ Below w.heap.size w w' := by
  have H := Lib.hid (epFind_has (k1, n1) l 0)
  go_enter Tryd.func17, Tryd.ntmps17
  go_wp2_with fail
  refine (indexEp_any v l k1 n1 _ ((ha.below (by (repeat' (first | (with_reducible exact Below.refl _ _) | (with_reducible refine Below.alloc ?_ ?_ _) | (with_reducible refine Below.drew ?_) | (with_reducible refine below_drewN ?_ _) | (with_reducible refine Below.setCell ?_ ?_ _) | (with_reducible refine Below.trans ?_ (Below.mono (by assumption) ?_)) | (with_reducible exact Nat.le_refl _) | omega | (simp; omega) | (simp; done))))).more (by (first | omega | (simp; done) | (simp; omega))))).mono ?_
  (rintro e w1 ⟨rfl, hb⟩; have hz : w.heap.size + 1 ≤ w1.heap.size := (Nat.le_trans (by (first | omega | (simp; done) | (simp; omega))) hb.size); have hk := bc (B := w.heap.size + 1) hb (by (first | omega | (simp; done) | (simp; omega))); have hf := bf (B := w.heap.size + 1) hb (by (first | omega | (simp; done) | (simp; omega))); have hy : w.heap.size < w1.heap.size := (by omega))
  go_wp2_with fail
  go_ret
  exact ⟨by rw [← H.out]; rfl, by (repeat' (first | (with_reducible exact Below.refl _ _) | (with_reducible refine Below.alloc ?_ ?_ _) | (with_reducible refine Below.drew ?_) | (with_reducible refine below_drewN ?_ _) | (with_reducible refine Below.setCell ?_ ?_ _) | (with_reducible refine Below.trans ?_ (Below.mono (by assumption) ?_)) | (with_reducible exact Nat.le_refl _) | omega | (simp; omega) | (simp; done)))⟩
end Go.Proofs.YtbhmmffompapdaaDoor

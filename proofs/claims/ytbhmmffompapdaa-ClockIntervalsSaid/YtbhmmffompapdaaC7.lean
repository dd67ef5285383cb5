/- Walks over clock.Drift and the reference Drift. -/
import Derived.Test.YtbhmmffompapdaaRows
import Derived.Test.YtbhmmffompapdaaC5
import Derived.WalkKit
import Derived.WalkSpells
import Derived.WalkLawsBesides
import Derived.Handy
import Derived.Deep.QuietTactic
import Derived.BigQuiet
import Derived.Deep.RegionHeld3
import Derived.Deep.DeepCutAuto
import Derived.Lib.Hide
namespace Go.Proofs.Ytbhmmffompapdaa
open Go.RowKit
theorem truth_bd (l a b n1 d1 n2 d2 t : Int) : 0 ≤ truthF l a b n1 d1 n2 d2 t ∧ truthF l a b n1 d1 n2 d2 t ≤ 2000000000000000000 ∧ 0 ≤ truthT l a b n1 d1 n2 d2 t ∧ truthT l a b n1 d1 n2 d2 t ≤ 1099511627776 ∧ 0 ≤ truthE l a b n1 d1 n2 d2 t ∧ truthE l a b n1 d1 n2 d2 t ≤ 16 := by
  have hE : 0 ≤ truthE l a b n1 d1 n2 d2 t ∧ truthE l a b n1 d1 n2 d2 t ≤ 16 := by
    unfold truthE; repeat' split
    all_goals omega
  refine (fun h : 0 ≤ truthF l a b n1 d1 n2 d2 t ∧ truthF l a b n1 d1 n2 d2 t ≤ 2000000000000000000 ∧ 0 ≤ truthT l a b n1 d1 n2 d2 t ∧ truthT l a b n1 d1 n2 d2 t ≤ 1099511627776 => ⟨h.1, h.2.1, h.2.2.1, h.2.2.2, hE⟩) ?_
  unfold truthF truthT
  split
  · rename_i h
    unfold truthE at h
    split at h
    · cases h
    split at h
    · cases h
    split at h
    · cases h
    split at h
    · cases h
    rename_i h1 h2 h3 h4
    have hc := clk_ok (Decidable.not_not.1 h1)
    obtain ⟨c1, c2, c3, c4, c5, c6, c7, c8, c9, c10, c11, c12, c13, c14, c15, c16, c17, c18⟩ := hc
    obtain ⟨p1, p2⟩ := mul_pos_bd (t - l + 1) d1 1099511627777 1048576 (by omega) (by omega) (by omega) (by omega)
    obtain ⟨q1, q2⟩ := div_bd ((t - l + 1) * d1 + n1 - 1) n1 (by omega) (by omega)
    have hT : 0 ≤ tTo l b n1 d1 t := by unfold tTo; omega
    have hF : 0 ≤ tFrom l a n1 d1 n2 d2 t ∧ tFrom l a n1 d1 n2 d2 t ≤ 2000000000000000000 := by
      unfold tFrom
      split
      · obtain ⟨p3, p4⟩ := mul_pos_bd (t - l - 1) d2 1099511627777 1048576 (by omega) (by omega) (by omega) (by omega)
        simp only [Int.reduceMul] at p4
        obtain ⟨q5, q6⟩ := div_bd ((t - l - 1) * d2) n2 (by omega) (by omega)
        omega
      · obtain ⟨q5, q6⟩ := div_bd (d1 + n1 - 1) n1 (by omega) (by omega)
        omega
    omega
  · omega
set_option maxHeartbeats 1000000 in
theorem Drift_any (l a b n1 d1 n2 d2 t : Int) (w : World) :
    Calls Try.prog 11 #[.agg #[.int .i64 l, .int .i64 a, .int .i64 b, .int .i64 n1, .int .i64 d1, .int .i64 n2, .int .i64 d2], .int .i64 t] w fun e w' => e = .returned (.tuple #[.int .i64 (truthT l a b n1 d1 n2 d2 t - truthF l a b n1 d1 n2 d2 t), .int .i64 (truthE l a b n1 d1 n2 d2 t)]) ∧ Below w.heap.size w w' := by
  obtain ⟨h1, h2, h3, h4, _⟩ := truth_bd l a b n1 d1 n2 d2 t
  go_enter Try.func11, Try.ntmps11
  go_wp2_with (first
    | (go_at_call 7; refine (Truth_any _ _ _ _ _ _ _ _ _).mono ?_; (rintro e w1 ⟨rfl, hb⟩; have hz : w.heap.size + 1 ≤ w1.heap.size := (Nat.le_trans (by (first | omega | (simp; done) | (simp; omega))) hb.size); have hk := bc (B := w.heap.size + 1) hb (by (first | omega | (simp; done) | (simp; omega))); have hf := bf (B := w.heap.size + 1) hb (by (first | omega | (simp; done) | (simp; omega))); have hy : w.heap.size < w1.heap.size := (by omega))))
  go_ret2
  exact ⟨rfl, by (repeat' (first | exact Below.refl _ _ | (with_reducible refine Below.alloc ?_ ?_ _) | (with_reducible refine Below.drew ?_) | (with_reducible refine below_drewN ?_ _) | (with_reducible refine Below.setCell ?_ ?_ _) | (refine Below.trans ?_ (Below.mono (by assumption) ?_)) | (with_reducible exact Nat.le_refl _) | omega | (simp; omega) | (simp; done)))⟩
set_option maxHeartbeats 1000000 in
theorem rDrift_any (l a b n1 d1 n2 d2 t : Int) (w : World) :
    Calls Try.prog 12 #[.agg #[.int .i64 l, .int .i64 a, .int .i64 b, .int .i64 n1, .int .i64 d1, .int .i64 n2, .int .i64 d2], .int .i64 t] w fun e w' => e = .returned (.tuple #[.int .i64 (truthT l a b n1 d1 n2 d2 t - truthF l a b n1 d1 n2 d2 t), .int .i64 (truthE l a b n1 d1 n2 d2 t)]) ∧ Below w.heap.size w w' := by
  obtain ⟨h1, h2, h3, h4, _⟩ := truth_bd l a b n1 d1 n2 d2 t
  go_enter Try.func12, Try.ntmps12
  go_wp2_with (first
    | (go_at_call 8; refine (rTruth_any _ _ _ _ _ _ _ _ _).mono ?_; (rintro e w1 ⟨rfl, hb⟩; have hz : w.heap.size + 1 ≤ w1.heap.size := (Nat.le_trans (by (first | omega | (simp; done) | (simp; omega))) hb.size); have hk := bc (B := w.heap.size + 1) hb (by (first | omega | (simp; done) | (simp; omega))); have hf := bf (B := w.heap.size + 1) hb (by (first | omega | (simp; done) | (simp; omega))); have hy : w.heap.size < w1.heap.size := (by omega))))
  go_ret2
  exact ⟨rfl, by (repeat' (first | exact Below.refl _ _ | (with_reducible refine Below.alloc ?_ ?_ _) | (with_reducible refine Below.drew ?_) | (with_reducible refine below_drewN ?_ _) | (with_reducible refine Below.setCell ?_ ?_ _) | (refine Below.trans ?_ (Below.mono (by assumption) ?_)) | (with_reducible exact Nat.le_refl _) | omega | (simp; omega) | (simp; done)))⟩
end Go.Proofs.Ytbhmmffompapdaa

/- Walk over clock.truth: the first and the last true time at which a clock can show a time. -/
import Derived.Test.YtbhmmffompapdaaRows
import Derived.Test.YtbhmmffompapdaaC3
import Derived.WalkKit
import Derived.WalkSpells
import Derived.WalkLawsBesides
import Derived.Handy
import Derived.Deep.QuietTactic
import Derived.BigQuiet
import Derived.Deep.RegionHeld3
import Derived.Deep.DeepCutAuto
import Derived.Lib.Hide
namespace Go.Proofs.Ytbhmmffompapdaa
open Go.RowKit
set_option maxHeartbeats 1000000 in
theorem truth_any (l a b n1 d1 n2 d2 t : Int) (w : World) (hc : ClkOk l a b n1 d1 n2 d2) (ht : l ≤ t) (ht2 : t ≤ 1099511627776) :
    Calls Try.prog 21 #[.agg #[.int .i64 l, .int .i64 a, .int .i64 b, .int .i64 n1, .int .i64 d1, .int .i64 n2, .int .i64 d2], .int .i64 t] w fun e w' => e = .returned (.agg #[.int .i64 (tFrom l a n1 d1 n2 d2 t), .int .i64 (tTo l b n1 d1 t)]) ∧ Below w.heap.size w w' := by
  obtain ⟨c1, c2, c3, c4, c5, c6, c7, c8, c9, c10, c11, c12, c13, c14, c15, c16, c17, c18⟩ := hc
  obtain ⟨p1, p2⟩ := mul_pos_bd (t - l + 1) d1 1099511627777 1048576 (by omega) (by omega) (by omega) (by omega)
  simp only [Int.reduceMul] at p2
  obtain ⟨q1, q2⟩ := div_bd ((t - l + 1) * d1 + n1 - 1) n1 (by omega) (by omega)
  obtain ⟨q3, q4⟩ := div_bd (d1 + n1 - 1) n1 (by omega) (by omega)
  have i1 : IntKind.i64.wrap (t - l + 1) = t - l + 1 := IntWalk.i64_in _ (by omega)
  have i2 : IntKind.i64.wrap ((t - l + 1) * d1) = (t - l + 1) * d1 := IntWalk.i64_in _ (by omega)
  have i3 : IntKind.i64.wrap (b + ((t - l + 1) * d1 + n1 - 1) / n1) = b + ((t - l + 1) * d1 + n1 - 1) / n1 := IntWalk.i64_in _ (by omega)
  have i4 : IntKind.i64.wrap (a - (d1 + n1 - 1) / n1) = a - (d1 + n1 - 1) / n1 := IntWalk.i64_in _ (by omega)
  go_enter Try.func21, Try.ntmps21
  go_upto_region 2 with fail
  go_cut [6] (fun s6 wx => s6 = .pointer (some ⟨w.heap.size + 1 + 1, 0, none⟩) ∧ wx = (((w.alloc (Obj.cells #[.int .i64 l, .int .i64 a, .int .i64 b, .int .i64 n1, .int .i64 d1, .int .i64 n2, .int .i64 d2] 27)).alloc (.cells #[.int .i64 0, .int .i64 0] 23)).alloc (.cells #[.int .i64 (a - (d1 + n1 - 1) / n1), .int .i64 (b + ((t - l + 1) * d1 + n1 - 1) / n1)] 23)).drew)
  case first =>
    go_region_held3 (fun w' => w'.cell? ⟨w.heap.size, 1, none⟩ = some (.int .i64 a) ∧ w'.cell? ⟨w.heap.size, 2, none⟩ = some (.int .i64 b) ∧ w'.cell? ⟨w.heap.size, 3, none⟩ = some (.int .i64 n1) ∧ w'.cell? ⟨w.heap.size, 4, none⟩ = some (.int .i64 d1)) (go_keep)
      (first | (go_at_call 24; refine (ceil_any _ _ _ (by omega) (by omega) (by omega)).mono ?_; rintro e w' ⟨rfl, rfl⟩))
    all_goals (go_wp2_with fail; go_meet; exact ⟨rfl, rfl⟩)
  case rest =>
    obtain ⟨rfl, rfl⟩ := hcut
    clear i1 i2 i3 i4
    by_cases hd : 1 ≤ t - l
    · obtain ⟨p3, p4⟩ := mul_pos_bd (t - l - 1) d2 1099511627777 1048576 (by omega) (by omega) (by omega) (by omega)
      simp only [Int.reduceMul] at p4
      obtain ⟨q5, q6⟩ := div_bd ((t - l - 1) * d2) n2 (by omega) (by omega)
      have i1 : IntKind.i64.wrap (t - l - 1) = t - l - 1 := IntWalk.i64_in _ (by omega)
      have i2 : IntKind.i64.wrap ((t - l - 1) * d2) = (t - l - 1) * d2 := IntWalk.i64_in _ (by omega)
      have i3 : IntKind.i64.wrap (a + (t - l - 1) * d2 / n2) = a + (t - l - 1) * d2 / n2 := IntWalk.i64_in _ (by omega)
      have hF : Hid (tFrom l a n1 d1 n2 d2 t = a + (t - l - 1) * d2 / n2) := by show _ = _; unfold tFrom; rw [if_pos hd]
      go_upto_region 4 with fail
      go_region_held3 (fun w' => w'.cell? ⟨w.heap.size, 1, none⟩ = some (.int .i64 a) ∧ w'.cell? ⟨w.heap.size, 5, none⟩ = some (.int .i64 n2) ∧ w'.cell? ⟨w.heap.size, 6, none⟩ = some (.int .i64 d2)) (go_keep)
        (first | (go_at_call 23; refine (floor_any _ _ _ (by omega) (by omega) (by omega)).mono ?_; rintro e w' ⟨rfl, rfl⟩))
      have hd0 : 0 ≤ a + (t - l - 1) * d2 / n2 := by omega
      go_wp2_with fail
      go_returns
      refine ⟨?_, by (repeat' (first | exact Below.refl _ _ | (with_reducible refine Below.alloc ?_ ?_ _) | (with_reducible refine Below.drew ?_) | (with_reducible refine below_drewN ?_ _) | (with_reducible refine Below.setCell ?_ ?_ _) | (refine Below.trans ?_ (Below.mono (by assumption) ?_)) | (with_reducible exact Nat.le_refl _) | omega | (simp; omega) | (simp; done)))⟩
      rw [hF.out]; rfl
    · have hF : Hid (tFrom l a n1 d1 n2 d2 t = max (a - (d1 + n1 - 1) / n1) 0) := by show _ = _; unfold tFrom; rw [if_neg hd]
      go_wp2_with fail
      all_goals
        go_returns
        refine ⟨?_, by (repeat' (first | exact Below.refl _ _ | (with_reducible refine Below.alloc ?_ ?_ _) | (with_reducible refine Below.drew ?_) | (with_reducible refine below_drewN ?_ _) | (with_reducible refine Below.setCell ?_ ?_ _) | (refine Below.trans ?_ (Below.mono (by assumption) ?_)) | (with_reducible exact Nat.le_refl _) | omega | (simp; omega) | (simp; done)))⟩
        rw [hF.out]
        first
        | (rw [Int.max_eq_left (by omega)]; rfl)
        | (rw [Int.max_eq_right (by omega)]; rfl)
end Go.Proofs.Ytbhmmffompapdaa

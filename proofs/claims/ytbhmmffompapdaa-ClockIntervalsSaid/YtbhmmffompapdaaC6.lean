/- Walks over clock.Local and the reference Local. -/
import Derived.Test.YtbhmmffompapdaaRows
import Derived.Test.YtbhmmffompapdaaC5
import Derived.WalkKit
import Derived.WalkSpells
import Derived.WalkLawsBesides
import Derived.Handy
import Derived.Deep.QuietTactic
import Derived.BigQuiet
import Derived.Deep.RegionHeld3
import Derived.Deep.DeepCutAuto
import Derived.Lib.Hide
namespace Go.Proofs.Ytbhmmffompapdaa
open Go.RowKit

/-- the local times at a true time -/
def lFrom (l b n1 d1 t : Int) : Int := l + (t - b) * n1 / d1
def lTo (l a n2 d2 t : Int) : Int := l + ((t - a) * n2 + d2 - 1) / d2
def localE (l a b n1 d1 n2 d2 t : Int) : Int :=
  if clkE l a b n1 d1 n2 d2 ≠ 0 then 1 else if t < 0 ∨ 1099511627776 < t then 2 else if t < b then 9
  else if 1099511627776 < lTo l a n2 d2 t then 16 else 0
def localF (l a b n1 d1 n2 d2 t : Int) : Int := if localE l a b n1 d1 n2 d2 t = 0 then lFrom l b n1 d1 t else 0
def localT (l a b n1 d1 n2 d2 t : Int) : Int := if localE l a b n1 d1 n2 d2 t = 0 then lTo l a n2 d2 t else 0
section
variable {l a b n1 d1 n2 d2 t : Int}
theorem lw1 (h : (clkE l a b n1 d1 n2 d2 != 0) = true) : localE l a b n1 d1 n2 d2 t = 1 := by
  unfold localE; rw [if_pos (by simpa using h)]
theorem lw2 (h : (clkE l a b n1 d1 n2 d2 != 0) = false) (h2 : t < 0 ∨ 1099511627776 < t) : localE l a b n1 d1 n2 d2 t = 2 := by
  unfold localE; rw [if_neg (by simpa using h), if_pos h2]
theorem lw3 (h : (clkE l a b n1 d1 n2 d2 != 0) = false) (h2 : 0 ≤ t) (h3 : t ≤ 1099511627776) (h4 : t < b) : localE l a b n1 d1 n2 d2 t = 9 := by
  unfold localE; rw [if_neg (by simpa using h), if_neg (by omega), if_pos h4]
theorem lw4 (h : (clkE l a b n1 d1 n2 d2 != 0) = false) (h2 : 0 ≤ t) (h3 : t ≤ 1099511627776) (h4 : b ≤ t) (h5 : 1099511627776 < lTo l a n2 d2 t) : localE l a b n1 d1 n2 d2 t = 16 := by
  unfold localE; rw [if_neg (by simpa using h), if_neg (by omega), if_neg (by omega), if_pos h5]
theorem lw5 (h : (clkE l a b n1 d1 n2 d2 != 0) = false) (h2 : 0 ≤ t) (h3 : t ≤ 1099511627776) (h4 : b ≤ t) (h5 : lTo l a n2 d2 t ≤ 1099511627776) : localE l a b n1 d1 n2 d2 t = 0 := by
  unfold localE; rw [if_neg (by simpa using h), if_neg (by omega), if_neg (by omega), if_neg (by omega)]
end

set_option maxHeartbeats 1000000 in
theorem Local_any (l a b n1 d1 n2 d2 t : Int) (w : World) :
    Calls Try.prog 9 #[.agg #[.int .i64 l, .int .i64 a, .int .i64 b, .int .i64 n1, .int .i64 d1, .int .i64 n2, .int .i64 d2], .int .i64 t] w fun e w' => e = .returned (.tuple #[.agg #[.int .i64 (localF l a b n1 d1 n2 d2 t), .int .i64 (localT l a b n1 d1 n2 d2 t)], .int .i64 (localE l a b n1 d1 n2 d2 t)]) ∧ Below w.heap.size w w' := by
  by_cases hc0 : clkE l a b n1 d1 n2 d2 = 0
  rotate_left
  · have hc1 : (clkE l a b n1 d1 n2 d2 != 0) = true := by simpa using hc0
    go_enter Try.func9, Try.ntmps9
    go_wp2_with (first
        | (go_at_call 13; refine (clkcheck_any _ _ _ _ _ _ _ _).mono ?_; (rintro e w1 ⟨rfl, hb⟩; have hz : w.heap.size + 1 + 1 ≤ w1.heap.size := (Nat.le_trans (by (first | omega | (simp; done) | (simp; omega))) hb.size); have hk := bc (B := w.heap.size + 1 + 1) hb (by (first | omega | (simp; done) | (simp; omega))); have hf := bf (B := w.heap.size + 1 + 1) hb (by (first | omega | (simp; done) | (simp; omega))); have hy : w.heap.size < w1.heap.size ∧ w.heap.size + 1 < w1.heap.size := (by omega)))
        | (go_at_call 20; refine (within_any _ _ _ _).mono ?_; (rintro e w1 ⟨rfl, rfl⟩)))
    refine bodyPost_ret (by (simp [results, Try.results9, go_sem, *]; try rfl)) rfl ?_
    refine ⟨?_, by (repeat' (first | exact Below.refl _ _ | (with_reducible refine Below.alloc ?_ ?_ _) | (with_reducible refine Below.drew ?_) | (with_reducible refine below_drewN ?_ _) | (with_reducible refine Below.setCell ?_ ?_ _) | (refine Below.trans ?_ (Below.mono (by assumption) ?_)) | (with_reducible exact Nat.le_refl _) | omega | (simp; omega) | (simp; done)))⟩
    rw [localF, localT, lw1 (by assumption)]; rfl
  have hcc : (clkE l a b n1 d1 n2 d2 != 0) = false := by simpa using hc0
  have Hc := Lib.hid hc0
  have HC := Lib.hid hcc
  obtain ⟨c1, c2, c3, c4, c5, c6, c7, c8, c9, c10, c11, c12, c13, c14, c15, c16, c17, c18⟩ := clk_ok hc0
  clear hc0 hcc
  by_cases ht : t < 0 ∨ 1099511627776 < t
  · have HE := Lib.hid (lw2 HC.out ht)
    by_cases ht3 : t < 0
    all_goals
      go_enter Try.func9, Try.ntmps9
      go_wp2_with (first
        | (go_at_call 13; refine (clkcheck_ok _ _ _ _ _ _ _ _ Hc).mono ?_; (rintro e w1 ⟨rfl, hb⟩; have hz : w.heap.size + 1 + 1 ≤ w1.heap.size := (Nat.le_trans (by (first | omega | (simp; done) | (simp; omega))) hb.size); have hk := bc (B := w.heap.size + 1 + 1) hb (by (first | omega | (simp; done) | (simp; omega))); have hf := bf (B := w.heap.size + 1 + 1) hb (by (first | omega | (simp; done) | (simp; omega))); have hy : w.heap.size < w1.heap.size ∧ w.heap.size + 1 < w1.heap.size := (by omega)))
        | (go_at_call 20; refine (within_any _ _ _ _).mono ?_; (rintro e w1 ⟨rfl, rfl⟩)))
      all_goals
        first
        | (exfalso; simp_all; omega)
        | (refine bodyPost_ret (by (simp [results, Try.results9, go_sem, *]; try rfl)) rfl ?_; refine ⟨?_, by (repeat' (first | exact Below.refl _ _ | (with_reducible refine Below.alloc ?_ ?_ _) | (with_reducible refine Below.drew ?_) | (with_reducible refine below_drewN ?_ _) | (with_reducible refine Below.setCell ?_ ?_ _) | (refine Below.trans ?_ (Below.mono (by assumption) ?_)) | (with_reducible exact Nat.le_refl _) | omega | (simp; omega) | (simp; done)))⟩; rw [localF, localT, HE.out]; rfl)
  have ht0 : 0 ≤ t := by omega
  have ht1 : t ≤ 1099511627776 := by omega
  clear ht
  by_cases ht : t < b
  · have HE := Lib.hid (lw3 HC.out ht0 ht1 ht)
    go_enter Try.func9, Try.ntmps9
    go_wp2_with (first
        | (go_at_call 13; refine (clkcheck_ok _ _ _ _ _ _ _ _ Hc).mono ?_; (rintro e w1 ⟨rfl, hb⟩; have hz : w.heap.size + 1 + 1 ≤ w1.heap.size := (Nat.le_trans (by (first | omega | (simp; done) | (simp; omega))) hb.size); have hk := bc (B := w.heap.size + 1 + 1) hb (by (first | omega | (simp; done) | (simp; omega))); have hf := bf (B := w.heap.size + 1 + 1) hb (by (first | omega | (simp; done) | (simp; omega))); have hy : w.heap.size < w1.heap.size ∧ w.heap.size + 1 < w1.heap.size := (by omega)))
        | (go_at_call 20; refine (within_any _ _ _ _).mono ?_; (rintro e w1 ⟨rfl, rfl⟩)))
    refine bodyPost_ret (by (simp [results, Try.results9, go_sem, *]; try rfl)) rfl ?_
    refine ⟨?_, by (repeat' (first | exact Below.refl _ _ | (with_reducible refine Below.alloc ?_ ?_ _) | (with_reducible refine Below.drew ?_) | (with_reducible refine below_drewN ?_ _) | (with_reducible refine Below.setCell ?_ ?_ _) | (refine Below.trans ?_ (Below.mono (by assumption) ?_)) | (with_reducible exact Nat.le_refl _) | omega | (simp; omega) | (simp; done)))⟩
    rw [localF, localT, HE.out]; rfl
  obtain ⟨p1, p2⟩ := mul_pos_bd (t - b) n1 1099511627777 1048576 (by omega) (by omega) (by omega) (by omega)
  obtain ⟨p3, p4⟩ := mul_pos_bd (t - a) n2 1099511627777 1048576 (by omega) (by omega) (by omega) (by omega)
  simp only [Int.reduceMul] at p2 p4
  obtain ⟨q1, q2⟩ := div_bd ((t - b) * n1) d1 (by omega) (by omega)
  obtain ⟨q3, q4⟩ := div_bd ((t - a) * n2 + d2 - 1) d2 (by omega) (by omega)
  go_enter Try.func9, Try.ntmps9
  go_wp2_with (first
        | (go_at_call 13; refine (clkcheck_ok _ _ _ _ _ _ _ _ Hc).mono ?_; (rintro e w1 ⟨rfl, hb⟩; have hz : w.heap.size + 1 + 1 ≤ w1.heap.size := (Nat.le_trans (by (first | omega | (simp; done) | (simp; omega))) hb.size); have hk := bc (B := w.heap.size + 1 + 1) hb (by (first | omega | (simp; done) | (simp; omega))); have hf := bf (B := w.heap.size + 1 + 1) hb (by (first | omega | (simp; done) | (simp; omega))); have hy : w.heap.size < w1.heap.size ∧ w.heap.size + 1 < w1.heap.size := (by omega)))
        | (go_at_call 20; refine (within_any _ _ _ _).mono ?_; (rintro e w1 ⟨rfl, rfl⟩)))
  have g0 : w1.cell? ⟨w.heap.size, 0, none⟩ = some (.int .i64 l) := by simp [*, go_sem]
  have g1 : w1.cell? ⟨w.heap.size, 1, none⟩ = some (.int .i64 a) := by simp [*, go_sem]
  have g2 : w1.cell? ⟨w.heap.size, 2, none⟩ = some (.int .i64 b) := by simp [*, go_sem]
  have g3 : w1.cell? ⟨w.heap.size, 3, none⟩ = some (.int .i64 n1) := by simp [*, go_sem]
  have g4 : w1.cell? ⟨w.heap.size, 4, none⟩ = some (.int .i64 d1) := by simp [*, go_sem]
  have g5 : w1.cell? ⟨w.heap.size, 5, none⟩ = some (.int .i64 n2) := by simp [*, go_sem]
  have g6 : w1.cell? ⟨w.heap.size, 6, none⟩ = some (.int .i64 d2) := by simp [*, go_sem]
  have r0 : w1.cell? ⟨w.heap.size + 1, 0, none⟩ = some (.int .i64 0) := by simp [*, go_sem]
  have r1 : w1.cell? ⟨w.heap.size + 1, 1, none⟩ = some (.int .i64 0) := by simp [*, go_sem]
  have f0 : w1.frozen? ⟨w.heap.size + 1, 0, none⟩ = false := by simp [*, go_sem]
  have f1 : w1.frozen? ⟨w.heap.size + 1, 1, none⟩ = false := by simp [*, go_sem]
  clear hk hf
  have i1 : IntKind.i64.wrap (t - b) = t - b := IntWalk.i64_in _ (by omega)
  have i2 : IntKind.i64.wrap (t - a) = t - a := IntWalk.i64_in _ (by omega)
  have i3 : IntKind.i64.wrap (n1 * (t - b)) = (t - b) * n1 := by rw [Int.mul_comm]; exact IntWalk.i64_in _ (by omega)
  have i4 : IntKind.i64.wrap (n2 * (t - a)) = (t - a) * n2 := by rw [Int.mul_comm]; exact IntWalk.i64_in _ (by omega)
  have i5 : IntKind.i64.wrap (l + (t - b) * n1 / d1) = l + (t - b) * n1 / d1 := IntWalk.i64_in _ (by omega)
  have i6 : IntKind.i64.wrap (l + ((t - a) * n2 + d2 - 1) / d2) = l + ((t - a) * n2 + d2 - 1) / d2 := IntWalk.i64_in _ (by omega)
  go_cut [6] (fun s6 wx => s6 = .pointer (some ⟨w1.heap.size, 0, none⟩) ∧ wx = (w1.alloc (.cells #[.int .i64 (lFrom l b n1 d1 t), .int .i64 (lTo l a n2 d2 t)] 23)).drew)
  case first =>
    go_region_held3 (fun w' => w'.cell? ⟨w.heap.size, 0, none⟩ = some (.int .i64 l) ∧ w'.cell? ⟨w.heap.size, 1, none⟩ = some (.int .i64 a) ∧ w'.cell? ⟨w.heap.size, 2, none⟩ = some (.int .i64 b) ∧ w'.cell? ⟨w.heap.size, 3, none⟩ = some (.int .i64 n1) ∧ w'.cell? ⟨w.heap.size, 4, none⟩ = some (.int .i64 d1) ∧ w'.cell? ⟨w.heap.size, 5, none⟩ = some (.int .i64 n2) ∧ w'.cell? ⟨w.heap.size, 6, none⟩ = some (.int .i64 d2)) (go_keep)
      (first
       | (go_at_call 23; refine (floor_any _ _ _ (by omega) (by omega) (by omega)).mono ?_; rintro e w' ⟨rfl, rfl⟩)
       | (go_at_call 24; refine (ceil_any _ _ _ (by omega) (by omega) (by omega)).mono ?_; rintro e w' ⟨rfl, rfl⟩)
       | (go_at_call 22; refine (up_any _ _ _ _ (by omega) (by omega) (by omega) (by omega)).mono ?_; rintro e w' ⟨rfl, rfl⟩))
    all_goals (go_wp2_with fail; go_meet; exact ⟨rfl, rfl⟩)
  case rest =>
    obtain ⟨rfl, rfl⟩ := hcut
    clear i1 i2 i3 i5 i6
    have hT : Hid (1099511627776 < lTo l a n2 d2 t → localE l a b n1 d1 n2 d2 t = 16) := fun h => lw4 HC.out ht0 ht1 (by omega) h
    have hT2 : Hid (lTo l a n2 d2 t ≤ 1099511627776 → localE l a b n1 d1 n2 d2 t = 0) := fun h => lw5 HC.out ht0 ht1 (by omega) h
    go_wp2_with fail
    all_goals
      refine bodyPost_ret (by (simp [results, Try.results9, go_sem, *]; try rfl)) rfl ?_
      refine ⟨?_, by (repeat' (first | exact Below.refl _ _ | (with_reducible refine Below.alloc ?_ ?_ _) | (with_reducible refine Below.drew ?_) | (with_reducible refine below_drewN ?_ _) | (with_reducible refine Below.setCell ?_ ?_ _) | (refine Below.trans ?_ (Below.mono (by assumption) ?_)) | (with_reducible exact Nat.le_refl _) | omega | (simp; omega) | (simp; done)))⟩
      first
      | (rw [localF, localT, hT.out (by assumption)]; rfl)
      | (rw [localF, localT, hT2.out (by assumption)]; rfl)

set_option maxHeartbeats 1000000 in
theorem rLocal_any (l a b n1 d1 n2 d2 t : Int) (w : World) :
    Calls Try.prog 10 #[.agg #[.int .i64 l, .int .i64 a, .int .i64 b, .int .i64 n1, .int .i64 d1, .int .i64 n2, .int .i64 d2], .int .i64 t] w fun e w' => e = .returned (.tuple #[.agg #[.int .i64 (localF l a b n1 d1 n2 d2 t), .int .i64 (localT l a b n1 d1 n2 d2 t)], .int .i64 (localE l a b n1 d1 n2 d2 t)]) ∧ Below w.heap.size w w' := by
  by_cases hc0 : clkE l a b n1 d1 n2 d2 = 0
  rotate_left
  · have hc1 : (clkE l a b n1 d1 n2 d2 != 0) = true := by simpa using hc0
    go_enter Try.func10, Try.ntmps10
    go_wp2_with (first
        | (go_at_call 14; refine (rclkcheck_any _ _ _ _ _ _ _ _).mono ?_; (rintro e w1 ⟨rfl, hb⟩; have hz : w.heap.size + 1 + 1 ≤ w1.heap.size := (Nat.le_trans (by (first | omega | (simp; done) | (simp; omega))) hb.size); have hk := bc (B := w.heap.size + 1 + 1) hb (by (first | omega | (simp; done) | (simp; omega))); have hf := bf (B := w.heap.size + 1 + 1) hb (by (first | omega | (simp; done) | (simp; omega))); have hy : w.heap.size < w1.heap.size ∧ w.heap.size + 1 < w1.heap.size := (by omega))))
    refine bodyPost_ret (by (simp [results, Try.results10, go_sem, *]; try rfl)) rfl ?_
    refine ⟨?_, by (repeat' (first | exact Below.refl _ _ | (with_reducible refine Below.alloc ?_ ?_ _) | (with_reducible refine Below.drew ?_) | (with_reducible refine below_drewN ?_ _) | (with_reducible refine Below.setCell ?_ ?_ _) | (refine Below.trans ?_ (Below.mono (by assumption) ?_)) | (with_reducible exact Nat.le_refl _) | omega | (simp; omega) | (simp; done)))⟩
    rw [localF, localT, lw1 (by assumption)]; rfl
  have hcc : (clkE l a b n1 d1 n2 d2 != 0) = false := by simpa using hc0
  have Hc := Lib.hid hc0
  have HC := Lib.hid hcc
  obtain ⟨c1, c2, c3, c4, c5, c6, c7, c8, c9, c10, c11, c12, c13, c14, c15, c16, c17, c18⟩ := clk_ok hc0
  clear hc0 hcc
  by_cases ht : t < 0 ∨ 1099511627776 < t
  · have HE := Lib.hid (lw2 HC.out ht)
    by_cases ht3 : t < 0
    all_goals
      go_enter Try.func10, Try.ntmps10
      go_wp2_with (first
        | (go_at_call 14; refine (rclkcheck_ok _ _ _ _ _ _ _ _ Hc).mono ?_; (rintro e w1 ⟨rfl, hb⟩; have hz : w.heap.size + 1 + 1 ≤ w1.heap.size := (Nat.le_trans (by (first | omega | (simp; done) | (simp; omega))) hb.size); have hk := bc (B := w.heap.size + 1 + 1) hb (by (first | omega | (simp; done) | (simp; omega))); have hf := bf (B := w.heap.size + 1 + 1) hb (by (first | omega | (simp; done) | (simp; omega))); have hy : w.heap.size < w1.heap.size ∧ w.heap.size + 1 < w1.heap.size := (by omega))))
      all_goals
        first
        | (exfalso; simp_all; omega)
        | (refine bodyPost_ret (by (simp [results, Try.results10, go_sem, *]; try rfl)) rfl ?_; refine ⟨?_, by (repeat' (first | exact Below.refl _ _ | (with_reducible refine Below.alloc ?_ ?_ _) | (with_reducible refine Below.drew ?_) | (with_reducible refine below_drewN ?_ _) | (with_reducible refine Below.setCell ?_ ?_ _) | (refine Below.trans ?_ (Below.mono (by assumption) ?_)) | (with_reducible exact Nat.le_refl _) | omega | (simp; omega) | (simp; done)))⟩; rw [localF, localT, HE.out]; rfl)
  have ht0 : 0 ≤ t := by omega
  have ht1 : t ≤ 1099511627776 := by omega
  clear ht
  by_cases ht : t < b
  · have HE := Lib.hid (lw3 HC.out ht0 ht1 ht)
    go_enter Try.func10, Try.ntmps10
    go_wp2_with (first
        | (go_at_call 14; refine (rclkcheck_ok _ _ _ _ _ _ _ _ Hc).mono ?_; (rintro e w1 ⟨rfl, hb⟩; have hz : w.heap.size + 1 + 1 ≤ w1.heap.size := (Nat.le_trans (by (first | omega | (simp; done) | (simp; omega))) hb.size); have hk := bc (B := w.heap.size + 1 + 1) hb (by (first | omega | (simp; done) | (simp; omega))); have hf := bf (B := w.heap.size + 1 + 1) hb (by (first | omega | (simp; done) | (simp; omega))); have hy : w.heap.size < w1.heap.size ∧ w.heap.size + 1 < w1.heap.size := (by omega))))
    refine bodyPost_ret (by (simp [results, Try.results10, go_sem, *]; try rfl)) rfl ?_
    refine ⟨?_, by (repeat' (first | exact Below.refl _ _ | (with_reducible refine Below.alloc ?_ ?_ _) | (with_reducible refine Below.drew ?_) | (with_reducible refine below_drewN ?_ _) | (with_reducible refine Below.setCell ?_ ?_ _) | (refine Below.trans ?_ (Below.mono (by assumption) ?_)) | (with_reducible exact Nat.le_refl _) | omega | (simp; omega) | (simp; done)))⟩
    rw [localF, localT, HE.out]; rfl
  obtain ⟨p1, p2⟩ := mul_pos_bd (t - b) n1 1099511627777 1048576 (by omega) (by omega) (by omega) (by omega)
  obtain ⟨p3, p4⟩ := mul_pos_bd (t - a) n2 1099511627777 1048576 (by omega) (by omega) (by omega) (by omega)
  simp only [Int.reduceMul] at p2 p4
  obtain ⟨q1, q2⟩ := div_bd ((t - b) * n1) d1 (by omega) (by omega)
  obtain ⟨q3, q4⟩ := div_bd ((t - a) * n2 + d2 - 1) d2 (by omega) (by omega)
  go_enter Try.func10, Try.ntmps10
  go_wp2_with (first
        | (go_at_call 14; refine (rclkcheck_ok _ _ _ _ _ _ _ _ Hc).mono ?_; (rintro e w1 ⟨rfl, hb⟩; have hz : w.heap.size + 1 + 1 ≤ w1.heap.size := (Nat.le_trans (by (first | omega | (simp; done) | (simp; omega))) hb.size); have hk := bc (B := w.heap.size + 1 + 1) hb (by (first | omega | (simp; done) | (simp; omega))); have hf := bf (B := w.heap.size + 1 + 1) hb (by (first | omega | (simp; done) | (simp; omega))); have hy : w.heap.size < w1.heap.size ∧ w.heap.size + 1 < w1.heap.size := (by omega))))
  have g0 : w1.cell? ⟨w.heap.size, 0, none⟩ = some (.int .i64 l) := by simp [*, go_sem]
  have g1 : w1.cell? ⟨w.heap.size, 1, none⟩ = some (.int .i64 a) := by simp [*, go_sem]
  have g2 : w1.cell? ⟨w.heap.size, 2, none⟩ = some (.int .i64 b) := by simp [*, go_sem]
  have g3 : w1.cell? ⟨w.heap.size, 3, none⟩ = some (.int .i64 n1) := by simp [*, go_sem]
  have g4 : w1.cell? ⟨w.heap.size, 4, none⟩ = some (.int .i64 d1) := by simp [*, go_sem]
  have g5 : w1.cell? ⟨w.heap.size, 5, none⟩ = some (.int .i64 n2) := by simp [*, go_sem]
  have g6 : w1.cell? ⟨w.heap.size, 6, none⟩ = some (.int .i64 d2) := by simp [*, go_sem]
  have r0 : w1.cell? ⟨w.heap.size + 1, 0, none⟩ = some (.int .i64 0) := by simp [*, go_sem]
  have r1 : w1.cell? ⟨w.heap.size + 1, 1, none⟩ = some (.int .i64 0) := by simp [*, go_sem]
  have f0 : w1.frozen? ⟨w.heap.size + 1, 0, none⟩ = false := by simp [*, go_sem]
  have f1 : w1.frozen? ⟨w.heap.size + 1, 1, none⟩ = false := by simp [*, go_sem]
  clear hk hf
  have i1 : IntKind.i64.wrap (t - b) = t - b := IntWalk.i64_in _ (by omega)
  have i2 : IntKind.i64.wrap (t - a) = t - a := IntWalk.i64_in _ (by omega)
  have i3 : IntKind.i64.wrap ((t - b) * n1) = (t - b) * n1 := IntWalk.i64_in _ (by omega)
  have i7 : ((t - b) * n1).tdiv d1 = (t - b) * n1 / d1 := Int.tdiv_eq_ediv_of_nonneg (by omega)
  have i8 : IntKind.i64.wrap ((t - b) * n1 / d1) = (t - b) * n1 / d1 := IntWalk.i64_in _ (by omega)
  have hn0 : ¬ d1 = 0 := by omega
  have i5 : IntKind.i64.wrap (l + (t - b) * n1 / d1) = l + (t - b) * n1 / d1 := IntWalk.i64_in _ (by omega)
  have i6 : IntKind.i64.wrap (l + ((t - a) * n2 + d2 - 1) / d2) = l + ((t - a) * n2 + d2 - 1) / d2 := IntWalk.i64_in _ (by omega)
  go_cut [6] (fun s6 wx => s6 = .pointer (some ⟨w1.heap.size, 0, none⟩) ∧ wx = (w1.alloc (.cells #[.int .i64 (lFrom l b n1 d1 t), .int .i64 (lTo l a n2 d2 t)] 23)).drew)
  case first =>
    go_region_held3 (fun w' => w'.cell? ⟨w.heap.size, 0, none⟩ = some (.int .i64 l) ∧ w'.cell? ⟨w.heap.size, 1, none⟩ = some (.int .i64 a) ∧ w'.cell? ⟨w.heap.size, 2, none⟩ = some (.int .i64 b) ∧ w'.cell? ⟨w.heap.size, 3, none⟩ = some (.int .i64 n1) ∧ w'.cell? ⟨w.heap.size, 4, none⟩ = some (.int .i64 d1) ∧ w'.cell? ⟨w.heap.size, 5, none⟩ = some (.int .i64 n2) ∧ w'.cell? ⟨w.heap.size, 6, none⟩ = some (.int .i64 d2)) (go_keep)
      (first
       | (go_at_call 23; refine (floor_any _ _ _ (by omega) (by omega) (by omega)).mono ?_; rintro e w' ⟨rfl, rfl⟩)
       | (go_at_call 24; refine (ceil_any _ _ _ (by omega) (by omega) (by omega)).mono ?_; rintro e w' ⟨rfl, rfl⟩)
       | (go_at_call 22; refine (up_any _ _ _ _ (by omega) (by omega) (by omega) (by omega)).mono ?_; rintro e w' ⟨rfl, rfl⟩))
    all_goals (go_wp2_with fail; go_meet; exact ⟨rfl, rfl⟩)
  case rest =>
    obtain ⟨rfl, rfl⟩ := hcut
    clear i1 i2 i3 i5 i6
    have hT : Hid (1099511627776 < lTo l a n2 d2 t → localE l a b n1 d1 n2 d2 t = 16) := fun h => lw4 HC.out ht0 ht1 (by omega) h
    have hT2 : Hid (lTo l a n2 d2 t ≤ 1099511627776 → localE l a b n1 d1 n2 d2 t = 0) := fun h => lw5 HC.out ht0 ht1 (by omega) h
    go_wp2_with fail
    all_goals
      refine bodyPost_ret (by (simp [results, Try.results10, go_sem, *]; try rfl)) rfl ?_
      refine ⟨?_, by (repeat' (first | exact Below.refl _ _ | (with_reducible refine Below.alloc ?_ ?_ _) | (with_reducible refine Below.drew ?_) | (with_reducible refine below_drewN ?_ _) | (with_reducible refine Below.setCell ?_ ?_ _) | (refine Below.trans ?_ (Below.mono (by assumption) ?_)) | (with_reducible exact Nat.le_refl _) | omega | (simp; omega) | (simp; done)))⟩
      first
      | (rw [localF, localT, hT.out (by assumption)]; rfl)
      | (rw [localF, localT, hT2.out (by assumption)]; rfl)
end Go.Proofs.Ytbhmmffompapdaa

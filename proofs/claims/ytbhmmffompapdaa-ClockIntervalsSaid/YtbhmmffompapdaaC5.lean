/- Walks over clock.Truth and the reference Truth: both return truthE, truthF, truthT. -/
import Derived.Test.YtbhmmffompapdaaRows
import Derived.Test.YtbhmmffompapdaaC4
import Derived.WalkKit
import Derived.WalkSpells
import Derived.WalkLawsBesides
import Derived.Handy
import Derived.Deep.QuietTactic
import Derived.BigQuiet
import Derived.Deep.RegionHeld3
import Derived.Deep.DeepCutAuto
import Derived.Lib.Hide
namespace Go.Proofs.Ytbhmmffompapdaa
open Go.RowKit
/-- what Truth returns: an error number, the least and the greatest true time -/
def truthE (l a b n1 d1 n2 d2 t : Int) : Int :=
  if clkE l a b n1 d1 n2 d2 ≠ 0 then 1 else if t < 0 ∨ 1099511627776 < t then 2 else if t < l then 9
  else if 1099511627776 < tTo l b n1 d1 t then 16 else 0
def truthF (l a b n1 d1 n2 d2 t : Int) : Int := if truthE l a b n1 d1 n2 d2 t = 0 then tFrom l a n1 d1 n2 d2 t else 0
def truthT (l a b n1 d1 n2 d2 t : Int) : Int := if truthE l a b n1 d1 n2 d2 t = 0 then tTo l b n1 d1 t else 0
theorem clk_of {l a b n1 d1 n2 d2 : Int} (h : (clkE l a b n1 d1 n2 d2 != 0) = false) : clkE l a b n1 d1 n2 d2 = 0 := by simpa using h
section
variable {l a b n1 d1 n2 d2 t : Int}
theorem tw1 (h : (clkE l a b n1 d1 n2 d2 != 0) = true) : truthE l a b n1 d1 n2 d2 t = 1 := by
  unfold truthE; rw [if_pos (by simpa using h)]
theorem tw2 (h : (clkE l a b n1 d1 n2 d2 != 0) = false) (h2 : t < 0 ∨ 1099511627776 < t) : truthE l a b n1 d1 n2 d2 t = 2 := by
  unfold truthE; rw [if_neg (by simpa using h), if_pos h2]
theorem tw3 (h : (clkE l a b n1 d1 n2 d2 != 0) = false) (h2 : 0 ≤ t) (h3 : t ≤ 1099511627776) (h4 : t < l) : truthE l a b n1 d1 n2 d2 t = 9 := by
  unfold truthE; rw [if_neg (by simpa using h), if_neg (by omega), if_pos h4]
theorem tw4 (h : (clkE l a b n1 d1 n2 d2 != 0) = false) (h2 : 0 ≤ t) (h3 : t ≤ 1099511627776) (h4 : l ≤ t) (h5 : 1099511627776 < tTo l b n1 d1 t) : truthE l a b n1 d1 n2 d2 t = 16 := by
  unfold truthE; rw [if_neg (by simpa using h), if_neg (by omega), if_neg (by omega), if_pos h5]
theorem tw5 (h : (clkE l a b n1 d1 n2 d2 != 0) = false) (h2 : 0 ≤ t) (h3 : t ≤ 1099511627776) (h4 : l ≤ t) (h5 : tTo l b n1 d1 t ≤ 1099511627776) : truthE l a b n1 d1 n2 d2 t = 0 := by
  unfold truthE; rw [if_neg (by simpa using h), if_neg (by omega), if_neg (by omega), if_neg (by omega)]
theorem nw1 (h : (!decide (0 ≤ t)) = true ∨ (!decide (t ≤ 1099511627776)) = true) : t < 0 ∨ 1099511627776 < t := by simp at h; omega
theorem nw2 (h : (!decide (0 ≤ t)) = false ∧ (!decide (t ≤ 1099511627776)) = false) : 0 ≤ t ∧ t ≤ 1099511627776 := by simp at h; omega
end
theorem truth_any' (l a b n1 d1 n2 d2 t : Int) (w : World) (hc : (clkE l a b n1 d1 n2 d2 != 0) = false) (ht : l ≤ t) (ht2 : t ≤ 1099511627776) :
    Calls Try.prog 21 #[.agg #[.int .i64 l, .int .i64 a, .int .i64 b, .int .i64 n1, .int .i64 d1, .int .i64 n2, .int .i64 d2], .int .i64 t] w fun e w' => e = .returned (.agg #[.int .i64 (tFrom l a n1 d1 n2 d2 t), .int .i64 (tTo l b n1 d1 t)]) ∧ Below w.heap.size w w' :=
  truth_any l a b n1 d1 n2 d2 t w (clk_ok (clk_of hc)) ht ht2
set_option maxHeartbeats 1000000 in
theorem Truth_any (l a b n1 d1 n2 d2 t : Int) (w : World) :
    Calls Try.prog 7 #[.agg #[.int .i64 l, .int .i64 a, .int .i64 b, .int .i64 n1, .int .i64 d1, .int .i64 n2, .int .i64 d2], .int .i64 t] w fun e w' => e = .returned (.tuple #[.agg #[.int .i64 (truthF l a b n1 d1 n2 d2 t), .int .i64 (truthT l a b n1 d1 n2 d2 t)], .int .i64 (truthE l a b n1 d1 n2 d2 t)]) ∧ Below w.heap.size w w' := by
  go_enter Try.func7, Try.ntmps7
  go_wp2_with (first
    | (go_at_call 13; refine (clkcheck_any _ _ _ _ _ _ _ _).mono ?_; (rintro e w1 ⟨rfl, hb⟩; have hz : w.heap.size + 1 + 1 ≤ w1.heap.size := (Nat.le_trans (by (first | omega | (simp; done) | (simp; omega))) hb.size); have hk := bc (B := w.heap.size + 1 + 1) hb (by (first | omega | (simp; done) | (simp; omega))); have hf := bf (B := w.heap.size + 1 + 1) hb (by (first | omega | (simp; done) | (simp; omega))); have hy : w.heap.size < w1.heap.size ∧ w.heap.size + 1 < w1.heap.size := (by omega)))
    | (go_at_call 20; refine (within_any _ _ _ _).mono ?_; rintro e w1 ⟨rfl, rfl⟩)
    | (go_at_call 21; refine (truth_any' _ _ _ _ _ _ _ _ _ (by assumption) (by assumption) (by simp_all)).mono ?_; (rintro e w1 ⟨rfl, hb⟩; have hz : w.heap.size + 1 + 1 ≤ w1.heap.size := (Nat.le_trans (by (first | omega | (simp; done) | (simp; omega))) hb.size); have hk := bc (B := w.heap.size + 1 + 1) hb (by (first | omega | (simp; done) | (simp; omega))); have hf := bf (B := w.heap.size + 1 + 1) hb (by (first | omega | (simp; done) | (simp; omega))); have hy : w.heap.size < w1.heap.size ∧ w.heap.size + 1 < w1.heap.size := (by omega))))
  all_goals
    refine bodyPost_ret (by (simp [results, Try.results7, go_sem, *]; try rfl)) rfl ?_
    refine ⟨?_, by (repeat' (first | exact Below.refl _ _ | (with_reducible refine Below.alloc ?_ ?_ _) | (with_reducible refine Below.drew ?_) | (with_reducible refine below_drewN ?_ _) | (with_reducible refine Below.setCell ?_ ?_ _) | (refine Below.trans ?_ (Below.mono (by assumption) ?_)) | (with_reducible exact Nat.le_refl _) | omega | (simp; omega) | (simp; done)))⟩
    first
    | (rw [truthF, truthT, tw1 (by assumption)]; rfl)
    | (rw [truthF, truthT, tw2 (by assumption) (nw1 (by assumption))]; rfl)
    | (rw [truthF, truthT, tw3 (by assumption) (nw2 (by assumption)).1 (nw2 (by assumption)).2 (by assumption)]; rfl)
    | (rw [truthF, truthT, tw4 (by assumption) (nw2 (by assumption)).1 (nw2 (by assumption)).2 (by assumption) (by assumption)]; rfl)
    | (rw [truthF, truthT, tw5 (by assumption) (nw2 (by assumption)).1 (nw2 (by assumption)).2 (by assumption) (by assumption)]; rfl)

theorem up1_any (a b : Int) (w : World) (h0 : 0 ≤ a) (h1 : a ≤ 4000000000000000000) (h2 : b ≤ 4000000000000000000) (h3 : 1 ≤ b) :
    Calls Try.prog 22 #[.int .i64 1, .int .i64 a, .int .i64 b] w fun e w' => e = .returned (.int .i64 ((a + b - 1) / b)) ∧ w = w' := by
  have := up_any 1 a b w (by omega) (by omega) h2 h3
  rwa [Int.one_mul] at this
theorem rclkcheck_ok (l a b n1 d1 n2 d2 : Int) (w : World) (h : Hid (clkE l a b n1 d1 n2 d2 = 0)) :
    Calls Try.prog 14 #[.agg #[.int .i64 l, .int .i64 a, .int .i64 b, .int .i64 n1, .int .i64 d1, .int .i64 n2, .int .i64 d2]] w fun e w' => e = .returned (.int .i64 0) ∧ Below w.heap.size w w' := by
  have := rclkcheck_any l a b n1 d1 n2 d2 w
  rwa [h.out] at this
theorem clkcheck_ok (l a b n1 d1 n2 d2 : Int) (w : World) (h : Hid (clkE l a b n1 d1 n2 d2 = 0)) :
    Calls Try.prog 13 #[.agg #[.int .i64 l, .int .i64 a, .int .i64 b, .int .i64 n1, .int .i64 d1, .int .i64 n2, .int .i64 d2]] w fun e w' => e = .returned (.int .i64 0) ∧ Below w.heap.size w w' := by
  have := clkcheck_any l a b n1 d1 n2 d2 w
  rwa [h.out] at this
set_option maxHeartbeats 1000000 in
theorem rTruth_any (l a b n1 d1 n2 d2 t : Int) (w : World) :
    Calls Try.prog 8 #[.agg #[.int .i64 l, .int .i64 a, .int .i64 b, .int .i64 n1, .int .i64 d1, .int .i64 n2, .int .i64 d2], .int .i64 t] w fun e w' => e = .returned (.tuple #[.agg #[.int .i64 (truthF l a b n1 d1 n2 d2 t), .int .i64 (truthT l a b n1 d1 n2 d2 t)], .int .i64 (truthE l a b n1 d1 n2 d2 t)]) ∧ Below w.heap.size w w' := by
  by_cases hc0 : clkE l a b n1 d1 n2 d2 = 0
  rotate_left
  · have hc1 : (clkE l a b n1 d1 n2 d2 != 0) = true := by simpa using hc0
    go_enter Try.func8, Try.ntmps8
    go_wp2_with (first
      | (go_at_call 14; refine (rclkcheck_any _ _ _ _ _ _ _ _).mono ?_; (rintro e w1 ⟨rfl, hb⟩; have hz : w.heap.size + 1 + 1 ≤ w1.heap.size := (Nat.le_trans (by (first | omega | (simp; done) | (simp; omega))) hb.size); have hk := bc (B := w.heap.size + 1 + 1) hb (by (first | omega | (simp; done) | (simp; omega))); have hf := bf (B := w.heap.size + 1 + 1) hb (by (first | omega | (simp; done) | (simp; omega))); have hy : w.heap.size < w1.heap.size ∧ w.heap.size + 1 < w1.heap.size := (by omega))))
    refine bodyPost_ret (by (simp [results, Try.results8, go_sem, *]; try rfl)) rfl ?_
    refine ⟨?_, by (repeat' (first | exact Below.refl _ _ | (with_reducible refine Below.alloc ?_ ?_ _) | (with_reducible refine Below.drew ?_) | (with_reducible refine below_drewN ?_ _) | (with_reducible refine Below.setCell ?_ ?_ _) | (refine Below.trans ?_ (Below.mono (by assumption) ?_)) | (with_reducible exact Nat.le_refl _) | omega | (simp; omega) | (simp; done)))⟩
    rw [truthF, truthT, tw1 (by assumption)]; rfl
  have hcc : (clkE l a b n1 d1 n2 d2 != 0) = false := by simpa using hc0
  have Hc := Lib.hid hc0
  have HC := Lib.hid hcc
  obtain ⟨c1, c2, c3, c4, c5, c6, c7, c8, c9, c10, c11, c12, c13, c14, c15, c16, c17, c18⟩ := clk_ok hc0
  clear hc0 hcc
  by_cases ht : t < 0 ∨ 1099511627776 < t
  · have HE := Lib.hid (tw2 HC.out ht)
    by_cases ht3 : t < 0
    all_goals
      go_enter Try.func8, Try.ntmps8
      go_wp2_with (first
        | (go_at_call 14; refine (rclkcheck_ok _ _ _ _ _ _ _ _ Hc).mono ?_; (rintro e w1 ⟨rfl, hb⟩; have hz : w.heap.size + 1 + 1 ≤ w1.heap.size := (Nat.le_trans (by (first | omega | (simp; done) | (simp; omega))) hb.size); have hk := bc (B := w.heap.size + 1 + 1) hb (by (first | omega | (simp; done) | (simp; omega))); have hf := bf (B := w.heap.size + 1 + 1) hb (by (first | omega | (simp; done) | (simp; omega))); have hy : w.heap.size < w1.heap.size ∧ w.heap.size + 1 < w1.heap.size := (by omega))))
      refine bodyPost_ret (by (simp [results, Try.results8, go_sem, *]; try rfl)) rfl ?_
      refine ⟨?_, by (repeat' (first | exact Below.refl _ _ | (with_reducible refine Below.alloc ?_ ?_ _) | (with_reducible refine Below.drew ?_) | (with_reducible refine below_drewN ?_ _) | (with_reducible refine Below.setCell ?_ ?_ _) | (refine Below.trans ?_ (Below.mono (by assumption) ?_)) | (with_reducible exact Nat.le_refl _) | omega | (simp; omega) | (simp; done)))⟩
      rw [truthF, truthT, HE.out]; rfl
  have ht0 : 0 ≤ t := by omega
  have ht1 : t ≤ 1099511627776 := by omega
  clear ht
  by_cases ht : t < l
  · have HE := Lib.hid (tw3 HC.out ht0 ht1 ht)
    go_enter Try.func8, Try.ntmps8
    go_wp2_with (first
      | (go_at_call 14; refine (rclkcheck_ok _ _ _ _ _ _ _ _ Hc).mono ?_; (rintro e w1 ⟨rfl, hb⟩; have hz : w.heap.size + 1 + 1 ≤ w1.heap.size := (Nat.le_trans (by (first | omega | (simp; done) | (simp; omega))) hb.size); have hk := bc (B := w.heap.size + 1 + 1) hb (by (first | omega | (simp; done) | (simp; omega))); have hf := bf (B := w.heap.size + 1 + 1) hb (by (first | omega | (simp; done) | (simp; omega))); have hy : w.heap.size < w1.heap.size ∧ w.heap.size + 1 < w1.heap.size := (by omega))))
    refine bodyPost_ret (by (simp [results, Try.results8, go_sem, *]; try rfl)) rfl ?_
    refine ⟨?_, by (repeat' (first | exact Below.refl _ _ | (with_reducible refine Below.alloc ?_ ?_ _) | (with_reducible refine Below.drew ?_) | (with_reducible refine below_drewN ?_ _) | (with_reducible refine Below.setCell ?_ ?_ _) | (refine Below.trans ?_ (Below.mono (by assumption) ?_)) | (with_reducible exact Nat.le_refl _) | omega | (simp; omega) | (simp; done)))⟩
    rw [truthF, truthT, HE.out]; rfl
  obtain ⟨p1, p2⟩ := mul_pos_bd (t - l + 1) d1 1099511627777 1048576 (by omega) (by omega) (by omega) (by omega)
  simp only [Int.reduceMul] at p2
  obtain ⟨q1, q2⟩ := div_bd ((t - l + 1) * d1 + n1 - 1) n1 (by omega) (by omega)
  obtain ⟨q3, q4⟩ := div_bd (d1 + n1 - 1) n1 (by omega) (by omega)
  go_enter Try.func8, Try.ntmps8
  go_wp2_with (first
    | (go_at_call 14; refine (rclkcheck_ok _ _ _ _ _ _ _ _ Hc).mono ?_; (rintro e w1 ⟨rfl, hb⟩; have hz : w.heap.size + 1 + 1 ≤ w1.heap.size := (Nat.le_trans (by (first | omega | (simp; done) | (simp; omega))) hb.size); have hk := bc (B := w.heap.size + 1 + 1) hb (by (first | omega | (simp; done) | (simp; omega))); have hf := bf (B := w.heap.size + 1 + 1) hb (by (first | omega | (simp; done) | (simp; omega))); have hy : w.heap.size < w1.heap.size ∧ w.heap.size + 1 < w1.heap.size := (by omega))))
  have g0 : w1.cell? ⟨w.heap.size, 0, none⟩ = some (.int .i64 l) := by simp [*, go_sem]
  have g1 : w1.cell? ⟨w.heap.size, 1, none⟩ = some (.int .i64 a) := by simp [*, go_sem]
  have g2 : w1.cell? ⟨w.heap.size, 2, none⟩ = some (.int .i64 b) := by simp [*, go_sem]
  have g3 : w1.cell? ⟨w.heap.size, 3, none⟩ = some (.int .i64 n1) := by simp [*, go_sem]
  have g4 : w1.cell? ⟨w.heap.size, 4, none⟩ = some (.int .i64 d1) := by simp [*, go_sem]
  have g5 : w1.cell? ⟨w.heap.size, 5, none⟩ = some (.int .i64 n2) := by simp [*, go_sem]
  have g6 : w1.cell? ⟨w.heap.size, 6, none⟩ = some (.int .i64 d2) := by simp [*, go_sem]
  have r0 : w1.cell? ⟨w.heap.size + 1, 0, none⟩ = some (.int .i64 0) := by simp [*, go_sem]
  have r1 : w1.cell? ⟨w.heap.size + 1, 1, none⟩ = some (.int .i64 0) := by simp [*, go_sem]
  have f0 : w1.frozen? ⟨w.heap.size + 1, 0, none⟩ = false := by simp [*, go_sem]
  have f1 : w1.frozen? ⟨w.heap.size + 1, 1, none⟩ = false := by simp [*, go_sem]
  clear hk hf
  have i1 : IntKind.i64.wrap (t - l + 1) = t - l + 1 := IntWalk.i64_in _ (by omega)
  have i3 : IntKind.i64.wrap (b + ((t - l + 1) * d1 + n1 - 1) / n1) = b + ((t - l + 1) * d1 + n1 - 1) / n1 := IntWalk.i64_in _ (by omega)
  go_cut [7] (fun s7 wx => s7 = .pointer (some ⟨w1.heap.size, 0, none⟩) ∧ wx = (w1.alloc (.cells #[.int .i64 0, .int .i64 (tTo l b n1 d1 t)] 23)).drew)
  case first =>
    go_region_held3 (fun w' => w'.cell? ⟨w.heap.size, 2, none⟩ = some (.int .i64 b) ∧ w'.cell? ⟨w.heap.size, 3, none⟩ = some (.int .i64 n1) ∧ w'.cell? ⟨w.heap.size, 4, none⟩ = some (.int .i64 d1)) (go_keep)
      (first | (go_at_call 22; refine (up_any _ _ _ _ (by omega) (by omega) (by omega) (by omega)).mono ?_; rintro e w' ⟨rfl, rfl⟩))
    all_goals (go_wp2_with fail; go_meet; exact ⟨rfl, rfl⟩)
  case rest =>
    obtain ⟨rfl, rfl⟩ := hcut
    clear i1 i3
    have hT : Hid (1099511627776 < tTo l b n1 d1 t → truthE l a b n1 d1 n2 d2 t = 16) := fun h => tw4 HC.out ht0 ht1 (by omega) h
    have hT2 : Hid (tTo l b n1 d1 t ≤ 1099511627776 → truthE l a b n1 d1 n2 d2 t = 0) := fun h => tw5 HC.out ht0 ht1 (by omega) h
    go_upto_if 43 with fail
    go_cut [] (fun wx => wx = (w1.alloc (.cells #[.int .i64 (tFrom l a n1 d1 n2 d2 t), .int .i64 (tTo l b n1 d1 t)] 23)).drew.drew)
    case first =>
      clear hT hT2
      by_cases hd : 0 < t - l
      · obtain ⟨p3, p4⟩ := mul_pos_bd (t - l - 1) d2 1099511627777 1048576 (by omega) (by omega) (by omega) (by omega)
        simp only [Int.reduceMul] at p4
        obtain ⟨q5, q6⟩ := div_bd ((t - l - 1) * d2) n2 (by omega) (by omega)
        have hF : Hid (tFrom l a n1 d1 n2 d2 t = a + (t - l - 1) * d2 / n2) := by show _ = _; unfold tFrom; rw [if_pos (by omega)]
        have i1 : IntKind.i64.wrap (t - l - 1) = t - l - 1 := IntWalk.i64_in _ (by omega)
        have i2 : IntKind.i64.wrap ((t - l - 1) * d2) = (t - l - 1) * d2 := IntWalk.i64_in _ (by omega)
        have i3 : IntKind.i64.wrap (a + (t - l - 1) * d2 / n2) = a + (t - l - 1) * d2 / n2 := IntWalk.i64_in _ (by omega)
        have i4 : ((t - l - 1) * d2).tdiv n2 = (t - l - 1) * d2 / n2 := Int.tdiv_eq_ediv_of_nonneg (by omega)
        have i5 : IntKind.i64.wrap ((t - l - 1) * d2 / n2) = (t - l - 1) * d2 / n2 := IntWalk.i64_in _ (by omega)
        have hn0 : ¬ n2 = 0 := by omega
        go_wp2_with fail
        go_region_held3 (fun w' => w'.cell? ⟨w.heap.size, 1, none⟩ = some (.int .i64 a) ∧ w'.cell? ⟨w.heap.size, 5, none⟩ = some (.int .i64 n2) ∧ w'.cell? ⟨w.heap.size, 6, none⟩ = some (.int .i64 d2)) (go_keep) (fail)
        all_goals
          go_wp2_with fail
          go_meet
          rw [hF.out]
      · have hF : Hid (tFrom l a n1 d1 n2 d2 t = max 0 (a - (d1 + n1 - 1) / n1)) := by show _ = _; unfold tFrom; rw [if_neg (by omega), Int.max_comm]
        have i4 : IntKind.i64.wrap (a - (d1 + n1 - 1) / n1) = a - (d1 + n1 - 1) / n1 := IntWalk.i64_in _ (by omega)
        · go_wp2_with fail
          go_region_held3 (fun w' => w'.cell? ⟨w.heap.size, 1, none⟩ = some (.int .i64 a) ∧ w'.cell? ⟨w.heap.size, 3, none⟩ = some (.int .i64 n1) ∧ w'.cell? ⟨w.heap.size, 4, none⟩ = some (.int .i64 d1)) (go_keep)
            (first | (go_at_call 22; refine (up1_any _ _ _ (by omega) (by omega) (by omega) (by omega)).mono ?_; rintro e w' ⟨rfl, rfl⟩))
          all_goals
            go_wp2_with fail
            all_goals
              go_meet
              rw [hF.out]
              first | (rw [Int.max_eq_left (by omega)]; done) | (rw [Int.max_eq_right (by omega)]; done) | (rw [Int.max_eq_left (by omega)]; rfl) | (rw [Int.max_eq_right (by omega)]; rfl)
    case rest =>
      subst hcut
      go_wp2_with fail
      all_goals
        refine bodyPost_ret (by (simp [results, Try.results8, go_sem, *]; try rfl)) rfl ?_
        refine ⟨?_, by (repeat' (first | exact Below.refl _ _ | (with_reducible refine Below.alloc ?_ ?_ _) | (with_reducible refine Below.drew ?_) | (with_reducible refine below_drewN ?_ _) | (with_reducible refine Below.setCell ?_ ?_ _) | (refine Below.trans ?_ (Below.mono (by assumption) ?_)) | (with_reducible exact Nat.le_refl _) | omega | (simp; omega) | (simp; done)))⟩
        first
        | (rw [truthF, truthT, hT.out (by assumption)]; rfl)
        | (rw [truthF, truthT, hT2.out (by assumption)]; rfl)
end Go.Proofs.Ytbhmmffompapdaa

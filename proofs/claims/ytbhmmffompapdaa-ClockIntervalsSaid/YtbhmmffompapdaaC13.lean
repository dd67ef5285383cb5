/- Walk over the anchor: the example of the chapter. -/
import Derived.Test.YtbhmmffompapdaaRows
import Derived.Test.YtbhmmffompapdaaC6
import Derived.Test.YtbhmmffompapdaaC7
import Derived.Test.YtbhmmffompapdaaC12
import Derived.WalkKit
import Derived.WalkSpells
import Derived.WalkLawsBesides
import Derived.Handy
import Derived.Deep.QuietTactic
import Derived.BigQuiet
import Derived.Deep.RegionHeld3
import Derived.Deep.DeepCutAuto
import Derived.Lib.Hide
namespace Go.Proofs.Ytbhmmffompapdaa
open Go.RowKit

theorem ex_ok : clkE 100 1000 1002 9 10 11 10 = 0 := by decide +kernel
theorem ex1 : truthE 100 1000 1002 9 10 11 10 210 = 0 ∧ truthF 100 1000 1002 9 10 11 10 210 = 1099 ∧ truthT 100 1000 1002 9 10 11 10 210 = 1126 := by decide +kernel
theorem ex2 : localE 100 1000 1002 9 10 11 10 1102 = 0 ∧ localF 100 1000 1002 9 10 11 10 1102 = 190 ∧ localT 100 1000 1002 9 10 11 10 1102 = 213 := by decide +kernel
theorem ex3 : gF 100 1000 9 10 11 10 1100 = 211 := by
  obtain ⟨f1, f2, f3, f4⟩ := gF_spec (clk_ok ex_ok) 1100
  have h1 : gp1 100 1000 9 10 11 10 1100 211 = true := by decide +kernel
  have h2 : gp1 100 1000 9 10 11 10 1100 210 = false := by decide +kernel
  generalize gF 100 1000 9 10 11 10 1100 = F at *
  have hm := gp1_mono (clk_ok ex_ok) 1100
  rcases Int.lt_trichotomy F 211 with h | h | h
  · exact absurd (hm F 210 (by omega) (f4 (by omega))) (by simp [h2])
  · exact h
  · exact absurd (f3 211 (by omega) h) (by simp [h1])
theorem ex4 : gT 100 1002 9 10 1200 = 277 := by
  obtain ⟨f1, f2, f3, f4⟩ := gT_spec (clk_ok ex_ok) 1200
  have h1 : gp2 100 1002 9 10 1200 277 = true := by decide +kernel
  have h2 : gp2 100 1002 9 10 1200 276 = false := by decide +kernel
  generalize gT 100 1002 9 10 1200 = F at *
  have hm := gp2_mono (clk_ok ex_ok) 1200
  rcases Int.lt_trichotomy F 277 with h | h | h
  · exact absurd (hm F 276 (by omega) (f4 (by omega))) (by simp [h2])
  · exact h
  · exact absurd (f3 277 (by omega) h) (by simp [h1])
theorem ex5 : guardE 100 1000 1002 9 10 11 10 1100 1200 = 0 ∧ guardF 100 1000 1002 9 10 11 10 1100 1200 = 211 ∧ guardT 100 1000 1002 9 10 11 10 1100 1200 = 277 := by
  have h : guardE 100 1000 1002 9 10 11 10 1100 1200 = 0 := by
    unfold guardE
    rw [if_neg (by simp [ex_ok]), if_neg (by omega), ex3, ex4, if_neg (by omega)]
  exact ⟨h, by rw [guardF, if_pos h, ex3], by rw [guardT, if_pos h, ex4]⟩
theorem example_any (w : World) : Calls Try.prog 32 #[] w fun e w' => e = .returned (.agg #[.int .i64 100, .int .i64 1000, .int .i64 1002, .int .i64 9, .int .i64 10, .int .i64 11, .int .i64 10]) ∧ Below w.heap.size w w' := by
  go_enter Try.func32, Try.ntmps32
  go_wp2_with fail
  refine bodyPost_ret (by (simp [results, Try.results32, go_sem, *]; try rfl)) rfl ?_
  exact ⟨rfl, by (repeat' (first | (with_reducible exact Below.refl _ _) | (with_reducible refine Below.alloc ?_ ?_ _) | (with_reducible refine Below.drew ?_) | (with_reducible refine below_drewN ?_ _) | (with_reducible refine Below.setCell ?_ ?_ _) | (with_reducible refine Below.trans ?_ (Below.mono (by assumption) ?_)) | (with_reducible exact Nat.le_refl _) | omega | (simp; omega) | (simp; done)))⟩
theorem xTruth (w : World) : Calls Try.prog 7 #[.agg #[.int .i64 100, .int .i64 1000, .int .i64 1002, .int .i64 9, .int .i64 10, .int .i64 11, .int .i64 10], .int .i64 210] w fun e w' => e = .returned (.tuple #[.agg #[.int .i64 1099, .int .i64 1126], .int .i64 0]) ∧ Below w.heap.size w w' := by
  have := Truth_any 100 1000 1002 9 10 11 10 210 w
  rwa [ex1.1, ex1.2.1, ex1.2.2] at this
theorem xDrift (w : World) : Calls Try.prog 11 #[.agg #[.int .i64 100, .int .i64 1000, .int .i64 1002, .int .i64 9, .int .i64 10, .int .i64 11, .int .i64 10], .int .i64 210] w fun e w' => e = .returned (.tuple #[.int .i64 27, .int .i64 0]) ∧ Below w.heap.size w w' := by
  have := Drift_any 100 1000 1002 9 10 11 10 210 w
  rwa [ex1.1, ex1.2.1, ex1.2.2] at this
theorem xLocal (w : World) : Calls Try.prog 9 #[.agg #[.int .i64 100, .int .i64 1000, .int .i64 1002, .int .i64 9, .int .i64 10, .int .i64 11, .int .i64 10], .int .i64 1102] w fun e w' => e = .returned (.tuple #[.agg #[.int .i64 190, .int .i64 213], .int .i64 0]) ∧ Below w.heap.size w w' := by
  have := Local_any 100 1000 1002 9 10 11 10 1102 w
  rwa [ex2.1, ex2.2.1, ex2.2.2] at this
theorem xGuard (w : World) : Calls Try.prog 16 #[.agg #[.int .i64 100, .int .i64 1000, .int .i64 1002, .int .i64 9, .int .i64 10, .int .i64 11, .int .i64 10], .agg #[.int .i64 1100, .int .i64 1200]] w fun e w' => e = .returned (.tuple #[.agg #[.int .i64 211, .int .i64 277], .int .i64 0]) ∧ Below w.heap.size w w' := by
  have := Guard_any 100 1000 1002 9 10 11 10 1100 1200 w
  rwa [ex5.1, ex5.2.1, ex5.2.2] at this
set_option maxHeartbeats 1000000 in
theorem awake_any (w : World) : Calls Try.prog 15 #[] w fun e w' => e = .returned (.bool true) ∧ Below w.heap.size w w' := by
  go_enter Try.func15, Try.ntmps15
  go_wp2_with fail
  refine (example_any _).mono ?_
  rintro e w1 ⟨rfl, hb1⟩
  have hz1 : w.heap.size ≤ w1.heap.size := (Nat.le_trans (by (first | omega | (simp; done) | (simp; omega))) hb1.size)
  have hk1 := bc (B := w.heap.size) hb1 (by (first | omega | (simp; done) | (simp; omega)))
  have hf1 := bf (B := w.heap.size) hb1 (by (first | omega | (simp; done) | (simp; omega)))
  have hB1 : Below w.heap.size w w1 := by (repeat' (first | (with_reducible exact Below.refl _ _) | (with_reducible refine Below.alloc ?_ ?_ _) | (with_reducible refine Below.drew ?_) | (with_reducible refine below_drewN ?_ _) | (with_reducible refine Below.setCell ?_ ?_ _) | (with_reducible refine Below.trans ?_ (Below.mono (by assumption) ?_)) | (with_reducible exact Nat.le_refl _) | omega | (simp; omega) | (simp; done)))
  clear hb1
  go_wp2_with fail
  refine (xTruth _).mono ?_
  rintro e w2 ⟨rfl, hb2⟩
  have hz2 : w1.heap.size + 1 ≤ w2.heap.size := (Nat.le_trans (by (first | omega | (simp; done) | (simp; omega))) hb2.size)
  have hk2 := bc (B := w1.heap.size + 1) hb2 (by (first | omega | (simp; done) | (simp; omega)))
  have hf2 := bf (B := w1.heap.size + 1) hb2 (by (first | omega | (simp; done) | (simp; omega)))
  have hB2 : Below w.heap.size w w2 := by (repeat' (first | (with_reducible exact Below.refl _ _) | (with_reducible refine Below.alloc ?_ ?_ _) | (with_reducible refine Below.drew ?_) | (with_reducible refine below_drewN ?_ _) | (with_reducible refine Below.setCell ?_ ?_ _) | (with_reducible refine Below.trans ?_ (Below.mono (by assumption) ?_)) | (with_reducible exact Nat.le_refl _) | omega | (simp; omega) | (simp; done)))
  clear hb2
  have hl2w1 : w1.heap.size < w2.heap.size ∧ w1.heap.size < w2.heap.size + 1 := by omega
  go_wp2_with fail
  refine (xDrift _).mono ?_
  rintro e w3 ⟨rfl, hb3⟩
  have hz3 : w2.heap.size + 1 ≤ w3.heap.size := (Nat.le_trans (by (first | omega | (simp; done) | (simp; omega))) hb3.size)
  have hk3 := bc (B := w2.heap.size + 1) hb3 (by (first | omega | (simp; done) | (simp; omega)))
  have hf3 := bf (B := w2.heap.size + 1) hb3 (by (first | omega | (simp; done) | (simp; omega)))
  have hB3 : Below w.heap.size w w3 := by (repeat' (first | (with_reducible exact Below.refl _ _) | (with_reducible refine Below.alloc ?_ ?_ _) | (with_reducible refine Below.drew ?_) | (with_reducible refine below_drewN ?_ _) | (with_reducible refine Below.setCell ?_ ?_ _) | (with_reducible refine Below.trans ?_ (Below.mono (by assumption) ?_)) | (with_reducible exact Nat.le_refl _) | omega | (simp; omega) | (simp; done)))
  clear hb3
  have hl3w1 : w1.heap.size < w3.heap.size ∧ w1.heap.size < w3.heap.size + 1 := by omega
  have hl3w2 : w2.heap.size < w3.heap.size ∧ w2.heap.size < w3.heap.size + 1 := by omega
  go_wp2_with fail
  refine (xLocal _).mono ?_
  rintro e w4 ⟨rfl, hb4⟩
  have hz4 : w3.heap.size ≤ w4.heap.size := (Nat.le_trans (by (first | omega | (simp; done) | (simp; omega))) hb4.size)
  have hk4 := bc (B := w3.heap.size) hb4 (by (first | omega | (simp; done) | (simp; omega)))
  have hf4 := bf (B := w3.heap.size) hb4 (by (first | omega | (simp; done) | (simp; omega)))
  have hB4 : Below w.heap.size w w4 := by (repeat' (first | (with_reducible exact Below.refl _ _) | (with_reducible refine Below.alloc ?_ ?_ _) | (with_reducible refine Below.drew ?_) | (with_reducible refine below_drewN ?_ _) | (with_reducible refine Below.setCell ?_ ?_ _) | (with_reducible refine Below.trans ?_ (Below.mono (by assumption) ?_)) | (with_reducible exact Nat.le_refl _) | omega | (simp; omega) | (simp; done)))
  clear hb4
  have hl4w1 : w1.heap.size < w4.heap.size ∧ w1.heap.size < w4.heap.size + 1 := by omega
  have hl4w2 : w2.heap.size < w4.heap.size ∧ w2.heap.size < w4.heap.size + 1 := by omega
  go_wp2_with fail
  refine (xGuard _).mono ?_
  rintro e w5 ⟨rfl, hb5⟩
  have hz5 : w4.heap.size + 1 ≤ w5.heap.size := (Nat.le_trans (by (first | omega | (simp; done) | (simp; omega))) hb5.size)
  have hk5 := bc (B := w4.heap.size + 1) hb5 (by (first | omega | (simp; done) | (simp; omega)))
  have hf5 := bf (B := w4.heap.size + 1) hb5 (by (first | omega | (simp; done) | (simp; omega)))
  have hB5 : Below w.heap.size w w5 := by (repeat' (first | (with_reducible exact Below.refl _ _) | (with_reducible refine Below.alloc ?_ ?_ _) | (with_reducible refine Below.drew ?_) | (with_reducible refine below_drewN ?_ _) | (with_reducible refine Below.setCell ?_ ?_ _) | (with_reducible refine Below.trans ?_ (Below.mono (by assumption) ?_)) | (with_reducible exact Nat.le_refl _) | omega | (simp; omega) | (simp; done)))
  clear hb5
  have hl5w1 : w1.heap.size < w5.heap.size ∧ w1.heap.size < w5.heap.size + 1 := by omega
  have hl5w2 : w2.heap.size < w5.heap.size ∧ w2.heap.size < w5.heap.size + 1 := by omega
  have hl5w4 : w4.heap.size < w5.heap.size ∧ w4.heap.size < w5.heap.size + 1 := by omega
  go_wp2_with fail
  go_ret
  exact ⟨rfl, by (repeat' (first | (with_reducible exact Below.refl _ _) | (with_reducible refine Below.alloc ?_ ?_ _) | (with_reducible refine Below.drew ?_) | (with_reducible refine below_drewN ?_ _) | (with_reducible refine Below.setCell ?_ ?_ _) | (with_reducible refine Below.trans ?_ (Below.mono (by assumption) ?_)) | (with_reducible exact Nat.le_refl _) | omega | (simp; omega) | (simp; done)))⟩
end Go.Proofs.Ytbhmmffompapdaa

/- Walk over the law ClockIntervals, part 5. -/
import Derived.Test.YtbhmmffompapdaaRows
import Derived.Test.YtbhmmffompapdaaC15
import Derived.WalkKit
import Derived.WalkSpells
import Derived.WalkLawsBesides
import Derived.Handy
import Derived.Deep.QuietTactic
import Derived.BigQuiet
import Derived.Deep.RegionHeld3
import Derived.Deep.DeepCutAuto
import Derived.Lib.Hide
namespace Go.Proofs.Ytbhmmffompapdaa
open Go.RowKit

set_option maxHeartbeats 2000000 in
theorem intervals_b (l a b xf xt u v : Int) (w : World) (hc0 : clkE l a b 1 1 1 1 = 0) (hl : l ≤ 274877906944) (hx : 0 ≤ xf) (hx2 : xf < xt) (hx3 : xt ≤ 274877906944) (hu : 0 ≤ u) (hu2 : u ≤ 255) (hv : 0 ≤ v) (hv2 : v ≤ 255) (q1 : xf ≤ b) : Calls Try.prog 5 #[.agg #[.int .i64 l, .int .i64 a, .int .i64 b, .int .i64 1, .int .i64 1, .int .i64 1, .int .i64 1], .agg #[.int .i64 xf, .int .i64 xt], .int .u8 u, .int .u8 v] w fun e w' => e = .returned (.bool true) ∧ Below w.heap.size w w' := by
  have Hc := Lib.hid hc0
  have hlg := guard_longer hc0 xf xt (max 0 (xf - u)) (xt + v) (by omega) (by omega) (by omega) (by omega)
  have hl0 := (clk_ok hc0).l0
  clear hc0
  obtain ⟨E, F, T, hg⟩ : ∃ E F T, guardE l a b 1 1 1 1 xf xt = E ∧ guardF l a b 1 1 1 1 xf xt = F ∧ guardT l a b 1 1 1 1 xf xt = T := ⟨_, _, _, rfl, rfl, rfl⟩
  obtain ⟨E2, F2, T2, hg2⟩ : ∃ E2 F2 T2, guardE l a b 1 1 1 1 (max 0 (xf - u)) (xt + v) = E2 ∧ guardF l a b 1 1 1 1 (max 0 (xf - u)) (xt + v) = F2 ∧ guardT l a b 1 1 1 1 (max 0 (xf - u)) (xt + v) = T2 := ⟨_, _, _, rfl, rfl, rfl⟩
  rw [hg.1, hg2.1, hg.2.1, hg2.2.1, hg.2.2, hg2.2.2] at hlg
  have HG := Lib.hid hg
  clear hg
  rw [max0] at hg2
  by_cases hm : 0 < xf - u
  all_goals
    first | rw [if_pos hm] at hg2 | rw [if_neg hm] at hg2
    have HG2 := Lib.hid hg2
    clear hg2
    rcases hlg with ⟨rfl, rfl, k1, k2⟩ | rfl
    · skip
      go_enter Try.func5, Try.ntmps5
      go_wp2_with fail
      refine (clkcheck_ok _ _ _ _ _ _ _ _ Hc).mono ?_
      rintro e w1 ⟨rfl, hb1⟩
      have hz1 : w.heap.size + 1 + 1 ≤ w1.heap.size := (Nat.le_trans (by (first | omega | (simp; done) | (simp; omega))) hb1.size)
      have hk1 := bc (B := w.heap.size + 1 + 1) hb1 (by (first | omega | (simp; done) | (simp; omega)))
      have hf1 := bf (B := w.heap.size + 1 + 1) hb1 (by (first | omega | (simp; done) | (simp; omega)))
      have hB1 : Below w.heap.size w w1 := by (repeat' (first | (with_reducible exact Below.refl _ _) | (with_reducible refine Below.alloc ?_ ?_ _) | (with_reducible refine Below.drew ?_) | (with_reducible refine below_drewN ?_ _) | (with_reducible refine Below.setCell ?_ ?_ _) | (with_reducible refine Below.trans ?_ (Below.mono (by assumption) ?_)) | (with_reducible exact Nat.le_refl _) | omega | (simp; omega) | (simp; done)))
      clear hb1
      have hl1w : w.heap.size < w1.heap.size ∧ w.heap.size < w1.heap.size + 1 := by omega
      have hl1wp1 : w.heap.size + 1 < w1.heap.size ∧ w.heap.size + 1 < w1.heap.size + 1 := by omega
      go_wp2_with fail
      refine (Guard_is _ _ _ _ _ _ _ _ _ _ _ _ _ HG).mono ?_
      rintro e w2 ⟨rfl, hb2⟩
      have hz2 : w1.heap.size ≤ w2.heap.size := (Nat.le_trans (by (first | omega | (simp; done) | (simp; omega))) hb2.size)
      have hk2 := bc (B := w1.heap.size) hb2 (by (first | omega | (simp; done) | (simp; omega)))
      have hf2 := bf (B := w1.heap.size) hb2 (by (first | omega | (simp; done) | (simp; omega)))
      have hB2 : Below w.heap.size w w2 := by (repeat' (first | (with_reducible exact Below.refl _ _) | (with_reducible refine Below.alloc ?_ ?_ _) | (with_reducible refine Below.drew ?_) | (with_reducible refine below_drewN ?_ _) | (with_reducible refine Below.setCell ?_ ?_ _) | (with_reducible refine Below.trans ?_ (Below.mono (by assumption) ?_)) | (with_reducible exact Nat.le_refl _) | omega | (simp; omega) | (simp; done)))
      clear hb2
      have hl2w : w.heap.size < w2.heap.size ∧ w.heap.size < w2.heap.size + 1 := by omega
      have hl2wp1 : w.heap.size + 1 < w2.heap.size ∧ w.heap.size + 1 < w2.heap.size + 1 := by omega
      go_wp2_with fail
      first | skip | rw [HM.out]
      refine (Guard_is _ _ _ _ _ _ _ _ _ _ _ _ _ HG2).mono ?_
      rintro e w3 ⟨rfl, hb3⟩
      have hz3 : w2.heap.size + 1 ≤ w3.heap.size := (Nat.le_trans (by (first | omega | (simp; done) | (simp; omega))) hb3.size)
      have hk3 := bc (B := w2.heap.size + 1) hb3 (by (first | omega | (simp; done) | (simp; omega)))
      have hf3 := bf (B := w2.heap.size + 1) hb3 (by (first | omega | (simp; done) | (simp; omega)))
      have hB3 : Below w.heap.size w w3 := by (repeat' (first | (with_reducible exact Below.refl _ _) | (with_reducible refine Below.alloc ?_ ?_ _) | (with_reducible refine Below.drew ?_) | (with_reducible refine below_drewN ?_ _) | (with_reducible refine Below.setCell ?_ ?_ _) | (with_reducible refine Below.trans ?_ (Below.mono (by assumption) ?_)) | (with_reducible exact Nat.le_refl _) | omega | (simp; omega) | (simp; done)))
      clear hb3
      have hl3w : w.heap.size < w3.heap.size ∧ w.heap.size < w3.heap.size + 1 := by omega
      have hl3wp1 : w.heap.size + 1 < w3.heap.size ∧ w.heap.size + 1 < w3.heap.size + 1 := by omega
      have hl3w2 : w2.heap.size < w3.heap.size ∧ w2.heap.size < w3.heap.size + 1 := by omega
      go_wp2_with fail
      refine (awake_any _).mono ?_
      rintro e w4 ⟨rfl, hb4⟩
      have hz4 : w3.heap.size + 1 + 1 ≤ w4.heap.size := (Nat.le_trans (by (first | omega | (simp; done) | (simp; omega))) hb4.size)
      have hk4 := bc (B := w3.heap.size + 1 + 1) hb4 (by (first | omega | (simp; done) | (simp; omega)))
      have hf4 := bf (B := w3.heap.size + 1 + 1) hb4 (by (first | omega | (simp; done) | (simp; omega)))
      have hB4 : Below w.heap.size w w4 := by (repeat' (first | (with_reducible exact Below.refl _ _) | (with_reducible refine Below.alloc ?_ ?_ _) | (with_reducible refine Below.drew ?_) | (with_reducible refine below_drewN ?_ _) | (with_reducible refine Below.setCell ?_ ?_ _) | (with_reducible refine Below.trans ?_ (Below.mono (by assumption) ?_)) | (with_reducible exact Nat.le_refl _) | omega | (simp; omega) | (simp; done)))
      clear hb4
      have hl4w : w.heap.size < w4.heap.size ∧ w.heap.size < w4.heap.size + 1 := by omega
      have hl4wp1 : w.heap.size + 1 < w4.heap.size ∧ w.heap.size + 1 < w4.heap.size + 1 := by omega
      have hl4w2 : w2.heap.size < w4.heap.size ∧ w2.heap.size < w4.heap.size + 1 := by omega
      have hl4w3 : w3.heap.size < w4.heap.size ∧ w3.heap.size < w4.heap.size + 1 := by omega
      go_wp2_with fail
      go_ret
      exact ⟨rfl, by (repeat' (first | (with_reducible exact Below.refl _ _) | (with_reducible refine Below.alloc ?_ ?_ _) | (with_reducible refine Below.drew ?_) | (with_reducible refine below_drewN ?_ _) | (with_reducible refine Below.setCell ?_ ?_ _) | (with_reducible refine Below.trans ?_ (Below.mono (by assumption) ?_)) | (with_reducible exact Nat.le_refl _) | omega | (simp; omega) | (simp; done)))⟩
    · skip
      go_enter Try.func5, Try.ntmps5
      go_wp2_with fail
      refine (clkcheck_ok _ _ _ _ _ _ _ _ Hc).mono ?_
      rintro e w1 ⟨rfl, hb1⟩
      have hz1 : w.heap.size + 1 + 1 ≤ w1.heap.size := (Nat.le_trans (by (first | omega | (simp; done) | (simp; omega))) hb1.size)
      have hk1 := bc (B := w.heap.size + 1 + 1) hb1 (by (first | omega | (simp; done) | (simp; omega)))
      have hf1 := bf (B := w.heap.size + 1 + 1) hb1 (by (first | omega | (simp; done) | (simp; omega)))
      have hB1 : Below w.heap.size w w1 := by (repeat' (first | (with_reducible exact Below.refl _ _) | (with_reducible refine Below.alloc ?_ ?_ _) | (with_reducible refine Below.drew ?_) | (with_reducible refine below_drewN ?_ _) | (with_reducible refine Below.setCell ?_ ?_ _) | (with_reducible refine Below.trans ?_ (Below.mono (by assumption) ?_)) | (with_reducible exact Nat.le_refl _) | omega | (simp; omega) | (simp; done)))
      clear hb1
      have hl1w : w.heap.size < w1.heap.size ∧ w.heap.size < w1.heap.size + 1 := by omega
      have hl1wp1 : w.heap.size + 1 < w1.heap.size ∧ w.heap.size + 1 < w1.heap.size + 1 := by omega
      go_wp2_with fail
      refine (Guard_is _ _ _ _ _ _ _ _ _ _ _ _ _ HG).mono ?_
      rintro e w2 ⟨rfl, hb2⟩
      have hz2 : w1.heap.size ≤ w2.heap.size := (Nat.le_trans (by (first | omega | (simp; done) | (simp; omega))) hb2.size)
      have hk2 := bc (B := w1.heap.size) hb2 (by (first | omega | (simp; done) | (simp; omega)))
      have hf2 := bf (B := w1.heap.size) hb2 (by (first | omega | (simp; done) | (simp; omega)))
      have hB2 : Below w.heap.size w w2 := by (repeat' (first | (with_reducible exact Below.refl _ _) | (with_reducible refine Below.alloc ?_ ?_ _) | (with_reducible refine Below.drew ?_) | (with_reducible refine below_drewN ?_ _) | (with_reducible refine Below.setCell ?_ ?_ _) | (with_reducible refine Below.trans ?_ (Below.mono (by assumption) ?_)) | (with_reducible exact Nat.le_refl _) | omega | (simp; omega) | (simp; done)))
      clear hb2
      have hl2w : w.heap.size < w2.heap.size ∧ w.heap.size < w2.heap.size + 1 := by omega
      have hl2wp1 : w.heap.size + 1 < w2.heap.size ∧ w.heap.size + 1 < w2.heap.size + 1 := by omega
      go_wp2_with fail
      first | skip | rw [HM.out]
      refine (Guard_is _ _ _ _ _ _ _ _ _ _ _ _ _ HG2).mono ?_
      rintro e w3 ⟨rfl, hb3⟩
      have hz3 : w2.heap.size + 1 ≤ w3.heap.size := (Nat.le_trans (by (first | omega | (simp; done) | (simp; omega))) hb3.size)
      have hk3 := bc (B := w2.heap.size + 1) hb3 (by (first | omega | (simp; done) | (simp; omega)))
      have hf3 := bf (B := w2.heap.size + 1) hb3 (by (first | omega | (simp; done) | (simp; omega)))
      have hB3 : Below w.heap.size w w3 := by (repeat' (first | (with_reducible exact Below.refl _ _) | (with_reducible refine Below.alloc ?_ ?_ _) | (with_reducible refine Below.drew ?_) | (with_reducible refine below_drewN ?_ _) | (with_reducible refine Below.setCell ?_ ?_ _) | (with_reducible refine Below.trans ?_ (Below.mono (by assumption) ?_)) | (with_reducible exact Nat.le_refl _) | omega | (simp; omega) | (simp; done)))
      clear hb3
      have hl3w : w.heap.size < w3.heap.size ∧ w.heap.size < w3.heap.size + 1 := by omega
      have hl3wp1 : w.heap.size + 1 < w3.heap.size ∧ w.heap.size + 1 < w3.heap.size + 1 := by omega
      have hl3w2 : w2.heap.size < w3.heap.size ∧ w2.heap.size < w3.heap.size + 1 := by omega
      go_wp2_with fail
      refine (awake_any _).mono ?_
      rintro e w4 ⟨rfl, hb4⟩
      have hz4 : w3.heap.size + 1 + 1 ≤ w4.heap.size := (Nat.le_trans (by (first | omega | (simp; done) | (simp; omega))) hb4.size)
      have hk4 := bc (B := w3.heap.size + 1 + 1) hb4 (by (first | omega | (simp; done) | (simp; omega)))
      have hf4 := bf (B := w3.heap.size + 1 + 1) hb4 (by (first | omega | (simp; done) | (simp; omega)))
      have hB4 : Below w.heap.size w w4 := by (repeat' (first | (with_reducible exact Below.refl _ _) | (with_reducible refine Below.alloc ?_ ?_ _) | (with_reducible refine Below.drew ?_) | (with_reducible refine below_drewN ?_ _) | (with_reducible refine Below.setCell ?_ ?_ _) | (with_reducible refine Below.trans ?_ (Below.mono (by assumption) ?_)) | (with_reducible exact Nat.le_refl _) | omega | (simp; omega) | (simp; done)))
      clear hb4
      have hl4w : w.heap.size < w4.heap.size ∧ w.heap.size < w4.heap.size + 1 := by omega
      have hl4wp1 : w.heap.size + 1 < w4.heap.size ∧ w.heap.size + 1 < w4.heap.size + 1 := by omega
      have hl4w2 : w2.heap.size < w4.heap.size ∧ w2.heap.size < w4.heap.size + 1 := by omega
      have hl4w3 : w3.heap.size < w4.heap.size ∧ w3.heap.size < w4.heap.size + 1 := by omega
      go_wp2_with fail
      go_ret
      exact ⟨rfl, by (repeat' (first | (with_reducible exact Below.refl _ _) | (with_reducible refine Below.alloc ?_ ?_ _) | (with_reducible refine Below.drew ?_) | (with_reducible refine below_drewN ?_ _) | (with_reducible refine Below.setCell ?_ ?_ _) | (with_reducible refine Below.trans ?_ (Below.mono (by assumption) ?_)) | (with_reducible exact Nat.le_refl _) | omega | (simp; omega) | (simp; done)))⟩
end Go.Proofs.Ytbhmmffompapdaa

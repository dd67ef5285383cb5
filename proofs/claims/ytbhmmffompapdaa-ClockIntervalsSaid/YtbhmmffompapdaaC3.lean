/- Walks over clock.Check and the reference Check: both return clkE. -/
import Derived.Test.YtbhmmffompapdaaRows
import Derived.Test.YtbhmmffompapdaaC2
import Derived.WalkKit
import Derived.WalkSpells
import Derived.WalkLawsBesides
import Derived.Handy
import Derived.Deep.QuietTactic
import Derived.BigQuiet
import Derived.Lib.Hide
namespace Go.Proofs.Ytbhmmffompapdaa
open Go.RowKit
theorem bc {B : Nat} {W w1 : World} (hb : Below W.heap.size W w1) (h : B ≤ W.heap.size) : ∀ b o, b < B → w1.cell? ⟨b, o, none⟩ = W.cell? ⟨b, o, none⟩ :=
  fun b o hlt => hb.cell (p := ⟨b, o, none⟩) (show b < W.heap.size by omega)
theorem bf {B : Nat} {W w1 : World} (hb : Below W.heap.size W w1) (h : B ≤ W.heap.size) : ∀ b o, b < B → w1.frozen? ⟨b, o, none⟩ = W.frozen? ⟨b, o, none⟩ :=
  fun b o hlt => hb.frozen (p := ⟨b, o, none⟩) (show b < W.heap.size by omega)
theorem rat_of {n d : Int} (h : (ratE n d != 0) = false) : ratE n d = 0 := by simpa using h
theorem rat_wrap {n1 d1 n2 d2 : Int} (h : (ratE n1 d1 != 0) = false) (h2 : (ratE n2 d2 != 0) = false) : wrap64 (n1 * d2) = n1 * d2 := by
  obtain ⟨a1, a2, b1, b2⟩ := ratE_ok (rat_of h)
  obtain ⟨a3, a4, b3, b4⟩ := ratE_ok (rat_of h2)
  obtain ⟨e2, e1⟩ := mul_bd n1 d2 1099511627776 1048576 (by omega) a2 (by omega) b4
  simp only [Int.reduceMul, Int.reduceNeg] at e1 e2
  exact IntWalk.wrap64_in _ ⟨by omega, by omega⟩
theorem rrate_any' (a b : Int) (w : World) (h : (ratE a b != 0) = false) :
    Calls Try.prog 31 #[.agg #[.int .i64 a, .int .i64 b]] w fun e w' => e = .returned (.bool (rateB a b)) ∧ Below w.heap.size w w' := by
  obtain ⟨a1, a2, b1, b2⟩ := ratE_ok (rat_of h)
  exact rrate_any a b w (by omega) (by omega) (by omega) (by omega)
/- ref Check -/
set_option maxHeartbeats 1000000 in
theorem rclkcheck_any (l a b n1 d1 n2 d2 : Int) (w : World) :
    Calls Try.prog 14 #[.agg #[.int .i64 l, .int .i64 a, .int .i64 b, .int .i64 n1, .int .i64 d1, .int .i64 n2, .int .i64 d2]] w fun e w' => e = .returned (.int .i64 (clkE l a b n1 d1 n2 d2)) ∧ Below w.heap.size w w' := by
  go_enter Try.func14, Try.ntmps14
  go_wp2_with (first
    | (go_at_call 29; refine (rwithin_any _ _ _).mono ?_; (rintro e w1 ⟨rfl, hb⟩; have hz : w.heap.size + 1 ≤ w1.heap.size := (Nat.le_trans (by (first | omega | (simp; done) | (simp; omega))) hb.size); have hk := bc (B := w.heap.size + 1) hb (by (first | omega | (simp; done) | (simp; omega))); have hf := bf (B := w.heap.size + 1) hb (by (first | omega | (simp; done) | (simp; omega))); have hy : w.heap.size < w1.heap.size := (by omega)))
    | (go_at_call 30; refine (rrcheck_any _ _ _).mono ?_; (rintro e w1 ⟨rfl, hb⟩; have hz : w.heap.size + 1 ≤ w1.heap.size := (Nat.le_trans (by (first | omega | (simp; done) | (simp; omega))) hb.size); have hk := bc (B := w.heap.size + 1) hb (by (first | omega | (simp; done) | (simp; omega))); have hf := bf (B := w.heap.size + 1) hb (by (first | omega | (simp; done) | (simp; omega))); have hy : w.heap.size < w1.heap.size := (by omega)))
    | (go_at_call 31; refine (rrate_any' _ _ _ (by assumption)).mono ?_; (rintro e w1 ⟨rfl, hb⟩; have hz : w.heap.size + 1 ≤ w1.heap.size := (Nat.le_trans (by (first | omega | (simp; done) | (simp; omega))) hb.size); have hk := bc (B := w.heap.size + 1) hb (by (first | omega | (simp; done) | (simp; omega))); have hf := bf (B := w.heap.size + 1) hb (by (first | omega | (simp; done) | (simp; omega))); have hy : w.heap.size < w1.heap.size := (by omega))))

  all_goals
    go_ret
    refine ⟨?_, by (repeat' (first | exact Below.refl _ _ | (with_reducible refine Below.alloc ?_ ?_ _) | (with_reducible refine Below.drew ?_) | (with_reducible refine below_drewN ?_ _) | (with_reducible refine Below.setCell ?_ ?_ _) | (refine Below.trans ?_ (Below.mono (by assumption) ?_)) | (with_reducible exact Nat.le_refl _) | omega | (simp; omega) | (simp; done)))⟩
    show Ending.returned (Value.int .i64 _) = _
    refine congrArg _ (congrArg _ ?_)
    first
    | (simp_all [clkE]; done)
    | (rw [rat_wrap (by assumption) (by assumption), rat_wrap (by assumption) (by assumption)] at *; simp_all [clkE]; done)
    | (unfold clkE; simp; omega)

theorem cmp_pos {n1 d1 n2 d2 : Int} (h : (ratE n1 d1 != 0) = false) (h2 : (ratE n2 d2 != 0) = false) : 0 < ratCmp n1 d1 n2 d2 ↔ n2 * d1 < n1 * d2 := by
  unfold ratCmp; rw [if_neg (by rw [rat_of h, rat_of h2]; simp)]
  split <;> (try split) <;> omega
theorem rate_any' (a b : Int) (w : World) (h : (ratE a b != 0) = false) :
    Calls Try.prog 27 #[.agg #[.int .i64 a, .int .i64 b]] w fun e w' => e = .returned (.bool (rateB a b)) ∧ Below w.heap.size w w' := by
  obtain ⟨a1, a2, b1, b2⟩ := ratE_ok (rat_of h)
  exact rate_any a b w (by omega) (by omega) (by omega) (by omega)
theorem compare_any' (a b c d : Int) (w : World) (h1 : (ratE a b != 0) = false) (h2 : (ratE c d != 0) = false) :
    Calls Try.prog 28 #[.agg #[.int .i64 a, .int .i64 b], .agg #[.int .i64 c, .int .i64 d]] w fun e w' => e = .returned (.int .i64 (ratCmp a b c d)) ∧ Below w.heap.size w w' := 
  compare_any a b c d w (rat_of h1) (rat_of h2)
set_option maxHeartbeats 1000000 in
theorem clkcheck_any (l a b n1 d1 n2 d2 : Int) (w : World) :
    Calls Try.prog 13 #[.agg #[.int .i64 l, .int .i64 a, .int .i64 b, .int .i64 n1, .int .i64 d1, .int .i64 n2, .int .i64 d2]] w fun e w' => e = .returned (.int .i64 (clkE l a b n1 d1 n2 d2)) ∧ Below w.heap.size w w' := by
  go_enter Try.func13, Try.ntmps13
  go_wp2_with (first
    | (go_at_call 20; refine (within_any _ _ _ _).mono ?_; rintro e w1 ⟨rfl, rfl⟩)
    | (go_at_call 25; refine (interval_any _ _ _).mono ?_; (rintro e w1 ⟨rfl, hb⟩; have hz : w.heap.size + 1 ≤ w1.heap.size := (Nat.le_trans (by (first | omega | (simp; done) | (simp; omega))) hb.size); have hk := bc (B := w.heap.size + 1) hb (by (first | omega | (simp; done) | (simp; omega))); have hf := bf (B := w.heap.size + 1) hb (by (first | omega | (simp; done) | (simp; omega))); have hy : w.heap.size < w1.heap.size := (by omega)))
    | (go_at_call 26; refine (rcheck_any _ _ _).mono ?_; (rintro e w1 ⟨rfl, hb⟩; have hz : w.heap.size + 1 ≤ w1.heap.size := (Nat.le_trans (by (first | omega | (simp; done) | (simp; omega))) hb.size); have hk := bc (B := w.heap.size + 1) hb (by (first | omega | (simp; done) | (simp; omega))); have hf := bf (B := w.heap.size + 1) hb (by (first | omega | (simp; done) | (simp; omega))); have hy : w.heap.size < w1.heap.size := (by omega)))
    | (go_at_call 27; refine (rate_any' _ _ _ (by assumption)).mono ?_; (rintro e w1 ⟨rfl, hb⟩; have hz : w.heap.size + 1 ≤ w1.heap.size := (Nat.le_trans (by (first | omega | (simp; done) | (simp; omega))) hb.size); have hk := bc (B := w.heap.size + 1) hb (by (first | omega | (simp; done) | (simp; omega))); have hf := bf (B := w.heap.size + 1) hb (by (first | omega | (simp; done) | (simp; omega))); have hy : w.heap.size < w1.heap.size := (by omega)))
    | (go_at_call 28; refine (compare_any' _ _ _ _ _ (by assumption) (by assumption)).mono ?_; (rintro e w1 ⟨rfl, hb⟩; have hz : w.heap.size + 1 ≤ w1.heap.size := (Nat.le_trans (by (first | omega | (simp; done) | (simp; omega))) hb.size); have hk := bc (B := w.heap.size + 1) hb (by (first | omega | (simp; done) | (simp; omega))); have hf := bf (B := w.heap.size + 1) hb (by (first | omega | (simp; done) | (simp; omega))); have hy : w.heap.size < w1.heap.size := (by omega))))
  rotate_left 2
  · have hzz : w.heap.size < w1.heap.size + 1 := by omega
    obtain ⟨w0, hw0⟩ : ∃ w0 : World, w0 = w1 := ⟨w1, rfl⟩
    subst hw0
    refine wp_loop_rounds 3 ?_
    iterate 3
      all_goals (try rw [rounds_succ])
      all_goals go_wp2_with (first
        | (go_at_call 26; refine (rcheck_any _ _ _).mono ?_; (rintro e w1 ⟨rfl, hb⟩; have hz : w0.heap.size + 1 ≤ w1.heap.size := (Nat.le_trans (by (first | omega | (simp; done) | (simp; omega))) hb.size); have hk := bc (B := w0.heap.size + 1) hb (by (first | omega | (simp; done) | (simp; omega))); have hf := bf (B := w0.heap.size + 1) hb (by (first | omega | (simp; done) | (simp; omega))); have hy : w.heap.size < w1.heap.size := (by omega)))
        | (go_at_call 27; refine (rate_any' _ _ _ (by assumption)).mono ?_; (rintro e w1 ⟨rfl, hb⟩; have hz : w0.heap.size + 1 ≤ w1.heap.size := (Nat.le_trans (by (first | omega | (simp; done) | (simp; omega))) hb.size); have hk := bc (B := w0.heap.size + 1) hb (by (first | omega | (simp; done) | (simp; omega))); have hf := bf (B := w0.heap.size + 1) hb (by (first | omega | (simp; done) | (simp; omega))); have hy : w.heap.size < w1.heap.size := (by omega)))
        | (go_at_call 28; refine (compare_any' _ _ _ _ _ (by assumption) (by assumption)).mono ?_; (rintro e w1 ⟨rfl, hb⟩; have hz : w0.heap.size + 1 ≤ w1.heap.size := (Nat.le_trans (by (first | omega | (simp; done) | (simp; omega))) hb.size); have hk := bc (B := w0.heap.size + 1) hb (by (first | omega | (simp; done) | (simp; omega))); have hf := bf (B := w0.heap.size + 1) hb (by (first | omega | (simp; done) | (simp; omega))); have hy : w.heap.size < w1.heap.size := (by omega))))
    all_goals
      go_ret
      refine ⟨?_, by (repeat' (first | exact Below.refl _ _ | (with_reducible refine Below.alloc ?_ ?_ _) | (with_reducible refine Below.drew ?_) | (with_reducible refine below_drewN ?_ _) | (with_reducible refine Below.setCell ?_ ?_ _) | (refine Below.trans ?_ (Below.mono (by assumption) ?_)) | (with_reducible exact Nat.le_refl _) | omega | (simp; omega) | (simp; done)))⟩
      show Ending.returned (Value.int .i64 _) = _
      refine congrArg _ (congrArg _ ?_)
      first
      | (simp_all [clkE]; done)
      | (have hc := cmp_pos (n1 := n1) (d1 := d1) (n2 := n2) (d2 := d2) (by assumption) (by assumption); rw [← Int.not_lt] at *; rw [hc] at *; simp_all [clkE]; done)
      | (have hc := cmp_pos (n1 := n1) (d1 := d1) (n2 := n2) (d2 := d2) (by assumption) (by assumption); simp_all [clkE]; done)
      | (have hc := cmp_pos (n1 := n1) (d1 := d1) (n2 := n2) (d2 := d2) (by assumption) (by assumption); simp_all [clkE]; omega)
  all_goals
    go_ret
    refine ⟨?_, by (repeat' (first | exact Below.refl _ _ | (with_reducible refine Below.alloc ?_ ?_ _) | (with_reducible refine Below.drew ?_) | (with_reducible refine below_drewN ?_ _) | (with_reducible refine Below.setCell ?_ ?_ _) | (refine Below.trans ?_ (Below.mono (by assumption) ?_)) | (with_reducible exact Nat.le_refl _) | omega | (simp; omega) | (simp; done)))⟩
    show Ending.returned (Value.int .i64 _) = _
    refine congrArg _ (congrArg _ ?_)
    first
    | (simp_all [clkE]; done)
    | (unfold clkE; rw [if_pos (by simp_all; omega)])
end Go.Proofs.Ytbhmmffompapdaa

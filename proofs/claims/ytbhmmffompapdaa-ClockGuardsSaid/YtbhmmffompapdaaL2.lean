/- Walk over the law ClockGuards. -/
import Derived.Test.YtbhmmffompapdaaRows
import Derived.Test.YtbhmmffompapdaaC11
import Derived.Test.YtbhmmffompapdaaC13
import Derived.WalkKit
import Derived.WalkSpells
import Derived.WalkLawsBesides
import Derived.Handy
import Derived.Deep.QuietTactic
import Derived.BigQuiet
import Derived.Deep.RegionHeld3
import Derived.Deep.DeepCutAuto
import Derived.Lib.Hide
namespace Go.Proofs.Ytbhmmffompapdaa
open Go.RowKit

theorem syncV_form (l a b n1 d1 n2 d2 t xf xt : Int) : ∃ s0 s1 s2 s3 s4 s5 s6 : Int, syncV l a b n1 d1 n2 d2 t xf xt = .agg #[.int .i64 s0, .int .i64 s1, .int .i64 s2, .int .i64 s3, .int .i64 s4, .int .i64 s5, .int .i64 s6] := by
  unfold syncV; split
  · exact ⟨_, _, _, _, _, _, _, rfl⟩
  · exact ⟨_, _, _, _, _, _, _, rfl⟩
theorem rGuard_any' (l a b n1 d1 n2 d2 xf xt : Int) (w : World) :
    Calls Try.prog 19 #[.agg #[.int .i64 l, .int .i64 a, .int .i64 b, .int .i64 n1, .int .i64 d1, .int .i64 n2, .int .i64 d2], .agg #[.int .i64 xf, .int .i64 xt]] w fun e w' => e = .returned (.tuple #[.agg #[.int .i64 (guardF l a b n1 d1 n2 d2 xf xt), .int .i64 (guardT l a b n1 d1 n2 d2 xf xt)], .int .i64 (guardE l a b n1 d1 n2 d2 xf xt)]) ∧ Below w.heap.size w w' := by
  have := rGuard_any l a b n1 d1 n2 d2 xf xt w
  obtain ⟨e1, e2, e3⟩ := guard_eq l a b n1 d1 n2 d2 xf xt
  rwa [e1, e2, e3] at this
set_option maxHeartbeats 2000000 in
theorem guards_any (l a b n1 d1 n2 d2 t xf xt : Int) (w : World) : Calls Try.prog 6 #[.agg #[.int .i64 l, .int .i64 a, .int .i64 b, .int .i64 n1, .int .i64 d1, .int .i64 n2, .int .i64 d2], .int .i64 t, .agg #[.int .i64 xf, .int .i64 xt]] w fun e w' => e = .returned (.bool true) ∧ Below w.heap.size w w' := by
  obtain ⟨s0, s1, s2, s3, s4, s5, s6, hs⟩ := syncV_form l a b n1 d1 n2 d2 t xf xt
  have hS : ∀ w : World, Calls Try.prog 17 #[.agg #[.int .i64 l, .int .i64 a, .int .i64 b, .int .i64 n1, .int .i64 d1, .int .i64 n2, .int .i64 d2], .int .i64 t, .agg #[.int .i64 xf, .int .i64 xt]] w fun e w' => e = .returned (.tuple #[.agg #[.int .i64 s0, .int .i64 s1, .int .i64 s2, .int .i64 s3, .int .i64 s4, .int .i64 s5, .int .i64 s6], .int .i64 (syncE l a b n1 d1 n2 d2 t xf xt)]) ∧ Below w.heap.size w w' := fun w => by
    have := Sync_any l a b n1 d1 n2 d2 t xf xt w
    rwa [hs] at this
  have hR : ∀ w : World, Calls Try.prog 18 #[.agg #[.int .i64 l, .int .i64 a, .int .i64 b, .int .i64 n1, .int .i64 d1, .int .i64 n2, .int .i64 d2], .int .i64 t, .agg #[.int .i64 xf, .int .i64 xt]] w fun e w' => e = .returned (.tuple #[.agg #[.int .i64 s0, .int .i64 s1, .int .i64 s2, .int .i64 s3, .int .i64 s4, .int .i64 s5, .int .i64 s6], .int .i64 (syncE l a b n1 d1 n2 d2 t xf xt)]) ∧ Below w.heap.size w w' := fun w => by
    have := rSync_any l a b n1 d1 n2 d2 t xf xt w
    rwa [hs] at this
  have HS := Lib.hid hS
  have HR := Lib.hid hR
  clear hS hR hs
  go_enter Try.func6, Try.ntmps6
  go_wp2_with fail
  refine (HS.out _).mono ?_
  rintro e w1 ⟨rfl, hb1⟩
  have hz1 : w.heap.size + 1 + 1 ≤ w1.heap.size := (Nat.le_trans (by (first | omega | (simp; done) | (simp; omega))) hb1.size)
  have hk1 := bc (B := w.heap.size + 1 + 1) hb1 (by (first | omega | (simp; done) | (simp; omega)))
  have hf1 := bf (B := w.heap.size + 1 + 1) hb1 (by (first | omega | (simp; done) | (simp; omega)))
  have hB1 : Below w.heap.size w w1 := by (repeat' (first | (with_reducible exact Below.refl _ _) | (with_reducible refine Below.alloc ?_ ?_ _) | (with_reducible refine Below.drew ?_) | (with_reducible refine below_drewN ?_ _) | (with_reducible refine Below.setCell ?_ ?_ _) | (with_reducible refine Below.trans ?_ (Below.mono (by assumption) ?_)) | (with_reducible exact Nat.le_refl _) | omega | (simp; omega) | (simp; done)))
  clear hb1
  have hl1w : w.heap.size < w1.heap.size ∧ w.heap.size < w1.heap.size + 1 := by omega
  have hl1wp1 : w.heap.size + 1 < w1.heap.size ∧ w.heap.size + 1 < w1.heap.size + 1 := by omega
  go_wp2_with fail
  refine (HR.out _).mono ?_
  rintro e w2 ⟨rfl, hb2⟩
  have hz2 : w1.heap.size + 1 ≤ w2.heap.size := (Nat.le_trans (by (first | omega | (simp; done) | (simp; omega))) hb2.size)
  have hk2 := bc (B := w1.heap.size + 1) hb2 (by (first | omega | (simp; done) | (simp; omega)))
  have hf2 := bf (B := w1.heap.size + 1) hb2 (by (first | omega | (simp; done) | (simp; omega)))
  have hB2 : Below w.heap.size w w2 := by (repeat' (first | (with_reducible exact Below.refl _ _) | (with_reducible refine Below.alloc ?_ ?_ _) | (with_reducible refine Below.drew ?_) | (with_reducible refine below_drewN ?_ _) | (with_reducible refine Below.setCell ?_ ?_ _) | (with_reducible refine Below.trans ?_ (Below.mono (by assumption) ?_)) | (with_reducible exact Nat.le_refl _) | omega | (simp; omega) | (simp; done)))
  clear hb2
  have hl2w : w.heap.size < w2.heap.size ∧ w.heap.size < w2.heap.size + 1 := by omega
  have hl2wp1 : w.heap.size + 1 < w2.heap.size ∧ w.heap.size + 1 < w2.heap.size + 1 := by omega
  have hl2w1 : w1.heap.size < w2.heap.size ∧ w1.heap.size < w2.heap.size + 1 := by omega
  go_wp2_with fail
  refine (Guard_any _ _ _ _ _ _ _ _ _ _).mono ?_
  rintro e w3 ⟨rfl, hb3⟩
  have hz3 : w2.heap.size + 1 ≤ w3.heap.size := (Nat.le_trans (by (first | omega | (simp; done) | (simp; omega))) hb3.size)
  have hk3 := bc (B := w2.heap.size + 1) hb3 (by (first | omega | (simp; done) | (simp; omega)))
  have hf3 := bf (B := w2.heap.size + 1) hb3 (by (first | omega | (simp; done) | (simp; omega)))
  have hB3 : Below w.heap.size w w3 := by (repeat' (first | (with_reducible exact Below.refl _ _) | (with_reducible refine Below.alloc ?_ ?_ _) | (with_reducible refine Below.drew ?_) | (with_reducible refine below_drewN ?_ _) | (with_reducible refine Below.setCell ?_ ?_ _) | (with_reducible refine Below.trans ?_ (Below.mono (by assumption) ?_)) | (with_reducible exact Nat.le_refl _) | omega | (simp; omega) | (simp; done)))
  clear hb3
  have hl3w : w.heap.size < w3.heap.size ∧ w.heap.size < w3.heap.size + 1 := by omega
  have hl3wp1 : w.heap.size + 1 < w3.heap.size ∧ w.heap.size + 1 < w3.heap.size + 1 := by omega
  have hl3w1 : w1.heap.size < w3.heap.size ∧ w1.heap.size < w3.heap.size + 1 := by omega
  have hl3w2 : w2.heap.size < w3.heap.size ∧ w2.heap.size < w3.heap.size + 1 := by omega
  go_wp2_with fail
  refine (rGuard_any' _ _ _ _ _ _ _ _ _ _).mono ?_
  rintro e w4 ⟨rfl, hb4⟩
  have hz4 : w3.heap.size + 1 ≤ w4.heap.size := (Nat.le_trans (by (first | omega | (simp; done) | (simp; omega))) hb4.size)
  have hk4 := bc (B := w3.heap.size + 1) hb4 (by (first | omega | (simp; done) | (simp; omega)))
  have hf4 := bf (B := w3.heap.size + 1) hb4 (by (first | omega | (simp; done) | (simp; omega)))
  have hB4 : Below w.heap.size w w4 := by (repeat' (first | (with_reducible exact Below.refl _ _) | (with_reducible refine Below.alloc ?_ ?_ _) | (with_reducible refine Below.drew ?_) | (with_reducible refine below_drewN ?_ _) | (with_reducible refine Below.setCell ?_ ?_ _) | (with_reducible refine Below.trans ?_ (Below.mono (by assumption) ?_)) | (with_reducible exact Nat.le_refl _) | omega | (simp; omega) | (simp; done)))
  clear hb4
  have hl4w : w.heap.size < w4.heap.size ∧ w.heap.size < w4.heap.size + 1 := by omega
  have hl4wp1 : w.heap.size + 1 < w4.heap.size ∧ w.heap.size + 1 < w4.heap.size + 1 := by omega
  have hl4w1 : w1.heap.size < w4.heap.size ∧ w1.heap.size < w4.heap.size + 1 := by omega
  have hl4w2 : w2.heap.size < w4.heap.size ∧ w2.heap.size < w4.heap.size + 1 := by omega
  have hl4w3 : w3.heap.size < w4.heap.size ∧ w3.heap.size < w4.heap.size + 1 := by omega
  go_wp2_with fail
  refine (awake_any _).mono ?_
  rintro e w5 ⟨rfl, hb5⟩
  have hz5 : w4.heap.size + 1 ≤ w5.heap.size := (Nat.le_trans (by (first | omega | (simp; done) | (simp; omega))) hb5.size)
  have hk5 := bc (B := w4.heap.size + 1) hb5 (by (first | omega | (simp; done) | (simp; omega)))
  have hf5 := bf (B := w4.heap.size + 1) hb5 (by (first | omega | (simp; done) | (simp; omega)))
  have hB5 : Below w.heap.size w w5 := by (repeat' (first | (with_reducible exact Below.refl _ _) | (with_reducible refine Below.alloc ?_ ?_ _) | (with_reducible refine Below.drew ?_) | (with_reducible refine below_drewN ?_ _) | (with_reducible refine Below.setCell ?_ ?_ _) | (with_reducible refine Below.trans ?_ (Below.mono (by assumption) ?_)) | (with_reducible exact Nat.le_refl _) | omega | (simp; omega) | (simp; done)))
  clear hb5
  have hl5w : w.heap.size < w5.heap.size ∧ w.heap.size < w5.heap.size + 1 := by omega
  have hl5wp1 : w.heap.size + 1 < w5.heap.size ∧ w.heap.size + 1 < w5.heap.size + 1 := by omega
  have hl5w1 : w1.heap.size < w5.heap.size ∧ w1.heap.size < w5.heap.size + 1 := by omega
  have hl5w2 : w2.heap.size < w5.heap.size ∧ w2.heap.size < w5.heap.size + 1 := by omega
  have hl5w3 : w3.heap.size < w5.heap.size ∧ w3.heap.size < w5.heap.size + 1 := by omega
  have hl5w4 : w4.heap.size < w5.heap.size ∧ w4.heap.size < w5.heap.size + 1 := by omega
  go_wp2_with fail
  go_ret
  exact ⟨rfl, by (repeat' (first | (with_reducible exact Below.refl _ _) | (with_reducible refine Below.alloc ?_ ?_ _) | (with_reducible refine Below.drew ?_) | (with_reducible refine below_drewN ?_ _) | (with_reducible refine Below.setCell ?_ ?_ _) | (with_reducible refine Below.trans ?_ (Below.mono (by assumption) ?_)) | (with_reducible exact Nat.le_refl _) | omega | (simp; omega) | (simp; done)))⟩
end Go.Proofs.Ytbhmmffompapdaa

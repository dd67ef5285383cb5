/- Walk over the law ClockTimes. -/
import Derived.Test.YtbhmmffompapdaaRows
import Derived.Test.YtbhmmffompapdaaC13
import Derived.WalkKit
import Derived.WalkSpells
import Derived.WalkLawsBesides
import Derived.Handy
import Derived.Deep.QuietTactic
import Derived.BigQuiet
import Derived.Deep.RegionHeld3
import Derived.Deep.DeepCutAuto
import Derived.Lib.Hide
namespace Go.Proofs.Ytbhmmffompapdaa
open Go.RowKit

set_option maxHeartbeats 2000000 in
theorem times_any (l a b n1 d1 n2 d2 t : Int) (w : World) : Calls Try.prog 3 #[.agg #[.int .i64 l, .int .i64 a, .int .i64 b, .int .i64 n1, .int .i64 d1, .int .i64 n2, .int .i64 d2], .int .i64 t] w fun e w' => e = .returned (.bool true) ∧ Below w.heap.size w w' := by
  go_enter Try.func3, Try.ntmps3
  go_wp2_with fail
  refine (Truth_any _ _ _ _ _ _ _ _ _).mono ?_
  rintro e w1 ⟨rfl, hb1⟩
  have hz1 : w.heap.size + 1 ≤ w1.heap.size := (Nat.le_trans (by (first | omega | (simp; done) | (simp; omega))) hb1.size)
  have hk1 := bc (B := w.heap.size + 1) hb1 (by (first | omega | (simp; done) | (simp; omega)))
  have hf1 := bf (B := w.heap.size + 1) hb1 (by (first | omega | (simp; done) | (simp; omega)))
  have hB1 : Below w.heap.size w w1 := by (repeat' (first | (with_reducible exact Below.refl _ _) | (with_reducible refine Below.alloc ?_ ?_ _) | (with_reducible refine Below.drew ?_) | (with_reducible refine below_drewN ?_ _) | (with_reducible refine Below.setCell ?_ ?_ _) | (with_reducible refine Below.trans ?_ (Below.mono (by assumption) ?_)) | (with_reducible exact Nat.le_refl _) | omega | (simp; omega) | (simp; done)))
  clear hb1
  have hl1w : w.heap.size < w1.heap.size ∧ w.heap.size < w1.heap.size + 1 := by omega
  go_wp2_with fail
  refine (rTruth_any _ _ _ _ _ _ _ _ _).mono ?_
  rintro e w2 ⟨rfl, hb2⟩
  have hz2 : w1.heap.size + 1 ≤ w2.heap.size := (Nat.le_trans (by (first | omega | (simp; done) | (simp; omega))) hb2.size)
  have hk2 := bc (B := w1.heap.size + 1) hb2 (by (first | omega | (simp; done) | (simp; omega)))
  have hf2 := bf (B := w1.heap.size + 1) hb2 (by (first | omega | (simp; done) | (simp; omega)))
  have hB2 : Below w.heap.size w w2 := by (repeat' (first | (with_reducible exact Below.refl _ _) | (with_reducible refine Below.alloc ?_ ?_ _) | (with_reducible refine Below.drew ?_) | (with_reducible refine below_drewN ?_ _) | (with_reducible refine Below.setCell ?_ ?_ _) | (with_reducible refine Below.trans ?_ (Below.mono (by assumption) ?_)) | (with_reducible exact Nat.le_refl _) | omega | (simp; omega) | (simp; done)))
  clear hb2
  have hl2w : w.heap.size < w2.heap.size ∧ w.heap.size < w2.heap.size + 1 := by omega
  have hl2w1 : w1.heap.size < w2.heap.size ∧ w1.heap.size < w2.heap.size + 1 := by omega
  go_wp2_with fail
  refine (Local_any _ _ _ _ _ _ _ _ _).mono ?_
  rintro e w3 ⟨rfl, hb3⟩
  have hz3 : w2.heap.size + 1 ≤ w3.heap.size := (Nat.le_trans (by (first | omega | (simp; done) | (simp; omega))) hb3.size)
  have hk3 := bc (B := w2.heap.size + 1) hb3 (by (first | omega | (simp; done) | (simp; omega)))
  have hf3 := bf (B := w2.heap.size + 1) hb3 (by (first | omega | (simp; done) | (simp; omega)))
  have hB3 : Below w.heap.size w w3 := by (repeat' (first | (with_reducible exact Below.refl _ _) | (with_reducible refine Below.alloc ?_ ?_ _) | (with_reducible refine Below.drew ?_) | (with_reducible refine below_drewN ?_ _) | (with_reducible refine Below.setCell ?_ ?_ _) | (with_reducible refine Below.trans ?_ (Below.mono (by assumption) ?_)) | (with_reducible exact Nat.le_refl _) | omega | (simp; omega) | (simp; done)))
  clear hb3
  have hl3w : w.heap.size < w3.heap.size ∧ w.heap.size < w3.heap.size + 1 := by omega
  have hl3w1 : w1.heap.size < w3.heap.size ∧ w1.heap.size < w3.heap.size + 1 := by omega
  have hl3w2 : w2.heap.size < w3.heap.size ∧ w2.heap.size < w3.heap.size + 1 := by omega
  go_wp2_with fail
  refine (rLocal_any _ _ _ _ _ _ _ _ _).mono ?_
  rintro e w4 ⟨rfl, hb4⟩
  have hz4 : w3.heap.size + 1 ≤ w4.heap.size := (Nat.le_trans (by (first | omega | (simp; done) | (simp; omega))) hb4.size)
  have hk4 := bc (B := w3.heap.size + 1) hb4 (by (first | omega | (simp; done) | (simp; omega)))
  have hf4 := bf (B := w3.heap.size + 1) hb4 (by (first | omega | (simp; done) | (simp; omega)))
  have hB4 : Below w.heap.size w w4 := by (repeat' (first | (with_reducible exact Below.refl _ _) | (with_reducible refine Below.alloc ?_ ?_ _) | (with_reducible refine Below.drew ?_) | (with_reducible refine below_drewN ?_ _) | (with_reducible refine Below.setCell ?_ ?_ _) | (with_reducible refine Below.trans ?_ (Below.mono (by assumption) ?_)) | (with_reducible exact Nat.le_refl _) | omega | (simp; omega) | (simp; done)))
  clear hb4
  have hl4w : w.heap.size < w4.heap.size ∧ w.heap.size < w4.heap.size + 1 := by omega
  have hl4w1 : w1.heap.size < w4.heap.size ∧ w1.heap.size < w4.heap.size + 1 := by omega
  have hl4w2 : w2.heap.size < w4.heap.size ∧ w2.heap.size < w4.heap.size + 1 := by omega
  have hl4w3 : w3.heap.size < w4.heap.size ∧ w3.heap.size < w4.heap.size + 1 := by omega
  go_wp2_with fail
  refine (Drift_any _ _ _ _ _ _ _ _ _).mono ?_
  rintro e w5 ⟨rfl, hb5⟩
  have hz5 : w4.heap.size + 1 ≤ w5.heap.size := (Nat.le_trans (by (first | omega | (simp; done) | (simp; omega))) hb5.size)
  have hk5 := bc (B := w4.heap.size + 1) hb5 (by (first | omega | (simp; done) | (simp; omega)))
  have hf5 := bf (B := w4.heap.size + 1) hb5 (by (first | omega | (simp; done) | (simp; omega)))
  have hB5 : Below w.heap.size w w5 := by (repeat' (first | (with_reducible exact Below.refl _ _) | (with_reducible refine Below.alloc ?_ ?_ _) | (with_reducible refine Below.drew ?_) | (with_reducible refine below_drewN ?_ _) | (with_reducible refine Below.setCell ?_ ?_ _) | (with_reducible refine Below.trans ?_ (Below.mono (by assumption) ?_)) | (with_reducible exact Nat.le_refl _) | omega | (simp; omega) | (simp; done)))
  clear hb5
  have hl5w : w.heap.size < w5.heap.size ∧ w.heap.size < w5.heap.size + 1 := by omega
  have hl5w1 : w1.heap.size < w5.heap.size ∧ w1.heap.size < w5.heap.size + 1 := by omega
  have hl5w2 : w2.heap.size < w5.heap.size ∧ w2.heap.size < w5.heap.size + 1 := by omega
  have hl5w3 : w3.heap.size < w5.heap.size ∧ w3.heap.size < w5.heap.size + 1 := by omega
  have hl5w4 : w4.heap.size < w5.heap.size ∧ w4.heap.size < w5.heap.size + 1 := by omega
  go_wp2_with fail
  refine (rDrift_any _ _ _ _ _ _ _ _ _).mono ?_
  rintro e w6 ⟨rfl, hb6⟩
  have hz6 : w5.heap.size ≤ w6.heap.size := (Nat.le_trans (by (first | omega | (simp; done) | (simp; omega))) hb6.size)
  have hk6 := bc (B := w5.heap.size) hb6 (by (first | omega | (simp; done) | (simp; omega)))
  have hf6 := bf (B := w5.heap.size) hb6 (by (first | omega | (simp; done) | (simp; omega)))
  have hB6 : Below w.heap.size w w6 := by (repeat' (first | (with_reducible exact Below.refl _ _) | (with_reducible refine Below.alloc ?_ ?_ _) | (with_reducible refine Below.drew ?_) | (with_reducible refine below_drewN ?_ _) | (with_reducible refine Below.setCell ?_ ?_ _) | (with_reducible refine Below.trans ?_ (Below.mono (by assumption) ?_)) | (with_reducible exact Nat.le_refl _) | omega | (simp; omega) | (simp; done)))
  clear hb6
  have hl6w : w.heap.size < w6.heap.size ∧ w.heap.size < w6.heap.size + 1 := by omega
  have hl6w1 : w1.heap.size < w6.heap.size ∧ w1.heap.size < w6.heap.size + 1 := by omega
  have hl6w2 : w2.heap.size < w6.heap.size ∧ w2.heap.size < w6.heap.size + 1 := by omega
  have hl6w3 : w3.heap.size < w6.heap.size ∧ w3.heap.size < w6.heap.size + 1 := by omega
  have hl6w4 : w4.heap.size < w6.heap.size ∧ w4.heap.size < w6.heap.size + 1 := by omega
  go_wp2_with fail
  have s0 : w6.cell? ⟨w.heap.size, 0, none⟩ = some (.int .i64 l) := by simp [*, go_sem]
  have s1 : w6.cell? ⟨w.heap.size, 1, none⟩ = some (.int .i64 a) := by simp [*, go_sem]
  have s2 : w6.cell? ⟨w.heap.size, 2, none⟩ = some (.int .i64 b) := by simp [*, go_sem]
  have s3 : w6.cell? ⟨w.heap.size, 3, none⟩ = some (.int .i64 n1) := by simp [*, go_sem]
  have s4 : w6.cell? ⟨w.heap.size, 4, none⟩ = some (.int .i64 d1) := by simp [*, go_sem]
  have s5 : w6.cell? ⟨w.heap.size, 5, none⟩ = some (.int .i64 n2) := by simp [*, go_sem]
  have s6 : w6.cell? ⟨w.heap.size, 6, none⟩ = some (.int .i64 d2) := by simp [*, go_sem]
  have s7 : w6.cell? ⟨w1.heap.size, 0, none⟩ = some (.int .i64 (truthF l a b n1 d1 n2 d2 t)) := by simp [*, go_sem]
  have s8 : w6.cell? ⟨w1.heap.size, 1, none⟩ = some (.int .i64 (truthT l a b n1 d1 n2 d2 t)) := by simp [*, go_sem]
  have s9 : w6.cell? ⟨w2.heap.size, 0, none⟩ = some (.int .i64 (truthF l a b n1 d1 n2 d2 t)) := by simp [*, go_sem]
  have s10 : w6.cell? ⟨w2.heap.size, 1, none⟩ = some (.int .i64 (truthT l a b n1 d1 n2 d2 t)) := by simp [*, go_sem]
  have s11 : w6.cell? ⟨w3.heap.size, 0, none⟩ = some (.int .i64 (localF l a b n1 d1 n2 d2 t)) := by simp [*, go_sem]
  have s12 : w6.cell? ⟨w3.heap.size, 1, none⟩ = some (.int .i64 (localT l a b n1 d1 n2 d2 t)) := by simp [*, go_sem]
  have s13 : w6.cell? ⟨w4.heap.size, 0, none⟩ = some (.int .i64 (localF l a b n1 d1 n2 d2 t)) := by simp [*, go_sem]
  have s14 : w6.cell? ⟨w4.heap.size, 1, none⟩ = some (.int .i64 (localT l a b n1 d1 n2 d2 t)) := by simp [*, go_sem]
  clear hk1 hf1 hk2 hf2 hk3 hf3 hk4 hf4 hk5 hf5 hk6 hf6
  go_region_held3 (fun w' => w'.cell? ⟨w.heap.size, 0, none⟩ = some (.int .i64 l) ∧ w'.cell? ⟨w.heap.size, 1, none⟩ = some (.int .i64 a) ∧ w'.cell? ⟨w.heap.size, 2, none⟩ = some (.int .i64 b) ∧ w'.cell? ⟨w.heap.size, 3, none⟩ = some (.int .i64 n1) ∧ w'.cell? ⟨w.heap.size, 4, none⟩ = some (.int .i64 d1) ∧ w'.cell? ⟨w.heap.size, 5, none⟩ = some (.int .i64 n2) ∧ w'.cell? ⟨w.heap.size, 6, none⟩ = some (.int .i64 d2) ∧ w'.cell? ⟨w1.heap.size, 0, none⟩ = some (.int .i64 (truthF l a b n1 d1 n2 d2 t)) ∧ w'.cell? ⟨w1.heap.size, 1, none⟩ = some (.int .i64 (truthT l a b n1 d1 n2 d2 t)) ∧ w'.cell? ⟨w2.heap.size, 0, none⟩ = some (.int .i64 (truthF l a b n1 d1 n2 d2 t)) ∧ w'.cell? ⟨w2.heap.size, 1, none⟩ = some (.int .i64 (truthT l a b n1 d1 n2 d2 t)) ∧ w'.cell? ⟨w3.heap.size, 0, none⟩ = some (.int .i64 (localF l a b n1 d1 n2 d2 t)) ∧ w'.cell? ⟨w3.heap.size, 1, none⟩ = some (.int .i64 (localT l a b n1 d1 n2 d2 t)) ∧ w'.cell? ⟨w4.heap.size, 0, none⟩ = some (.int .i64 (localF l a b n1 d1 n2 d2 t)) ∧ w'.cell? ⟨w4.heap.size, 1, none⟩ = some (.int .i64 (localT l a b n1 d1 n2 d2 t))) (go_keep)
    (first
     | (go_at_call 13; refine (clkcheck_any _ _ _ _ _ _ _ _).mono ?_; rintro e w7 ⟨rfl, hb7⟩; have hk7 := bc (B := w6.heap.size) hb7 (by (first | omega | (simp; done) | (simp; omega))); have hz7 : w6.heap.size ≤ w7.heap.size := (Nat.le_trans (by (first | omega | (simp; done) | (simp; omega))) hb7.size); have hB7 : Below w.heap.size w w7 := (by (repeat' (first | (with_reducible exact Below.refl _ _) | (with_reducible refine Below.alloc ?_ ?_ _) | (with_reducible refine Below.drew ?_) | (with_reducible refine below_drewN ?_ _) | (with_reducible refine Below.setCell ?_ ?_ _) | (with_reducible refine Below.trans ?_ (Below.mono (by assumption) ?_)) | (with_reducible exact Nat.le_refl _) | omega | (simp; omega) | (simp; done)))); clear hb7)
     | (go_at_call 14; refine (rclkcheck_any _ _ _ _ _ _ _ _).mono ?_; rintro e w7 ⟨rfl, hb7⟩; have hk7 := bc (B := w6.heap.size) hb7 (by (first | omega | (simp; done) | (simp; omega))); have hz7 : w6.heap.size ≤ w7.heap.size := (Nat.le_trans (by (first | omega | (simp; done) | (simp; omega))) hb7.size); have hB7 : Below w.heap.size w w7 := (by (repeat' (first | (with_reducible exact Below.refl _ _) | (with_reducible refine Below.alloc ?_ ?_ _) | (with_reducible refine Below.drew ?_) | (with_reducible refine below_drewN ?_ _) | (with_reducible refine Below.setCell ?_ ?_ _) | (with_reducible refine Below.trans ?_ (Below.mono (by assumption) ?_)) | (with_reducible exact Nat.le_refl _) | omega | (simp; omega) | (simp; done)))); clear hb7)
     | (go_at_call 15; refine (awake_any _).mono ?_; rintro e w7 ⟨rfl, hb7⟩; have hk7 := bc (B := w6.heap.size) hb7 (by (first | omega | (simp; done) | (simp; omega))); have hz7 : w6.heap.size ≤ w7.heap.size := (Nat.le_trans (by (first | omega | (simp; done) | (simp; omega))) hb7.size); have hB7 : Below w.heap.size w w7 := (by (repeat' (first | (with_reducible exact Below.refl _ _) | (with_reducible refine Below.alloc ?_ ?_ _) | (with_reducible refine Below.drew ?_) | (with_reducible refine below_drewN ?_ _) | (with_reducible refine Below.setCell ?_ ?_ _) | (with_reducible refine Below.trans ?_ (Below.mono (by assumption) ?_)) | (with_reducible exact Nat.le_refl _) | omega | (simp; omega) | (simp; done)))); clear hb7))
  go_wp2_with fail
  go_ret
  exact ⟨rfl, by (repeat' (first | (with_reducible exact Below.refl _ _) | (with_reducible refine Below.alloc ?_ ?_ _) | (with_reducible refine Below.drew ?_) | (with_reducible refine below_drewN ?_ _) | (with_reducible refine Below.setCell ?_ ?_ _) | (with_reducible refine Below.trans ?_ (Below.mono (by assumption) ?_)) | (with_reducible exact Nat.le_refl _) | omega | (simp; omega) | (simp; done)))⟩
end Go.Proofs.Ytbhmmffompapdaa

/- Walks over clock.Sync and the reference Sync. -/
import Derived.Test.YtbhmmffompapdaaRows
import Derived.Test.YtbhmmffompapdaaC5
import Derived.WalkKit
import Derived.WalkSpells
import Derived.WalkLawsBesides
import Derived.Handy
import Derived.Deep.QuietTactic
import Derived.BigQuiet
import Derived.Deep.RegionHeld3
import Derived.Deep.DeepCutAuto
import Derived.Lib.Hide
namespace Go.Proofs.Ytbhmmffompapdaa
open Go.RowKit

/-- what Sync returns -/
def syncE (l a b n1 d1 n2 d2 t xf xt : Int) : Int :=
  if clkE l a b n1 d1 n2 d2 ≠ 0 then 1 else if spanB xf xt = false then 2 else if truthE l a b n1 d1 n2 d2 t ≠ 0 then truthE l a b n1 d1 n2 d2 t
  else if min (truthT l a b n1 d1 n2 d2 t) xt < max (truthF l a b n1 d1 n2 d2 t) xf then 24 else 0
def syncV (l a b n1 d1 n2 d2 t xf xt : Int) : Value :=
  if syncE l a b n1 d1 n2 d2 t xf xt = 0 then .agg #[.int .i64 t, .int .i64 (max (truthF l a b n1 d1 n2 d2 t) xf), .int .i64 (min (truthT l a b n1 d1 n2 d2 t) xt), .int .i64 n1, .int .i64 d1, .int .i64 n2, .int .i64 d2] else .agg #[.int .i64 0, .int .i64 0, .int .i64 0, .int .i64 0, .int .i64 0, .int .i64 0, .int .i64 0]
section
variable {l a b n1 d1 n2 d2 t xf xt : Int}
theorem sw1 (h : (clkE l a b n1 d1 n2 d2 != 0) = true) : syncE l a b n1 d1 n2 d2 t xf xt = 1 := by
  unfold syncE; rw [if_pos (by simpa using h)]
theorem sw2 (h : (clkE l a b n1 d1 n2 d2 != 0) = false) (h2 : spanB xf xt = false) : syncE l a b n1 d1 n2 d2 t xf xt = 2 := by
  unfold syncE; rw [if_neg (by simpa using h), if_pos h2]
theorem sw3 (h : (clkE l a b n1 d1 n2 d2 != 0) = false) (h2 : spanB xf xt = true) (h3 : truthE l a b n1 d1 n2 d2 t ≠ 0) : syncE l a b n1 d1 n2 d2 t xf xt = truthE l a b n1 d1 n2 d2 t := by
  unfold syncE; rw [if_neg (by simpa using h), if_neg (by simp [h2]), if_pos h3]
theorem sw4 (h : (clkE l a b n1 d1 n2 d2 != 0) = false) (h2 : spanB xf xt = true) (h3 : truthE l a b n1 d1 n2 d2 t = 0) (h4 : min (truthT l a b n1 d1 n2 d2 t) xt < max (truthF l a b n1 d1 n2 d2 t) xf) : syncE l a b n1 d1 n2 d2 t xf xt = 24 := by
  unfold syncE; rw [if_neg (by simpa using h), if_neg (by simp [h2]), if_neg (by simp [h3]), if_pos h4]
theorem sw5 (h : (clkE l a b n1 d1 n2 d2 != 0) = false) (h2 : spanB xf xt = true) (h3 : truthE l a b n1 d1 n2 d2 t = 0) (h4 : ¬ min (truthT l a b n1 d1 n2 d2 t) xt < max (truthF l a b n1 d1 n2 d2 t) xf) : syncE l a b n1 d1 n2 d2 t xf xt = 0 := by
  unfold syncE; rw [if_neg (by simpa using h), if_neg (by simp [h2]), if_neg (by simp [h3]), if_neg h4]
end

set_option maxHeartbeats 2000000 in
theorem Sync_any (l a b n1 d1 n2 d2 t xf xt : Int) (w : World) :
    Calls Try.prog 17 #[.agg #[.int .i64 l, .int .i64 a, .int .i64 b, .int .i64 n1, .int .i64 d1, .int .i64 n2, .int .i64 d2], .int .i64 t, .agg #[.int .i64 xf, .int .i64 xt]] w fun e w' => e = .returned (.tuple #[syncV l a b n1 d1 n2 d2 t xf xt, .int .i64 (syncE l a b n1 d1 n2 d2 t xf xt)]) ∧ Below w.heap.size w w' := by
  by_cases hc0 : clkE l a b n1 d1 n2 d2 = 0
  rotate_left
  · have hc1 : (clkE l a b n1 d1 n2 d2 != 0) = true := by simpa using hc0
    go_enter Try.func17, Try.ntmps17
    go_wp2_with (first
        | (go_at_call 13; refine (clkcheck_any _ _ _ _ _ _ _ _).mono ?_; (rintro e w1 ⟨rfl, hb⟩; have hz : w.heap.size + 1 + 1 + 1 ≤ w1.heap.size := (Nat.le_trans (by (first | omega | (simp; done) | (simp; omega))) hb.size); have hk := bc (B := w.heap.size + 1 + 1 + 1) hb (by (first | omega | (simp; done) | (simp; omega))); have hf := bf (B := w.heap.size + 1 + 1 + 1) hb (by (first | omega | (simp; done) | (simp; omega))); have hy : w.heap.size < w1.heap.size ∧ w.heap.size + 1 < w1.heap.size ∧ w.heap.size + 1 + 1 < w1.heap.size := (by omega))))
    refine bodyPost_ret (by (simp [results, Try.results17, go_sem, *]; try rfl)) rfl ?_
    refine ⟨?_, by (repeat' (first | (with_reducible exact Below.refl _ _) | (with_reducible refine Below.alloc ?_ ?_ _) | (with_reducible refine Below.drew ?_) | (with_reducible refine below_drewN ?_ _) | (with_reducible refine Below.setCell ?_ ?_ _) | (with_reducible refine Below.trans ?_ (Below.mono (by assumption) ?_)) | (with_reducible exact Nat.le_refl _) | omega | (simp; omega) | (simp; done)))⟩
    rw [syncV, sw1 (by assumption)]; rfl
  have hcc : (clkE l a b n1 d1 n2 d2 != 0) = false := by simpa using hc0
  have Hc := Lib.hid hc0
  have HC := Lib.hid hcc
  clear hc0 hcc
  cases hs : spanB xf xt
  · have HE := Lib.hid (sw2 (t := t) HC.out hs)
    have Hs := Lib.hid hs
    clear hs
    go_enter Try.func17, Try.ntmps17
    go_wp2_with (first
      | (go_at_call 13; refine (clkcheck_ok _ _ _ _ _ _ _ _ Hc).mono ?_; (rintro e w1 ⟨rfl, hb⟩; have hz : w.heap.size + 1 + 1 + 1 ≤ w1.heap.size := (Nat.le_trans (by (first | omega | (simp; done) | (simp; omega))) hb.size); have hk := bc (B := w.heap.size + 1 + 1 + 1) hb (by (first | omega | (simp; done) | (simp; omega))); have hf := bf (B := w.heap.size + 1 + 1 + 1) hb (by (first | omega | (simp; done) | (simp; omega))); have hy : w.heap.size < w1.heap.size ∧ w.heap.size + 1 < w1.heap.size ∧ w.heap.size + 1 + 1 < w1.heap.size := (by omega)))
      | (go_at_call 25; refine (interval_any _ _ _).mono ?_; rw [Hs.out]; (rintro e w1 ⟨rfl, hb⟩; have hz : w.heap.size + 1 + 1 + 1 ≤ w1.heap.size := (Nat.le_trans (by (first | omega | (simp; done) | (simp; omega))) hb.size); have hk := bc (B := w.heap.size + 1 + 1 + 1) hb (by (first | omega | (simp; done) | (simp; omega))); have hf := bf (B := w.heap.size + 1 + 1 + 1) hb (by (first | omega | (simp; done) | (simp; omega))); have hy : w.heap.size < w1.heap.size ∧ w.heap.size + 1 < w1.heap.size ∧ w.heap.size + 1 + 1 < w1.heap.size := (by omega))))
    refine bodyPost_ret (by (simp [results, Try.results17, go_sem, *]; try rfl)) rfl ?_
    refine ⟨?_, by (repeat' (first | (with_reducible exact Below.refl _ _) | (with_reducible refine Below.alloc ?_ ?_ _) | (with_reducible refine Below.drew ?_) | (with_reducible refine below_drewN ?_ _) | (with_reducible refine Below.setCell ?_ ?_ _) | (with_reducible refine Below.trans ?_ (Below.mono (by assumption) ?_)) | (with_reducible exact Nat.le_refl _) | omega | (simp; omega) | (simp; done)))⟩
    rw [syncV, HE.out]; rfl
  by_cases hT0 : truthE l a b n1 d1 n2 d2 t = 0
  rotate_left
  · have HE := Lib.hid (sw3 HC.out hs hT0)
    have Hs := Lib.hid hs
    have HT : Hid (syncV l a b n1 d1 n2 d2 t xf xt = .agg #[.int .i64 0, .int .i64 0, .int .i64 0, .int .i64 0, .int .i64 0, .int .i64 0, .int .i64 0]) := by show _ = _; rw [syncV, HE.out, if_neg hT0]
    have hT1 : (truthE l a b n1 d1 n2 d2 t != 0) = true := by simpa using hT0
    clear hs hT0
    go_enter Try.func17, Try.ntmps17
    go_wp2_with fail
    refine (clkcheck_ok _ _ _ _ _ _ _ _ Hc).mono ?_
    (rintro e w1 ⟨rfl, hb1⟩; have hz1 : w.heap.size + 1 + 1 + 1 ≤ w1.heap.size := (Nat.le_trans (by (first | omega | (simp; done) | (simp; omega))) hb1.size); have hk1 := bc (B := w.heap.size + 1 + 1 + 1) hb1 (by (first | omega | (simp; done) | (simp; omega))); have hf1 := bf (B := w.heap.size + 1 + 1 + 1) hb1 (by (first | omega | (simp; done) | (simp; omega))); have hy1 : w.heap.size < w1.heap.size ∧ w.heap.size + 1 < w1.heap.size ∧ w.heap.size + 1 + 1 < w1.heap.size := (by omega))
    go_wp2_with fail
    refine (interval_any _ _ _).mono ?_
    rw [Hs.out]
    (rintro e w2 ⟨rfl, hb2⟩; have hz2 : w.heap.size + 1 + 1 + 1 ≤ w2.heap.size := (Nat.le_trans (by (first | omega | (simp; done) | (simp; omega))) hb2.size); have hk2 := bc (B := w.heap.size + 1 + 1 + 1) hb2 (by (first | omega | (simp; done) | (simp; omega))); have hf2 := bf (B := w.heap.size + 1 + 1 + 1) hb2 (by (first | omega | (simp; done) | (simp; omega))); have hy2 : w.heap.size < w2.heap.size ∧ w.heap.size + 1 < w2.heap.size ∧ w.heap.size + 1 + 1 < w2.heap.size := (by omega))
    go_wp2_with fail
    refine (Truth_any _ _ _ _ _ _ _ _ _).mono ?_
    (rintro e w3 ⟨rfl, hb3⟩; have hz3 : w.heap.size + 1 + 1 + 1 ≤ w3.heap.size := (Nat.le_trans (by (first | omega | (simp; done) | (simp; omega))) hb3.size); have hk3 := bc (B := w.heap.size + 1 + 1 + 1) hb3 (by (first | omega | (simp; done) | (simp; omega))); have hf3 := bf (B := w.heap.size + 1 + 1 + 1) hb3 (by (first | omega | (simp; done) | (simp; omega))); have hy3 : w.heap.size < w3.heap.size ∧ w.heap.size + 1 < w3.heap.size ∧ w.heap.size + 1 + 1 < w3.heap.size := (by omega))
    have g0 : w3.cell? ⟨w.heap.size, 0, none⟩ = some (.int .i64 l) := by simp [*, go_sem]
    have g1 : w3.cell? ⟨w.heap.size, 1, none⟩ = some (.int .i64 a) := by simp [*, go_sem]
    have g2 : w3.cell? ⟨w.heap.size, 2, none⟩ = some (.int .i64 b) := by simp [*, go_sem]
    have g3 : w3.cell? ⟨w.heap.size, 3, none⟩ = some (.int .i64 n1) := by simp [*, go_sem]
    have g4 : w3.cell? ⟨w.heap.size, 4, none⟩ = some (.int .i64 d1) := by simp [*, go_sem]
    have g5 : w3.cell? ⟨w.heap.size, 5, none⟩ = some (.int .i64 n2) := by simp [*, go_sem]
    have g6 : w3.cell? ⟨w.heap.size, 6, none⟩ = some (.int .i64 d2) := by simp [*, go_sem]
    have x0 : w3.cell? ⟨w.heap.size + 1, 0, none⟩ = some (.int .i64 xf) := by simp [*, go_sem]
    have x1 : w3.cell? ⟨w.heap.size + 1, 1, none⟩ = some (.int .i64 xt) := by simp [*, go_sem]
    have r0 : w3.cell? ⟨w.heap.size + 1 + 1, 0, none⟩ = some (.int .i64 0) := by simp [*, go_sem]
    have f0 : w3.frozen? ⟨w.heap.size + 1 + 1, 0, none⟩ = false := by simp [*, go_sem]
    have p0 : w3.frozen? ⟨w.heap.size, 0, none⟩ = false := by simp [*, go_sem]
    have r1 : w3.cell? ⟨w.heap.size + 1 + 1, 1, none⟩ = some (.int .i64 0) := by simp [*, go_sem]
    have f1 : w3.frozen? ⟨w.heap.size + 1 + 1, 1, none⟩ = false := by simp [*, go_sem]
    have p1 : w3.frozen? ⟨w.heap.size, 1, none⟩ = false := by simp [*, go_sem]
    have r2 : w3.cell? ⟨w.heap.size + 1 + 1, 2, none⟩ = some (.int .i64 0) := by simp [*, go_sem]
    have f2 : w3.frozen? ⟨w.heap.size + 1 + 1, 2, none⟩ = false := by simp [*, go_sem]
    have p2 : w3.frozen? ⟨w.heap.size, 2, none⟩ = false := by simp [*, go_sem]
    have r3 : w3.cell? ⟨w.heap.size + 1 + 1, 3, none⟩ = some (.int .i64 0) := by simp [*, go_sem]
    have f3 : w3.frozen? ⟨w.heap.size + 1 + 1, 3, none⟩ = false := by simp [*, go_sem]
    have p3 : w3.frozen? ⟨w.heap.size, 3, none⟩ = false := by simp [*, go_sem]
    have r4 : w3.cell? ⟨w.heap.size + 1 + 1, 4, none⟩ = some (.int .i64 0) := by simp [*, go_sem]
    have f4 : w3.frozen? ⟨w.heap.size + 1 + 1, 4, none⟩ = false := by simp [*, go_sem]
    have p4 : w3.frozen? ⟨w.heap.size, 4, none⟩ = false := by simp [*, go_sem]
    have r5 : w3.cell? ⟨w.heap.size + 1 + 1, 5, none⟩ = some (.int .i64 0) := by simp [*, go_sem]
    have f5 : w3.frozen? ⟨w.heap.size + 1 + 1, 5, none⟩ = false := by simp [*, go_sem]
    have p5 : w3.frozen? ⟨w.heap.size, 5, none⟩ = false := by simp [*, go_sem]
    have r6 : w3.cell? ⟨w.heap.size + 1 + 1, 6, none⟩ = some (.int .i64 0) := by simp [*, go_sem]
    have f6 : w3.frozen? ⟨w.heap.size + 1 + 1, 6, none⟩ = false := by simp [*, go_sem]
    have p6 : w3.frozen? ⟨w.heap.size, 6, none⟩ = false := by simp [*, go_sem]
    have hB3 : Below w.heap.size w w3 := by (repeat' (first | (with_reducible exact Below.refl _ _) | (with_reducible refine Below.alloc ?_ ?_ _) | (with_reducible refine Below.drew ?_) | (with_reducible refine below_drewN ?_ _) | (with_reducible refine Below.setCell ?_ ?_ _) | (with_reducible refine Below.trans ?_ (Below.mono (by assumption) ?_)) | (with_reducible exact Nat.le_refl _) | omega | (simp; omega) | (simp; done)))
    clear hk1 hk2 hk3 hf1 hf2 hf3 hy1 hy2 hb1 hb2 hb3 hz1 hz2
    go_upto_region 7 with fail
    have s0 : (w3.alloc (Obj.cells #[.int .i64 (truthF l a b n1 d1 n2 d2 t), .int .i64 (truthT l a b n1 d1 n2 d2 t)] 23)).cell? ⟨w.heap.size + 1 + 1, 0, none⟩ = some (.int .i64 0) := by simp [*, go_sem]
    have t0 : (w3.alloc (Obj.cells #[.int .i64 (truthF l a b n1 d1 n2 d2 t), .int .i64 (truthT l a b n1 d1 n2 d2 t)] 23)).frozen? ⟨w.heap.size + 1 + 1, 0, none⟩ = false := by simp [*, go_sem]
    have s1 : (w3.alloc (Obj.cells #[.int .i64 (truthF l a b n1 d1 n2 d2 t), .int .i64 (truthT l a b n1 d1 n2 d2 t)] 23)).cell? ⟨w.heap.size + 1 + 1, 1, none⟩ = some (.int .i64 0) := by simp [*, go_sem]
    have t1 : (w3.alloc (Obj.cells #[.int .i64 (truthF l a b n1 d1 n2 d2 t), .int .i64 (truthT l a b n1 d1 n2 d2 t)] 23)).frozen? ⟨w.heap.size + 1 + 1, 1, none⟩ = false := by simp [*, go_sem]
    have s2 : (w3.alloc (Obj.cells #[.int .i64 (truthF l a b n1 d1 n2 d2 t), .int .i64 (truthT l a b n1 d1 n2 d2 t)] 23)).cell? ⟨w.heap.size + 1 + 1, 2, none⟩ = some (.int .i64 0) := by simp [*, go_sem]
    have t2 : (w3.alloc (Obj.cells #[.int .i64 (truthF l a b n1 d1 n2 d2 t), .int .i64 (truthT l a b n1 d1 n2 d2 t)] 23)).frozen? ⟨w.heap.size + 1 + 1, 2, none⟩ = false := by simp [*, go_sem]
    have s3 : (w3.alloc (Obj.cells #[.int .i64 (truthF l a b n1 d1 n2 d2 t), .int .i64 (truthT l a b n1 d1 n2 d2 t)] 23)).cell? ⟨w.heap.size + 1 + 1, 3, none⟩ = some (.int .i64 0) := by simp [*, go_sem]
    have t3 : (w3.alloc (Obj.cells #[.int .i64 (truthF l a b n1 d1 n2 d2 t), .int .i64 (truthT l a b n1 d1 n2 d2 t)] 23)).frozen? ⟨w.heap.size + 1 + 1, 3, none⟩ = false := by simp [*, go_sem]
    have s4 : (w3.alloc (Obj.cells #[.int .i64 (truthF l a b n1 d1 n2 d2 t), .int .i64 (truthT l a b n1 d1 n2 d2 t)] 23)).cell? ⟨w.heap.size + 1 + 1, 4, none⟩ = some (.int .i64 0) := by simp [*, go_sem]
    have t4 : (w3.alloc (Obj.cells #[.int .i64 (truthF l a b n1 d1 n2 d2 t), .int .i64 (truthT l a b n1 d1 n2 d2 t)] 23)).frozen? ⟨w.heap.size + 1 + 1, 4, none⟩ = false := by simp [*, go_sem]
    have s5 : (w3.alloc (Obj.cells #[.int .i64 (truthF l a b n1 d1 n2 d2 t), .int .i64 (truthT l a b n1 d1 n2 d2 t)] 23)).cell? ⟨w.heap.size + 1 + 1, 5, none⟩ = some (.int .i64 0) := by simp [*, go_sem]
    have t5 : (w3.alloc (Obj.cells #[.int .i64 (truthF l a b n1 d1 n2 d2 t), .int .i64 (truthT l a b n1 d1 n2 d2 t)] 23)).frozen? ⟨w.heap.size + 1 + 1, 5, none⟩ = false := by simp [*, go_sem]
    have s6 : (w3.alloc (Obj.cells #[.int .i64 (truthF l a b n1 d1 n2 d2 t), .int .i64 (truthT l a b n1 d1 n2 d2 t)] 23)).cell? ⟨w.heap.size + 1 + 1, 6, none⟩ = some (.int .i64 0) := by simp [*, go_sem]
    have t6 : (w3.alloc (Obj.cells #[.int .i64 (truthF l a b n1 d1 n2 d2 t), .int .i64 (truthT l a b n1 d1 n2 d2 t)] 23)).frozen? ⟨w.heap.size + 1 + 1, 6, none⟩ = false := by simp [*, go_sem]
    have hB4 : Below w.heap.size w (w3.alloc (Obj.cells #[.int .i64 (truthF l a b n1 d1 n2 d2 t), .int .i64 (truthT l a b n1 d1 n2 d2 t)] 23)) := by (repeat' (first | (with_reducible exact Below.refl _ _) | (with_reducible refine Below.alloc ?_ ?_ _) | (with_reducible refine Below.drew ?_) | (with_reducible refine below_drewN ?_ _) | (with_reducible refine Below.setCell ?_ ?_ _) | (with_reducible refine Below.trans ?_ (Below.mono (by assumption) ?_)) | (with_reducible exact Nat.le_refl _) | omega | (simp; omega) | (simp; done)))
    generalize (w3.alloc (Obj.cells #[.int .i64 (truthF l a b n1 d1 n2 d2 t), .int .i64 (truthT l a b n1 d1 n2 d2 t)] 23)) = w4 at *
    clear r0 r1 r2 r3 r4 r5 r6 f0 f1 f2 f3 f4 f5 f6 hB3
    go_wp2_with fail
    refine bodyPost_ret (by (simp [results, Try.results17, go_sem, *]; try rfl)) rfl ?_
    refine ⟨?_, by (repeat' (first | (with_reducible exact Below.refl _ _) | (with_reducible refine Below.alloc ?_ ?_ _) | (with_reducible refine Below.drew ?_) | (with_reducible refine below_drewN ?_ _) | (with_reducible refine Below.setCell ?_ ?_ _) | (with_reducible refine Below.trans ?_ (Below.mono (by assumption) ?_)) | (with_reducible exact Nat.le_refl _) | omega | (simp; omega) | (simp; done)))⟩
    rw [HT.out, HE.out]
  have H4 := Lib.hid (sw4 (xf := xf) (xt := xt) HC.out hs hT0)
  have H5 := Lib.hid (sw5 (xf := xf) (xt := xt) HC.out hs hT0)
  have HV : Hid (syncV l a b n1 d1 n2 d2 t xf xt = if syncE l a b n1 d1 n2 d2 t xf xt = 0 then .agg #[.int .i64 t, .int .i64 (max (truthF l a b n1 d1 n2 d2 t) xf), .int .i64 (min (truthT l a b n1 d1 n2 d2 t) xt), .int .i64 n1, .int .i64 d1, .int .i64 n2, .int .i64 d2] else .agg #[.int .i64 0, .int .i64 0, .int .i64 0, .int .i64 0, .int .i64 0, .int .i64 0, .int .i64 0]) := rfl
  have Hs := Lib.hid hs
  have HT := Lib.hid hT0
  clear hs hT0
  have hTr : ∀ w : World, Calls Try.prog 7 #[.agg #[.int .i64 l, .int .i64 a, .int .i64 b, .int .i64 n1, .int .i64 d1, .int .i64 n2, .int .i64 d2], .int .i64 t] w fun e w' => e = .returned (.tuple #[.agg #[.int .i64 (truthF l a b n1 d1 n2 d2 t), .int .i64 (truthT l a b n1 d1 n2 d2 t)], .int .i64 0]) ∧ Below w.heap.size w w' := fun w => by
    have := Truth_any l a b n1 d1 n2 d2 t w
    rwa [HT.out] at this
  have HTr := Lib.hid hTr
  clear hTr
  generalize truthF l a b n1 d1 n2 d2 t = F at *
  generalize truthT l a b n1 d1 n2 d2 t = T at *
  have HM : Hid (max F xf = if F < xf then xf else F) := by show _ = _; rw [Int.max_def]; split <;> split <;> omega
  have HN : Hid (min T xt = if T < xt then T else xt) := by show _ = _; rw [Int.min_def]; split <;> split <;> omega
  go_enter Try.func17, Try.ntmps17
  go_wp2_with fail
  refine (clkcheck_ok _ _ _ _ _ _ _ _ Hc).mono ?_
  (rintro e w1 ⟨rfl, hb1⟩; have hz1 : w.heap.size + 1 + 1 + 1 ≤ w1.heap.size := (Nat.le_trans (by (first | omega | (simp; done) | (simp; omega))) hb1.size); have hk1 := bc (B := w.heap.size + 1 + 1 + 1) hb1 (by (first | omega | (simp; done) | (simp; omega))); have hf1 := bf (B := w.heap.size + 1 + 1 + 1) hb1 (by (first | omega | (simp; done) | (simp; omega))); have hy1 : w.heap.size < w1.heap.size ∧ w.heap.size + 1 < w1.heap.size ∧ w.heap.size + 1 + 1 < w1.heap.size := (by omega))
  go_wp2_with fail
  refine (interval_any _ _ _).mono ?_
  rw [Hs.out]
  (rintro e w2 ⟨rfl, hb2⟩; have hz2 : w.heap.size + 1 + 1 + 1 ≤ w2.heap.size := (Nat.le_trans (by (first | omega | (simp; done) | (simp; omega))) hb2.size); have hk2 := bc (B := w.heap.size + 1 + 1 + 1) hb2 (by (first | omega | (simp; done) | (simp; omega))); have hf2 := bf (B := w.heap.size + 1 + 1 + 1) hb2 (by (first | omega | (simp; done) | (simp; omega))); have hy2 : w.heap.size < w2.heap.size ∧ w.heap.size + 1 < w2.heap.size ∧ w.heap.size + 1 + 1 < w2.heap.size := (by omega))
  go_wp2_with fail
  refine (HTr.out _).mono ?_
  (rintro e w3 ⟨rfl, hb3⟩; have hz3 : w.heap.size + 1 + 1 + 1 ≤ w3.heap.size := (Nat.le_trans (by (first | omega | (simp; done) | (simp; omega))) hb3.size); have hk3 := bc (B := w.heap.size + 1 + 1 + 1) hb3 (by (first | omega | (simp; done) | (simp; omega))); have hf3 := bf (B := w.heap.size + 1 + 1 + 1) hb3 (by (first | omega | (simp; done) | (simp; omega))); have hy3 : w.heap.size < w3.heap.size ∧ w.heap.size + 1 < w3.heap.size ∧ w.heap.size + 1 + 1 < w3.heap.size := (by omega))
  have g0 : w3.cell? ⟨w.heap.size, 0, none⟩ = some (.int .i64 l) := by simp [*, go_sem]
  have g1 : w3.cell? ⟨w.heap.size, 1, none⟩ = some (.int .i64 a) := by simp [*, go_sem]
  have g2 : w3.cell? ⟨w.heap.size, 2, none⟩ = some (.int .i64 b) := by simp [*, go_sem]
  have g3 : w3.cell? ⟨w.heap.size, 3, none⟩ = some (.int .i64 n1) := by simp [*, go_sem]
  have g4 : w3.cell? ⟨w.heap.size, 4, none⟩ = some (.int .i64 d1) := by simp [*, go_sem]
  have g5 : w3.cell? ⟨w.heap.size, 5, none⟩ = some (.int .i64 n2) := by simp [*, go_sem]
  have g6 : w3.cell? ⟨w.heap.size, 6, none⟩ = some (.int .i64 d2) := by simp [*, go_sem]
  have x0 : w3.cell? ⟨w.heap.size + 1, 0, none⟩ = some (.int .i64 xf) := by simp [*, go_sem]
  have x1 : w3.cell? ⟨w.heap.size + 1, 1, none⟩ = some (.int .i64 xt) := by simp [*, go_sem]
  have r0 : w3.cell? ⟨w.heap.size + 1 + 1, 0, none⟩ = some (.int .i64 0) := by simp [*, go_sem]
  have f0 : w3.frozen? ⟨w.heap.size + 1 + 1, 0, none⟩ = false := by simp [*, go_sem]
  have p0 : w3.frozen? ⟨w.heap.size, 0, none⟩ = false := by simp [*, go_sem]
  have r1 : w3.cell? ⟨w.heap.size + 1 + 1, 1, none⟩ = some (.int .i64 0) := by simp [*, go_sem]
  have f1 : w3.frozen? ⟨w.heap.size + 1 + 1, 1, none⟩ = false := by simp [*, go_sem]
  have p1 : w3.frozen? ⟨w.heap.size, 1, none⟩ = false := by simp [*, go_sem]
  have r2 : w3.cell? ⟨w.heap.size + 1 + 1, 2, none⟩ = some (.int .i64 0) := by simp [*, go_sem]
  have f2 : w3.frozen? ⟨w.heap.size + 1 + 1, 2, none⟩ = false := by simp [*, go_sem]
  have p2 : w3.frozen? ⟨w.heap.size, 2, none⟩ = false := by simp [*, go_sem]
  have r3 : w3.cell? ⟨w.heap.size + 1 + 1, 3, none⟩ = some (.int .i64 0) := by simp [*, go_sem]
  have f3 : w3.frozen? ⟨w.heap.size + 1 + 1, 3, none⟩ = false := by simp [*, go_sem]
  have p3 : w3.frozen? ⟨w.heap.size, 3, none⟩ = false := by simp [*, go_sem]
  have r4 : w3.cell? ⟨w.heap.size + 1 + 1, 4, none⟩ = some (.int .i64 0) := by simp [*, go_sem]
  have f4 : w3.frozen? ⟨w.heap.size + 1 + 1, 4, none⟩ = false := by simp [*, go_sem]
  have p4 : w3.frozen? ⟨w.heap.size, 4, none⟩ = false := by simp [*, go_sem]
  have r5 : w3.cell? ⟨w.heap.size + 1 + 1, 5, none⟩ = some (.int .i64 0) := by simp [*, go_sem]
  have f5 : w3.frozen? ⟨w.heap.size + 1 + 1, 5, none⟩ = false := by simp [*, go_sem]
  have p5 : w3.frozen? ⟨w.heap.size, 5, none⟩ = false := by simp [*, go_sem]
  have r6 : w3.cell? ⟨w.heap.size + 1 + 1, 6, none⟩ = some (.int .i64 0) := by simp [*, go_sem]
  have f6 : w3.frozen? ⟨w.heap.size + 1 + 1, 6, none⟩ = false := by simp [*, go_sem]
  have p6 : w3.frozen? ⟨w.heap.size, 6, none⟩ = false := by simp [*, go_sem]
  have hB3 : Below w.heap.size w w3 := by (repeat' (first | (with_reducible exact Below.refl _ _) | (with_reducible refine Below.alloc ?_ ?_ _) | (with_reducible refine Below.drew ?_) | (with_reducible refine below_drewN ?_ _) | (with_reducible refine Below.setCell ?_ ?_ _) | (with_reducible refine Below.trans ?_ (Below.mono (by assumption) ?_)) | (with_reducible exact Nat.le_refl _) | omega | (simp; omega) | (simp; done)))
  clear hk1 hk2 hk3 hf1 hf2 hf3 hy1 hy2 hb1 hb2 hb3 hz1 hz2
  go_upto_if 44 with fail
  generalize hmx : (if F < xf then xf else F) = mx at *
  generalize hmn : (if xt < T then xt else T) = mn at *
  have HX : Hid (max F xf = mx) := HM.out
  have HN2 : Hid (min T xt = mn) := HN.out.trans (by rw [← hmn]; split <;> split <;> omega)
  clear hmx hmn HM HN
  have G0 : ((w3.alloc (Obj.cells #[.int .i64 F, .int .i64 T] 23)).alloc (Obj.cells #[.int .i64 mx, .int .i64 mn] 23)).cell? ⟨w.heap.size, 0, none⟩ = some (.int .i64 l) := by simp [*, go_sem]
  have P0 : ((w3.alloc (Obj.cells #[.int .i64 F, .int .i64 T] 23)).alloc (Obj.cells #[.int .i64 mx, .int .i64 mn] 23)).frozen? ⟨w.heap.size, 0, none⟩ = false := by simp [*, go_sem]
  have S0 : ((w3.alloc (Obj.cells #[.int .i64 F, .int .i64 T] 23)).alloc (Obj.cells #[.int .i64 mx, .int .i64 mn] 23)).cell? ⟨w.heap.size + 1 + 1, 0, none⟩ = some (.int .i64 0) := by simp [*, go_sem]
  have T0 : ((w3.alloc (Obj.cells #[.int .i64 F, .int .i64 T] 23)).alloc (Obj.cells #[.int .i64 mx, .int .i64 mn] 23)).frozen? ⟨w.heap.size + 1 + 1, 0, none⟩ = false := by simp [*, go_sem]
  have G1 : ((w3.alloc (Obj.cells #[.int .i64 F, .int .i64 T] 23)).alloc (Obj.cells #[.int .i64 mx, .int .i64 mn] 23)).cell? ⟨w.heap.size, 1, none⟩ = some (.int .i64 a) := by simp [*, go_sem]
  have P1 : ((w3.alloc (Obj.cells #[.int .i64 F, .int .i64 T] 23)).alloc (Obj.cells #[.int .i64 mx, .int .i64 mn] 23)).frozen? ⟨w.heap.size, 1, none⟩ = false := by simp [*, go_sem]
  have S1 : ((w3.alloc (Obj.cells #[.int .i64 F, .int .i64 T] 23)).alloc (Obj.cells #[.int .i64 mx, .int .i64 mn] 23)).cell? ⟨w.heap.size + 1 + 1, 1, none⟩ = some (.int .i64 0) := by simp [*, go_sem]
  have T1 : ((w3.alloc (Obj.cells #[.int .i64 F, .int .i64 T] 23)).alloc (Obj.cells #[.int .i64 mx, .int .i64 mn] 23)).frozen? ⟨w.heap.size + 1 + 1, 1, none⟩ = false := by simp [*, go_sem]
  have G2 : ((w3.alloc (Obj.cells #[.int .i64 F, .int .i64 T] 23)).alloc (Obj.cells #[.int .i64 mx, .int .i64 mn] 23)).cell? ⟨w.heap.size, 2, none⟩ = some (.int .i64 b) := by simp [*, go_sem]
  have P2 : ((w3.alloc (Obj.cells #[.int .i64 F, .int .i64 T] 23)).alloc (Obj.cells #[.int .i64 mx, .int .i64 mn] 23)).frozen? ⟨w.heap.size, 2, none⟩ = false := by simp [*, go_sem]
  have S2 : ((w3.alloc (Obj.cells #[.int .i64 F, .int .i64 T] 23)).alloc (Obj.cells #[.int .i64 mx, .int .i64 mn] 23)).cell? ⟨w.heap.size + 1 + 1, 2, none⟩ = some (.int .i64 0) := by simp [*, go_sem]
  have T2 : ((w3.alloc (Obj.cells #[.int .i64 F, .int .i64 T] 23)).alloc (Obj.cells #[.int .i64 mx, .int .i64 mn] 23)).frozen? ⟨w.heap.size + 1 + 1, 2, none⟩ = false := by simp [*, go_sem]
  have G3 : ((w3.alloc (Obj.cells #[.int .i64 F, .int .i64 T] 23)).alloc (Obj.cells #[.int .i64 mx, .int .i64 mn] 23)).cell? ⟨w.heap.size, 3, none⟩ = some (.int .i64 n1) := by simp [*, go_sem]
  have P3 : ((w3.alloc (Obj.cells #[.int .i64 F, .int .i64 T] 23)).alloc (Obj.cells #[.int .i64 mx, .int .i64 mn] 23)).frozen? ⟨w.heap.size, 3, none⟩ = false := by simp [*, go_sem]
  have S3 : ((w3.alloc (Obj.cells #[.int .i64 F, .int .i64 T] 23)).alloc (Obj.cells #[.int .i64 mx, .int .i64 mn] 23)).cell? ⟨w.heap.size + 1 + 1, 3, none⟩ = some (.int .i64 0) := by simp [*, go_sem]
  have T3 : ((w3.alloc (Obj.cells #[.int .i64 F, .int .i64 T] 23)).alloc (Obj.cells #[.int .i64 mx, .int .i64 mn] 23)).frozen? ⟨w.heap.size + 1 + 1, 3, none⟩ = false := by simp [*, go_sem]
  have G4 : ((w3.alloc (Obj.cells #[.int .i64 F, .int .i64 T] 23)).alloc (Obj.cells #[.int .i64 mx, .int .i64 mn] 23)).cell? ⟨w.heap.size, 4, none⟩ = some (.int .i64 d1) := by simp [*, go_sem]
  have P4 : ((w3.alloc (Obj.cells #[.int .i64 F, .int .i64 T] 23)).alloc (Obj.cells #[.int .i64 mx, .int .i64 mn] 23)).frozen? ⟨w.heap.size, 4, none⟩ = false := by simp [*, go_sem]
  have S4 : ((w3.alloc (Obj.cells #[.int .i64 F, .int .i64 T] 23)).alloc (Obj.cells #[.int .i64 mx, .int .i64 mn] 23)).cell? ⟨w.heap.size + 1 + 1, 4, none⟩ = some (.int .i64 0) := by simp [*, go_sem]
  have T4 : ((w3.alloc (Obj.cells #[.int .i64 F, .int .i64 T] 23)).alloc (Obj.cells #[.int .i64 mx, .int .i64 mn] 23)).frozen? ⟨w.heap.size + 1 + 1, 4, none⟩ = false := by simp [*, go_sem]
  have G5 : ((w3.alloc (Obj.cells #[.int .i64 F, .int .i64 T] 23)).alloc (Obj.cells #[.int .i64 mx, .int .i64 mn] 23)).cell? ⟨w.heap.size, 5, none⟩ = some (.int .i64 n2) := by simp [*, go_sem]
  have P5 : ((w3.alloc (Obj.cells #[.int .i64 F, .int .i64 T] 23)).alloc (Obj.cells #[.int .i64 mx, .int .i64 mn] 23)).frozen? ⟨w.heap.size, 5, none⟩ = false := by simp [*, go_sem]
  have S5 : ((w3.alloc (Obj.cells #[.int .i64 F, .int .i64 T] 23)).alloc (Obj.cells #[.int .i64 mx, .int .i64 mn] 23)).cell? ⟨w.heap.size + 1 + 1, 5, none⟩ = some (.int .i64 0) := by simp [*, go_sem]
  have T5 : ((w3.alloc (Obj.cells #[.int .i64 F, .int .i64 T] 23)).alloc (Obj.cells #[.int .i64 mx, .int .i64 mn] 23)).frozen? ⟨w.heap.size + 1 + 1, 5, none⟩ = false := by simp [*, go_sem]
  have G6 : ((w3.alloc (Obj.cells #[.int .i64 F, .int .i64 T] 23)).alloc (Obj.cells #[.int .i64 mx, .int .i64 mn] 23)).cell? ⟨w.heap.size, 6, none⟩ = some (.int .i64 d2) := by simp [*, go_sem]
  have P6 : ((w3.alloc (Obj.cells #[.int .i64 F, .int .i64 T] 23)).alloc (Obj.cells #[.int .i64 mx, .int .i64 mn] 23)).frozen? ⟨w.heap.size, 6, none⟩ = false := by simp [*, go_sem]
  have S6 : ((w3.alloc (Obj.cells #[.int .i64 F, .int .i64 T] 23)).alloc (Obj.cells #[.int .i64 mx, .int .i64 mn] 23)).cell? ⟨w.heap.size + 1 + 1, 6, none⟩ = some (.int .i64 0) := by simp [*, go_sem]
  have T6 : ((w3.alloc (Obj.cells #[.int .i64 F, .int .i64 T] 23)).alloc (Obj.cells #[.int .i64 mx, .int .i64 mn] 23)).frozen? ⟨w.heap.size + 1 + 1, 6, none⟩ = false := by simp [*, go_sem]
  have N0 : ((w3.alloc (Obj.cells #[.int .i64 F, .int .i64 T] 23)).alloc (Obj.cells #[.int .i64 mx, .int .i64 mn] 23)).cell? ⟨(w3.heap.size + 1), 0, none⟩ = some (.int .i64 mx) := by simp [*, go_sem]
  have N1 : ((w3.alloc (Obj.cells #[.int .i64 F, .int .i64 T] 23)).alloc (Obj.cells #[.int .i64 mx, .int .i64 mn] 23)).cell? ⟨(w3.heap.size + 1), 1, none⟩ = some (.int .i64 mn) := by simp [*, go_sem]
  have hB4 : Below w.heap.size w ((w3.alloc (Obj.cells #[.int .i64 F, .int .i64 T] 23)).alloc (Obj.cells #[.int .i64 mx, .int .i64 mn] 23)) := by (repeat' (first | (with_reducible exact Below.refl _ _) | (with_reducible refine Below.alloc ?_ ?_ _) | (with_reducible refine Below.drew ?_) | (with_reducible refine below_drewN ?_ _) | (with_reducible refine Below.setCell ?_ ?_ _) | (with_reducible refine Below.trans ?_ (Below.mono (by assumption) ?_)) | (with_reducible exact Nat.le_refl _) | omega | (simp; omega) | (simp; done)))
  have hnb : w.heap.size + 1 + 1 < (w3.heap.size + 1) := by omega
  clear g0 g1 g2 g3 g4 g5 g6 x0 x1 r0 r1 r2 r3 r4 r5 r6 f0 f1 f2 f3 f4 f5 f6 p0 p1 p2 p3 p4 p5 p6 hB3 hz3 hy3
  generalize ((w3.alloc (Obj.cells #[.int .i64 F, .int .i64 T] 23)).alloc (Obj.cells #[.int .i64 mx, .int .i64 mn] 23)) = w4 at *
  generalize (w3.heap.size + 1) = nb at *
  have e1 : (nb = w.heap.size) = False := by simp; omega
  have e2 : (nb = w.heap.size + 1 + 1) = False := by simp; omega
  by_cases hq : mn < mx
  · have HE := Lib.hid (H4.out (by rw [HX.out, HN2.out]; exact hq))
    go_wp2_with fail
    refine bodyPost_ret (by (simp [results, Try.results17, go_sem, *]; try rfl)) rfl ?_
    refine ⟨?_, by (repeat' (first | (with_reducible exact Below.refl _ _) | (with_reducible refine Below.alloc ?_ ?_ _) | (with_reducible refine Below.drew ?_) | (with_reducible refine below_drewN ?_ _) | (with_reducible refine Below.setCell ?_ ?_ _) | (with_reducible refine Below.trans ?_ (Below.mono (by assumption) ?_)) | (with_reducible exact Nat.le_refl _) | omega | (simp; omega) | (simp; done)))⟩
    rw [HV.out, HE.out]; rfl
  · have HE := Lib.hid (H5.out (by rw [HX.out, HN2.out]; omega))
    go_wp2_with fail
    go_region
    go_wp2_with fail
    refine bodyPost_ret (by (simp [results, Try.results17, go_sem, *]; try rfl)) rfl ?_
    refine ⟨?_, by (repeat' (first | (with_reducible exact Below.refl _ _) | (with_reducible refine Below.alloc ?_ ?_ _) | (with_reducible refine Below.drew ?_) | (with_reducible refine below_drewN ?_ _) | (with_reducible refine Below.setCell ?_ ?_ _) | (with_reducible refine Below.trans ?_ (Below.mono (by assumption) ?_)) | (with_reducible exact Nat.le_refl _) | omega | (simp; omega) | (simp; done)))⟩
    rw [HV.out, HE.out, if_pos rfl, HX.out, HN2.out]

set_option maxHeartbeats 2000000 in
theorem rSync_any (l a b n1 d1 n2 d2 t xf xt : Int) (w : World) :
    Calls Try.prog 18 #[.agg #[.int .i64 l, .int .i64 a, .int .i64 b, .int .i64 n1, .int .i64 d1, .int .i64 n2, .int .i64 d2], .int .i64 t, .agg #[.int .i64 xf, .int .i64 xt]] w fun e w' => e = .returned (.tuple #[syncV l a b n1 d1 n2 d2 t xf xt, .int .i64 (syncE l a b n1 d1 n2 d2 t xf xt)]) ∧ Below w.heap.size w w' := by
  by_cases hc0 : clkE l a b n1 d1 n2 d2 = 0
  rotate_left
  · have hc1 : (clkE l a b n1 d1 n2 d2 != 0) = true := by simpa using hc0
    go_enter Try.func18, Try.ntmps18
    go_wp2_with (first
        | (go_at_call 14; refine (rclkcheck_any _ _ _ _ _ _ _ _).mono ?_; (rintro e w1 ⟨rfl, hb⟩; have hz : w.heap.size + 1 + 1 + 1 ≤ w1.heap.size := (Nat.le_trans (by (first | omega | (simp; done) | (simp; omega))) hb.size); have hk := bc (B := w.heap.size + 1 + 1 + 1) hb (by (first | omega | (simp; done) | (simp; omega))); have hf := bf (B := w.heap.size + 1 + 1 + 1) hb (by (first | omega | (simp; done) | (simp; omega))); have hy : w.heap.size < w1.heap.size ∧ w.heap.size + 1 < w1.heap.size ∧ w.heap.size + 1 + 1 < w1.heap.size := (by omega))))
    refine bodyPost_ret (by (simp [results, Try.results18, go_sem, *]; try rfl)) rfl ?_
    refine ⟨?_, by (repeat' (first | (with_reducible exact Below.refl _ _) | (with_reducible refine Below.alloc ?_ ?_ _) | (with_reducible refine Below.drew ?_) | (with_reducible refine below_drewN ?_ _) | (with_reducible refine Below.setCell ?_ ?_ _) | (with_reducible refine Below.trans ?_ (Below.mono (by assumption) ?_)) | (with_reducible exact Nat.le_refl _) | omega | (simp; omega) | (simp; done)))⟩
    rw [syncV, sw1 (by assumption)]; rfl
  have hcc : (clkE l a b n1 d1 n2 d2 != 0) = false := by simpa using hc0
  have Hc := Lib.hid hc0
  have HC := Lib.hid hcc
  clear hc0 hcc
  cases hs : spanB xf xt
  · have HE := Lib.hid (sw2 (t := t) HC.out hs)
    have Hs := Lib.hid hs
    clear hs
    go_enter Try.func18, Try.ntmps18
    go_wp2_with (first
      | (go_at_call 14; refine (rclkcheck_ok _ _ _ _ _ _ _ _ Hc).mono ?_; (rintro e w1 ⟨rfl, hb⟩; have hz : w.heap.size + 1 + 1 + 1 ≤ w1.heap.size := (Nat.le_trans (by (first | omega | (simp; done) | (simp; omega))) hb.size); have hk := bc (B := w.heap.size + 1 + 1 + 1) hb (by (first | omega | (simp; done) | (simp; omega))); have hf := bf (B := w.heap.size + 1 + 1 + 1) hb (by (first | omega | (simp; done) | (simp; omega))); have hy : w.heap.size < w1.heap.size ∧ w.heap.size + 1 < w1.heap.size ∧ w.heap.size + 1 + 1 < w1.heap.size := (by omega)))
      | (go_at_call 29; refine (rwithin_any _ _ _).mono ?_; rw [Hs.out]; (rintro e w1 ⟨rfl, hb⟩; have hz : w.heap.size + 1 + 1 + 1 ≤ w1.heap.size := (Nat.le_trans (by (first | omega | (simp; done) | (simp; omega))) hb.size); have hk := bc (B := w.heap.size + 1 + 1 + 1) hb (by (first | omega | (simp; done) | (simp; omega))); have hf := bf (B := w.heap.size + 1 + 1 + 1) hb (by (first | omega | (simp; done) | (simp; omega))); have hy : w.heap.size < w1.heap.size ∧ w.heap.size + 1 < w1.heap.size ∧ w.heap.size + 1 + 1 < w1.heap.size := (by omega))))
    refine bodyPost_ret (by (simp [results, Try.results18, go_sem, *]; try rfl)) rfl ?_
    refine ⟨?_, by (repeat' (first | (with_reducible exact Below.refl _ _) | (with_reducible refine Below.alloc ?_ ?_ _) | (with_reducible refine Below.drew ?_) | (with_reducible refine below_drewN ?_ _) | (with_reducible refine Below.setCell ?_ ?_ _) | (with_reducible refine Below.trans ?_ (Below.mono (by assumption) ?_)) | (with_reducible exact Nat.le_refl _) | omega | (simp; omega) | (simp; done)))⟩
    rw [syncV, HE.out]; rfl
  by_cases hT0 : truthE l a b n1 d1 n2 d2 t = 0
  rotate_left
  · have HE := Lib.hid (sw3 HC.out hs hT0)
    have Hs := Lib.hid hs
    have HT : Hid (syncV l a b n1 d1 n2 d2 t xf xt = .agg #[.int .i64 0, .int .i64 0, .int .i64 0, .int .i64 0, .int .i64 0, .int .i64 0, .int .i64 0]) := by show _ = _; rw [syncV, HE.out, if_neg hT0]
    have hT1 : (truthE l a b n1 d1 n2 d2 t != 0) = true := by simpa using hT0
    clear hs hT0
    go_enter Try.func18, Try.ntmps18
    go_wp2_with fail
    refine (rclkcheck_ok _ _ _ _ _ _ _ _ Hc).mono ?_
    (rintro e w1 ⟨rfl, hb1⟩; have hz1 : w.heap.size + 1 + 1 + 1 ≤ w1.heap.size := (Nat.le_trans (by (first | omega | (simp; done) | (simp; omega))) hb1.size); have hk1 := bc (B := w.heap.size + 1 + 1 + 1) hb1 (by (first | omega | (simp; done) | (simp; omega))); have hf1 := bf (B := w.heap.size + 1 + 1 + 1) hb1 (by (first | omega | (simp; done) | (simp; omega))); have hy1 : w.heap.size < w1.heap.size ∧ w.heap.size + 1 < w1.heap.size ∧ w.heap.size + 1 + 1 < w1.heap.size := (by omega))
    go_wp2_with fail
    refine (rwithin_any _ _ _).mono ?_
    rw [Hs.out]
    (rintro e w2 ⟨rfl, hb2⟩; have hz2 : w.heap.size + 1 + 1 + 1 ≤ w2.heap.size := (Nat.le_trans (by (first | omega | (simp; done) | (simp; omega))) hb2.size); have hk2 := bc (B := w.heap.size + 1 + 1 + 1) hb2 (by (first | omega | (simp; done) | (simp; omega))); have hf2 := bf (B := w.heap.size + 1 + 1 + 1) hb2 (by (first | omega | (simp; done) | (simp; omega))); have hy2 : w.heap.size < w2.heap.size ∧ w.heap.size + 1 < w2.heap.size ∧ w.heap.size + 1 + 1 < w2.heap.size := (by omega))
    go_wp2_with fail
    refine (rTruth_any _ _ _ _ _ _ _ _ _).mono ?_
    (rintro e w3 ⟨rfl, hb3⟩; have hz3 : w.heap.size + 1 + 1 + 1 ≤ w3.heap.size := (Nat.le_trans (by (first | omega | (simp; done) | (simp; omega))) hb3.size); have hk3 := bc (B := w.heap.size + 1 + 1 + 1) hb3 (by (first | omega | (simp; done) | (simp; omega))); have hf3 := bf (B := w.heap.size + 1 + 1 + 1) hb3 (by (first | omega | (simp; done) | (simp; omega))); have hy3 : w.heap.size < w3.heap.size ∧ w.heap.size + 1 < w3.heap.size ∧ w.heap.size + 1 + 1 < w3.heap.size := (by omega))
    have g0 : w3.cell? ⟨w.heap.size, 0, none⟩ = some (.int .i64 l) := by simp [*, go_sem]
    have g1 : w3.cell? ⟨w.heap.size, 1, none⟩ = some (.int .i64 a) := by simp [*, go_sem]
    have g2 : w3.cell? ⟨w.heap.size, 2, none⟩ = some (.int .i64 b) := by simp [*, go_sem]
    have g3 : w3.cell? ⟨w.heap.size, 3, none⟩ = some (.int .i64 n1) := by simp [*, go_sem]
    have g4 : w3.cell? ⟨w.heap.size, 4, none⟩ = some (.int .i64 d1) := by simp [*, go_sem]
    have g5 : w3.cell? ⟨w.heap.size, 5, none⟩ = some (.int .i64 n2) := by simp [*, go_sem]
    have g6 : w3.cell? ⟨w.heap.size, 6, none⟩ = some (.int .i64 d2) := by simp [*, go_sem]
    have x0 : w3.cell? ⟨w.heap.size + 1, 0, none⟩ = some (.int .i64 xf) := by simp [*, go_sem]
    have x1 : w3.cell? ⟨w.heap.size + 1, 1, none⟩ = some (.int .i64 xt) := by simp [*, go_sem]
    have r0 : w3.cell? ⟨w.heap.size + 1 + 1, 0, none⟩ = some (.int .i64 0) := by simp [*, go_sem]
    have f0 : w3.frozen? ⟨w.heap.size + 1 + 1, 0, none⟩ = false := by simp [*, go_sem]
    have p0 : w3.frozen? ⟨w.heap.size, 0, none⟩ = false := by simp [*, go_sem]
    have r1 : w3.cell? ⟨w.heap.size + 1 + 1, 1, none⟩ = some (.int .i64 0) := by simp [*, go_sem]
    have f1 : w3.frozen? ⟨w.heap.size + 1 + 1, 1, none⟩ = false := by simp [*, go_sem]
    have p1 : w3.frozen? ⟨w.heap.size, 1, none⟩ = false := by simp [*, go_sem]
    have r2 : w3.cell? ⟨w.heap.size + 1 + 1, 2, none⟩ = some (.int .i64 0) := by simp [*, go_sem]
    have f2 : w3.frozen? ⟨w.heap.size + 1 + 1, 2, none⟩ = false := by simp [*, go_sem]
    have p2 : w3.frozen? ⟨w.heap.size, 2, none⟩ = false := by simp [*, go_sem]
    have r3 : w3.cell? ⟨w.heap.size + 1 + 1, 3, none⟩ = some (.int .i64 0) := by simp [*, go_sem]
    have f3 : w3.frozen? ⟨w.heap.size + 1 + 1, 3, none⟩ = false := by simp [*, go_sem]
    have p3 : w3.frozen? ⟨w.heap.size, 3, none⟩ = false := by simp [*, go_sem]
    have r4 : w3.cell? ⟨w.heap.size + 1 + 1, 4, none⟩ = some (.int .i64 0) := by simp [*, go_sem]
    have f4 : w3.frozen? ⟨w.heap.size + 1 + 1, 4, none⟩ = false := by simp [*, go_sem]
    have p4 : w3.frozen? ⟨w.heap.size, 4, none⟩ = false := by simp [*, go_sem]
    have r5 : w3.cell? ⟨w.heap.size + 1 + 1, 5, none⟩ = some (.int .i64 0) := by simp [*, go_sem]
    have f5 : w3.frozen? ⟨w.heap.size + 1 + 1, 5, none⟩ = false := by simp [*, go_sem]
    have p5 : w3.frozen? ⟨w.heap.size, 5, none⟩ = false := by simp [*, go_sem]
    have r6 : w3.cell? ⟨w.heap.size + 1 + 1, 6, none⟩ = some (.int .i64 0) := by simp [*, go_sem]
    have f6 : w3.frozen? ⟨w.heap.size + 1 + 1, 6, none⟩ = false := by simp [*, go_sem]
    have p6 : w3.frozen? ⟨w.heap.size, 6, none⟩ = false := by simp [*, go_sem]
    have hB3 : Below w.heap.size w w3 := by (repeat' (first | (with_reducible exact Below.refl _ _) | (with_reducible refine Below.alloc ?_ ?_ _) | (with_reducible refine Below.drew ?_) | (with_reducible refine below_drewN ?_ _) | (with_reducible refine Below.setCell ?_ ?_ _) | (with_reducible refine Below.trans ?_ (Below.mono (by assumption) ?_)) | (with_reducible exact Nat.le_refl _) | omega | (simp; omega) | (simp; done)))
    clear hk1 hk2 hk3 hf1 hf2 hf3 hy1 hy2 hb1 hb2 hb3 hz1 hz2
    go_upto_region 7 with fail
    have s0 : (w3.alloc (Obj.cells #[.int .i64 (truthF l a b n1 d1 n2 d2 t), .int .i64 (truthT l a b n1 d1 n2 d2 t)] 23)).cell? ⟨w.heap.size + 1 + 1, 0, none⟩ = some (.int .i64 0) := by simp [*, go_sem]
    have t0 : (w3.alloc (Obj.cells #[.int .i64 (truthF l a b n1 d1 n2 d2 t), .int .i64 (truthT l a b n1 d1 n2 d2 t)] 23)).frozen? ⟨w.heap.size + 1 + 1, 0, none⟩ = false := by simp [*, go_sem]
    have s1 : (w3.alloc (Obj.cells #[.int .i64 (truthF l a b n1 d1 n2 d2 t), .int .i64 (truthT l a b n1 d1 n2 d2 t)] 23)).cell? ⟨w.heap.size + 1 + 1, 1, none⟩ = some (.int .i64 0) := by simp [*, go_sem]
    have t1 : (w3.alloc (Obj.cells #[.int .i64 (truthF l a b n1 d1 n2 d2 t), .int .i64 (truthT l a b n1 d1 n2 d2 t)] 23)).frozen? ⟨w.heap.size + 1 + 1, 1, none⟩ = false := by simp [*, go_sem]
    have s2 : (w3.alloc (Obj.cells #[.int .i64 (truthF l a b n1 d1 n2 d2 t), .int .i64 (truthT l a b n1 d1 n2 d2 t)] 23)).cell? ⟨w.heap.size + 1 + 1, 2, none⟩ = some (.int .i64 0) := by simp [*, go_sem]
    have t2 : (w3.alloc (Obj.cells #[.int .i64 (truthF l a b n1 d1 n2 d2 t), .int .i64 (truthT l a b n1 d1 n2 d2 t)] 23)).frozen? ⟨w.heap.size + 1 + 1, 2, none⟩ = false := by simp [*, go_sem]
    have s3 : (w3.alloc (Obj.cells #[.int .i64 (truthF l a b n1 d1 n2 d2 t), .int .i64 (truthT l a b n1 d1 n2 d2 t)] 23)).cell? ⟨w.heap.size + 1 + 1, 3, none⟩ = some (.int .i64 0) := by simp [*, go_sem]
    have t3 : (w3.alloc (Obj.cells #[.int .i64 (truthF l a b n1 d1 n2 d2 t), .int .i64 (truthT l a b n1 d1 n2 d2 t)] 23)).frozen? ⟨w.heap.size + 1 + 1, 3, none⟩ = false := by simp [*, go_sem]
    have s4 : (w3.alloc (Obj.cells #[.int .i64 (truthF l a b n1 d1 n2 d2 t), .int .i64 (truthT l a b n1 d1 n2 d2 t)] 23)).cell? ⟨w.heap.size + 1 + 1, 4, none⟩ = some (.int .i64 0) := by simp [*, go_sem]
    have t4 : (w3.alloc (Obj.cells #[.int .i64 (truthF l a b n1 d1 n2 d2 t), .int .i64 (truthT l a b n1 d1 n2 d2 t)] 23)).frozen? ⟨w.heap.size + 1 + 1, 4, none⟩ = false := by simp [*, go_sem]
    have s5 : (w3.alloc (Obj.cells #[.int .i64 (truthF l a b n1 d1 n2 d2 t), .int .i64 (truthT l a b n1 d1 n2 d2 t)] 23)).cell? ⟨w.heap.size + 1 + 1, 5, none⟩ = some (.int .i64 0) := by simp [*, go_sem]
    have t5 : (w3.alloc (Obj.cells #[.int .i64 (truthF l a b n1 d1 n2 d2 t), .int .i64 (truthT l a b n1 d1 n2 d2 t)] 23)).frozen? ⟨w.heap.size + 1 + 1, 5, none⟩ = false := by simp [*, go_sem]
    have s6 : (w3.alloc (Obj.cells #[.int .i64 (truthF l a b n1 d1 n2 d2 t), .int .i64 (truthT l a b n1 d1 n2 d2 t)] 23)).cell? ⟨w.heap.size + 1 + 1, 6, none⟩ = some (.int .i64 0) := by simp [*, go_sem]
    have t6 : (w3.alloc (Obj.cells #[.int .i64 (truthF l a b n1 d1 n2 d2 t), .int .i64 (truthT l a b n1 d1 n2 d2 t)] 23)).frozen? ⟨w.heap.size + 1 + 1, 6, none⟩ = false := by simp [*, go_sem]
    have hB4 : Below w.heap.size w (w3.alloc (Obj.cells #[.int .i64 (truthF l a b n1 d1 n2 d2 t), .int .i64 (truthT l a b n1 d1 n2 d2 t)] 23)) := by (repeat' (first | (with_reducible exact Below.refl _ _) | (with_reducible refine Below.alloc ?_ ?_ _) | (with_reducible refine Below.drew ?_) | (with_reducible refine below_drewN ?_ _) | (with_reducible refine Below.setCell ?_ ?_ _) | (with_reducible refine Below.trans ?_ (Below.mono (by assumption) ?_)) | (with_reducible exact Nat.le_refl _) | omega | (simp; omega) | (simp; done)))
    generalize (w3.alloc (Obj.cells #[.int .i64 (truthF l a b n1 d1 n2 d2 t), .int .i64 (truthT l a b n1 d1 n2 d2 t)] 23)) = w4 at *
    clear r0 r1 r2 r3 r4 r5 r6 f0 f1 f2 f3 f4 f5 f6 hB3
    go_wp2_with fail
    refine bodyPost_ret (by (simp [results, Try.results18, go_sem, *]; try rfl)) rfl ?_
    refine ⟨?_, by (repeat' (first | (with_reducible exact Below.refl _ _) | (with_reducible refine Below.alloc ?_ ?_ _) | (with_reducible refine Below.drew ?_) | (with_reducible refine below_drewN ?_ _) | (with_reducible refine Below.setCell ?_ ?_ _) | (with_reducible refine Below.trans ?_ (Below.mono (by assumption) ?_)) | (with_reducible exact Nat.le_refl _) | omega | (simp; omega) | (simp; done)))⟩
    rw [HT.out, HE.out]
  have H4 := Lib.hid (sw4 (xf := xf) (xt := xt) HC.out hs hT0)
  have H5 := Lib.hid (sw5 (xf := xf) (xt := xt) HC.out hs hT0)
  have HV : Hid (syncV l a b n1 d1 n2 d2 t xf xt = if syncE l a b n1 d1 n2 d2 t xf xt = 0 then .agg #[.int .i64 t, .int .i64 (max (truthF l a b n1 d1 n2 d2 t) xf), .int .i64 (min (truthT l a b n1 d1 n2 d2 t) xt), .int .i64 n1, .int .i64 d1, .int .i64 n2, .int .i64 d2] else .agg #[.int .i64 0, .int .i64 0, .int .i64 0, .int .i64 0, .int .i64 0, .int .i64 0, .int .i64 0]) := rfl
  have Hs := Lib.hid hs
  have HT := Lib.hid hT0
  clear hs hT0
  have hTr : ∀ w : World, Calls Try.prog 8 #[.agg #[.int .i64 l, .int .i64 a, .int .i64 b, .int .i64 n1, .int .i64 d1, .int .i64 n2, .int .i64 d2], .int .i64 t] w fun e w' => e = .returned (.tuple #[.agg #[.int .i64 (truthF l a b n1 d1 n2 d2 t), .int .i64 (truthT l a b n1 d1 n2 d2 t)], .int .i64 0]) ∧ Below w.heap.size w w' := fun w => by
    have := rTruth_any l a b n1 d1 n2 d2 t w
    rwa [HT.out] at this
  have HTr := Lib.hid hTr
  clear hTr
  generalize truthF l a b n1 d1 n2 d2 t = F at *
  generalize truthT l a b n1 d1 n2 d2 t = T at *
  have HM : Hid (max F xf = if F < xf then xf else F) := by show _ = _; rw [Int.max_def]; split <;> split <;> omega
  have HN : Hid (min T xt = if T < xt then T else xt) := by show _ = _; rw [Int.min_def]; split <;> split <;> omega
  go_enter Try.func18, Try.ntmps18
  go_wp2_with fail
  refine (rclkcheck_ok _ _ _ _ _ _ _ _ Hc).mono ?_
  (rintro e w1 ⟨rfl, hb1⟩; have hz1 : w.heap.size + 1 + 1 + 1 ≤ w1.heap.size := (Nat.le_trans (by (first | omega | (simp; done) | (simp; omega))) hb1.size); have hk1 := bc (B := w.heap.size + 1 + 1 + 1) hb1 (by (first | omega | (simp; done) | (simp; omega))); have hf1 := bf (B := w.heap.size + 1 + 1 + 1) hb1 (by (first | omega | (simp; done) | (simp; omega))); have hy1 : w.heap.size < w1.heap.size ∧ w.heap.size + 1 < w1.heap.size ∧ w.heap.size + 1 + 1 < w1.heap.size := (by omega))
  go_wp2_with fail
  refine (rwithin_any _ _ _).mono ?_
  rw [Hs.out]
  (rintro e w2 ⟨rfl, hb2⟩; have hz2 : w.heap.size + 1 + 1 + 1 ≤ w2.heap.size := (Nat.le_trans (by (first | omega | (simp; done) | (simp; omega))) hb2.size); have hk2 := bc (B := w.heap.size + 1 + 1 + 1) hb2 (by (first | omega | (simp; done) | (simp; omega))); have hf2 := bf (B := w.heap.size + 1 + 1 + 1) hb2 (by (first | omega | (simp; done) | (simp; omega))); have hy2 : w.heap.size < w2.heap.size ∧ w.heap.size + 1 < w2.heap.size ∧ w.heap.size + 1 + 1 < w2.heap.size := (by omega))
  go_wp2_with fail
  refine (HTr.out _).mono ?_
  (rintro e w3 ⟨rfl, hb3⟩; have hz3 : w.heap.size + 1 + 1 + 1 ≤ w3.heap.size := (Nat.le_trans (by (first | omega | (simp; done) | (simp; omega))) hb3.size); have hk3 := bc (B := w.heap.size + 1 + 1 + 1) hb3 (by (first | omega | (simp; done) | (simp; omega))); have hf3 := bf (B := w.heap.size + 1 + 1 + 1) hb3 (by (first | omega | (simp; done) | (simp; omega))); have hy3 : w.heap.size < w3.heap.size ∧ w.heap.size + 1 < w3.heap.size ∧ w.heap.size + 1 + 1 < w3.heap.size := (by omega))
  have g0 : w3.cell? ⟨w.heap.size, 0, none⟩ = some (.int .i64 l) := by simp [*, go_sem]
  have g1 : w3.cell? ⟨w.heap.size, 1, none⟩ = some (.int .i64 a) := by simp [*, go_sem]
  have g2 : w3.cell? ⟨w.heap.size, 2, none⟩ = some (.int .i64 b) := by simp [*, go_sem]
  have g3 : w3.cell? ⟨w.heap.size, 3, none⟩ = some (.int .i64 n1) := by simp [*, go_sem]
  have g4 : w3.cell? ⟨w.heap.size, 4, none⟩ = some (.int .i64 d1) := by simp [*, go_sem]
  have g5 : w3.cell? ⟨w.heap.size, 5, none⟩ = some (.int .i64 n2) := by simp [*, go_sem]
  have g6 : w3.cell? ⟨w.heap.size, 6, none⟩ = some (.int .i64 d2) := by simp [*, go_sem]
  have x0 : w3.cell? ⟨w.heap.size + 1, 0, none⟩ = some (.int .i64 xf) := by simp [*, go_sem]
  have x1 : w3.cell? ⟨w.heap.size + 1, 1, none⟩ = some (.int .i64 xt) := by simp [*, go_sem]
  have r0 : w3.cell? ⟨w.heap.size + 1 + 1, 0, none⟩ = some (.int .i64 0) := by simp [*, go_sem]
  have f0 : w3.frozen? ⟨w.heap.size + 1 + 1, 0, none⟩ = false := by simp [*, go_sem]
  have p0 : w3.frozen? ⟨w.heap.size, 0, none⟩ = false := by simp [*, go_sem]
  have r1 : w3.cell? ⟨w.heap.size + 1 + 1, 1, none⟩ = some (.int .i64 0) := by simp [*, go_sem]
  have f1 : w3.frozen? ⟨w.heap.size + 1 + 1, 1, none⟩ = false := by simp [*, go_sem]
  have p1 : w3.frozen? ⟨w.heap.size, 1, none⟩ = false := by simp [*, go_sem]
  have r2 : w3.cell? ⟨w.heap.size + 1 + 1, 2, none⟩ = some (.int .i64 0) := by simp [*, go_sem]
  have f2 : w3.frozen? ⟨w.heap.size + 1 + 1, 2, none⟩ = false := by simp [*, go_sem]
  have p2 : w3.frozen? ⟨w.heap.size, 2, none⟩ = false := by simp [*, go_sem]
  have r3 : w3.cell? ⟨w.heap.size + 1 + 1, 3, none⟩ = some (.int .i64 0) := by simp [*, go_sem]
  have f3 : w3.frozen? ⟨w.heap.size + 1 + 1, 3, none⟩ = false := by simp [*, go_sem]
  have p3 : w3.frozen? ⟨w.heap.size, 3, none⟩ = false := by simp [*, go_sem]
  have r4 : w3.cell? ⟨w.heap.size + 1 + 1, 4, none⟩ = some (.int .i64 0) := by simp [*, go_sem]
  have f4 : w3.frozen? ⟨w.heap.size + 1 + 1, 4, none⟩ = false := by simp [*, go_sem]
  have p4 : w3.frozen? ⟨w.heap.size, 4, none⟩ = false := by simp [*, go_sem]
  have r5 : w3.cell? ⟨w.heap.size + 1 + 1, 5, none⟩ = some (.int .i64 0) := by simp [*, go_sem]
  have f5 : w3.frozen? ⟨w.heap.size + 1 + 1, 5, none⟩ = false := by simp [*, go_sem]
  have p5 : w3.frozen? ⟨w.heap.size, 5, none⟩ = false := by simp [*, go_sem]
  have r6 : w3.cell? ⟨w.heap.size + 1 + 1, 6, none⟩ = some (.int .i64 0) := by simp [*, go_sem]
  have f6 : w3.frozen? ⟨w.heap.size + 1 + 1, 6, none⟩ = false := by simp [*, go_sem]
  have p6 : w3.frozen? ⟨w.heap.size, 6, none⟩ = false := by simp [*, go_sem]
  have hB3 : Below w.heap.size w w3 := by (repeat' (first | (with_reducible exact Below.refl _ _) | (with_reducible refine Below.alloc ?_ ?_ _) | (with_reducible refine Below.drew ?_) | (with_reducible refine below_drewN ?_ _) | (with_reducible refine Below.setCell ?_ ?_ _) | (with_reducible refine Below.trans ?_ (Below.mono (by assumption) ?_)) | (with_reducible exact Nat.le_refl _) | omega | (simp; omega) | (simp; done)))
  clear hk1 hk2 hk3 hf1 hf2 hf3 hy1 hy2 hb1 hb2 hb3 hz1 hz2
  go_upto_if 43 with fail
  generalize hmx : (if F < xf then xf else F) = mx at *
  generalize hmn : (if xt < T then xt else T) = mn at *
  have HX : Hid (max F xf = mx) := HM.out
  have HN2 : Hid (min T xt = mn) := HN.out.trans (by rw [← hmn]; split <;> split <;> omega)
  clear hmx hmn HM HN
  have G0 : (w3.alloc (Obj.cells #[.int .i64 mx, .int .i64 mn] 23)).cell? ⟨w.heap.size, 0, none⟩ = some (.int .i64 l) := by simp [*, go_sem]
  have P0 : (w3.alloc (Obj.cells #[.int .i64 mx, .int .i64 mn] 23)).frozen? ⟨w.heap.size, 0, none⟩ = false := by simp [*, go_sem]
  have S0 : (w3.alloc (Obj.cells #[.int .i64 mx, .int .i64 mn] 23)).cell? ⟨w.heap.size + 1 + 1, 0, none⟩ = some (.int .i64 0) := by simp [*, go_sem]
  have T0 : (w3.alloc (Obj.cells #[.int .i64 mx, .int .i64 mn] 23)).frozen? ⟨w.heap.size + 1 + 1, 0, none⟩ = false := by simp [*, go_sem]
  have G1 : (w3.alloc (Obj.cells #[.int .i64 mx, .int .i64 mn] 23)).cell? ⟨w.heap.size, 1, none⟩ = some (.int .i64 a) := by simp [*, go_sem]
  have P1 : (w3.alloc (Obj.cells #[.int .i64 mx, .int .i64 mn] 23)).frozen? ⟨w.heap.size, 1, none⟩ = false := by simp [*, go_sem]
  have S1 : (w3.alloc (Obj.cells #[.int .i64 mx, .int .i64 mn] 23)).cell? ⟨w.heap.size + 1 + 1, 1, none⟩ = some (.int .i64 0) := by simp [*, go_sem]
  have T1 : (w3.alloc (Obj.cells #[.int .i64 mx, .int .i64 mn] 23)).frozen? ⟨w.heap.size + 1 + 1, 1, none⟩ = false := by simp [*, go_sem]
  have G2 : (w3.alloc (Obj.cells #[.int .i64 mx, .int .i64 mn] 23)).cell? ⟨w.heap.size, 2, none⟩ = some (.int .i64 b) := by simp [*, go_sem]
  have P2 : (w3.alloc (Obj.cells #[.int .i64 mx, .int .i64 mn] 23)).frozen? ⟨w.heap.size, 2, none⟩ = false := by simp [*, go_sem]
  have S2 : (w3.alloc (Obj.cells #[.int .i64 mx, .int .i64 mn] 23)).cell? ⟨w.heap.size + 1 + 1, 2, none⟩ = some (.int .i64 0) := by simp [*, go_sem]
  have T2 : (w3.alloc (Obj.cells #[.int .i64 mx, .int .i64 mn] 23)).frozen? ⟨w.heap.size + 1 + 1, 2, none⟩ = false := by simp [*, go_sem]
  have G3 : (w3.alloc (Obj.cells #[.int .i64 mx, .int .i64 mn] 23)).cell? ⟨w.heap.size, 3, none⟩ = some (.int .i64 n1) := by simp [*, go_sem]
  have P3 : (w3.alloc (Obj.cells #[.int .i64 mx, .int .i64 mn] 23)).frozen? ⟨w.heap.size, 3, none⟩ = false := by simp [*, go_sem]
  have S3 : (w3.alloc (Obj.cells #[.int .i64 mx, .int .i64 mn] 23)).cell? ⟨w.heap.size + 1 + 1, 3, none⟩ = some (.int .i64 0) := by simp [*, go_sem]
  have T3 : (w3.alloc (Obj.cells #[.int .i64 mx, .int .i64 mn] 23)).frozen? ⟨w.heap.size + 1 + 1, 3, none⟩ = false := by simp [*, go_sem]
  have G4 : (w3.alloc (Obj.cells #[.int .i64 mx, .int .i64 mn] 23)).cell? ⟨w.heap.size, 4, none⟩ = some (.int .i64 d1) := by simp [*, go_sem]
  have P4 : (w3.alloc (Obj.cells #[.int .i64 mx, .int .i64 mn] 23)).frozen? ⟨w.heap.size, 4, none⟩ = false := by simp [*, go_sem]
  have S4 : (w3.alloc (Obj.cells #[.int .i64 mx, .int .i64 mn] 23)).cell? ⟨w.heap.size + 1 + 1, 4, none⟩ = some (.int .i64 0) := by simp [*, go_sem]
  have T4 : (w3.alloc (Obj.cells #[.int .i64 mx, .int .i64 mn] 23)).frozen? ⟨w.heap.size + 1 + 1, 4, none⟩ = false := by simp [*, go_sem]
  have G5 : (w3.alloc (Obj.cells #[.int .i64 mx, .int .i64 mn] 23)).cell? ⟨w.heap.size, 5, none⟩ = some (.int .i64 n2) := by simp [*, go_sem]
  have P5 : (w3.alloc (Obj.cells #[.int .i64 mx, .int .i64 mn] 23)).frozen? ⟨w.heap.size, 5, none⟩ = false := by simp [*, go_sem]
  have S5 : (w3.alloc (Obj.cells #[.int .i64 mx, .int .i64 mn] 23)).cell? ⟨w.heap.size + 1 + 1, 5, none⟩ = some (.int .i64 0) := by simp [*, go_sem]
  have T5 : (w3.alloc (Obj.cells #[.int .i64 mx, .int .i64 mn] 23)).frozen? ⟨w.heap.size + 1 + 1, 5, none⟩ = false := by simp [*, go_sem]
  have G6 : (w3.alloc (Obj.cells #[.int .i64 mx, .int .i64 mn] 23)).cell? ⟨w.heap.size, 6, none⟩ = some (.int .i64 d2) := by simp [*, go_sem]
  have P6 : (w3.alloc (Obj.cells #[.int .i64 mx, .int .i64 mn] 23)).frozen? ⟨w.heap.size, 6, none⟩ = false := by simp [*, go_sem]
  have S6 : (w3.alloc (Obj.cells #[.int .i64 mx, .int .i64 mn] 23)).cell? ⟨w.heap.size + 1 + 1, 6, none⟩ = some (.int .i64 0) := by simp [*, go_sem]
  have T6 : (w3.alloc (Obj.cells #[.int .i64 mx, .int .i64 mn] 23)).frozen? ⟨w.heap.size + 1 + 1, 6, none⟩ = false := by simp [*, go_sem]
  have N0 : (w3.alloc (Obj.cells #[.int .i64 mx, .int .i64 mn] 23)).cell? ⟨w3.heap.size, 0, none⟩ = some (.int .i64 mx) := by simp [*, go_sem]
  have N1 : (w3.alloc (Obj.cells #[.int .i64 mx, .int .i64 mn] 23)).cell? ⟨w3.heap.size, 1, none⟩ = some (.int .i64 mn) := by simp [*, go_sem]
  have hB4 : Below w.heap.size w (w3.alloc (Obj.cells #[.int .i64 mx, .int .i64 mn] 23)) := by (repeat' (first | (with_reducible exact Below.refl _ _) | (with_reducible refine Below.alloc ?_ ?_ _) | (with_reducible refine Below.drew ?_) | (with_reducible refine below_drewN ?_ _) | (with_reducible refine Below.setCell ?_ ?_ _) | (with_reducible refine Below.trans ?_ (Below.mono (by assumption) ?_)) | (with_reducible exact Nat.le_refl _) | omega | (simp; omega) | (simp; done)))
  have hnb : w.heap.size + 1 + 1 < w3.heap.size := by omega
  clear g0 g1 g2 g3 g4 g5 g6 x0 x1 r0 r1 r2 r3 r4 r5 r6 f0 f1 f2 f3 f4 f5 f6 p0 p1 p2 p3 p4 p5 p6 hB3 hz3 hy3
  generalize (w3.alloc (Obj.cells #[.int .i64 mx, .int .i64 mn] 23)) = w4 at *
  generalize w3.heap.size = nb at *
  have e1 : (nb = w.heap.size) = False := by simp; omega
  have e2 : (nb = w.heap.size + 1 + 1) = False := by simp; omega
  by_cases hq : mn < mx
  · have HE := Lib.hid (H4.out (by rw [HX.out, HN2.out]; exact hq))
    go_wp2_with fail
    refine bodyPost_ret (by (simp [results, Try.results18, go_sem, *]; try rfl)) rfl ?_
    refine ⟨?_, by (repeat' (first | (with_reducible exact Below.refl _ _) | (with_reducible refine Below.alloc ?_ ?_ _) | (with_reducible refine Below.drew ?_) | (with_reducible refine below_drewN ?_ _) | (with_reducible refine Below.setCell ?_ ?_ _) | (with_reducible refine Below.trans ?_ (Below.mono (by assumption) ?_)) | (with_reducible exact Nat.le_refl _) | omega | (simp; omega) | (simp; done)))⟩
    rw [HV.out, HE.out]; rfl
  · have HE := Lib.hid (H5.out (by rw [HX.out, HN2.out]; omega))
    go_wp2_with fail
    skip
    refine bodyPost_ret (by (simp [results, Try.results18, go_sem, *]; try rfl)) rfl ?_
    refine ⟨?_, by (repeat' (first | (with_reducible exact Below.refl _ _) | (with_reducible refine Below.alloc ?_ ?_ _) | (with_reducible refine Below.drew ?_) | (with_reducible refine below_drewN ?_ _) | (with_reducible refine Below.setCell ?_ ?_ _) | (with_reducible refine Below.trans ?_ (Below.mono (by assumption) ?_)) | (with_reducible exact Nat.le_refl _) | omega | (simp; omega) | (simp; done)))⟩
    rw [HV.out, HE.out, if_pos rfl, HX.out, HN2.out]
end Go.Proofs.Ytbhmmffompapdaa

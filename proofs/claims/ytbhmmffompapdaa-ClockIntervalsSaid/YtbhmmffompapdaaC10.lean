/- Walks over the reference Guard. -/
import Derived.Test.YtbhmmffompapdaaRows
import Derived.Test.YtbhmmffompapdaaC9
import Derived.WalkKit
import Derived.WalkSpells
import Derived.WalkLawsBesides
import Derived.Handy
import Derived.Deep.QuietTactic
import Derived.BigQuiet
import Derived.Deep.RegionHeld3
import Derived.Deep.DeepCutAuto
import Derived.Lib.Hide
namespace Go.Proofs.Ytbhmmffompapdaa
open Go.RowKit

/-- the reference: a local time can be before an interval; cannot be behind it -/
def earlyB (l a b n1 d1 n2 d2 xf n : Int) : Bool := (truthE l a b n1 d1 n2 d2 n == 0) && decide (truthF l a b n1 d1 n2 d2 n < xf)
def sureB (l a b n1 d1 n2 d2 xt n : Int) : Bool := (truthE l a b n1 d1 n2 d2 n == 0) && decide (truthT l a b n1 d1 n2 d2 n < xt)
def rp1 (l a b n1 d1 n2 d2 xf n : Int) : Bool := !earlyB l a b n1 d1 n2 d2 xf n
def rp2 (l a b n1 d1 n2 d2 xt n : Int) : Bool := !sureB l a b n1 d1 n2 d2 xt n
def rgF (l a b n1 d1 n2 d2 xf : Int) : Int := bs (rp1 l a b n1 d1 n2 d2 xf) l 1099511627777
def rgT (l a b n1 d1 n2 d2 xt : Int) : Int := bs (rp2 l a b n1 d1 n2 d2 xt) l 1099511627777
def rguardE (l a b n1 d1 n2 d2 xf xt : Int) : Int :=
  if clkE l a b n1 d1 n2 d2 ≠ 0 then 1 else if xf < 0 ∨ xt ≤ xf ∨ 1099511627776 < xt then 2 else if rgT l a b n1 d1 n2 d2 xt ≤ rgF l a b n1 d1 n2 d2 xf then 20 else 0
def rguardF (l a b n1 d1 n2 d2 xf xt : Int) : Int := if rguardE l a b n1 d1 n2 d2 xf xt = 0 then rgF l a b n1 d1 n2 d2 xf else 0
def rguardT (l a b n1 d1 n2 d2 xf xt : Int) : Int := if rguardE l a b n1 d1 n2 d2 xf xt = 0 then rgT l a b n1 d1 n2 d2 xt else 0
section
variable {l a b n1 d1 n2 d2 xf xt : Int}
theorem rgw1 (h : (clkE l a b n1 d1 n2 d2 != 0) = true) : rguardE l a b n1 d1 n2 d2 xf xt = 1 := by
  unfold rguardE; rw [if_pos (by simpa using h)]
theorem rgw2 (h : (clkE l a b n1 d1 n2 d2 != 0) = false) (h2 : xf < 0 ∨ xt ≤ xf ∨ 1099511627776 < xt) : rguardE l a b n1 d1 n2 d2 xf xt = 2 := by
  unfold rguardE; rw [if_neg (by simpa using h), if_pos h2]
theorem rgw3 (h : (clkE l a b n1 d1 n2 d2 != 0) = false) (h2 : ¬ (xf < 0 ∨ xt ≤ xf ∨ 1099511627776 < xt)) (h3 : rgT l a b n1 d1 n2 d2 xt ≤ rgF l a b n1 d1 n2 d2 xf) : rguardE l a b n1 d1 n2 d2 xf xt = 20 := by
  unfold rguardE; rw [if_neg (by simpa using h), if_neg h2, if_pos h3]
theorem rgw4 (h : (clkE l a b n1 d1 n2 d2 != 0) = false) (h2 : ¬ (xf < 0 ∨ xt ≤ xf ∨ 1099511627776 < xt)) (h3 : rgF l a b n1 d1 n2 d2 xf < rgT l a b n1 d1 n2 d2 xt) : rguardE l a b n1 d1 n2 d2 xf xt = 0 := by
  unfold rguardE; rw [if_neg (by simpa using h), if_neg h2, if_neg (by omega)]
end

set_option maxHeartbeats 1000000 in
theorem early_any (l a b n1 d1 n2 d2 n xf xt : Int) (w : World) :
    Calls Try.prog 36 #[.agg #[.int .i64 l, .int .i64 a, .int .i64 b, .int .i64 n1, .int .i64 d1, .int .i64 n2, .int .i64 d2], .int .i64 n, .agg #[.int .i64 xf, .int .i64 xt]] w fun e w' => e = .returned (.bool (earlyB l a b n1 d1 n2 d2 xf n)) ∧ Below w.heap.size w w' := by
  by_cases hE : truthE l a b n1 d1 n2 d2 n = 0
  · have HE := Lib.hid hE
    clear hE
    have HQ : Hid (earlyB l a b n1 d1 n2 d2 xf n = decide (truthF l a b n1 d1 n2 d2 n < xf)) := by show _ = _; simp [earlyB, HE.out]
    go_enter Try.func36, Try.ntmps36
    go_wp2_with fail
    refine (rTruth_any _ _ _ _ _ _ _ _ _).mono ?_
    rw [HE.out]
    (rintro e w1 ⟨rfl, hb⟩; have hz : w.heap.size + 1 + 1 ≤ w1.heap.size := (Nat.le_trans (by (first | omega | (simp; done) | (simp; omega))) hb.size); have hk := bc (B := w.heap.size + 1 + 1) hb (by (first | omega | (simp; done) | (simp; omega))); have hf := bf (B := w.heap.size + 1 + 1) hb (by (first | omega | (simp; done) | (simp; omega))); have hy : w.heap.size < w1.heap.size ∧ w.heap.size + 1 < w1.heap.size := (by omega))
    go_wp2_with fail
    go_ret
    refine ⟨?_, by (repeat' (first | (with_reducible exact Below.refl _ _) | (with_reducible refine Below.alloc ?_ ?_ _) | (with_reducible refine Below.drew ?_) | (with_reducible refine below_drewN ?_ _) | (with_reducible refine Below.setCell ?_ ?_ _) | (with_reducible refine Below.trans ?_ (Below.mono (by assumption) ?_)) | (with_reducible exact Nat.le_refl _) | omega | (simp; omega) | (simp; done)))⟩
    rw [HQ.out]; rfl
  · have hE2 : (truthE l a b n1 d1 n2 d2 n == 0) = false := by simpa using hE
    have HQ : Hid (earlyB l a b n1 d1 n2 d2 xf n = false) := by show _ = _; simp [earlyB, hE2]
    clear hE
    go_enter Try.func36, Try.ntmps36
    go_wp2_with fail
    refine (rTruth_any _ _ _ _ _ _ _ _ _).mono ?_
    (rintro e w1 ⟨rfl, hb⟩; have hz : w.heap.size + 1 + 1 ≤ w1.heap.size := (Nat.le_trans (by (first | omega | (simp; done) | (simp; omega))) hb.size); have hk := bc (B := w.heap.size + 1 + 1) hb (by (first | omega | (simp; done) | (simp; omega))); have hf := bf (B := w.heap.size + 1 + 1) hb (by (first | omega | (simp; done) | (simp; omega))); have hy : w.heap.size < w1.heap.size ∧ w.heap.size + 1 < w1.heap.size := (by omega))
    go_wp2_with fail
    go_ret
    refine ⟨?_, by (repeat' (first | (with_reducible exact Below.refl _ _) | (with_reducible refine Below.alloc ?_ ?_ _) | (with_reducible refine Below.drew ?_) | (with_reducible refine below_drewN ?_ _) | (with_reducible refine Below.setCell ?_ ?_ _) | (with_reducible refine Below.trans ?_ (Below.mono (by assumption) ?_)) | (with_reducible exact Nat.le_refl _) | omega | (simp; omega) | (simp; done)))⟩
    rw [HQ.out]; rfl

set_option maxHeartbeats 1000000 in
theorem sure_any (l a b n1 d1 n2 d2 n xf xt : Int) (w : World) :
    Calls Try.prog 37 #[.agg #[.int .i64 l, .int .i64 a, .int .i64 b, .int .i64 n1, .int .i64 d1, .int .i64 n2, .int .i64 d2], .int .i64 n, .agg #[.int .i64 xf, .int .i64 xt]] w fun e w' => e = .returned (.bool (sureB l a b n1 d1 n2 d2 xt n)) ∧ Below w.heap.size w w' := by
  by_cases hE : truthE l a b n1 d1 n2 d2 n = 0
  · have HE := Lib.hid hE
    clear hE
    have HQ : Hid (sureB l a b n1 d1 n2 d2 xt n = decide (truthT l a b n1 d1 n2 d2 n < xt)) := by show _ = _; simp [sureB, HE.out]
    go_enter Try.func37, Try.ntmps37
    go_wp2_with fail
    refine (rTruth_any _ _ _ _ _ _ _ _ _).mono ?_
    rw [HE.out]
    (rintro e w1 ⟨rfl, hb⟩; have hz : w.heap.size + 1 + 1 ≤ w1.heap.size := (Nat.le_trans (by (first | omega | (simp; done) | (simp; omega))) hb.size); have hk := bc (B := w.heap.size + 1 + 1) hb (by (first | omega | (simp; done) | (simp; omega))); have hf := bf (B := w.heap.size + 1 + 1) hb (by (first | omega | (simp; done) | (simp; omega))); have hy : w.heap.size < w1.heap.size ∧ w.heap.size + 1 < w1.heap.size := (by omega))
    go_wp2_with fail
    go_ret
    refine ⟨?_, by (repeat' (first | (with_reducible exact Below.refl _ _) | (with_reducible refine Below.alloc ?_ ?_ _) | (with_reducible refine Below.drew ?_) | (with_reducible refine below_drewN ?_ _) | (with_reducible refine Below.setCell ?_ ?_ _) | (with_reducible refine Below.trans ?_ (Below.mono (by assumption) ?_)) | (with_reducible exact Nat.le_refl _) | omega | (simp; omega) | (simp; done)))⟩
    rw [HQ.out]; rfl
  · have hE2 : (truthE l a b n1 d1 n2 d2 n == 0) = false := by simpa using hE
    have HQ : Hid (sureB l a b n1 d1 n2 d2 xt n = false) := by show _ = _; simp [sureB, hE2]
    clear hE
    go_enter Try.func37, Try.ntmps37
    go_wp2_with fail
    refine (rTruth_any _ _ _ _ _ _ _ _ _).mono ?_
    (rintro e w1 ⟨rfl, hb⟩; have hz : w.heap.size + 1 + 1 ≤ w1.heap.size := (Nat.le_trans (by (first | omega | (simp; done) | (simp; omega))) hb.size); have hk := bc (B := w.heap.size + 1 + 1) hb (by (first | omega | (simp; done) | (simp; omega))); have hf := bf (B := w.heap.size + 1 + 1) hb (by (first | omega | (simp; done) | (simp; omega))); have hy : w.heap.size < w1.heap.size ∧ w.heap.size + 1 < w1.heap.size := (by omega))
    go_wp2_with fail
    go_ret
    refine ⟨?_, by (repeat' (first | (with_reducible exact Below.refl _ _) | (with_reducible refine Below.alloc ?_ ?_ _) | (with_reducible refine Below.drew ?_) | (with_reducible refine below_drewN ?_ _) | (with_reducible refine Below.setCell ?_ ?_ _) | (with_reducible refine Below.trans ?_ (Below.mono (by assumption) ?_)) | (with_reducible exact Nat.le_refl _) | omega | (simp; omega) | (simp; done)))⟩
    rw [HQ.out]; rfl

set_option maxHeartbeats 1000000 in
theorem rGuard_any (l a b n1 d1 n2 d2 xf xt : Int) (w : World) :
    Calls Try.prog 19 #[.agg #[.int .i64 l, .int .i64 a, .int .i64 b, .int .i64 n1, .int .i64 d1, .int .i64 n2, .int .i64 d2], .agg #[.int .i64 xf, .int .i64 xt]] w fun e w' => e = .returned (.tuple #[.agg #[.int .i64 (rguardF l a b n1 d1 n2 d2 xf xt), .int .i64 (rguardT l a b n1 d1 n2 d2 xf xt)], .int .i64 (rguardE l a b n1 d1 n2 d2 xf xt)]) ∧ Below w.heap.size w w' := by
  by_cases hc0 : clkE l a b n1 d1 n2 d2 = 0
  rotate_left
  · have hc1 : (clkE l a b n1 d1 n2 d2 != 0) = true := by simpa using hc0
    go_enter Try.func19, Try.ntmps19
    go_wp2_with (first
        | (go_at_call 14; refine (rclkcheck_any _ _ _ _ _ _ _ _).mono ?_; (rintro e w1 ⟨rfl, hb⟩; have hz : w.heap.size + 1 + 1 + 1 ≤ w1.heap.size := (Nat.le_trans (by (first | omega | (simp; done) | (simp; omega))) hb.size); have hk := bc (B := w.heap.size + 1 + 1 + 1) hb (by (first | omega | (simp; done) | (simp; omega))); have hf := bf (B := w.heap.size + 1 + 1 + 1) hb (by (first | omega | (simp; done) | (simp; omega))); have hy : w.heap.size < w1.heap.size ∧ w.heap.size + 1 < w1.heap.size ∧ w.heap.size + 1 + 1 < w1.heap.size := (by omega))))
    refine bodyPost_ret (by (simp [results, Try.results19, go_sem, *]; try rfl)) rfl ?_
    refine ⟨?_, by (repeat' (first | (with_reducible exact Below.refl _ _) | (with_reducible refine Below.alloc ?_ ?_ _) | (with_reducible refine Below.drew ?_) | (with_reducible refine below_drewN ?_ _) | (with_reducible refine Below.setCell ?_ ?_ _) | (with_reducible refine Below.trans ?_ (Below.mono (by assumption) ?_)) | (with_reducible exact Nat.le_refl _) | omega | (simp; omega) | (simp; done)))⟩
    rw [rguardF, rguardT, rgw1 (by assumption)]; rfl
  have hcc : (clkE l a b n1 d1 n2 d2 != 0) = false := by simpa using hc0
  have Hc := Lib.hid hc0
  have HC := Lib.hid hcc
  have hok := clk_ok hc0
  have c1 := hok.l0
  have c2 := hok.l1
  clear hc0 hcc
  by_cases hx : xf < 0 ∨ xt ≤ xf ∨ 1099511627776 < xt
  · have HE := Lib.hid (rgw2 HC.out hx)
    by_cases ht3 : xf < 0
    · go_enter Try.func19, Try.ntmps19
      go_wp2_with (first
        | (go_at_call 14; refine (rclkcheck_ok _ _ _ _ _ _ _ _ Hc).mono ?_; (rintro e w1 ⟨rfl, hb⟩; have hz : w.heap.size + 1 + 1 + 1 ≤ w1.heap.size := (Nat.le_trans (by (first | omega | (simp; done) | (simp; omega))) hb.size); have hk := bc (B := w.heap.size + 1 + 1 + 1) hb (by (first | omega | (simp; done) | (simp; omega))); have hf := bf (B := w.heap.size + 1 + 1 + 1) hb (by (first | omega | (simp; done) | (simp; omega))); have hy : w.heap.size < w1.heap.size ∧ w.heap.size + 1 < w1.heap.size ∧ w.heap.size + 1 + 1 < w1.heap.size := (by omega))))
      refine bodyPost_ret (by (simp [results, Try.results19, go_sem, *]; try rfl)) rfl ?_
      refine ⟨?_, by (repeat' (first | (with_reducible exact Below.refl _ _) | (with_reducible refine Below.alloc ?_ ?_ _) | (with_reducible refine Below.drew ?_) | (with_reducible refine below_drewN ?_ _) | (with_reducible refine Below.setCell ?_ ?_ _) | (with_reducible refine Below.trans ?_ (Below.mono (by assumption) ?_)) | (with_reducible exact Nat.le_refl _) | omega | (simp; omega) | (simp; done)))⟩
      rw [rguardF, rguardT, HE.out]; rfl
    · by_cases ht4 : xt ≤ xf
      all_goals
        go_enter Try.func19, Try.ntmps19
        go_wp2_with (first
          | (go_at_call 14; refine (rclkcheck_ok _ _ _ _ _ _ _ _ Hc).mono ?_; (rintro e w1 ⟨rfl, hb⟩; have hz : w.heap.size + 1 + 1 + 1 ≤ w1.heap.size := (Nat.le_trans (by (first | omega | (simp; done) | (simp; omega))) hb.size); have hk := bc (B := w.heap.size + 1 + 1 + 1) hb (by (first | omega | (simp; done) | (simp; omega))); have hf := bf (B := w.heap.size + 1 + 1 + 1) hb (by (first | omega | (simp; done) | (simp; omega))); have hy : w.heap.size < w1.heap.size ∧ w.heap.size + 1 < w1.heap.size ∧ w.heap.size + 1 + 1 < w1.heap.size := (by omega))))
        all_goals
          first
          | (exfalso; omega)
          | (refine bodyPost_ret (by (simp [results, Try.results19, go_sem, *]; try rfl)) rfl ?_; refine ⟨?_, by (repeat' (first | (with_reducible exact Below.refl _ _) | (with_reducible refine Below.alloc ?_ ?_ _) | (with_reducible refine Below.drew ?_) | (with_reducible refine below_drewN ?_ _) | (with_reducible refine Below.setCell ?_ ?_ _) | (with_reducible refine Below.trans ?_ (Below.mono (by assumption) ?_)) | (with_reducible exact Nat.le_refl _) | omega | (simp; omega) | (simp; done)))⟩; rw [rguardF, rguardT, HE.out]; rfl)
  have hx1 : 0 ≤ xf := by omega
  have hx2 : xf < xt := by omega
  have hx3 : xt ≤ 1099511627776 := by omega
  have HX := Lib.hid hx
  clear hx
  have HF := Lib.hid (rgw3 (xf := xf) (xt := xt) HC.out HX.out)
  have HT := Lib.hid (rgw4 (xf := xf) (xt := xt) HC.out HX.out)
  go_enter Try.func19, Try.ntmps19
  go_wp2_with (first
    | (go_at_call 14; refine (rclkcheck_ok _ _ _ _ _ _ _ _ Hc).mono ?_; (rintro e w1 ⟨rfl, hb⟩; have hz : w.heap.size + 1 + 1 + 1 ≤ w1.heap.size := (Nat.le_trans (by (first | omega | (simp; done) | (simp; omega))) hb.size); have hk := bc (B := w.heap.size + 1 + 1 + 1) hb (by (first | omega | (simp; done) | (simp; omega))); have hf := bf (B := w.heap.size + 1 + 1 + 1) hb (by (first | omega | (simp; done) | (simp; omega))); have hy : w.heap.size < w1.heap.size ∧ w.heap.size + 1 < w1.heap.size ∧ w.heap.size + 1 + 1 < w1.heap.size := (by omega))))
  have g0 : w1.cell? ⟨w.heap.size, 0, none⟩ = some (.int .i64 l) := by simp [*, go_sem]
  have g1 : w1.cell? ⟨w.heap.size, 1, none⟩ = some (.int .i64 a) := by simp [*, go_sem]
  have g2 : w1.cell? ⟨w.heap.size, 2, none⟩ = some (.int .i64 b) := by simp [*, go_sem]
  have g3 : w1.cell? ⟨w.heap.size, 3, none⟩ = some (.int .i64 n1) := by simp [*, go_sem]
  have g4 : w1.cell? ⟨w.heap.size, 4, none⟩ = some (.int .i64 d1) := by simp [*, go_sem]
  have g5 : w1.cell? ⟨w.heap.size, 5, none⟩ = some (.int .i64 n2) := by simp [*, go_sem]
  have g6 : w1.cell? ⟨w.heap.size, 6, none⟩ = some (.int .i64 d2) := by simp [*, go_sem]
  have x0 : w1.cell? ⟨w.heap.size + 1, 0, none⟩ = some (.int .i64 xf) := by simp [*, go_sem]
  have x1 : w1.cell? ⟨w.heap.size + 1, 1, none⟩ = some (.int .i64 xt) := by simp [*, go_sem]
  have r0 : w1.cell? ⟨w.heap.size + 1 + 1, 0, none⟩ = some (.int .i64 0) := by simp [*, go_sem]
  have r1 : w1.cell? ⟨w.heap.size + 1 + 1, 1, none⟩ = some (.int .i64 0) := by simp [*, go_sem]
  have f0 : w1.frozen? ⟨w.heap.size + 1 + 1, 0, none⟩ = false := by simp [*, go_sem]
  have f1 : w1.frozen? ⟨w.heap.size + 1 + 1, 1, none⟩ = false := by simp [*, go_sem]
  clear hk hf
  have hB1 : Below w.heap.size w w1 := by (repeat' (first | (with_reducible exact Below.refl _ _) | (with_reducible refine Below.alloc ?_ ?_ _) | (with_reducible refine Below.drew ?_) | (with_reducible refine below_drewN ?_ _) | (with_reducible refine Below.setCell ?_ ?_ _) | (with_reducible refine Below.trans ?_ (Below.mono (by assumption) ?_)) | (with_reducible exact Nat.le_refl _) | omega | (simp; omega) | (simp; done)))
  clear hb
  go_loopw [6, 7] (fun x y wr => ∃ c d : Int, l ≤ c ∧ c ≤ d ∧ d ≤ 1099511627777 ∧ x = .int .i64 c ∧ y = .int .i64 d ∧ Hid (bs (rp1 l a b n1 d1 n2 d2 xf) c d = rgF l a b n1 d1 n2 d2 xf) ∧ Below (w.heap.size + 1 + 1 + 1) w1 wr) (fun x y _ => (intOf y - intOf x).toNat)
  case atStart => exact ⟨l, 1099511627777, by omega, by omega, by omega, rfl, rfl, rfl, Below.refl _ _⟩
  case round =>
    obtain ⟨c, d, hc1, hc2, hd, rfl, rfl, hg, hb0⟩ := hrel
    have hk := fun b o (h : b < w.heap.size + 1 + 1 + 1) => hb0.cell (p := ⟨b, o, none⟩) h
    by_cases hlt : c < d
    · have hm : c + d ≤ 2199023255554 := by omega
      go_wp2_with fail
      refine (early_any _ _ _ _ _ _ _ _ _ _ _).mono ?_
      rintro e w2 ⟨rfl, hb⟩
      clear hk
      have hB : Below (w.heap.size + 1 + 1 + 1) w1 w2 := hb0.trans (hb.mono (Nat.le_trans hz hb0.size))
      generalize hp : earlyB l a b n1 d1 n2 d2 xf ((c + d) / 2) = pv
      have HP : Hid (rp1 l a b n1 d1 n2 d2 xf ((c + d) / 2) = !pv) := by show _ = _; simp [rp1, hp]
      clear hp
      cases pv
      · go_wp2_with fail
        go_roundw
        case rel => exact ⟨c, (c + d) / 2, by omega, by omega, by omega, rfl, rfl, (bs_yes _ _ _ hlt HP.out).symm.trans hg.out, hB⟩
        case measure => simp [intOf]; omega
      · go_wp2_with fail
        go_roundw
        case rel => exact ⟨(c + d) / 2 + 1, d, by omega, by omega, by omega, rfl, rfl, (bs_no _ _ _ hlt HP.out).symm.trans hg.out, hB⟩
        case measure => simp [intOf]; omega
    · have HR1 : Hid (rgF l a b n1 d1 n2 d2 xf = c) := hg.out.symm.trans (bs_end _ _ _ hlt)
      clear hg
      obtain ⟨fv, hfv⟩ : ∃ fv : Int, fv = c := ⟨c, rfl⟩
      subst hfv
      obtain ⟨wa, hwa⟩ : ∃ wa : World, wa = wr := ⟨wr, rfl⟩
      subst hwa
      have hbA := hb0
      clear hb0
      go_wp2_with fail
      clear hlt hk
      go_loopw [6, 7] (fun x y wr => ∃ c d : Int, l ≤ c ∧ c ≤ d ∧ d ≤ 1099511627777 ∧ x = .int .i64 c ∧ y = .int .i64 d ∧ Hid (bs (rp2 l a b n1 d1 n2 d2 xt) c d = rgT l a b n1 d1 n2 d2 xt) ∧ Below (w.heap.size + 1 + 1 + 1) w1 wr) (fun x y _ => (intOf y - intOf x).toNat)
      case atStart => exact ⟨l, 1099511627777, by omega, by omega, by omega, rfl, rfl, rfl, hbA⟩
      case round =>
        obtain ⟨c, d, hc1, hc2, hd, rfl, rfl, hg, hb0⟩ := hrel
        have hk := fun b o (h : b < w.heap.size + 1 + 1 + 1) => hb0.cell (p := ⟨b, o, none⟩) h
        by_cases hlt : c < d
        · have hm : c + d ≤ 2199023255554 := by omega
          go_wp2_with fail
          refine (sure_any _ _ _ _ _ _ _ _ _ _ _).mono ?_
          rintro e w2 ⟨rfl, hb⟩
          clear hk
          have hB : Below (w.heap.size + 1 + 1 + 1) w1 w2 := hb0.trans (hb.mono (Nat.le_trans hz hb0.size))
          generalize hp : sureB l a b n1 d1 n2 d2 xt ((c + d) / 2) = pv
          have HP : Hid (rp2 l a b n1 d1 n2 d2 xt ((c + d) / 2) = !pv) := by show _ = _; simp [rp2, hp]
          clear hp
          cases pv
          · go_wp2_with fail
            go_roundw
            case rel => exact ⟨c, (c + d) / 2, by omega, by omega, by omega, rfl, rfl, (bs_yes _ _ _ hlt HP.out).symm.trans hg.out, hB⟩
            case measure => simp [intOf]; omega
          · go_wp2_with fail
            go_roundw
            case rel => exact ⟨(c + d) / 2 + 1, d, by omega, by omega, by omega, rfl, rfl, (bs_no _ _ _ hlt HP.out).symm.trans hg.out, hB⟩
            case measure => simp [intOf]; omega
        · have HR2 : Hid (rgT l a b n1 d1 n2 d2 xt = c) := hg.out.symm.trans (bs_end _ _ _ hlt)
          clear hg
          have hf := fun b o (h : b < w.heap.size + 1 + 1 + 1) => hb0.frozen (p := ⟨b, o, none⟩) h
          have hyr : w.heap.size + 1 + 1 < wr.heap.size := by have := hb0.size; omega
          have hBr : Below w.heap.size w wr := hB1.trans (hb0.mono (by omega))
          clear hb0
          by_cases hq : c ≤ fv
          · have HE := Lib.hid (HF.out (by rw [HR1.out, HR2.out]; exact hq))
            go_wp2_with fail
            refine bodyPost_ret (by (simp [results, Try.results19, go_sem, *]; try rfl)) rfl ?_
            refine ⟨?_, by (repeat' (first | (with_reducible exact Below.refl _ _) | (with_reducible refine Below.alloc ?_ ?_ _) | (with_reducible refine Below.drew ?_) | (with_reducible refine below_drewN ?_ _) | (with_reducible refine Below.setCell ?_ ?_ _) | (with_reducible refine Below.trans ?_ (Below.mono (by assumption) ?_)) | (with_reducible exact Nat.le_refl _) | omega | (simp; omega) | (simp; done)))⟩
            rw [rguardF, rguardT, HE.out]; rfl
          · have HE := Lib.hid (HT.out (by rw [HR1.out, HR2.out]; omega))
            go_wp2_with fail
            refine bodyPost_ret (by (simp [results, Try.results19, go_sem, *]; try rfl)) rfl ?_
            refine ⟨?_, by (repeat' (first | (with_reducible exact Below.refl _ _) | (with_reducible refine Below.alloc ?_ ?_ _) | (with_reducible refine Below.drew ?_) | (with_reducible refine below_drewN ?_ _) | (with_reducible refine Below.setCell ?_ ?_ _) | (with_reducible refine Below.trans ?_ (Below.mono (by assumption) ?_)) | (with_reducible exact Nat.le_refl _) | omega | (simp; omega) | (simp; done)))⟩
            rw [rguardF, rguardT, HE.out, HR1.out, HR2.out]; rfl
end Go.Proofs.Ytbhmmffompapdaa

/- Walk over clock.Guard. -/
import Derived.Test.YtbhmmffompapdaaRows
import Derived.Test.YtbhmmffompapdaaC8
import Derived.WalkKit
import Derived.WalkSpells
import Derived.WalkLawsBesides
import Derived.Handy
import Derived.Deep.QuietTactic
import Derived.BigQuiet
import Derived.Deep.RegionHeld3
import Derived.Deep.DeepCutAuto
import Derived.Lib.Hide
namespace Go.Proofs.Ytbhmmffompapdaa
open Go.RowKit

/-- what Guard finds: the two ends, and an error number -/
def gF (l a n1 d1 n2 d2 xf : Int) : Int := bs (gp1 l a n1 d1 n2 d2 xf) l 1099511627777
def gT (l b n1 d1 xt : Int) : Int := bs (gp2 l b n1 d1 xt) l 1099511627777
def guardE (l a b n1 d1 n2 d2 xf xt : Int) : Int :=
  if clkE l a b n1 d1 n2 d2 ≠ 0 then 1 else if xf < 0 ∨ xt ≤ xf ∨ 1099511627776 < xt then 2 else if gT l b n1 d1 xt ≤ gF l a n1 d1 n2 d2 xf then 20 else 0
def guardF (l a b n1 d1 n2 d2 xf xt : Int) : Int := if guardE l a b n1 d1 n2 d2 xf xt = 0 then gF l a n1 d1 n2 d2 xf else 0
def guardT (l a b n1 d1 n2 d2 xf xt : Int) : Int := if guardE l a b n1 d1 n2 d2 xf xt = 0 then gT l b n1 d1 xt else 0
section
variable {l a b n1 d1 n2 d2 xf xt : Int}
theorem gw1 (h : (clkE l a b n1 d1 n2 d2 != 0) = true) : guardE l a b n1 d1 n2 d2 xf xt = 1 := by
  unfold guardE; rw [if_pos (by simpa using h)]
theorem gw2 (h : (clkE l a b n1 d1 n2 d2 != 0) = false) (h2 : xf < 0 ∨ xt ≤ xf ∨ 1099511627776 < xt) : guardE l a b n1 d1 n2 d2 xf xt = 2 := by
  unfold guardE; rw [if_neg (by simpa using h), if_pos h2]
theorem gw3 (h : (clkE l a b n1 d1 n2 d2 != 0) = false) (h2 : ¬ (xf < 0 ∨ xt ≤ xf ∨ 1099511627776 < xt)) (h3 : gT l b n1 d1 xt ≤ gF l a n1 d1 n2 d2 xf) : guardE l a b n1 d1 n2 d2 xf xt = 20 := by
  unfold guardE; rw [if_neg (by simpa using h), if_neg h2, if_pos h3]
theorem gw4 (h : (clkE l a b n1 d1 n2 d2 != 0) = false) (h2 : ¬ (xf < 0 ∨ xt ≤ xf ∨ 1099511627776 < xt)) (h3 : gF l a n1 d1 n2 d2 xf < gT l b n1 d1 xt) : guardE l a b n1 d1 n2 d2 xf xt = 0 := by
  unfold guardE; rw [if_neg (by simpa using h), if_neg h2, if_neg (by omega)]
end
set_option maxHeartbeats 1000000 in
theorem Guard_any (l a b n1 d1 n2 d2 xf xt : Int) (w : World) :
    Calls Try.prog 16 #[.agg #[.int .i64 l, .int .i64 a, .int .i64 b, .int .i64 n1, .int .i64 d1, .int .i64 n2, .int .i64 d2], .agg #[.int .i64 xf, .int .i64 xt]] w fun e w' => e = .returned (.tuple #[.agg #[.int .i64 (guardF l a b n1 d1 n2 d2 xf xt), .int .i64 (guardT l a b n1 d1 n2 d2 xf xt)], .int .i64 (guardE l a b n1 d1 n2 d2 xf xt)]) ∧ Below w.heap.size w w' := by
  by_cases hc0 : clkE l a b n1 d1 n2 d2 = 0
  rotate_left
  · have hc1 : (clkE l a b n1 d1 n2 d2 != 0) = true := by simpa using hc0
    go_enter Try.func16, Try.ntmps16
    go_wp2_with (first
        | (go_at_call 13; refine (clkcheck_any _ _ _ _ _ _ _ _).mono ?_; (rintro e w1 ⟨rfl, hb⟩; have hz : w.heap.size + 1 + 1 + 1 ≤ w1.heap.size := (Nat.le_trans (by (first | omega | (simp; done) | (simp; omega))) hb.size); have hk := bc (B := w.heap.size + 1 + 1 + 1) hb (by (first | omega | (simp; done) | (simp; omega))); have hf := bf (B := w.heap.size + 1 + 1 + 1) hb (by (first | omega | (simp; done) | (simp; omega))); have hy : w.heap.size < w1.heap.size ∧ w.heap.size + 1 < w1.heap.size ∧ w.heap.size + 1 + 1 < w1.heap.size := (by omega))))
    refine bodyPost_ret (by (simp [results, Try.results16, go_sem, *]; try rfl)) rfl ?_
    refine ⟨?_, by (repeat' (first | (with_reducible exact Below.refl _ _) | (with_reducible refine Below.alloc ?_ ?_ _) | (with_reducible refine Below.drew ?_) | (with_reducible refine below_drewN ?_ _) | (with_reducible refine Below.setCell ?_ ?_ _) | (with_reducible refine Below.trans ?_ (Below.mono (by assumption) ?_)) | (with_reducible exact Nat.le_refl _) | omega | (simp; omega) | (simp; done)))⟩
    rw [guardF, guardT, gw1 (by assumption)]; rfl
  have hcc : (clkE l a b n1 d1 n2 d2 != 0) = false := by simpa using hc0
  have Hc := Lib.hid hc0
  have HC := Lib.hid hcc
  have hok := clk_ok hc0
  have c1 := hok.l0
  have c2 := hok.l1
  clear hc0 hcc
  by_cases hx : xf < 0 ∨ xt ≤ xf ∨ 1099511627776 < xt
  · have HE := Lib.hid (gw2 HC.out hx)
    by_cases ht3 : xf < 0
    · go_enter Try.func16, Try.ntmps16
      go_wp2_with (first
        | (go_at_call 13; refine (clkcheck_ok _ _ _ _ _ _ _ _ Hc).mono ?_; (rintro e w1 ⟨rfl, hb⟩; have hz : w.heap.size + 1 + 1 + 1 ≤ w1.heap.size := (Nat.le_trans (by (first | omega | (simp; done) | (simp; omega))) hb.size); have hk := bc (B := w.heap.size + 1 + 1 + 1) hb (by (first | omega | (simp; done) | (simp; omega))); have hf := bf (B := w.heap.size + 1 + 1 + 1) hb (by (first | omega | (simp; done) | (simp; omega))); have hy : w.heap.size < w1.heap.size ∧ w.heap.size + 1 < w1.heap.size ∧ w.heap.size + 1 + 1 < w1.heap.size := (by omega))))
      refine bodyPost_ret (by (simp [results, Try.results16, go_sem, *]; try rfl)) rfl ?_
      refine ⟨?_, by (repeat' (first | (with_reducible exact Below.refl _ _) | (with_reducible refine Below.alloc ?_ ?_ _) | (with_reducible refine Below.drew ?_) | (with_reducible refine below_drewN ?_ _) | (with_reducible refine Below.setCell ?_ ?_ _) | (with_reducible refine Below.trans ?_ (Below.mono (by assumption) ?_)) | (with_reducible exact Nat.le_refl _) | omega | (simp; omega) | (simp; done)))⟩
      rw [guardF, guardT, HE.out]; rfl
    · by_cases ht4 : xt ≤ xf
      all_goals
        go_enter Try.func16, Try.ntmps16
        go_wp2_with (first
          | (go_at_call 13; refine (clkcheck_ok _ _ _ _ _ _ _ _ Hc).mono ?_; (rintro e w1 ⟨rfl, hb⟩; have hz : w.heap.size + 1 + 1 + 1 ≤ w1.heap.size := (Nat.le_trans (by (first | omega | (simp; done) | (simp; omega))) hb.size); have hk := bc (B := w.heap.size + 1 + 1 + 1) hb (by (first | omega | (simp; done) | (simp; omega))); have hf := bf (B := w.heap.size + 1 + 1 + 1) hb (by (first | omega | (simp; done) | (simp; omega))); have hy : w.heap.size < w1.heap.size ∧ w.heap.size + 1 < w1.heap.size ∧ w.heap.size + 1 + 1 < w1.heap.size := (by omega))))
        all_goals
          first
          | (exfalso; omega)
          | (refine bodyPost_ret (by (simp [results, Try.results16, go_sem, *]; try rfl)) rfl ?_; refine ⟨?_, by (repeat' (first | (with_reducible exact Below.refl _ _) | (with_reducible refine Below.alloc ?_ ?_ _) | (with_reducible refine Below.drew ?_) | (with_reducible refine below_drewN ?_ _) | (with_reducible refine Below.setCell ?_ ?_ _) | (with_reducible refine Below.trans ?_ (Below.mono (by assumption) ?_)) | (with_reducible exact Nat.le_refl _) | omega | (simp; omega) | (simp; done)))⟩; rw [guardF, guardT, HE.out]; rfl)
  have hx1 : 0 ≤ xf := by omega
  have hx2 : xf < xt := by omega
  have hx3 : xt ≤ 1099511627776 := by omega
  have HX := Lib.hid hx
  clear hx
  go_enter Try.func16, Try.ntmps16
  go_wp2_with (first
    | (go_at_call 13; refine (clkcheck_ok _ _ _ _ _ _ _ _ Hc).mono ?_; (rintro e w1 ⟨rfl, hb⟩; have hz : w.heap.size + 1 + 1 + 1 ≤ w1.heap.size := (Nat.le_trans (by (first | omega | (simp; done) | (simp; omega))) hb.size); have hk := bc (B := w.heap.size + 1 + 1 + 1) hb (by (first | omega | (simp; done) | (simp; omega))); have hf := bf (B := w.heap.size + 1 + 1 + 1) hb (by (first | omega | (simp; done) | (simp; omega))); have hy : w.heap.size < w1.heap.size ∧ w.heap.size + 1 < w1.heap.size ∧ w.heap.size + 1 + 1 < w1.heap.size := (by omega))))
  have g0 : w1.cell? ⟨w.heap.size, 0, none⟩ = some (.int .i64 l) := by simp [*, go_sem]
  have g1 : w1.cell? ⟨w.heap.size, 1, none⟩ = some (.int .i64 a) := by simp [*, go_sem]
  have g2 : w1.cell? ⟨w.heap.size, 2, none⟩ = some (.int .i64 b) := by simp [*, go_sem]
  have g3 : w1.cell? ⟨w.heap.size, 3, none⟩ = some (.int .i64 n1) := by simp [*, go_sem]
  have g4 : w1.cell? ⟨w.heap.size, 4, none⟩ = some (.int .i64 d1) := by simp [*, go_sem]
  have g5 : w1.cell? ⟨w.heap.size, 5, none⟩ = some (.int .i64 n2) := by simp [*, go_sem]
  have g6 : w1.cell? ⟨w.heap.size, 6, none⟩ = some (.int .i64 d2) := by simp [*, go_sem]
  have x0 : w1.cell? ⟨w.heap.size + 1, 0, none⟩ = some (.int .i64 xf) := by simp [*, go_sem]
  have x1 : w1.cell? ⟨w.heap.size + 1, 1, none⟩ = some (.int .i64 xt) := by simp [*, go_sem]
  have r0 : w1.cell? ⟨w.heap.size + 1 + 1, 0, none⟩ = some (.int .i64 0) := by simp [*, go_sem]
  have r1 : w1.cell? ⟨w.heap.size + 1 + 1, 1, none⟩ = some (.int .i64 0) := by simp [*, go_sem]
  have f0 : w1.frozen? ⟨w.heap.size + 1 + 1, 0, none⟩ = false := by simp [*, go_sem]
  have f1 : w1.frozen? ⟨w.heap.size + 1 + 1, 1, none⟩ = false := by simp [*, go_sem]
  clear hk hf
  have hB1 : Below w.heap.size w w1 := by (repeat' (first | (with_reducible exact Below.refl _ _) | (with_reducible refine Below.alloc ?_ ?_ _) | (with_reducible refine Below.drew ?_) | (with_reducible refine below_drewN ?_ _) | (with_reducible refine Below.setCell ?_ ?_ _) | (with_reducible refine Below.trans ?_ (Below.mono (by assumption) ?_)) | (with_reducible exact Nat.le_refl _) | omega | (simp; omega) | (simp; done)))
  clear hb
  refine (first1_any l a b n1 d1 n2 d2 xf l 1099511627777 w.heap.size (w.heap.size + 1) w1 hok (by omega) (by omega) (by omega) g0 g1 g2 g3 g4 g5 g6 x0 (by omega) (by omega)).mono ?_
  rintro e w2 ⟨rfl, hb⟩
  have hk := bc (B := w.heap.size + 1 + 1 + 1) hb (by omega)
  have hf := bf (B := w.heap.size + 1 + 1 + 1) hb (by omega)
  have hz2 : w.heap.size + 1 + 1 + 1 ≤ w2.heap.size := Nat.le_trans hz hb.size
  have hB2 : Below w.heap.size w w2 := hB1.trans (hb.mono (by omega))
  clear hb hz hy
  generalize hFv : bs (gp1 l a n1 d1 n2 d2 xf) l 1099511627777 = Fv
  have HF : Hid (gF l a n1 d1 n2 d2 xf = Fv) := hFv
  clear hFv
  go_wp2_with fail
  refine (first2_any l a b n1 d1 n2 d2 xt l 1099511627777 w.heap.size (w.heap.size + 1) w2 hok (by omega) (by omega) (by omega) (by rw [hk _ _ (by omega)]; exact g0) (by rw [hk _ _ (by omega)]; exact g1) (by rw [hk _ _ (by omega)]; exact g2) (by rw [hk _ _ (by omega)]; exact g3) (by rw [hk _ _ (by omega)]; exact g4) (by rw [hk _ _ (by omega)]; exact g5) (by rw [hk _ _ (by omega)]; exact g6) (by rw [hk _ _ (by omega)]; exact x1) (by omega) (by omega)).mono ?_
  rintro e w3 ⟨rfl, hb3⟩
  have hk3 := bc (B := w.heap.size + 1 + 1 + 1) hb3 (by omega)
  have hf3 := bf (B := w.heap.size + 1 + 1 + 1) hb3 (by omega)
  have hB3 : Below w.heap.size w w3 := hB2.trans (hb3.mono (by omega))
  have hz3 : w.heap.size + 1 + 1 + 1 ≤ w3.heap.size := Nat.le_trans hz2 hb3.size
  have hy3 : w.heap.size + 1 + 1 < w3.heap.size := by omega
  clear hb3
  generalize hTv : bs (gp2 l b n1 d1 xt) l 1099511627777 = Tv
  have HT : Hid (gT l b n1 d1 xt = Tv) := hTv
  clear hTv
  by_cases hq : Tv ≤ Fv
  · have HE := Lib.hid (gw3 HC.out HX.out (by rw [HF.out, HT.out]; exact hq))
    go_wp2_with fail
    refine bodyPost_ret (by (simp [results, Try.results16, go_sem, *]; try rfl)) rfl ?_
    refine ⟨?_, by (repeat' (first | (with_reducible exact Below.refl _ _) | (with_reducible refine Below.alloc ?_ ?_ _) | (with_reducible refine Below.drew ?_) | (with_reducible refine below_drewN ?_ _) | (with_reducible refine Below.setCell ?_ ?_ _) | (with_reducible refine Below.trans ?_ (Below.mono (by assumption) ?_)) | (with_reducible exact Nat.le_refl _) | omega | (simp; omega) | (simp; done)))⟩
    rw [guardF, guardT, HE.out]; rfl
  · have HE := Lib.hid (gw4 HC.out HX.out (by rw [HF.out, HT.out]; omega))
    go_wp2_with fail
    refine bodyPost_ret (by (simp [results, Try.results16, go_sem, *]; try rfl)) rfl ?_
    refine ⟨?_, by (repeat' (first | (with_reducible exact Below.refl _ _) | (with_reducible refine Below.alloc ?_ ?_ _) | (with_reducible refine Below.drew ?_) | (with_reducible refine below_drewN ?_ _) | (with_reducible refine Below.setCell ?_ ?_ _) | (with_reducible refine Below.trans ?_ (Below.mono (by assumption) ?_)) | (with_reducible exact Nat.le_refl _) | omega | (simp; omega) | (simp; done)))⟩
    rw [guardF, guardT, HE.out, HF.out, HT.out]; rfl
end Go.Proofs.Ytbhmmffompapdaa

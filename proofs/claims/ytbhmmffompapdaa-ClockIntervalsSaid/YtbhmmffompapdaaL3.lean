/- Walk over the law ClockMonotone. -/
import Derived.Test.YtbhmmffompapdaaRows
import Derived.Test.YtbhmmffompapdaaC13
import Derived.Test.YtbhmmffompapdaaC14
import Derived.WalkKit
import Derived.WalkSpells
import Derived.WalkLawsBesides
import Derived.Handy
import Derived.Deep.QuietTactic
import Derived.BigQuiet
import Derived.Deep.RegionHeld3
import Derived.Deep.DeepCutAuto
import Derived.Lib.Hide
namespace Go.Proofs.Ytbhmmffompapdaa
open Go.RowKit

/-- Truth and Drift of a valid clock at a time at which the bounds are no greater than MaxTime -/
theorem truth_zero (l a b n1 d1 n2 d2 t : Int) (h0 : clkE l a b n1 d1 n2 d2 = 0) (h1 : l ≤ t) (h2 : t ≤ 1099511627776) (h3 : tTo l b n1 d1 t ≤ 1099511627776) :
    truthE l a b n1 d1 n2 d2 t = 0 ∧ truthF l a b n1 d1 n2 d2 t = tFrom l a n1 d1 n2 d2 t ∧ truthT l a b n1 d1 n2 d2 t = tTo l b n1 d1 t := by
  have h : truthE l a b n1 d1 n2 d2 t = 0 := by rw [truthE_in h0 t h1 h2, if_neg (by omega)]
  exact ⟨h, by rw [truthF, if_pos h], by rw [truthT, if_pos h]⟩
theorem Truth_ok (l a b n1 d1 n2 d2 t F T : Int) (w : World) (h : Hid (truthE l a b n1 d1 n2 d2 t = 0 ∧ truthF l a b n1 d1 n2 d2 t = F ∧ truthT l a b n1 d1 n2 d2 t = T)) :
    Calls Try.prog 7 #[.agg #[.int .i64 l, .int .i64 a, .int .i64 b, .int .i64 n1, .int .i64 d1, .int .i64 n2, .int .i64 d2], .int .i64 t] w fun e w' => e = .returned (.tuple #[.agg #[.int .i64 F, .int .i64 T], .int .i64 0]) ∧ Below w.heap.size w w' := by
  have := Truth_any l a b n1 d1 n2 d2 t w
  rwa [h.out.1, h.out.2.1, h.out.2.2] at this
theorem Drift_ok (l a b n1 d1 n2 d2 t F T : Int) (w : World) (h : Hid (truthE l a b n1 d1 n2 d2 t = 0 ∧ truthF l a b n1 d1 n2 d2 t = F ∧ truthT l a b n1 d1 n2 d2 t = T)) :
    Calls Try.prog 11 #[.agg #[.int .i64 l, .int .i64 a, .int .i64 b, .int .i64 n1, .int .i64 d1, .int .i64 n2, .int .i64 d2], .int .i64 t] w fun e w' => e = .returned (.tuple #[.int .i64 (T - F), .int .i64 0]) ∧ Below w.heap.size w w' := by
  have := Drift_any l a b n1 d1 n2 d2 t w
  rwa [h.out.1, h.out.2.1, h.out.2.2] at this
theorem u32_bd {x : Int} (h : (Lit.int .u32 x).wf = true) : 0 ≤ x ∧ x ≤ 4294967295 := by
  simpa [Lit.wf, IntKind.min, IntKind.max, IntKind.signed, IntKind.bits] using h
set_option maxHeartbeats 2000000 in
theorem monotone_any (l a b n1 d1 n2 d2 u v : Int) (w : World) (hu : (Lit.int .u32 u).wf = true) (hv : (Lit.int .u32 v).wf = true) : Calls Try.prog 4 #[.agg #[.int .i64 l, .int .i64 a, .int .i64 b, .int .i64 n1, .int .i64 d1, .int .i64 n2, .int .i64 d2], .int .u32 u, .int .u32 v] w fun e w' => e = .returned (.bool true) ∧ Below w.heap.size w w' := by
  obtain ⟨u0, u1⟩ := u32_bd hu
  obtain ⟨v0, v1⟩ := u32_bd hv
  clear hu hv
  by_cases hc0 : clkE l a b n1 d1 n2 d2 = 0
  rotate_left
  · have hc1 : (clkE l a b n1 d1 n2 d2 != 0) = true := by simpa using hc0
    go_enter Try.func4, Try.ntmps4
    go_wp2_with (first
        | (go_at_call 13; refine (clkcheck_any _ _ _ _ _ _ _ _).mono ?_; (rintro e w1 ⟨rfl, hb⟩; have hz : w.heap.size + 1 ≤ w1.heap.size := (Nat.le_trans (by (first | omega | (simp; done) | (simp; omega))) hb.size); have hk := bc (B := w.heap.size + 1) hb (by (first | omega | (simp; done) | (simp; omega))); have hf := bf (B := w.heap.size + 1) hb (by (first | omega | (simp; done) | (simp; omega))); have hy : w.heap.size < w1.heap.size := (by omega)))
        | (go_at_call 15; refine (awake_any _).mono ?_; (rintro e w1 ⟨rfl, hb⟩; have hz : w.heap.size + 1 ≤ w1.heap.size := (Nat.le_trans (by (first | omega | (simp; done) | (simp; omega))) hb.size); have hk := bc (B := w.heap.size + 1) hb (by (first | omega | (simp; done) | (simp; omega))); have hf := bf (B := w.heap.size + 1) hb (by (first | omega | (simp; done) | (simp; omega))); have hy : w.heap.size < w1.heap.size := (by omega))))
    go_ret
    exact ⟨rfl, by (repeat' (first | (with_reducible exact Below.refl _ _) | (with_reducible refine Below.alloc ?_ ?_ _) | (with_reducible refine Below.drew ?_) | (with_reducible refine below_drewN ?_ _) | (with_reducible refine Below.setCell ?_ ?_ _) | (with_reducible refine Below.trans ?_ (Below.mono (by assumption) ?_)) | (with_reducible exact Nat.le_refl _) | omega | (simp; omega) | (simp; done)))⟩
  have Hc := Lib.hid hc0
  have hok := clk_ok hc0
  have HO := Lib.hid hok
  obtain ⟨c1, c2, c3, c4, c5, c6, c7, c8, c9, c10, c11, c12, c13, c14, c15, c16, c17, c18⟩ := hok
  clear hc0
  by_cases hl : l ≤ 274877906944
  rotate_left
  · go_enter Try.func4, Try.ntmps4
    go_wp2_with (first
        | (go_at_call 13; refine (clkcheck_ok _ _ _ _ _ _ _ _ Hc).mono ?_; (rintro e w1 ⟨rfl, hb⟩; have hz : w.heap.size + 1 ≤ w1.heap.size := (Nat.le_trans (by (first | omega | (simp; done) | (simp; omega))) hb.size); have hk := bc (B := w.heap.size + 1) hb (by (first | omega | (simp; done) | (simp; omega))); have hf := bf (B := w.heap.size + 1) hb (by (first | omega | (simp; done) | (simp; omega))); have hy : w.heap.size < w1.heap.size := (by omega)))
        | (go_at_call 15; refine (awake_any _).mono ?_; (rintro e w1 ⟨rfl, hb⟩; have hz : w.heap.size + 1 ≤ w1.heap.size := (Nat.le_trans (by (first | omega | (simp; done) | (simp; omega))) hb.size); have hk := bc (B := w.heap.size + 1) hb (by (first | omega | (simp; done) | (simp; omega))); have hf := bf (B := w.heap.size + 1) hb (by (first | omega | (simp; done) | (simp; omega))); have hy : w.heap.size < w1.heap.size := (by omega))))
    go_ret
    exact ⟨rfl, by (repeat' (first | (with_reducible exact Below.refl _ _) | (with_reducible refine Below.alloc ?_ ?_ _) | (with_reducible refine Below.drew ?_) | (with_reducible refine below_drewN ?_ _) | (with_reducible refine Below.setCell ?_ ?_ _) | (with_reducible refine Below.trans ?_ (Below.mono (by assumption) ?_)) | (with_reducible exact Nat.le_refl _) | omega | (simp; omega) | (simp; done)))⟩
  by_cases hb : b ≤ 274877906944
  rotate_left
  · go_enter Try.func4, Try.ntmps4
    go_wp2_with (first
        | (go_at_call 13; refine (clkcheck_ok _ _ _ _ _ _ _ _ Hc).mono ?_; (rintro e w1 ⟨rfl, hb⟩; have hz : w.heap.size + 1 ≤ w1.heap.size := (Nat.le_trans (by (first | omega | (simp; done) | (simp; omega))) hb.size); have hk := bc (B := w.heap.size + 1) hb (by (first | omega | (simp; done) | (simp; omega))); have hf := bf (B := w.heap.size + 1) hb (by (first | omega | (simp; done) | (simp; omega))); have hy : w.heap.size < w1.heap.size := (by omega)))
        | (go_at_call 15; refine (awake_any _).mono ?_; (rintro e w1 ⟨rfl, hb⟩; have hz : w.heap.size + 1 ≤ w1.heap.size := (Nat.le_trans (by (first | omega | (simp; done) | (simp; omega))) hb.size); have hk := bc (B := w.heap.size + 1) hb (by (first | omega | (simp; done) | (simp; omega))); have hf := bf (B := w.heap.size + 1) hb (by (first | omega | (simp; done) | (simp; omega))); have hy : w.heap.size < w1.heap.size := (by omega))))
    go_ret
    exact ⟨rfl, by (repeat' (first | (with_reducible exact Below.refl _ _) | (with_reducible refine Below.alloc ?_ ?_ _) | (with_reducible refine Below.drew ?_) | (with_reducible refine below_drewN ?_ _) | (with_reducible refine Below.setCell ?_ ?_ _) | (with_reducible refine Below.trans ?_ (Below.mono (by assumption) ?_)) | (with_reducible exact Nat.le_refl _) | omega | (simp; omega) | (simp; done)))⟩
  have hK : ∀ x y : Int, 0 ≤ x → x ≤ y → y ≤ 4294967295 → ∃ FX TX FY TY : Int, (truthE l a b n1 d1 n2 d2 (l + x) = 0 ∧ truthF l a b n1 d1 n2 d2 (l + x) = FX ∧ truthT l a b n1 d1 n2 d2 (l + x) = TX) ∧ (truthE l a b n1 d1 n2 d2 (l + y) = 0 ∧ truthF l a b n1 d1 n2 d2 (l + y) = FY ∧ truthT l a b n1 d1 n2 d2 (l + y) = TY) ∧ FX ≤ FY ∧ TX ≤ TY ∧ TX - FX ≤ TY - FY + 2 ∧ 1 ≤ TX - FX ∧ 0 ≤ FX ∧ FX ≤ 2000000000000000000 ∧ 0 ≤ TX ∧ TX ≤ 1099511627776 ∧ 0 ≤ FY ∧ FY ≤ 2000000000000000000 ∧ 0 ≤ TY ∧ TY ≤ 1099511627776 := by
    intro x y h0 h1 h2
    have hx := tTo_le HO.out (l + x) (by omega)
    have hy := tTo_le HO.out (l + y) (by omega)
    have ex := truth_zero l a b n1 d1 n2 d2 (l + x) Hc.out (by omega) (by omega) (by omega)
    have ey := truth_zero l a b n1 d1 n2 d2 (l + y) Hc.out (by omega) (by omega) (by omega)
    obtain ⟨z1, z2, z3, z4, _⟩ := truth_bd l a b n1 d1 n2 d2 (l + x)
    obtain ⟨z5, z6, z7, z8, _⟩ := truth_bd l a b n1 d1 n2 d2 (l + y)
    rw [ex.2.1] at z1 z2
    rw [ex.2.2] at z3 z4
    rw [ey.2.1] at z5 z6
    rw [ey.2.2] at z7 z8
    exact ⟨_, _, _, _, ex, ey, tFrom_mono HO.out _ _ (by omega), tTo_mono HO.out _ _ (by omega), drift_mono HO.out _ _ (by omega) (by omega), drift_pos HO.out _ (by omega), z1, z2, z3, z4, z5, z6, z7, z8⟩
  have HK := Lib.hid hK
  clear hK
  rcases Int.lt_trichotomy u v with huv | huv | huv
  · skip
    obtain ⟨FX, TX, FY, TY, eX, eY, k1, k2, k3, k4, k5, k6, k7, k8, k9, k10, k11, k12⟩ := HK.out u v (by omega) (by omega) (by omega)
    have EX := Lib.hid eX
    have EY := Lib.hid eY
    clear eX eY
    go_enter Try.func4, Try.ntmps4
    go_wp2_with fail
    refine (clkcheck_ok _ _ _ _ _ _ _ _ Hc).mono ?_
    rintro e w1 ⟨rfl, hb1⟩
    have hz1 : w.heap.size + 1 ≤ w1.heap.size := (Nat.le_trans (by (first | omega | (simp; done) | (simp; omega))) hb1.size)
    have hk1 := bc (B := w.heap.size + 1) hb1 (by (first | omega | (simp; done) | (simp; omega)))
    have hf1 := bf (B := w.heap.size + 1) hb1 (by (first | omega | (simp; done) | (simp; omega)))
    have hB1 : Below w.heap.size w w1 := by (repeat' (first | (with_reducible exact Below.refl _ _) | (with_reducible refine Below.alloc ?_ ?_ _) | (with_reducible refine Below.drew ?_) | (with_reducible refine below_drewN ?_ _) | (with_reducible refine Below.setCell ?_ ?_ _) | (with_reducible refine Below.trans ?_ (Below.mono (by assumption) ?_)) | (with_reducible exact Nat.le_refl _) | omega | (simp; omega) | (simp; done)))
    clear hb1
    have hl1w : w.heap.size < w1.heap.size ∧ w.heap.size < w1.heap.size + 1 := by omega
    go_wp2_with fail
    go_region
    go_wp2_with fail
    refine (Truth_ok _ _ _ _ _ _ _ _ _ _ _ EX).mono ?_
    rintro e w2 ⟨rfl, hb2⟩
    have hz2 : w1.heap.size ≤ w2.heap.size := (Nat.le_trans (by (first | omega | (simp; done) | (simp; omega))) hb2.size)
    have hk2 := bc (B := w1.heap.size) hb2 (by (first | omega | (simp; done) | (simp; omega)))
    have hf2 := bf (B := w1.heap.size) hb2 (by (first | omega | (simp; done) | (simp; omega)))
    have hB2 : Below w.heap.size w w2 := by (repeat' (first | (with_reducible exact Below.refl _ _) | (with_reducible refine Below.alloc ?_ ?_ _) | (with_reducible refine Below.drew ?_) | (with_reducible refine below_drewN ?_ _) | (with_reducible refine Below.setCell ?_ ?_ _) | (with_reducible refine Below.trans ?_ (Below.mono (by assumption) ?_)) | (with_reducible exact Nat.le_refl _) | omega | (simp; omega) | (simp; done)))
    clear hb2
    have hl2w : w.heap.size < w2.heap.size ∧ w.heap.size < w2.heap.size + 1 := by omega
    go_wp2_with fail
    refine (Truth_ok _ _ _ _ _ _ _ _ _ _ _ EY).mono ?_
    rintro e w3 ⟨rfl, hb3⟩
    have hz3 : w2.heap.size + 1 ≤ w3.heap.size := (Nat.le_trans (by (first | omega | (simp; done) | (simp; omega))) hb3.size)
    have hk3 := bc (B := w2.heap.size + 1) hb3 (by (first | omega | (simp; done) | (simp; omega)))
    have hf3 := bf (B := w2.heap.size + 1) hb3 (by (first | omega | (simp; done) | (simp; omega)))
    have hB3 : Below w.heap.size w w3 := by (repeat' (first | (with_reducible exact Below.refl _ _) | (with_reducible refine Below.alloc ?_ ?_ _) | (with_reducible refine Below.drew ?_) | (with_reducible refine below_drewN ?_ _) | (with_reducible refine Below.setCell ?_ ?_ _) | (with_reducible refine Below.trans ?_ (Below.mono (by assumption) ?_)) | (with_reducible exact Nat.le_refl _) | omega | (simp; omega) | (simp; done)))
    clear hb3
    have hl3w : w.heap.size < w3.heap.size ∧ w.heap.size < w3.heap.size + 1 := by omega
    have hl3w2 : w2.heap.size < w3.heap.size ∧ w2.heap.size < w3.heap.size + 1 := by omega
    go_wp2_with fail
    refine (Drift_ok _ _ _ _ _ _ _ _ _ _ _ EX).mono ?_
    rintro e w4 ⟨rfl, hb4⟩
    have hz4 : w3.heap.size + 1 ≤ w4.heap.size := (Nat.le_trans (by (first | omega | (simp; done) | (simp; omega))) hb4.size)
    have hk4 := bc (B := w3.heap.size + 1) hb4 (by (first | omega | (simp; done) | (simp; omega)))
    have hf4 := bf (B := w3.heap.size + 1) hb4 (by (first | omega | (simp; done) | (simp; omega)))
    have hB4 : Below w.heap.size w w4 := by (repeat' (first | (with_reducible exact Below.refl _ _) | (with_reducible refine Below.alloc ?_ ?_ _) | (with_reducible refine Below.drew ?_) | (with_reducible refine below_drewN ?_ _) | (with_reducible refine Below.setCell ?_ ?_ _) | (with_reducible refine Below.trans ?_ (Below.mono (by assumption) ?_)) | (with_reducible exact Nat.le_refl _) | omega | (simp; omega) | (simp; done)))
    clear hb4
    have hl4w : w.heap.size < w4.heap.size ∧ w.heap.size < w4.heap.size + 1 := by omega
    have hl4w2 : w2.heap.size < w4.heap.size ∧ w2.heap.size < w4.heap.size + 1 := by omega
    have hl4w3 : w3.heap.size < w4.heap.size ∧ w3.heap.size < w4.heap.size + 1 := by omega
    go_wp2_with fail
    refine (Drift_ok _ _ _ _ _ _ _ _ _ _ _ EY).mono ?_
    rintro e w5 ⟨rfl, hb5⟩
    have hz5 : w4.heap.size ≤ w5.heap.size := (Nat.le_trans (by (first | omega | (simp; done) | (simp; omega))) hb5.size)
    have hk5 := bc (B := w4.heap.size) hb5 (by (first | omega | (simp; done) | (simp; omega)))
    have hf5 := bf (B := w4.heap.size) hb5 (by (first | omega | (simp; done) | (simp; omega)))
    have hB5 : Below w.heap.size w w5 := by (repeat' (first | (with_reducible exact Below.refl _ _) | (with_reducible refine Below.alloc ?_ ?_ _) | (with_reducible refine Below.drew ?_) | (with_reducible refine below_drewN ?_ _) | (with_reducible refine Below.setCell ?_ ?_ _) | (with_reducible refine Below.trans ?_ (Below.mono (by assumption) ?_)) | (with_reducible exact Nat.le_refl _) | omega | (simp; omega) | (simp; done)))
    clear hb5
    have hl5w : w.heap.size < w5.heap.size ∧ w.heap.size < w5.heap.size + 1 := by omega
    have hl5w2 : w2.heap.size < w5.heap.size ∧ w2.heap.size < w5.heap.size + 1 := by omega
    have hl5w3 : w3.heap.size < w5.heap.size ∧ w3.heap.size < w5.heap.size + 1 := by omega
    go_wp2_with fail
    refine (awake_any _).mono ?_
    rintro e w6 ⟨rfl, hb6⟩
    have hz6 : w5.heap.size ≤ w6.heap.size := (Nat.le_trans (by (first | omega | (simp; done) | (simp; omega))) hb6.size)
    have hk6 := bc (B := w5.heap.size) hb6 (by (first | omega | (simp; done) | (simp; omega)))
    have hf6 := bf (B := w5.heap.size) hb6 (by (first | omega | (simp; done) | (simp; omega)))
    have hB6 : Below w.heap.size w w6 := by (repeat' (first | (with_reducible exact Below.refl _ _) | (with_reducible refine Below.alloc ?_ ?_ _) | (with_reducible refine Below.drew ?_) | (with_reducible refine below_drewN ?_ _) | (with_reducible refine Below.setCell ?_ ?_ _) | (with_reducible refine Below.trans ?_ (Below.mono (by assumption) ?_)) | (with_reducible exact Nat.le_refl _) | omega | (simp; omega) | (simp; done)))
    clear hb6
    have hl6w : w.heap.size < w6.heap.size ∧ w.heap.size < w6.heap.size + 1 := by omega
    have hl6w2 : w2.heap.size < w6.heap.size ∧ w2.heap.size < w6.heap.size + 1 := by omega
    have hl6w3 : w3.heap.size < w6.heap.size ∧ w3.heap.size < w6.heap.size + 1 := by omega
    go_wp2_with fail
    go_ret
    exact ⟨rfl, by (repeat' (first | (with_reducible exact Below.refl _ _) | (with_reducible refine Below.alloc ?_ ?_ _) | (with_reducible refine Below.drew ?_) | (with_reducible refine below_drewN ?_ _) | (with_reducible refine Below.setCell ?_ ?_ _) | (with_reducible refine Below.trans ?_ (Below.mono (by assumption) ?_)) | (with_reducible exact Nat.le_refl _) | omega | (simp; omega) | (simp; done)))⟩
  · subst huv
    obtain ⟨FX, TX, FY, TY, eX, eY, k1, k2, k3, k4, k5, k6, k7, k8, k9, k10, k11, k12⟩ := HK.out u u (by omega) (by omega) (by omega)
    have EX := Lib.hid eX
    have EY := Lib.hid eY
    clear eX eY
    go_enter Try.func4, Try.ntmps4
    go_wp2_with fail
    refine (clkcheck_ok _ _ _ _ _ _ _ _ Hc).mono ?_
    rintro e w1 ⟨rfl, hb1⟩
    have hz1 : w.heap.size + 1 ≤ w1.heap.size := (Nat.le_trans (by (first | omega | (simp; done) | (simp; omega))) hb1.size)
    have hk1 := bc (B := w.heap.size + 1) hb1 (by (first | omega | (simp; done) | (simp; omega)))
    have hf1 := bf (B := w.heap.size + 1) hb1 (by (first | omega | (simp; done) | (simp; omega)))
    have hB1 : Below w.heap.size w w1 := by (repeat' (first | (with_reducible exact Below.refl _ _) | (with_reducible refine Below.alloc ?_ ?_ _) | (with_reducible refine Below.drew ?_) | (with_reducible refine below_drewN ?_ _) | (with_reducible refine Below.setCell ?_ ?_ _) | (with_reducible refine Below.trans ?_ (Below.mono (by assumption) ?_)) | (with_reducible exact Nat.le_refl _) | omega | (simp; omega) | (simp; done)))
    clear hb1
    have hl1w : w.heap.size < w1.heap.size ∧ w.heap.size < w1.heap.size + 1 := by omega
    go_wp2_with fail
    go_region
    go_wp2_with fail
    refine (Truth_ok _ _ _ _ _ _ _ _ _ _ _ EX).mono ?_
    rintro e w2 ⟨rfl, hb2⟩
    have hz2 : w1.heap.size ≤ w2.heap.size := (Nat.le_trans (by (first | omega | (simp; done) | (simp; omega))) hb2.size)
    have hk2 := bc (B := w1.heap.size) hb2 (by (first | omega | (simp; done) | (simp; omega)))
    have hf2 := bf (B := w1.heap.size) hb2 (by (first | omega | (simp; done) | (simp; omega)))
    have hB2 : Below w.heap.size w w2 := by (repeat' (first | (with_reducible exact Below.refl _ _) | (with_reducible refine Below.alloc ?_ ?_ _) | (with_reducible refine Below.drew ?_) | (with_reducible refine below_drewN ?_ _) | (with_reducible refine Below.setCell ?_ ?_ _) | (with_reducible refine Below.trans ?_ (Below.mono (by assumption) ?_)) | (with_reducible exact Nat.le_refl _) | omega | (simp; omega) | (simp; done)))
    clear hb2
    have hl2w : w.heap.size < w2.heap.size ∧ w.heap.size < w2.heap.size + 1 := by omega
    go_wp2_with fail
    refine (Truth_ok _ _ _ _ _ _ _ _ _ _ _ EY).mono ?_
    rintro e w3 ⟨rfl, hb3⟩
    have hz3 : w2.heap.size + 1 ≤ w3.heap.size := (Nat.le_trans (by (first | omega | (simp; done) | (simp; omega))) hb3.size)
    have hk3 := bc (B := w2.heap.size + 1) hb3 (by (first | omega | (simp; done) | (simp; omega)))
    have hf3 := bf (B := w2.heap.size + 1) hb3 (by (first | omega | (simp; done) | (simp; omega)))
    have hB3 : Below w.heap.size w w3 := by (repeat' (first | (with_reducible exact Below.refl _ _) | (with_reducible refine Below.alloc ?_ ?_ _) | (with_reducible refine Below.drew ?_) | (with_reducible refine below_drewN ?_ _) | (with_reducible refine Below.setCell ?_ ?_ _) | (with_reducible refine Below.trans ?_ (Below.mono (by assumption) ?_)) | (with_reducible exact Nat.le_refl _) | omega | (simp; omega) | (simp; done)))
    clear hb3
    have hl3w : w.heap.size < w3.heap.size ∧ w.heap.size < w3.heap.size + 1 := by omega
    have hl3w2 : w2.heap.size < w3.heap.size ∧ w2.heap.size < w3.heap.size + 1 := by omega
    go_wp2_with fail
    refine (Drift_ok _ _ _ _ _ _ _ _ _ _ _ EX).mono ?_
    rintro e w4 ⟨rfl, hb4⟩
    have hz4 : w3.heap.size + 1 ≤ w4.heap.size := (Nat.le_trans (by (first | omega | (simp; done) | (simp; omega))) hb4.size)
    have hk4 := bc (B := w3.heap.size + 1) hb4 (by (first | omega | (simp; done) | (simp; omega)))
    have hf4 := bf (B := w3.heap.size + 1) hb4 (by (first | omega | (simp; done) | (simp; omega)))
    have hB4 : Below w.heap.size w w4 := by (repeat' (first | (with_reducible exact Below.refl _ _) | (with_reducible refine Below.alloc ?_ ?_ _) | (with_reducible refine Below.drew ?_) | (with_reducible refine below_drewN ?_ _) | (with_reducible refine Below.setCell ?_ ?_ _) | (with_reducible refine Below.trans ?_ (Below.mono (by assumption) ?_)) | (with_reducible exact Nat.le_refl _) | omega | (simp; omega) | (simp; done)))
    clear hb4
    have hl4w : w.heap.size < w4.heap.size ∧ w.heap.size < w4.heap.size + 1 := by omega
    have hl4w2 : w2.heap.size < w4.heap.size ∧ w2.heap.size < w4.heap.size + 1 := by omega
    have hl4w3 : w3.heap.size < w4.heap.size ∧ w3.heap.size < w4.heap.size + 1 := by omega
    go_wp2_with fail
    refine (Drift_ok _ _ _ _ _ _ _ _ _ _ _ EY).mono ?_
    rintro e w5 ⟨rfl, hb5⟩
    have hz5 : w4.heap.size ≤ w5.heap.size := (Nat.le_trans (by (first | omega | (simp; done) | (simp; omega))) hb5.size)
    have hk5 := bc (B := w4.heap.size) hb5 (by (first | omega | (simp; done) | (simp; omega)))
    have hf5 := bf (B := w4.heap.size) hb5 (by (first | omega | (simp; done) | (simp; omega)))
    have hB5 : Below w.heap.size w w5 := by (repeat' (first | (with_reducible exact Below.refl _ _) | (with_reducible refine Below.alloc ?_ ?_ _) | (with_reducible refine Below.drew ?_) | (with_reducible refine below_drewN ?_ _) | (with_reducible refine Below.setCell ?_ ?_ _) | (with_reducible refine Below.trans ?_ (Below.mono (by assumption) ?_)) | (with_reducible exact Nat.le_refl _) | omega | (simp; omega) | (simp; done)))
    clear hb5
    have hl5w : w.heap.size < w5.heap.size ∧ w.heap.size < w5.heap.size + 1 := by omega
    have hl5w2 : w2.heap.size < w5.heap.size ∧ w2.heap.size < w5.heap.size + 1 := by omega
    have hl5w3 : w3.heap.size < w5.heap.size ∧ w3.heap.size < w5.heap.size + 1 := by omega
    go_wp2_with fail
    refine (awake_any _).mono ?_
    rintro e w6 ⟨rfl, hb6⟩
    have hz6 : w5.heap.size ≤ w6.heap.size := (Nat.le_trans (by (first | omega | (simp; done) | (simp; omega))) hb6.size)
    have hk6 := bc (B := w5.heap.size) hb6 (by (first | omega | (simp; done) | (simp; omega)))
    have hf6 := bf (B := w5.heap.size) hb6 (by (first | omega | (simp; done) | (simp; omega)))
    have hB6 : Below w.heap.size w w6 := by (repeat' (first | (with_reducible exact Below.refl _ _) | (with_reducible refine Below.alloc ?_ ?_ _) | (with_reducible refine Below.drew ?_) | (with_reducible refine below_drewN ?_ _) | (with_reducible refine Below.setCell ?_ ?_ _) | (with_reducible refine Below.trans ?_ (Below.mono (by assumption) ?_)) | (with_reducible exact Nat.le_refl _) | omega | (simp; omega) | (simp; done)))
    clear hb6
    have hl6w : w.heap.size < w6.heap.size ∧ w.heap.size < w6.heap.size + 1 := by omega
    have hl6w2 : w2.heap.size < w6.heap.size ∧ w2.heap.size < w6.heap.size + 1 := by omega
    have hl6w3 : w3.heap.size < w6.heap.size ∧ w3.heap.size < w6.heap.size + 1 := by omega
    go_wp2_with fail
    go_ret
    exact ⟨rfl, by (repeat' (first | (with_reducible exact Below.refl _ _) | (with_reducible refine Below.alloc ?_ ?_ _) | (with_reducible refine Below.drew ?_) | (with_reducible refine below_drewN ?_ _) | (with_reducible refine Below.setCell ?_ ?_ _) | (with_reducible refine Below.trans ?_ (Below.mono (by assumption) ?_)) | (with_reducible exact Nat.le_refl _) | omega | (simp; omega) | (simp; done)))⟩
  · skip
    obtain ⟨FX, TX, FY, TY, eX, eY, k1, k2, k3, k4, k5, k6, k7, k8, k9, k10, k11, k12⟩ := HK.out v u (by omega) (by omega) (by omega)
    have EX := Lib.hid eX
    have EY := Lib.hid eY
    clear eX eY
    go_enter Try.func4, Try.ntmps4
    go_wp2_with fail
    refine (clkcheck_ok _ _ _ _ _ _ _ _ Hc).mono ?_
    rintro e w1 ⟨rfl, hb1⟩
    have hz1 : w.heap.size + 1 ≤ w1.heap.size := (Nat.le_trans (by (first | omega | (simp; done) | (simp; omega))) hb1.size)
    have hk1 := bc (B := w.heap.size + 1) hb1 (by (first | omega | (simp; done) | (simp; omega)))
    have hf1 := bf (B := w.heap.size + 1) hb1 (by (first | omega | (simp; done) | (simp; omega)))
    have hB1 : Below w.heap.size w w1 := by (repeat' (first | (with_reducible exact Below.refl _ _) | (with_reducible refine Below.alloc ?_ ?_ _) | (with_reducible refine Below.drew ?_) | (with_reducible refine below_drewN ?_ _) | (with_reducible refine Below.setCell ?_ ?_ _) | (with_reducible refine Below.trans ?_ (Below.mono (by assumption) ?_)) | (with_reducible exact Nat.le_refl _) | omega | (simp; omega) | (simp; done)))
    clear hb1
    have hl1w : w.heap.size < w1.heap.size ∧ w.heap.size < w1.heap.size + 1 := by omega
    go_wp2_with fail
    go_region
    go_wp2_with fail
    refine (Truth_ok _ _ _ _ _ _ _ _ _ _ _ EX).mono ?_
    rintro e w2 ⟨rfl, hb2⟩
    have hz2 : w1.heap.size ≤ w2.heap.size := (Nat.le_trans (by (first | omega | (simp; done) | (simp; omega))) hb2.size)
    have hk2 := bc (B := w1.heap.size) hb2 (by (first | omega | (simp; done) | (simp; omega)))
    have hf2 := bf (B := w1.heap.size) hb2 (by (first | omega | (simp; done) | (simp; omega)))
    have hB2 : Below w.heap.size w w2 := by (repeat' (first | (with_reducible exact Below.refl _ _) | (with_reducible refine Below.alloc ?_ ?_ _) | (with_reducible refine Below.drew ?_) | (with_reducible refine below_drewN ?_ _) | (with_reducible refine Below.setCell ?_ ?_ _) | (with_reducible refine Below.trans ?_ (Below.mono (by assumption) ?_)) | (with_reducible exact Nat.le_refl _) | omega | (simp; omega) | (simp; done)))
    clear hb2
    have hl2w : w.heap.size < w2.heap.size ∧ w.heap.size < w2.heap.size + 1 := by omega
    go_wp2_with fail
    refine (Truth_ok _ _ _ _ _ _ _ _ _ _ _ EY).mono ?_
    rintro e w3 ⟨rfl, hb3⟩
    have hz3 : w2.heap.size + 1 ≤ w3.heap.size := (Nat.le_trans (by (first | omega | (simp; done) | (simp; omega))) hb3.size)
    have hk3 := bc (B := w2.heap.size + 1) hb3 (by (first | omega | (simp; done) | (simp; omega)))
    have hf3 := bf (B := w2.heap.size + 1) hb3 (by (first | omega | (simp; done) | (simp; omega)))
    have hB3 : Below w.heap.size w w3 := by (repeat' (first | (with_reducible exact Below.refl _ _) | (with_reducible refine Below.alloc ?_ ?_ _) | (with_reducible refine Below.drew ?_) | (with_reducible refine below_drewN ?_ _) | (with_reducible refine Below.setCell ?_ ?_ _) | (with_reducible refine Below.trans ?_ (Below.mono (by assumption) ?_)) | (with_reducible exact Nat.le_refl _) | omega | (simp; omega) | (simp; done)))
    clear hb3
    have hl3w : w.heap.size < w3.heap.size ∧ w.heap.size < w3.heap.size + 1 := by omega
    have hl3w2 : w2.heap.size < w3.heap.size ∧ w2.heap.size < w3.heap.size + 1 := by omega
    go_wp2_with fail
    refine (Drift_ok _ _ _ _ _ _ _ _ _ _ _ EX).mono ?_
    rintro e w4 ⟨rfl, hb4⟩
    have hz4 : w3.heap.size + 1 ≤ w4.heap.size := (Nat.le_trans (by (first | omega | (simp; done) | (simp; omega))) hb4.size)
    have hk4 := bc (B := w3.heap.size + 1) hb4 (by (first | omega | (simp; done) | (simp; omega)))
    have hf4 := bf (B := w3.heap.size + 1) hb4 (by (first | omega | (simp; done) | (simp; omega)))
    have hB4 : Below w.heap.size w w4 := by (repeat' (first | (with_reducible exact Below.refl _ _) | (with_reducible refine Below.alloc ?_ ?_ _) | (with_reducible refine Below.drew ?_) | (with_reducible refine below_drewN ?_ _) | (with_reducible refine Below.setCell ?_ ?_ _) | (with_reducible refine Below.trans ?_ (Below.mono (by assumption) ?_)) | (with_reducible exact Nat.le_refl _) | omega | (simp; omega) | (simp; done)))
    clear hb4
    have hl4w : w.heap.size < w4.heap.size ∧ w.heap.size < w4.heap.size + 1 := by omega
    have hl4w2 : w2.heap.size < w4.heap.size ∧ w2.heap.size < w4.heap.size + 1 := by omega
    have hl4w3 : w3.heap.size < w4.heap.size ∧ w3.heap.size < w4.heap.size + 1 := by omega
    go_wp2_with fail
    refine (Drift_ok _ _ _ _ _ _ _ _ _ _ _ EY).mono ?_
    rintro e w5 ⟨rfl, hb5⟩
    have hz5 : w4.heap.size ≤ w5.heap.size := (Nat.le_trans (by (first | omega | (simp; done) | (simp; omega))) hb5.size)
    have hk5 := bc (B := w4.heap.size) hb5 (by (first | omega | (simp; done) | (simp; omega)))
    have hf5 := bf (B := w4.heap.size) hb5 (by (first | omega | (simp; done) | (simp; omega)))
    have hB5 : Below w.heap.size w w5 := by (repeat' (first | (with_reducible exact Below.refl _ _) | (with_reducible refine Below.alloc ?_ ?_ _) | (with_reducible refine Below.drew ?_) | (with_reducible refine below_drewN ?_ _) | (with_reducible refine Below.setCell ?_ ?_ _) | (with_reducible refine Below.trans ?_ (Below.mono (by assumption) ?_)) | (with_reducible exact Nat.le_refl _) | omega | (simp; omega) | (simp; done)))
    clear hb5
    have hl5w : w.heap.size < w5.heap.size ∧ w.heap.size < w5.heap.size + 1 := by omega
    have hl5w2 : w2.heap.size < w5.heap.size ∧ w2.heap.size < w5.heap.size + 1 := by omega
    have hl5w3 : w3.heap.size < w5.heap.size ∧ w3.heap.size < w5.heap.size + 1 := by omega
    go_wp2_with fail
    refine (awake_any _).mono ?_
    rintro e w6 ⟨rfl, hb6⟩
    have hz6 : w5.heap.size ≤ w6.heap.size := (Nat.le_trans (by (first | omega | (simp; done) | (simp; omega))) hb6.size)
    have hk6 := bc (B := w5.heap.size) hb6 (by (first | omega | (simp; done) | (simp; omega)))
    have hf6 := bf (B := w5.heap.size) hb6 (by (first | omega | (simp; done) | (simp; omega)))
    have hB6 : Below w.heap.size w w6 := by (repeat' (first | (with_reducible exact Below.refl _ _) | (with_reducible refine Below.alloc ?_ ?_ _) | (with_reducible refine Below.drew ?_) | (with_reducible refine below_drewN ?_ _) | (with_reducible refine Below.setCell ?_ ?_ _) | (with_reducible refine Below.trans ?_ (Below.mono (by assumption) ?_)) | (with_reducible exact Nat.le_refl _) | omega | (simp; omega) | (simp; done)))
    clear hb6
    have hl6w : w.heap.size < w6.heap.size ∧ w.heap.size < w6.heap.size + 1 := by omega
    have hl6w2 : w2.heap.size < w6.heap.size ∧ w2.heap.size < w6.heap.size + 1 := by omega
    have hl6w3 : w3.heap.size < w6.heap.size ∧ w3.heap.size < w6.heap.size + 1 := by omega
    go_wp2_with fail
    go_ret
    exact ⟨rfl, by (repeat' (first | (with_reducible exact Below.refl _ _) | (with_reducible refine Below.alloc ?_ ?_ _) | (with_reducible refine Below.drew ?_) | (with_reducible refine below_drewN ?_ _) | (with_reducible refine Below.setCell ?_ ?_ _) | (with_reducible refine Below.trans ?_ (Below.mono (by assumption) ?_)) | (with_reducible exact Nat.le_refl _) | omega | (simp; omega) | (simp; done)))⟩
end Go.Proofs.Ytbhmmffompapdaa

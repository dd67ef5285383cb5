/- Walks over the reference Members. -/
import Derived.Test.YtbhmmffompapdaaDoorRows
import Derived.Test.YtbhmmffompapdaaDoorE6
import Derived.WalkKit
import Derived.WalkSpells
import Derived.WalkLawsBesides
import Derived.Handy
import Derived.Deep.QuietTactic
import Derived.BigQuiet
import Derived.Deep.RegionHeld3
import Derived.Deep.DeepCutAuto
import Derived.Lib.Hide
namespace Go.Proofs.YtbhmmffompapdaaDoor
open Go.RowKit
theorem rmembers_bad (v : Value) (gs : List (List Int)) (k n : Int) (w : World) (hg : Grps w w.heap.size v gs) (h : memE gs k n ≠ 0) : Calls Tryd.prog 18 #[v, .agg #[.int .i64 k, .int .i64 n]] w (MemPost gs k n w) := by
  have HL : Hid (memL gs k n = []) := by show _ = _; rw [memL, if_pos h]
  by_cases h1 : groupsE gs = 0
  · by_cases h2 : epE k n = 0
    · have h3 : ¬ k = 1 := fun e => h (by rw [memE, if_neg (by simp [h1]), if_neg (by simp [h2]), if_pos e])
      have h4 : (gs.length : Int) ≤ n := by
        by_cases hh : (gs.length : Int) ≤ n
        · exact hh
        · exact absurd (by simp [memE, h1, h2, h3, hh]) h
      have HE : Hid (memE gs k n = 7) := by show _ = _; simp [memE, h1, h2, h3, h4]
      have H1 := Lib.hid h1
      have H2 := Lib.hid h2
      have h5 : (k == 1) = false := by simpa using h3
      clear h h1 h2 h3
      have hg2 := hg
      obtain ⟨A, c, rfl, hc, hm, _⟩ := hg2
      unfold maxLen at hm
      go_enter Tryd.func18, Tryd.ntmps18
      go_wp2_with fail
      refine (rgroups_any _ gs _ w.heap.size (hg.below (by (repeat' (first | (with_reducible exact Below.refl _ _) | (with_reducible refine Below.alloc ?_ ?_ _) | (with_reducible refine Below.drew ?_) | (with_reducible refine below_drewN ?_ _) | (with_reducible refine Below.setCell ?_ ?_ _) | (with_reducible refine Below.trans ?_ (Below.mono (by assumption) ?_)) | (with_reducible exact Nat.le_refl _) | omega | (simp; omega) | (simp; done)))))).mono ?_
      rw [H1.out]
      rintro e w1 ⟨rfl, q, rfl⟩
      go_wp2_with fail
      refine (rcheck_any _ _ _).mono ?_
      rw [H2.out]
      (rintro e w1 ⟨rfl, hb⟩; have hz : w.heap.size + 1 ≤ w1.heap.size := (Nat.le_trans (by (first | omega | (simp; done) | (simp; omega))) hb.size); have hk := bc (B := w.heap.size + 1) hb (by (first | omega | (simp; done) | (simp; omega))); have hf := bf (B := w.heap.size + 1) hb (by (first | omega | (simp; done) | (simp; omega))); have hy : w.heap.size < w1.heap.size := (by omega))
      go_wp2_with fail
      go_ret2
      exact ⟨_, by rw [HE.out]; rfl, by rw [HL.out]; exact ints_nil _ _, by (repeat' (first | (with_reducible exact Below.refl _ _) | (with_reducible refine Below.alloc ?_ ?_ _) | (with_reducible refine Below.drew ?_) | (with_reducible refine below_drewN ?_ _) | (with_reducible refine Below.setCell ?_ ?_ _) | (with_reducible refine Below.trans ?_ (Below.mono (by assumption) ?_)) | (with_reducible exact Nat.le_refl _) | omega | (simp; omega) | (simp; done)))⟩
    · have HE : Hid (memE gs k n = epE k n) := by show _ = _; simp [memE, h1, h2]
      have H1 := Lib.hid h1
      have h5 : (epE k n != 0) = true := by simpa using h2
      clear h h1 h2
      go_enter Tryd.func18, Tryd.ntmps18
      go_wp2_with fail
      refine (rgroups_any _ gs _ w.heap.size (hg.below (by (repeat' (first | (with_reducible exact Below.refl _ _) | (with_reducible refine Below.alloc ?_ ?_ _) | (with_reducible refine Below.drew ?_) | (with_reducible refine below_drewN ?_ _) | (with_reducible refine Below.setCell ?_ ?_ _) | (with_reducible refine Below.trans ?_ (Below.mono (by assumption) ?_)) | (with_reducible exact Nat.le_refl _) | omega | (simp; omega) | (simp; done)))))).mono ?_
      rw [H1.out]
      rintro e w1 ⟨rfl, q, rfl⟩
      go_wp2_with (first | (go_at_call 30; refine (rcheck_any _ _ _).mono ?_; (rintro e w1 ⟨rfl, hb⟩; have hz : w.heap.size + 1 ≤ w1.heap.size := (Nat.le_trans (by (first | omega | (simp; done) | (simp; omega))) hb.size); have hk := bc (B := w.heap.size + 1) hb (by (first | omega | (simp; done) | (simp; omega))); have hf := bf (B := w.heap.size + 1) hb (by (first | omega | (simp; done) | (simp; omega))); have hy : w.heap.size < w1.heap.size := (by omega))))
      go_ret2
      exact ⟨_, by rw [HE.out]; rfl, by rw [HL.out]; exact ints_nil _ _, by (repeat' (first | (with_reducible exact Below.refl _ _) | (with_reducible refine Below.alloc ?_ ?_ _) | (with_reducible refine Below.drew ?_) | (with_reducible refine below_drewN ?_ _) | (with_reducible refine Below.setCell ?_ ?_ _) | (with_reducible refine Below.trans ?_ (Below.mono (by assumption) ?_)) | (with_reducible exact Nat.le_refl _) | omega | (simp; omega) | (simp; done)))⟩
  · have HE : Hid (memE gs k n = 1) := by show _ = _; simp [memE, h1]
    have h5 : (groupsE gs != 0) = true := by simpa using h1
    clear h h1
    go_enter Tryd.func18, Tryd.ntmps18
    go_wp2_with fail
    refine (rgroups_any _ gs _ w.heap.size (hg.below (by (repeat' (first | (with_reducible exact Below.refl _ _) | (with_reducible refine Below.alloc ?_ ?_ _) | (with_reducible refine Below.drew ?_) | (with_reducible refine below_drewN ?_ _) | (with_reducible refine Below.setCell ?_ ?_ _) | (with_reducible refine Below.trans ?_ (Below.mono (by assumption) ?_)) | (with_reducible exact Nat.le_refl _) | omega | (simp; omega) | (simp; done)))))).mono ?_
    rintro e w1 ⟨rfl, q, rfl⟩
    go_wp2_with fail
    go_ret2
    exact ⟨_, by rw [HE.out]; rfl, by rw [HL.out]; exact ints_nil _ _, by (repeat' (first | (with_reducible exact Below.refl _ _) | (with_reducible refine Below.alloc ?_ ?_ _) | (with_reducible refine Below.drew ?_) | (with_reducible refine below_drewN ?_ _) | (with_reducible refine Below.setCell ?_ ?_ _) | (with_reducible refine Below.trans ?_ (Below.mono (by assumption) ?_)) | (with_reducible exact Nat.le_refl _) | omega | (simp; omega) | (simp; done)))⟩
set_option maxHeartbeats 400000 in
theorem rmembers_ok (v : Value) (gs : List (List Int)) (k n : Int) (w : World) (hg : Grps w w.heap.size v gs) (h : memE gs k n = 0) : Calls Tryd.prog 18 #[v, .agg #[.int .i64 k, .int .i64 n]] w (MemPost gs k n w) := by
  obtain ⟨h1, h2, h3⟩ := memE_ok h
  have HE := Lib.hid h
  have H1 := Lib.hid h1
  have H2 := Lib.hid h2
  rcases h3 with rfl | ⟨rfl, h4, h5⟩
  · have HL : Hid (memL gs 1 n = [n]) := by show _ = _; rw [memL, if_neg (by simp [h]), if_pos rfl]
    clear h h1 h2
    go_enter Tryd.func18, Tryd.ntmps18
    go_wp2_with fail
    refine (rgroups_any _ gs _ w.heap.size (hg.below (by (repeat' (first | (with_reducible exact Below.refl _ _) | (with_reducible refine Below.alloc ?_ ?_ _) | (with_reducible refine Below.drew ?_) | (with_reducible refine below_drewN ?_ _) | (with_reducible refine Below.setCell ?_ ?_ _) | (with_reducible refine Below.trans ?_ (Below.mono (by assumption) ?_)) | (with_reducible exact Nat.le_refl _) | omega | (simp; omega) | (simp; done)))))).mono ?_
    rw [H1.out]
    rintro e w1 ⟨rfl, q, rfl⟩
    go_wp2_with fail
    refine (rcheck_any _ _ _).mono ?_
    rw [H2.out]
    (rintro e w1 ⟨rfl, hb⟩; have hz : w.heap.size + 1 ≤ w1.heap.size := (Nat.le_trans (by (first | omega | (simp; done) | (simp; omega))) hb.size); have hk := bc (B := w.heap.size + 1) hb (by (first | omega | (simp; done) | (simp; omega))); have hf := bf (B := w.heap.size + 1) hb (by (first | omega | (simp; done) | (simp; omega))); have hy : w.heap.size < w1.heap.size := (by omega))
    go_wp2_with fail
    go_ret2
    exact ⟨_, by rw [HE.out]; rfl, by rw [HL.out]; exact ints_one _ _ _, by (repeat' (first | (with_reducible exact Below.refl _ _) | (with_reducible refine Below.alloc ?_ ?_ _) | (with_reducible refine Below.drew ?_) | (with_reducible refine below_drewN ?_ _) | (with_reducible refine Below.setCell ?_ ?_ _) | (with_reducible refine Below.trans ?_ (Below.mono (by assumption) ?_)) | (with_reducible exact Nat.le_refl _) | omega | (simp; omega) | (simp; done)))⟩
  · have HL : Hid (memL gs 2 n = gs.getD n.toNat []) := by show _ = _; rw [memL, if_neg (by simp [h]), if_neg (by omega)]
    clear h h1 h2
    have hg2 := hg
    obtain ⟨A, c, rfl, hc, hm, hA⟩ := hg2
    unfold maxLen at hm
    obtain ⟨b, o, rfl, hb0, hcell⟩ := hA (by omega)
    obtain ⟨u, hu, hi⟩ := hcell n.toNat (by omega)
    clear hcell hA
    have HI := Lib.hid hi
    clear hi
    obtain ⟨n, rfl⟩ := Int.eq_ofNat_of_zero_le h4
    simp only [Int.toNat_natCast] at hu HL HI
    go_enter Tryd.func18, Tryd.ntmps18
    go_wp2_with fail
    refine (rgroups_any _ gs _ w.heap.size (hg.below (by (repeat' (first | (with_reducible exact Below.refl _ _) | (with_reducible refine Below.alloc ?_ ?_ _) | (with_reducible refine Below.drew ?_) | (with_reducible refine below_drewN ?_ _) | (with_reducible refine Below.setCell ?_ ?_ _) | (with_reducible refine Below.trans ?_ (Below.mono (by assumption) ?_)) | (with_reducible exact Nat.le_refl _) | omega | (simp; omega) | (simp; done)))))).mono ?_
    rw [H1.out]
    rintro e w1 ⟨rfl, q, rfl⟩
    go_wp2_with fail
    refine (rcheck_any _ _ _).mono ?_
    rw [H2.out]
    (rintro e w1 ⟨rfl, hb⟩; have hz : w.heap.size + 1 ≤ w1.heap.size := (Nat.le_trans (by (first | omega | (simp; done) | (simp; omega))) hb.size); have hk := bc (B := w.heap.size + 1) hb (by (first | omega | (simp; done) | (simp; omega))); have hf := bf (B := w.heap.size + 1) hb (by (first | omega | (simp; done) | (simp; omega))); have hy : w.heap.size < w1.heap.size := (by omega))
    have hu1 : w1.cell? ⟨b, o + n, none⟩ = some u := by
      rw [hk _ _ (by omega)]; exact (World.cell?_alloc_lt _ _ _ (by simpa using hb0)).trans hu
    have hlt : (n : Int) < gs.length := h5
    go_wp2_with fail
    go_ret2
    exact ⟨u, by rw [HE.out]; rfl, by rw [HL.out]; exact (HI.out.below (w' := w1) (by (repeat' (first | (with_reducible exact Below.refl _ _) | (with_reducible refine Below.alloc ?_ ?_ _) | (with_reducible refine Below.drew ?_) | (with_reducible refine below_drewN ?_ _) | (with_reducible refine Below.setCell ?_ ?_ _) | (with_reducible refine Below.trans ?_ (Below.mono (by assumption) ?_)) | (with_reducible exact Nat.le_refl _) | omega | (simp; omega) | (simp; done))))).more (by omega), by (repeat' (first | (with_reducible exact Below.refl _ _) | (with_reducible refine Below.alloc ?_ ?_ _) | (with_reducible refine Below.drew ?_) | (with_reducible refine below_drewN ?_ _) | (with_reducible refine Below.setCell ?_ ?_ _) | (with_reducible refine Below.trans ?_ (Below.mono (by assumption) ?_)) | (with_reducible exact Nat.le_refl _) | omega | (simp; omega) | (simp; done)))⟩
end Go.Proofs.YtbhmmffompapdaaDoor

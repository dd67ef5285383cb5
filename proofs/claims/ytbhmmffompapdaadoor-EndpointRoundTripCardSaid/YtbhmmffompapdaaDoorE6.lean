/- Walks over Members and the reference Members. -/
import Derived.Test.YtbhmmffompapdaaDoorRows
import Derived.Test.YtbhmmffompapdaaDoorE5
import Derived.WalkKit
import Derived.WalkSpells
import Derived.WalkLawsBesides
import Derived.Handy
import Derived.Deep.QuietTactic
import Derived.BigQuiet
import Derived.Deep.RegionHeld3
import Derived.Deep.DeepCutAuto
import Derived.Lib.Hide
namespace Go.Proofs.YtbhmmffompapdaaDoor
open Go.RowKit
def memE (gs : List (List Int)) (k n : Int) : Int := if groupsE gs ≠ 0 then 1 else if epE k n ≠ 0 then epE k n else if k = 1 then 0 else if (gs.length : Int) ≤ n then 7 else 0
def memL (gs : List (List Int)) (k n : Int) : List Int := if memE gs k n ≠ 0 then [] else if k = 1 then [n] else gs.getD n.toNat []
/-- what Members leaves: a slice that reads as the list, and the error -/
def MemPost (gs : List (List Int)) (k n : Int) (w : World) (e : Ending) (w' : World) : Prop :=
  ∃ v, e = .returned (.tuple #[v, .int .i64 (memE gs k n)]) ∧ Ints w' w'.heap.size v (memL gs k n) ∧ Below w.heap.size w w'
theorem ints_nil (w : World) (B : Nat) : Ints w B (.slice none 0 0) [] := ⟨none, 0, rfl, by simp, by simp [maxLen], fun h => by simp at h⟩
theorem members_bad (v : Value) (gs : List (List Int)) (k n : Int) (w : World) (hg : Grps w w.heap.size v gs) (h : memE gs k n ≠ 0) : Calls Tryd.prog 13 #[v, .agg #[.int .i64 k, .int .i64 n]] w (MemPost gs k n w) := by
  have HL : Hid (memL gs k n = []) := by show _ = _; rw [memL, if_pos h]
  by_cases h1 : groupsE gs = 0
  · by_cases h2 : epE k n = 0
    · have h3 : ¬ k = 1 := fun e => h (by rw [memE, if_neg (by simp [h1]), if_neg (by simp [h2]), if_pos e])
      have h4 : (gs.length : Int) ≤ n := by
        by_cases hh : (gs.length : Int) ≤ n
        · exact hh
        · exact absurd (by simp [memE, h1, h2, h3, hh]) h
      have HE : Hid (memE gs k n = 7) := by show _ = _; simp [memE, h1, h2, h3, h4]
      have H1 := Lib.hid h1
      have H2 := Lib.hid h2
      have h5 : (k == 1) = false := by simpa using h3
      clear h h1 h2 h3
      have hg2 := hg
      obtain ⟨A, c, rfl, hc, hm, _⟩ := hg2
      unfold maxLen at hm
      go_enter Tryd.func13, Tryd.ntmps13
      go_wp2_with fail
      refine (groups_any _ gs _ w.heap.size (hg.below (by (repeat' (first | (with_reducible exact Below.refl _ _) | (with_reducible refine Below.alloc ?_ ?_ _) | (with_reducible refine Below.drew ?_) | (with_reducible refine below_drewN ?_ _) | (with_reducible refine Below.setCell ?_ ?_ _) | (with_reducible refine Below.trans ?_ (Below.mono (by assumption) ?_)) | (with_reducible exact Nat.le_refl _) | omega | (simp; omega) | (simp; done)))))).mono ?_
      rw [H1.out]
      rintro e w1 ⟨rfl, rfl⟩
      go_wp2_with fail
      refine (check_any _ _ _).mono ?_
      rw [H2.out]
      (rintro e w1 ⟨rfl, hb⟩; have hz : w.heap.size + 1 ≤ w1.heap.size := (Nat.le_trans (by (first | omega | (simp; done) | (simp; omega))) hb.size); have hk := bc (B := w.heap.size + 1) hb (by (first | omega | (simp; done) | (simp; omega))); have hf := bf (B := w.heap.size + 1) hb (by (first | omega | (simp; done) | (simp; omega))); have hy : w.heap.size < w1.heap.size := (by omega))
      go_wp2_with fail
      go_ret2
      exact ⟨_, by rw [HE.out]; rfl, by rw [HL.out]; exact ints_nil _ _, by (repeat' (first | (with_reducible exact Below.refl _ _) | (with_reducible refine Below.alloc ?_ ?_ _) | (with_reducible refine Below.drew ?_) | (with_reducible refine below_drewN ?_ _) | (with_reducible refine Below.setCell ?_ ?_ _) | (with_reducible refine Below.trans ?_ (Below.mono (by assumption) ?_)) | (with_reducible exact Nat.le_refl _) | omega | (simp; omega) | (simp; done)))⟩
    · have HE : Hid (memE gs k n = epE k n) := by show _ = _; simp [memE, h1, h2]
      have H1 := Lib.hid h1
      have h5 : (epE k n != 0) = true := by simpa using h2
      clear h h1 h2
      go_enter Tryd.func13, Tryd.ntmps13
      go_wp2_with fail
      refine (groups_any _ gs _ w.heap.size (hg.below (by (repeat' (first | (with_reducible exact Below.refl _ _) | (with_reducible refine Below.alloc ?_ ?_ _) | (with_reducible refine Below.drew ?_) | (with_reducible refine below_drewN ?_ _) | (with_reducible refine Below.setCell ?_ ?_ _) | (with_reducible refine Below.trans ?_ (Below.mono (by assumption) ?_)) | (with_reducible exact Nat.le_refl _) | omega | (simp; omega) | (simp; done)))))).mono ?_
      rw [H1.out]
      rintro e w1 ⟨rfl, rfl⟩
      go_wp2_with (first | (go_at_call 29; refine (check_any _ _ _).mono ?_; (rintro e w1 ⟨rfl, hb⟩; have hz : w.heap.size + 1 ≤ w1.heap.size := (Nat.le_trans (by (first | omega | (simp; done) | (simp; omega))) hb.size); have hk := bc (B := w.heap.size + 1) hb (by (first | omega | (simp; done) | (simp; omega))); have hf := bf (B := w.heap.size + 1) hb (by (first | omega | (simp; done) | (simp; omega))); have hy : w.heap.size < w1.heap.size := (by omega))))
      go_ret2
      exact ⟨_, by rw [HE.out]; rfl, by rw [HL.out]; exact ints_nil _ _, by (repeat' (first | (with_reducible exact Below.refl _ _) | (with_reducible refine Below.alloc ?_ ?_ _) | (with_reducible refine Below.drew ?_) | (with_reducible refine below_drewN ?_ _) | (with_reducible refine Below.setCell ?_ ?_ _) | (with_reducible refine Below.trans ?_ (Below.mono (by assumption) ?_)) | (with_reducible exact Nat.le_refl _) | omega | (simp; omega) | (simp; done)))⟩
  · have HE : Hid (memE gs k n = 1) := by show _ = _; simp [memE, h1]
    have h5 : (groupsE gs != 0) = true := by simpa using h1
    clear h h1
    go_enter Tryd.func13, Tryd.ntmps13
    go_wp2_with fail
    refine (groups_any _ gs _ w.heap.size (hg.below (by (repeat' (first | (with_reducible exact Below.refl _ _) | (with_reducible refine Below.alloc ?_ ?_ _) | (with_reducible refine Below.drew ?_) | (with_reducible refine below_drewN ?_ _) | (with_reducible refine Below.setCell ?_ ?_ _) | (with_reducible refine Below.trans ?_ (Below.mono (by assumption) ?_)) | (with_reducible exact Nat.le_refl _) | omega | (simp; omega) | (simp; done)))))).mono ?_
    rintro e w1 ⟨rfl, rfl⟩
    go_wp2_with fail
    go_ret2
    exact ⟨_, by rw [HE.out]; rfl, by rw [HL.out]; exact ints_nil _ _, by (repeat' (first | (with_reducible exact Below.refl _ _) | (with_reducible refine Below.alloc ?_ ?_ _) | (with_reducible refine Below.drew ?_) | (with_reducible refine below_drewN ?_ _) | (with_reducible refine Below.setCell ?_ ?_ _) | (with_reducible refine Below.trans ?_ (Below.mono (by assumption) ?_)) | (with_reducible exact Nat.le_refl _) | omega | (simp; omega) | (simp; done)))⟩
theorem ints_one (w : World) (n : Int) (t : TypeId) : Ints (w.alloc (.cells #[.int .i64 n] t)) (w.alloc (.cells #[.int .i64 n] t)).heap.size (.slice (some ⟨w.heap.size, 0, none⟩) 1 1) [n] :=
  ⟨_, 1, rfl, by simp, by simp [maxLen], fun _ => ⟨_, 0, rfl, by simp, fun j hj => by
    obtain rfl : j = 0 := by simpa using hj
    simp [go_sem]⟩⟩
theorem memE_ok {gs : List (List Int)} {k n : Int} (h : memE gs k n = 0) : groupsE gs = 0 ∧ epE k n = 0 ∧ (k = 1 ∨ (k = 2 ∧ 0 ≤ n ∧ n < gs.length)) := by
  unfold memE at h
  split at h
  · cases h
  split at h
  · omega
  rename_i h1 h2
  have h3 := epE_ok (by omega : epE k n = 0)
  split at h
  · exact ⟨by omega, by omega, by omega⟩
  split at h
  · cases h
  exact ⟨by omega, by omega, by omega⟩
set_option maxHeartbeats 400000 in
theorem members_ok (v : Value) (gs : List (List Int)) (k n : Int) (w : World) (hg : Grps w w.heap.size v gs) (h : memE gs k n = 0) : Calls Tryd.prog 13 #[v, .agg #[.int .i64 k, .int .i64 n]] w (MemPost gs k n w) := by
  obtain ⟨h1, h2, h3⟩ := memE_ok h
  have HE := Lib.hid h
  have H1 := Lib.hid h1
  have H2 := Lib.hid h2
  rcases h3 with rfl | ⟨rfl, h4, h5⟩
  · have HL : Hid (memL gs 1 n = [n]) := by show _ = _; rw [memL, if_neg (by simp [h]), if_pos rfl]
    clear h h1 h2
    go_enter Tryd.func13, Tryd.ntmps13
    go_wp2_with fail
    refine (groups_any _ gs _ w.heap.size (hg.below (by (repeat' (first | (with_reducible exact Below.refl _ _) | (with_reducible refine Below.alloc ?_ ?_ _) | (with_reducible refine Below.drew ?_) | (with_reducible refine below_drewN ?_ _) | (with_reducible refine Below.setCell ?_ ?_ _) | (with_reducible refine Below.trans ?_ (Below.mono (by assumption) ?_)) | (with_reducible exact Nat.le_refl _) | omega | (simp; omega) | (simp; done)))))).mono ?_
    rw [H1.out]
    rintro e w1 ⟨rfl, rfl⟩
    go_wp2_with fail
    refine (check_any _ _ _).mono ?_
    rw [H2.out]
    (rintro e w1 ⟨rfl, hb⟩; have hz : w.heap.size + 1 ≤ w1.heap.size := (Nat.le_trans (by (first | omega | (simp; done) | (simp; omega))) hb.size); have hk := bc (B := w.heap.size + 1) hb (by (first | omega | (simp; done) | (simp; omega))); have hf := bf (B := w.heap.size + 1) hb (by (first | omega | (simp; done) | (simp; omega))); have hy : w.heap.size < w1.heap.size := (by omega))
    go_wp2_with fail
    go_ret2
    exact ⟨_, by rw [HE.out]; rfl, by rw [HL.out]; exact ints_one _ _ _, by (repeat' (first | (with_reducible exact Below.refl _ _) | (with_reducible refine Below.alloc ?_ ?_ _) | (with_reducible refine Below.drew ?_) | (with_reducible refine below_drewN ?_ _) | (with_reducible refine Below.setCell ?_ ?_ _) | (with_reducible refine Below.trans ?_ (Below.mono (by assumption) ?_)) | (with_reducible exact Nat.le_refl _) | omega | (simp; omega) | (simp; done)))⟩
  · have HL : Hid (memL gs 2 n = gs.getD n.toNat []) := by show _ = _; rw [memL, if_neg (by simp [h]), if_neg (by omega)]
    clear h h1 h2
    have hg2 := hg
    obtain ⟨A, c, rfl, hc, hm, hA⟩ := hg2
    unfold maxLen at hm
    obtain ⟨b, o, rfl, hb0, hcell⟩ := hA (by omega)
    obtain ⟨u, hu, hi⟩ := hcell n.toNat (by omega)
    clear hcell hA
    have HI := Lib.hid hi
    clear hi
    obtain ⟨n, rfl⟩ := Int.eq_ofNat_of_zero_le h4
    simp only [Int.toNat_natCast] at hu HL HI
    go_enter Tryd.func13, Tryd.ntmps13
    go_wp2_with fail
    refine (groups_any _ gs _ w.heap.size (hg.below (by (repeat' (first | (with_reducible exact Below.refl _ _) | (with_reducible refine Below.alloc ?_ ?_ _) | (with_reducible refine Below.drew ?_) | (with_reducible refine below_drewN ?_ _) | (with_reducible refine Below.setCell ?_ ?_ _) | (with_reducible refine Below.trans ?_ (Below.mono (by assumption) ?_)) | (with_reducible exact Nat.le_refl _) | omega | (simp; omega) | (simp; done)))))).mono ?_
    rw [H1.out]
    rintro e w1 ⟨rfl, rfl⟩
    go_wp2_with fail
    refine (check_any _ _ _).mono ?_
    rw [H2.out]
    (rintro e w1 ⟨rfl, hb⟩; have hz : w.heap.size + 1 ≤ w1.heap.size := (Nat.le_trans (by (first | omega | (simp; done) | (simp; omega))) hb.size); have hk := bc (B := w.heap.size + 1) hb (by (first | omega | (simp; done) | (simp; omega))); have hf := bf (B := w.heap.size + 1) hb (by (first | omega | (simp; done) | (simp; omega))); have hy : w.heap.size < w1.heap.size := (by omega))
    have hu1 : w1.cell? ⟨b, o + n, none⟩ = some u := by
      rw [hk _ _ (by omega), World.cell?_alloc_lt _ _ _ (by simpa using hb0)]; exact hu
    have hlt : (n : Int) < gs.length := h5
    go_wp2_with fail
    go_ret2
    exact ⟨u, by rw [HE.out]; rfl, by rw [HL.out]; exact (HI.out.below (w' := w1) (by (repeat' (first | (with_reducible exact Below.refl _ _) | (with_reducible refine Below.alloc ?_ ?_ _) | (with_reducible refine Below.drew ?_) | (with_reducible refine below_drewN ?_ _) | (with_reducible refine Below.setCell ?_ ?_ _) | (with_reducible refine Below.trans ?_ (Below.mono (by assumption) ?_)) | (with_reducible exact Nat.le_refl _) | omega | (simp; omega) | (simp; done))))).more (by omega), by (repeat' (first | (with_reducible exact Below.refl _ _) | (with_reducible refine Below.alloc ?_ ?_ _) | (with_reducible refine Below.drew ?_) | (with_reducible refine below_drewN ?_ _) | (with_reducible refine Below.setCell ?_ ?_ _) | (with_reducible refine Below.trans ?_ (Below.mono (by assumption) ?_)) | (with_reducible exact Nat.le_refl _) | omega | (simp; omega) | (simp; done)))⟩
end Go.Proofs.YtbhmmffompapdaaDoor

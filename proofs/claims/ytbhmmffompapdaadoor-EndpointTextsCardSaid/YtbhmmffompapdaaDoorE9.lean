/- Walks over Has and the reference Has. -/
import Derived.Test.YtbhmmffompapdaaDoorRows
import Derived.Test.YtbhmmffompapdaaDoorE8
import Derived.WalkKit
import Derived.WalkSpells
import Derived.WalkLawsBesides
import Derived.Handy
import Derived.Deep.QuietTactic
import Derived.BigQuiet
import Derived.Deep.RegionHeld3
import Derived.Deep.DeepCutAuto
import Derived.Lib.Hide
namespace Go.Proofs.YtbhmmffompapdaaDoor
open Go.RowKit
theorem members_any (v : Value) (gs : List (List Int)) (k n : Int) (w : World) (hg : Grps w w.heap.size v gs) : Calls Tryd.prog 13 #[v, .agg #[.int .i64 k, .int .i64 n]] w (MemPost gs k n w) := by
  by_cases h : memE gs k n = 0
  · exact members_ok v gs k n w hg h
  · exact members_bad v gs k n w hg h
theorem rmembers_any (v : Value) (gs : List (List Int)) (k n : Int) (w : World) (hg : Grps w w.heap.size v gs) : Calls Tryd.prog 18 #[v, .agg #[.int .i64 k, .int .i64 n]] w (MemPost gs k n w) := by
  by_cases h : memE gs k n = 0
  · exact rmembers_ok v gs k n w hg h
  · exact rmembers_bad v gs k n w hg h
def hasV (gs : List (List Int)) (k n x : Int) : Bool := if memE gs k n = 0 then hasB (memL gs k n) x else false
theorem Has_any (v : Value) (gs : List (List Int)) (k n x : Int) (w : World) (hg : Grps w w.heap.size v gs) : Calls Tryd.prog 15 #[v, .agg #[.int .i64 k, .int .i64 n], .int .i64 x] w fun e w' => e = .returned (.bool (hasV gs k n x)) ∧ Below w.heap.size w w' := by
  by_cases h : memE gs k n = 0
  · have HV : Hid (hasV gs k n x = hasB (memL gs k n) x) := by show _ = _; rw [hasV, if_pos h]
    have H := Lib.hid h
    clear h
    go_enter Tryd.func15, Tryd.ntmps15
    go_wp2_with fail
    refine (members_any v gs k n _ ((hg.below (by (repeat' (first | (with_reducible exact Below.refl _ _) | (with_reducible refine Below.alloc ?_ ?_ _) | (with_reducible refine Below.drew ?_) | (with_reducible refine below_drewN ?_ _) | (with_reducible refine Below.setCell ?_ ?_ _) | (with_reducible refine Below.trans ?_ (Below.mono (by assumption) ?_)) | (with_reducible exact Nat.le_refl _) | omega | (simp; omega) | (simp; done))))).more (by (first | omega | (simp; done) | (simp; omega))))).mono ?_
    rintro e w1 ⟨u, rfl, hi, hb⟩
    rw [H.out]
    go_wp2_with fail
    refine (cont_any _ _ _ _ _ hi).mono ?_
    rintro e w2 ⟨rfl, rfl⟩
    go_wp2_with fail
    go_ret
    exact ⟨by rw [HV.out]; rfl, by (repeat' (first | (with_reducible exact Below.refl _ _) | (with_reducible refine Below.alloc ?_ ?_ _) | (with_reducible refine Below.drew ?_) | (with_reducible refine below_drewN ?_ _) | (with_reducible refine Below.setCell ?_ ?_ _) | (with_reducible refine Below.trans ?_ (Below.mono (by assumption) ?_)) | (with_reducible exact Nat.le_refl _) | omega | (simp; omega) | (simp; done)))⟩
  · have HV : Hid (hasV gs k n x = false) := by show _ = _; rw [hasV, if_neg h]
    have h2 : (memE gs k n == 0) = false := by simpa using h
    clear h
    go_enter Tryd.func15, Tryd.ntmps15
    go_wp2_with fail
    refine (members_any v gs k n _ ((hg.below (by (repeat' (first | (with_reducible exact Below.refl _ _) | (with_reducible refine Below.alloc ?_ ?_ _) | (with_reducible refine Below.drew ?_) | (with_reducible refine below_drewN ?_ _) | (with_reducible refine Below.setCell ?_ ?_ _) | (with_reducible refine Below.trans ?_ (Below.mono (by assumption) ?_)) | (with_reducible exact Nat.le_refl _) | omega | (simp; omega) | (simp; done))))).more (by (first | omega | (simp; done) | (simp; omega))))).mono ?_
    rintro e w1 ⟨u, rfl, hi, hb⟩
    go_wp2_with fail
    go_ret
    exact ⟨by rw [HV.out]; rfl, by (repeat' (first | (with_reducible exact Below.refl _ _) | (with_reducible refine Below.alloc ?_ ?_ _) | (with_reducible refine Below.drew ?_) | (with_reducible refine below_drewN ?_ _) | (with_reducible refine Below.setCell ?_ ?_ _) | (with_reducible refine Below.trans ?_ (Below.mono (by assumption) ?_)) | (with_reducible exact Nat.le_refl _) | omega | (simp; omega) | (simp; done)))⟩
theorem rHas_any (v : Value) (gs : List (List Int)) (k n x : Int) (w : World) (hg : Grps w w.heap.size v gs) : Calls Tryd.prog 23 #[v, .agg #[.int .i64 k, .int .i64 n], .int .i64 x] w fun e w' => e = .returned (.bool (hasV gs k n x)) ∧ Below w.heap.size w w' := by
  by_cases h : memE gs k n = 0
  · have HV : Hid (hasV gs k n x = hasB (memL gs k n) x) := by show _ = _; rw [hasV, if_pos h]
    have H := Lib.hid h
    clear h
    go_enter Tryd.func23, Tryd.ntmps23
    go_wp2_with fail
    refine (rmembers_any v gs k n _ ((hg.below (by (repeat' (first | (with_reducible exact Below.refl _ _) | (with_reducible refine Below.alloc ?_ ?_ _) | (with_reducible refine Below.drew ?_) | (with_reducible refine below_drewN ?_ _) | (with_reducible refine Below.setCell ?_ ?_ _) | (with_reducible refine Below.trans ?_ (Below.mono (by assumption) ?_)) | (with_reducible exact Nat.le_refl _) | omega | (simp; omega) | (simp; done))))).more (by (first | omega | (simp; done) | (simp; omega))))).mono ?_
    rintro e w1 ⟨u, rfl, hi, hb⟩
    rw [H.out]
    go_wp2_with fail
    refine (has_any _ _ _ _ _ hi).mono ?_
    rintro e w2 ⟨rfl, rfl⟩
    go_wp2_with fail
    go_ret
    exact ⟨by rw [HV.out]; rfl, by (repeat' (first | (with_reducible exact Below.refl _ _) | (with_reducible refine Below.alloc ?_ ?_ _) | (with_reducible refine Below.drew ?_) | (with_reducible refine below_drewN ?_ _) | (with_reducible refine Below.setCell ?_ ?_ _) | (with_reducible refine Below.trans ?_ (Below.mono (by assumption) ?_)) | (with_reducible exact Nat.le_refl _) | omega | (simp; omega) | (simp; done)))⟩
  · have HV : Hid (hasV gs k n x = false) := by show _ = _; rw [hasV, if_neg h]
    have h2 : (memE gs k n == 0) = false := by simpa using h
    clear h
    go_enter Tryd.func23, Tryd.ntmps23
    go_wp2_with fail
    refine (rmembers_any v gs k n _ ((hg.below (by (repeat' (first | (with_reducible exact Below.refl _ _) | (with_reducible refine Below.alloc ?_ ?_ _) | (with_reducible refine Below.drew ?_) | (with_reducible refine below_drewN ?_ _) | (with_reducible refine Below.setCell ?_ ?_ _) | (with_reducible refine Below.trans ?_ (Below.mono (by assumption) ?_)) | (with_reducible exact Nat.le_refl _) | omega | (simp; omega) | (simp; done))))).more (by (first | omega | (simp; done) | (simp; omega))))).mono ?_
    rintro e w1 ⟨u, rfl, hi, hb⟩
    go_wp2_with fail
    go_ret
    exact ⟨by rw [HV.out]; rfl, by (repeat' (first | (with_reducible exact Below.refl _ _) | (with_reducible refine Below.alloc ?_ ?_ _) | (with_reducible refine Below.drew ?_) | (with_reducible refine below_drewN ?_ _) | (with_reducible refine Below.setCell ?_ ?_ _) | (with_reducible refine Below.trans ?_ (Below.mono (by assumption) ?_)) | (with_reducible exact Nat.le_refl _) | omega | (simp; omega) | (simp; done)))⟩
end Go.Proofs.YtbhmmffompapdaaDoor

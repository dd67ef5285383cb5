/- Walk of the law EndpointMembers. -/
import Derived.Test.YtbhmmffompapdaaDoorR0
import Derived.Test.YtbhmmffompapdaaDoorP1
import Derived.Deep.DrawnRows
namespace Go.Proofs.YtbhmmffompapdaaDoor
open Go.RowKit
attribute [local go_sem ↓] Go.wp_at_zero Go.wp_at_succ
theorem bm {W0 w' : World} {B : Nat} (h : Below W0.heap.size W0 w') (hb : B ≤ W0.heap.size) : Below B W0 w' := h.mono hb
theorem bsz {W0 w' : World} {B : Nat} (h : Below W0.heap.size W0 w') (hb : B ≤ W0.heap.size) : B ≤ w'.heap.size := Nat.le_trans hb h.size
theorem bt {W0 w1 w2 : World} (h : Below W0.heap.size W0 w1) (k : Below w1.heap.size w1 w2) : Below W0.heap.size W0 w2 := h.trans (k.mono h.size)
theorem equal_self (va vb : Value) (a : List Int) (w : World) (B : Nat) (ha : Ints w B va a) (hb : Ints w B vb a) : Calls Tryd.prog 22 #[va, vb] w fun e w' => e = .returned (.bool true) ∧ ∃ q, w' = w.drewN q := by
  have := equal_any va vb a a w B ha hb
  rwa [decide_eq_true rfl] at this
theorem same_self (va vb : Value) (a : List (Int × Int)) (w : World) (B : Nat) (ha : Eps w B va a) (hb : Eps w B vb a) : Calls Tryd.prog 24 #[va, vb] w fun e w' => e = .returned (.bool true) ∧ ∃ q, w' = w.drewN q := by
  have := same_any va vb a a w B ha hb
  rwa [sameB, decide_eq_true rfl] at this
theorem lawMembers_great (v : Value) (gs : List (List Int)) (k n x : Int) (w : World) (hg : Grps w w.heap.size v gs) (h : greatB gs = true) : Calls Tryd.prog 6 #[v, .agg #[.int .i64 k, .int .i64 n], .int .i64 x] w fun e w' => e = .returned (.bool true) ∧ Below w.heap.size w w' := by
  have H := Lib.hid h
  clear h
  go_enter Tryd.func6, Tryd.ntmps6
  go_wp2_with fail
  refine (great_any _ gs _ w.heap.size (hg.below (by (repeat' (first | (with_reducible exact Below.refl _ _) | (with_reducible refine Below.alloc ?_ ?_ _) | (with_reducible refine Below.drew ?_) | (with_reducible refine below_drewN ?_ _) | (with_reducible refine Below.setCell ?_ ?_ _) | (with_reducible refine Below.trans ?_ (Below.mono (by assumption) ?_)) | (with_reducible exact Nat.le_refl _) | omega | (simp; omega) | (simp; done)))))).mono ?_
  rw [H.out]
  rintro e w1 ⟨rfl, rfl⟩
  go_wp2_with fail
  refine (awake_any _).mono ?_
  rintro e w1 ⟨rfl, hb⟩
  go_wp2_with fail
  go_ret
  exact ⟨rfl, by (repeat' (first | (with_reducible exact Below.refl _ _) | (with_reducible refine Below.alloc ?_ ?_ _) | (with_reducible refine Below.drew ?_) | (with_reducible refine below_drewN ?_ _) | (with_reducible refine Below.setCell ?_ ?_ _) | (with_reducible refine Below.trans ?_ (Below.mono (by assumption) ?_)) | (with_reducible exact Nat.le_refl _) | omega | (simp; omega) | (simp; done)))⟩
set_option maxHeartbeats 4000000 in
theorem lawMembers_small (v : Value) (gs : List (List Int)) (k n x : Int) (w : World) (hg : Grps w w.heap.size v gs) (h : greatB gs = false) : Calls Tryd.prog 6 #[v, .agg #[.int .i64 k, .int .i64 n], .int .i64 x] w fun e w' => e = .returned (.bool true) ∧ Below w.heap.size w w' := by
  have H := Lib.hid h
  clear h
  have b1 : (groupsE gs == groupsE gs) = true := by simp
  have b2 : (memE gs k n == memE gs k n) = true := by simp
  have b3 : (ofE gs x == ofE gs x) = true := by simp
  have b4 : (hasV gs k n x == hasV gs k n x) = true := by simp
  go_enter Tryd.func6, Tryd.ntmps6
  go_wp2_with fail
  refine (great_any _ gs _ w.heap.size (hg.below (by (repeat' (first | (with_reducible exact Below.refl _ _) | (with_reducible refine Below.alloc ?_ ?_ _) | (with_reducible refine Below.drew ?_) | (with_reducible refine below_drewN ?_ _) | (with_reducible refine Below.setCell ?_ ?_ _) | (with_reducible refine Below.trans ?_ (Below.mono (by assumption) ?_)) | (with_reducible exact Nat.le_refl _) | omega | (simp; omega) | (simp; done)))))).mono ?_
  rw [H.out]
  rintro e w1 ⟨rfl, rfl⟩
  go_wp2_with fail
  refine (members_any v gs k n _ ((hg.below (by (repeat' (first | (with_reducible exact Below.refl _ _) | (with_reducible refine Below.alloc ?_ ?_ _) | (with_reducible refine Below.drew ?_) | (with_reducible refine below_drewN ?_ _) | (with_reducible refine Below.setCell ?_ ?_ _) | (with_reducible refine Below.trans ?_ (Below.mono (by assumption) ?_)) | (with_reducible exact Nat.le_refl _) | omega | (simp; omega) | (simp; done))))).more (by (first | omega | (simp; done) | (simp; omega))))).mono ?_
  rintro e w1 ⟨u1, rfl, hu1, hb1⟩
  have hz1 : w.heap.size + 1 ≤ w1.heap.size := Nat.le_trans (by (first | omega | (simp; done) | (simp; omega))) hb1.size
  have hk1 := bc (B := w.heap.size + 1) hb1 (by (first | omega | (simp; done) | (simp; omega)))
  go_wp2_with fail
  refine (rmembers_any v gs k n _ ((hg.below (by (repeat' (first | (with_reducible exact Below.refl _ _) | (with_reducible refine Below.alloc ?_ ?_ _) | (with_reducible refine Below.drew ?_) | (with_reducible refine below_drewN ?_ _) | (with_reducible refine Below.setCell ?_ ?_ _) | (with_reducible refine Below.trans ?_ (Below.mono (by assumption) ?_)) | (with_reducible exact Nat.le_refl _) | omega | (simp; omega) | (simp; done))))).more (by omega))).mono ?_
  rintro e w2 ⟨u2, rfl, hu2, hb2⟩
  have hz2 : w1.heap.size ≤ w2.heap.size := hb2.size
  have hk2 := bc (B := w.heap.size + 1) hb2 (by omega)
  go_wp2_with fail
  refine (of_any v gs x _ ((hg.below (by (repeat' (first | (with_reducible exact Below.refl _ _) | (with_reducible refine Below.alloc ?_ ?_ _) | (with_reducible refine Below.drew ?_) | (with_reducible refine below_drewN ?_ _) | (with_reducible refine Below.setCell ?_ ?_ _) | (with_reducible refine Below.trans ?_ (Below.mono (by assumption) ?_)) | (with_reducible exact Nat.le_refl _) | omega | (simp; omega) | (simp; done))))).more (by omega))).mono ?_
  rintro e w3 ⟨u3, rfl, hu3, hb3⟩
  have hz3 : w2.heap.size ≤ w3.heap.size := hb3.size
  have hk3 := bc (B := w.heap.size + 1) hb3 (by omega)
  go_wp2_with fail
  refine (rof_any v gs x _ ((hg.below (by (repeat' (first | (with_reducible exact Below.refl _ _) | (with_reducible refine Below.alloc ?_ ?_ _) | (with_reducible refine Below.drew ?_) | (with_reducible refine below_drewN ?_ _) | (with_reducible refine Below.setCell ?_ ?_ _) | (with_reducible refine Below.trans ?_ (Below.mono (by assumption) ?_)) | (with_reducible exact Nat.le_refl _) | omega | (simp; omega) | (simp; done))))).more (by omega))).mono ?_
  rintro e w4 ⟨u4, rfl, hu4, hb4⟩
  have hz4 : w3.heap.size ≤ w4.heap.size := hb4.size
  have hk4 := bc (B := w.heap.size + 1) hb4 (by omega)
  have c0 : w4.cell? ⟨w.heap.size, 0, none⟩ = some (.int .i64 k) := by simp [*, go_sem]
  have c1 : w4.cell? ⟨w.heap.size, 1, none⟩ = some (.int .i64 n) := by simp [*, go_sem]
  have hz : w.heap.size < w4.heap.size := by omega
  have U1 := Lib.hid (hu1.below (w' := w4) (by (repeat' (first | (with_reducible exact Below.refl _ _) | (with_reducible refine Below.alloc ?_ ?_ _) | (with_reducible refine Below.drew ?_) | (with_reducible refine below_drewN ?_ _) | (with_reducible refine Below.setCell ?_ ?_ _) | (with_reducible refine Below.trans ?_ (Below.mono (by assumption) ?_)) | (with_reducible exact Nat.le_refl _) | omega | (simp; omega) | (simp; done)))))
  have U2 := Lib.hid (hu2.below (w' := w4) (by (repeat' (first | (with_reducible exact Below.refl _ _) | (with_reducible refine Below.alloc ?_ ?_ _) | (with_reducible refine Below.drew ?_) | (with_reducible refine below_drewN ?_ _) | (with_reducible refine Below.setCell ?_ ?_ _) | (with_reducible refine Below.trans ?_ (Below.mono (by assumption) ?_)) | (with_reducible exact Nat.le_refl _) | omega | (simp; omega) | (simp; done)))))
  have U3 := Lib.hid (hu3.below (w' := w4) (by (repeat' (first | (with_reducible exact Below.refl _ _) | (with_reducible refine Below.alloc ?_ ?_ _) | (with_reducible refine Below.drew ?_) | (with_reducible refine below_drewN ?_ _) | (with_reducible refine Below.setCell ?_ ?_ _) | (with_reducible refine Below.trans ?_ (Below.mono (by assumption) ?_)) | (with_reducible exact Nat.le_refl _) | omega | (simp; omega) | (simp; done)))))
  have U4 := Lib.hid hu4
  have hB : Below w.heap.size w w4 := by (repeat' (first | (with_reducible exact Below.refl _ _) | (with_reducible refine Below.alloc ?_ ?_ _) | (with_reducible refine Below.drew ?_) | (with_reducible refine below_drewN ?_ _) | (with_reducible refine Below.setCell ?_ ?_ _) | (with_reducible refine Below.trans ?_ (Below.mono (by assumption) ?_)) | (with_reducible exact Nat.le_refl _) | omega | (simp; omega) | (simp; done)))
  have G := Lib.hid (hg.below hB)
  have Z1 : w1.heap.size ≤ w4.heap.size := by omega
  have Z2 : w2.heap.size ≤ w4.heap.size := by omega
  have Z3 : w3.heap.size ≤ w4.heap.size := by omega
  have hW := Below.refl w4.heap.size w4
  clear hk1 hk2 hk3 hk4 hb1 hb2 hb3 hb4 hu1 hu2 hu3 hu4 hg
  go_wp2_with fail
  go_region_held3 (fun w' => w'.cell? ⟨w.heap.size, 0, none⟩ = some (.int .i64 k) ∧ w'.cell? ⟨w.heap.size, 1, none⟩ = some (.int .i64 n) ∧ Below w4.heap.size w4 w')
    ((repeat' (with_reducible apply And.intro)) <;> first | assumption | (first | exact c0 | exact c1 | exact below_drewN (Below.refl _ _) _ | exact Below.drew (Below.refl _ _) | exact below_drewN (by assumption) _ | exact Below.drew (by assumption)))
    (first
     | (go_at_call 20; go_split_ands; refine (groups_any _ gs _ w.heap.size (G.out.below (bm (by first | assumption | exact below_drewN (Below.refl _ _) _ | exact Below.drew (Below.refl _ _) | exact below_drewN (by assumption) _ | exact Below.drew (by assumption)) (by omega)))).mono ?_; rintro e w5 ⟨rfl, rfl⟩)
     | (go_at_call 21; go_split_ands; refine (rgroups_any _ gs _ w.heap.size (G.out.below (bm (by first | assumption | exact below_drewN (Below.refl _ _) _ | exact Below.drew (Below.refl _ _) | exact below_drewN (by assumption) _ | exact Below.drew (by assumption)) (by omega)))).mono ?_; rintro e w5 ⟨rfl, q5, rfl⟩)
     | (go_at_call 22; go_split_ands; refine (equal_self _ _ (memL gs k n) _ w4.heap.size ((U1.out.more (by omega)).below (by first | assumption | exact below_drewN (Below.refl _ _) _ | exact Below.drew (Below.refl _ _) | exact below_drewN (by assumption) _ | exact Below.drew (by assumption))) ((U2.out.more (by omega)).below (by first | assumption | exact below_drewN (Below.refl _ _) _ | exact Below.drew (Below.refl _ _) | exact below_drewN (by assumption) _ | exact Below.drew (by assumption)))).mono ?_; rintro e w5 ⟨rfl, q5, rfl⟩)
     | (go_at_call 15; go_split_ands; refine (Has_any _ gs _ _ _ _ ((G.out.below (bm (by first | assumption | exact below_drewN (Below.refl _ _) _ | exact Below.drew (Below.refl _ _) | exact below_drewN (by assumption) _ | exact Below.drew (by assumption)) (by omega))).more (bsz (W0 := w4) (by first | assumption | exact below_drewN (Below.refl _ _) _ | exact Below.drew (Below.refl _ _) | exact below_drewN (by assumption) _ | exact Below.drew (by assumption)) (by omega)))).mono ?_; rintro e w6 ⟨rfl, hb6⟩; have hS6 := bt (W0 := w4) (by first | assumption | exact below_drewN (Below.refl _ _) _ | exact Below.drew (Below.refl _ _) | exact below_drewN (by assumption) _ | exact Below.drew (by assumption)) hb6; have d6 := (hS6.cell (p := ⟨w.heap.size, 0, none⟩) hz).trans c0; have e6 := (hS6.cell (p := ⟨w.heap.size, 1, none⟩) hz).trans c1)
     | (go_at_call 23; go_split_ands; refine (rHas_any _ gs _ _ _ _ ((G.out.below (bm (by first | assumption | exact below_drewN (Below.refl _ _) _ | exact Below.drew (Below.refl _ _) | exact below_drewN (by assumption) _ | exact Below.drew (by assumption)) (by omega))).more (bsz (W0 := w4) (by first | assumption | exact below_drewN (Below.refl _ _) _ | exact Below.drew (Below.refl _ _) | exact below_drewN (by assumption) _ | exact Below.drew (by assumption)) (by omega)))).mono ?_; rintro e w7 ⟨rfl, hb7⟩; have hS7 := bt (W0 := w4) (by first | assumption | exact below_drewN (Below.refl _ _) _ | exact Below.drew (Below.refl _ _) | exact below_drewN (by assumption) _ | exact Below.drew (by assumption)) hb7; have d7 := (hS7.cell (p := ⟨w.heap.size, 0, none⟩) hz).trans c0; have e7 := (hS7.cell (p := ⟨w.heap.size, 1, none⟩) hz).trans c1)
     | (go_at_call 24; go_split_ands; refine (same_self _ _ (ofL gs x) _ w4.heap.size ((U3.out.more (by omega)).below (by first | assumption | exact below_drewN (Below.refl _ _) _ | exact Below.drew (Below.refl _ _) | exact below_drewN (by assumption) _ | exact Below.drew (by assumption))) (U4.out.below (by first | assumption | exact below_drewN (Below.refl _ _) _ | exact Below.drew (Below.refl _ _) | exact below_drewN (by assumption) _ | exact Below.drew (by assumption)))).mono ?_; rintro e w8 ⟨rfl, q8, rfl⟩)
     | (go_at_call 11; go_split_ands; refine (awake_any _).mono ?_; rintro e w9 ⟨rfl, hb9⟩; have hS9 := bt (W0 := w4) (by first | assumption | exact below_drewN (Below.refl _ _) _ | exact Below.drew (Below.refl _ _) | exact below_drewN (by assumption) _ | exact Below.drew (by assumption)) hb9; have d9 := (hS9.cell (p := ⟨w.heap.size, 0, none⟩) hz).trans c0; have e9 := (hS9.cell (p := ⟨w.heap.size, 1, none⟩) hz).trans c1))
  all_goals
    go_wp2_with fail
    go_ret
    exact ⟨rfl, hB.trans (bm hS9 (by omega))⟩
theorem lawMembers_any (v : Value) (gs : List (List Int)) (k n x : Int) (w : World) (hg : Grps w w.heap.size v gs) : Calls Tryd.prog 6 #[v, .agg #[.int .i64 k, .int .i64 n], .int .i64 x] w fun e w' => e = .returned (.bool true) ∧ Below w.heap.size w w' := by
  cases h : greatB gs
  · exact lawMembers_small v gs k n x w hg h
  · exact lawMembers_great v gs k n x w hg h
end Go.Proofs.YtbhmmffompapdaaDoor

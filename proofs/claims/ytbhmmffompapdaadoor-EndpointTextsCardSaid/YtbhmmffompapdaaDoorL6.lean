/- Walk of the law EndpointTexts. -/
import Derived.Test.YtbhmmffompapdaaDoorR0
import Derived.Test.YtbhmmffompapdaaDoorE17
import Derived.Deep.DrawnRows
namespace Go.Proofs.YtbhmmffompapdaaDoor
open Go.RowKit
attribute [local go_sem ↓] Go.wp_at_zero Go.wp_at_succ
theorem bm2 {W0 w' : World} {B : Nat} (h : Below W0.heap.size W0 w') (hb : B ≤ W0.heap.size) : Below B W0 w' := h.mono hb
theorem bt2 {W0 w1 w2 : World} (h : Below W0.heap.size W0 w1) (k : Below w1.heap.size w1 w2) : Below W0.heap.size W0 w2 := h.trans (k.mono h.size)
theorem texts_long (k n : Int) (s : ByteArray) (w : World) (h : 40 < s.size) (hm : s.size ≤ maxLen) : Calls Tryd.prog 8 #[.agg #[.int .i64 k, .int .i64 n], .string s] w fun e w' => e = .returned (.bool true) ∧ Below w.heap.size w w' := by
  unfold maxLen at hm
  go_enter Tryd.func8, Tryd.ntmps8
  go_wp2_with fail
  refine (awake_any _).mono ?_
  rintro e w1 ⟨rfl, hb⟩
  go_wp2_with fail
  go_ret
  exact ⟨rfl, by (repeat' (first | (with_reducible exact Below.refl _ _) | (with_reducible refine Below.alloc ?_ ?_ _) | (with_reducible refine Below.drew ?_) | (with_reducible refine below_drewN ?_ _) | (with_reducible refine Below.setCell ?_ ?_ _) | (with_reducible refine Below.trans ?_ (Below.mono (by assumption) ?_)) | (with_reducible exact Nat.le_refl _) | omega | (simp; omega) | (simp; done)))⟩
set_option maxHeartbeats 4000000 in
theorem texts_short (k n : Int) (s : ByteArray) (w : World) (h : s.size ≤ 40) (hG : Glob w) : Calls Tryd.prog 8 #[.agg #[.int .i64 k, .int .i64 n], .string s] w fun e w' => e = .returned (.bool true) ∧ Below w.heap.size w w' := by
  go_enter Tryd.func8, Tryd.ntmps8
  go_wp2_with fail
  refine (print_any _ _ _).mono ?_
  rintro e w1 ⟨rfl, hb1⟩
  have hz1 : w.heap.size + 1 ≤ w1.heap.size := Nat.le_trans (by (first | omega | (simp; done) | (simp; omega))) hb1.size
  have hB1 : Below w.heap.size w w1 := by (repeat' (first | (with_reducible exact Below.refl _ _) | (with_reducible refine Below.alloc ?_ ?_ _) | (with_reducible refine Below.drew ?_) | (with_reducible refine below_drewN ?_ _) | (with_reducible refine Below.setCell ?_ ?_ _) | (with_reducible refine Below.trans ?_ (Below.mono (by assumption) ?_)) | (with_reducible exact Nat.le_refl _) | omega | (simp; omega) | (simp; done)))
  have c1 : w1.cell? ⟨w.heap.size, 0, none⟩ = some (.int .i64 k) := (hb1.cell (p := ⟨w.heap.size, 0, none⟩) (by simp)).trans (by simp [go_sem])
  have d1 : w1.cell? ⟨w.heap.size, 1, none⟩ = some (.int .i64 n) := (hb1.cell (p := ⟨w.heap.size, 1, none⟩) (by simp)).trans (by simp [go_sem])
  clear hb1
  go_wp2_with fail
  refine (rprint_any _ _ _).mono ?_
  rintro e w2 ⟨rfl, hb2⟩
  have hz2 : w1.heap.size ≤ w2.heap.size := hb2.size
  have hB2 : Below w.heap.size w w2 := hB1.trans (hb2.mono (by omega))
  have c2 := (hb2.cell (p := ⟨w.heap.size, 0, none⟩) (show w.heap.size < w1.heap.size by omega)).trans c1
  have d2 := (hb2.cell (p := ⟨w.heap.size, 1, none⟩) (show w.heap.size < w1.heap.size by omega)).trans d1
  clear hb2 hB1 c1 d1
  go_wp2_with fail
  refine (parse_any s h _ (hG.below hB2 hG.1)).mono ?_
  rintro e w3 ⟨rfl, hb3⟩
  have hz3 : w2.heap.size ≤ w3.heap.size := hb3.size
  have hB3 : Below w.heap.size w w3 := hB2.trans (hb3.mono (by omega))
  have c3 := (hb3.cell (p := ⟨w.heap.size, 0, none⟩) (show w.heap.size < w2.heap.size by omega)).trans c2
  have d3 := (hb3.cell (p := ⟨w.heap.size, 1, none⟩) (show w.heap.size < w2.heap.size by omega)).trans d2
  clear hb3 hB2 c2 d2
  go_wp2_with fail
  refine (rparse_any s _).mono ?_
  rintro e w4 ⟨rfl, hb4⟩
  have hz4 : w3.heap.size + 1 ≤ w4.heap.size := Nat.le_trans (by (first | omega | (simp; done) | (simp; omega))) hb4.size
  have hB4 : Below w.heap.size w w4 := hB3.trans (((Below.refl _ w3).alloc (by omega) _).trans (hb4.mono (by simp; omega)))
  have c4 := (hb4.cell (p := ⟨w.heap.size, 0, none⟩) (by simp; omega)).trans ((World.cell?_alloc_lt _ _ _ (by show w.heap.size < w3.heap.size; omega)).trans c3)
  have d4 := (hb4.cell (p := ⟨w.heap.size, 1, none⟩) (by simp; omega)).trans ((World.cell?_alloc_lt _ _ _ (by show w.heap.size < w3.heap.size; omega)).trans d3)
  have x4 : w4.cell? ⟨w3.heap.size, 0, none⟩ = some (.int .i64 (pK s.data.toList)) := (hb4.cell (p := ⟨w3.heap.size, 0, none⟩) (by simp)).trans (by simp [go_sem])
  have y4 : w4.cell? ⟨w3.heap.size, 1, none⟩ = some (.int .i64 (pN s.data.toList)) := (hb4.cell (p := ⟨w3.heap.size, 1, none⟩) (by simp)).trans (by simp [go_sem])
  clear hb4 hB3 c3 d3
  have b1 : (epE k n == epE k n) = true := by simp
  have b2 : ((prS k n).toList == (prS k n).toList) = true := by simp
  have b3 : (pE s.data.toList == pE s.data.toList) = true := by simp
  have hne : ∀ w, (binOp .eql 23 (.agg #[.int .i64 (pK s.data.toList), .int .i64 (pN s.data.toList)]) (.agg #[.int .i64 (pK s.data.toList), .int .i64 (pN s.data.toList)])).run Tryd.prog w = .ok (.bool true) w := fun w => by rw [eql_ep, decide_eq_true rfl]
  generalize pK s.data.toList = pk at *
  generalize pN s.data.toList = pn at *
  generalize pE s.data.toList = pe at *
  go_wp2_with fail
  have c5 := (World.cell?_alloc_lt w4 (.cells #[.int .i64 pk, .int .i64 pn] 23) ⟨w.heap.size, 0, none⟩ (by show w.heap.size < w4.heap.size; omega)).trans c4
  have d5 := (World.cell?_alloc_lt w4 (.cells #[.int .i64 pk, .int .i64 pn] 23) ⟨w.heap.size, 1, none⟩ (by show w.heap.size < w4.heap.size; omega)).trans d4
  have x5 := (World.cell?_alloc_lt w4 (.cells #[.int .i64 pk, .int .i64 pn] 23) ⟨w3.heap.size, 0, none⟩ (by show w3.heap.size < w4.heap.size; omega)).trans x4
  have y5 := (World.cell?_alloc_lt w4 (.cells #[.int .i64 pk, .int .i64 pn] 23) ⟨w3.heap.size, 1, none⟩ (by show w3.heap.size < w4.heap.size; omega)).trans y4
  have p5 : (w4.alloc (.cells #[.int .i64 pk, .int .i64 pn] 23)).cell? ⟨w4.heap.size, 0, none⟩ = some (.int .i64 pk) := by simp [go_sem]
  have q5 : (w4.alloc (.cells #[.int .i64 pk, .int .i64 pn] 23)).cell? ⟨w4.heap.size, 1, none⟩ = some (.int .i64 pn) := by simp [go_sem]
  have hB5 := hB4.alloc (by omega) (.cells #[.int .i64 pk, .int .i64 pn] 23)
  have hz5 : w.heap.size < (w4.alloc (.cells #[.int .i64 pk, .int .i64 pn] 23)).heap.size ∧ w3.heap.size < (w4.alloc (.cells #[.int .i64 pk, .int .i64 pn] 23)).heap.size ∧ w4.heap.size < (w4.alloc (.cells #[.int .i64 pk, .int .i64 pn] 23)).heap.size := by simp; omega
  clear c4 d4 x4 y4 hB4
  generalize (w4.alloc (.cells #[.int .i64 pk, .int .i64 pn] 23)) = w5 at *
  obtain ⟨z1, z2, z3⟩ := hz5
  go_region_held3 (fun w' => w'.cell? ⟨w.heap.size, 0, none⟩ = some (.int .i64 k) ∧ w'.cell? ⟨w.heap.size, 1, none⟩ = some (.int .i64 n) ∧ w'.cell? ⟨w3.heap.size, 0, none⟩ = some (.int .i64 pk) ∧ w'.cell? ⟨w3.heap.size, 1, none⟩ = some (.int .i64 pn) ∧ w'.cell? ⟨w4.heap.size, 0, none⟩ = some (.int .i64 pk) ∧ w'.cell? ⟨w4.heap.size, 1, none⟩ = some (.int .i64 pn) ∧ Below w5.heap.size w5 w')
    ((repeat' (with_reducible apply And.intro)) <;> first | assumption | (first | exact c5 | exact d5 | exact x5 | exact y5 | exact p5 | exact q5 | exact below_drewN (Below.refl _ _) _ | exact Below.drew (Below.refl _ _) | exact below_drewN (by assumption) _ | exact Below.drew (by assumption)))
    (first
     | (go_at_call 29; go_split_ands; refine (check_any _ _ _).mono ?_; rintro e w6 ⟨rfl, hb6⟩; have hS6 := bt2 (W0 := w5) (by first | assumption | exact below_drewN (Below.refl _ _) _ | exact Below.drew (Below.refl _ _) | exact below_drewN (by assumption) _ | exact Below.drew (by assumption)) hb6; clear hb6; have i1 := (hS6.cell (p := ⟨w.heap.size, 0, none⟩) z1).trans c5; have i2 := (hS6.cell (p := ⟨w.heap.size, 1, none⟩) z1).trans d5; have i3 := (hS6.cell (p := ⟨w3.heap.size, 0, none⟩) z2).trans x5; have i4 := (hS6.cell (p := ⟨w3.heap.size, 1, none⟩) z2).trans y5; have i5 := (hS6.cell (p := ⟨w4.heap.size, 0, none⟩) z3).trans p5; have i6 := (hS6.cell (p := ⟨w4.heap.size, 1, none⟩) z3).trans q5)
     | (go_at_call 30; go_split_ands; refine (rcheck_any _ _ _).mono ?_; rintro e w7 ⟨rfl, hb7⟩; have hS7 := bt2 (W0 := w5) (by first | assumption | exact below_drewN (Below.refl _ _) _ | exact Below.drew (Below.refl _ _) | exact below_drewN (by assumption) _ | exact Below.drew (by assumption)) hb7; clear hb7; have j1 := (hS7.cell (p := ⟨w.heap.size, 0, none⟩) z1).trans c5; have j2 := (hS7.cell (p := ⟨w.heap.size, 1, none⟩) z1).trans d5; have j3 := (hS7.cell (p := ⟨w3.heap.size, 0, none⟩) z2).trans x5; have j4 := (hS7.cell (p := ⟨w3.heap.size, 1, none⟩) z2).trans y5; have j5 := (hS7.cell (p := ⟨w4.heap.size, 0, none⟩) z3).trans p5; have j6 := (hS7.cell (p := ⟨w4.heap.size, 1, none⟩) z3).trans q5)
     | (go_at_call 11; go_split_ands; refine (awake_any _).mono ?_; rintro e w9 ⟨rfl, hb9⟩; have hS9 := bt2 (W0 := w5) (by first | assumption | exact below_drewN (Below.refl _ _) _ | exact Below.drew (Below.refl _ _) | exact below_drewN (by assumption) _ | exact Below.drew (by assumption)) hb9; clear hb9; have l1 := (hS9.cell (p := ⟨w.heap.size, 0, none⟩) z1).trans c5; have l2 := (hS9.cell (p := ⟨w.heap.size, 1, none⟩) z1).trans d5; have l3 := (hS9.cell (p := ⟨w3.heap.size, 0, none⟩) z2).trans x5; have l4 := (hS9.cell (p := ⟨w3.heap.size, 1, none⟩) z2).trans y5; have l5 := (hS9.cell (p := ⟨w4.heap.size, 0, none⟩) z3).trans p5; have l6 := (hS9.cell (p := ⟨w4.heap.size, 1, none⟩) z3).trans q5))
  all_goals
    go_wp2_with fail
    go_ret
    exact ⟨rfl, hB5.trans (bm2 hS9 (by omega))⟩
theorem texts_any (k n : Int) (s : ByteArray) (w : World) (hm : s.size ≤ maxLen) (hG : Glob w) : Calls Tryd.prog 8 #[.agg #[.int .i64 k, .int .i64 n], .string s] w fun e w' => e = .returned (.bool true) ∧ Below w.heap.size w w' := by
  by_cases h : s.size ≤ 40
  · exact texts_short k n s w h hG
  · exact texts_long k n s w (by omega) hm
end Go.Proofs.YtbhmmffompapdaaDoor

/- Walk of the law PlanSelections. -/
import Derived.Test.YtgnlanfpholdaaaDoorG2
import Derived.Test.YtgnlanfpholdaaaDoorG3
import Derived.Test.YtgnlanfpholdaaaDoorG4
import Derived.Deep.DrawnRows
namespace Go.Proofs.YtgnlanfpholdaaaDoor
open Go.RowKit
attribute [local go_sem ↓] Go.wp_at_zero Go.wp_at_succ
theorem bsz {W0 w' : World} {B : Nat} (h : Below W0.heap.size W0 w') (hb : B ≤ W0.heap.size) : B ≤ w'.heap.size := Nat.le_trans hb h.size
theorem carry {W W' : World} {v : Value} {xs : List Int} (hb : Below W.heap.size W W') (h : Ints W W.heap.size v xs) : Ints W' W'.heap.size v xs := (h.below hb).more hb.size
theorem eq_self (v1 v2 : Value) (xs : List Int) (w : World) (B1 B2 : Nat) (h1 : Ints w B1 v1 xs) (h2 : Ints w B2 v2 xs) : Calls Tryd.prog 18 #[v1, v2] w fun e w' => e = .returned (.bool true) ∧ Below w.heap.size w w' := by
  have := eq_any v1 v2 xs xs w B1 B2 h1 h2
  rwa [decide_eq_true rfl] at this
theorem eql_span (a b : Int) : ∀ w, (binOp .eql 31 (.agg #[.int .i64 a, .int .i64 b]) (.agg #[.int .i64 a, .int .i64 b])).run Tryd.prog w = .ok (.bool true) w := by
  intro w
  have h1 : (a == a) = true := by simp
  have h2 : (b == b) = true := by simp
  go_simp
set_option maxHeartbeats 4000000 in
theorem selections_small (qv cv : Value) (qs : List Int) (cs : List Con) (x y t : Int) (w : World) (hq : Ints w w.heap.size qv qs) (hc : Cons w w.heap.size cv cs) (hG : Glob w) (hg : greatB qs cs = false) : Calls Tryd.prog 4 #[.agg #[qv, cv], .int .i64 x, .int .i64 y, .int .i64 t] w fun e w' => e = .returned (.bool true) ∧ Below w.heap.size w w' := by
  have hq0 := hq
  have hc0 := hc
  obtain ⟨A1, c1, rfl, hc1, hm1, _⟩ := hq
  obtain ⟨A2, c2, rfl, hc2, hm2, _⟩ := hc
  have HG := Lib.hid hg
  clear hg
  have g1 : (planE qs cs == planE qs cs) = true := by simp
  have g2 : (horE qs cs == horE qs cs) = true := by simp
  go_enter Tryd.func4, Tryd.ntmps4
  go_wp2_with fail
  have b0 := PB.new w (.slice A1 qs.length c1) (.slice A2 cs.length c2) 25
  refine (great_any _ _ qs cs _ (b0.ints hq0) (b0.cons hc0)).mono ?_
  rw [HG.out]
  rintro e w1 ⟨rfl, hb1⟩
  have b1 := b0.below hb1
  have q0 := b1.two.c0
  have q1 := b1.two.c1
  have hl := b1.two.lt
  clear hb1
  go_wp2_with fail
  refine (hor_any _ _ qs cs _ (b1.ints hq0) (b1.cons hc0)).mono ?_
  unfold HorPost
  rintro e w2 ⟨rfl, hb2⟩
  clear q0 q1 hl
  have b2 := b1.below hb2
  have q0 := b2.two.c0
  have q1 := b2.two.c1
  have hl := b2.two.lt
  clear hb2
  generalize hhor : horF qs cs = hh
  obtain ⟨lo, hi⟩ := hh
  dsimp only
  go_wp2_with fail
  have b3 := b2.alloc (.cells #[.int .i64 lo, .int .i64 hi] 31)
  have x3 := Two.new w2 (.int .i64 lo) (.int .i64 hi) 31
  refine (rhor_any _ _ qs cs _ (b3.ints hq0) (b3.cons hc0)).mono ?_
  unfold HorPost
  rw [hhor]
  clear hhor
  rintro e w3 ⟨rfl, hb3⟩
  clear q0 q1 hl
  have b4 := b3.below hb3
  have x4 := x3.below hb3
  have q0 := b4.two.c0
  have q1 := b4.two.c1
  have hl := b4.two.lt
  dsimp only
  go_wp2_with fail
  have b5 := b4.alloc (.cells #[.int .i64 lo, .int .i64 hi] 31)
  have x5 := x4.below ((Below.refl _ w3).alloc (Nat.le_refl _) (.cells #[.int .i64 lo, .int .i64 hi] 31))
  have y5 := Two.new w3 (.int .i64 lo) (.int .i64 hi) 31
  clear hb3 q0 q1 hl x3 x4 b3 b4 b0
  generalize (w3.alloc (.cells #[.int .i64 lo, .int .i64 hi] 31)) = w4 at *
  generalize w2.heap.size = n3 at *
  generalize w3.heap.size = n4 at *
  have k0 := b5.two.c0
  have k1 := b5.two.c1
  have k2 := x5.c0
  have k3 := x5.c1
  have k4 := y5.c0
  have k5 := y5.c1
  have z0 := b5.two.lt
  have z3 := x5.lt
  have z4 := y5.lt
  have G := Lib.hid (hq0.below b5.bel)
  have GC := Lib.hid (hc0.below b5.bel)
  have GG := Lib.hid (b5.glob hG)
  have h8 : 8 ≤ w4.heap.size := GG.out.1
  have hbel := b5.bel
  have hW := Below.refl w4.heap.size w4
  have hee := eql_span lo hi
  clear x5 y5 b5 hq0 hc0
  go_region_held3 (fun w' => w'.cell? ⟨w.heap.size, 0, none⟩ = some (.slice A1 qs.length c1) ∧ w'.cell? ⟨w.heap.size, 1, none⟩ = some (.slice A2 cs.length c2) ∧ w'.cell? ⟨n3, 0, none⟩ = some (.int .i64 lo) ∧ w'.cell? ⟨n3, 1, none⟩ = some (.int .i64 hi) ∧ w'.cell? ⟨n4, 0, none⟩ = some (.int .i64 lo) ∧ w'.cell? ⟨n4, 1, none⟩ = some (.int .i64 hi) ∧ Below w4.heap.size w4 w') ((repeat' (with_reducible apply And.intro)) <;> first | assumption | (first | exact k0 | exact k1 | exact k2 | exact k3 | exact k4 | exact k5 | exact below_drewN (Below.refl _ _) _ | exact Below.drew (Below.refl _ _) | exact below_drewN (by assumption) _ | exact Below.drew (by assumption)))
    (first
     | (go_at_call 12; go_split_ands; refine (pcheck_any _ _ qs cs _ ((G.out.below (bm (by first | assumption | exact below_drewN (Below.refl _ _) _ | exact Below.drew (Below.refl _ _) | exact below_drewN (by assumption) _ | exact Below.drew (by assumption)) (by omega))).more (bsz (W0 := w4) (by first | assumption | exact below_drewN (Below.refl _ _) _ | exact Below.drew (Below.refl _ _) | exact below_drewN (by assumption) _ | exact Below.drew (by assumption)) (by omega))) ((GC.out.below (bm (by first | assumption | exact below_drewN (Below.refl _ _) _ | exact Below.drew (Below.refl _ _) | exact below_drewN (by assumption) _ | exact Below.drew (by assumption)) (by omega))).more (bsz (W0 := w4) (by first | assumption | exact below_drewN (Below.refl _ _) _ | exact Below.drew (Below.refl _ _) | exact below_drewN (by assumption) _ | exact Below.drew (by assumption)) (by omega)))).mono ?_; rintro e w5 ⟨rfl, hb5⟩; have hS5 := bt (W0 := w4) (by first | assumption | exact below_drewN (Below.refl _ _) _ | exact Below.drew (Below.refl _ _) | exact below_drewN (by assumption) _ | exact Below.drew (by assumption)) hb5; have d50 := (hS5.cell (p := ⟨w.heap.size, 0, none⟩) z0).trans k0; have d51 := (hS5.cell (p := ⟨w.heap.size, 1, none⟩) z0).trans k1; have d52 := (hS5.cell (p := ⟨n3, 0, none⟩) z3).trans k2; have d53 := (hS5.cell (p := ⟨n3, 1, none⟩) z3).trans k3; have d54 := (hS5.cell (p := ⟨n4, 0, none⟩) z4).trans k4; have d55 := (hS5.cell (p := ⟨n4, 1, none⟩) z4).trans k5; skip)
     | (go_at_call 17; go_split_ands; refine (rpcheck_any _ _ qs cs _ ((G.out.below (bm (by first | assumption | exact below_drewN (Below.refl _ _) _ | exact Below.drew (Below.refl _ _) | exact below_drewN (by assumption) _ | exact Below.drew (by assumption)) (by omega))).more (bsz (W0 := w4) (by first | assumption | exact below_drewN (Below.refl _ _) _ | exact Below.drew (Below.refl _ _) | exact below_drewN (by assumption) _ | exact Below.drew (by assumption)) (by omega))) ((GC.out.below (bm (by first | assumption | exact below_drewN (Below.refl _ _) _ | exact Below.drew (Below.refl _ _) | exact below_drewN (by assumption) _ | exact Below.drew (by assumption)) (by omega))).more (bsz (W0 := w4) (by first | assumption | exact below_drewN (Below.refl _ _) _ | exact Below.drew (Below.refl _ _) | exact below_drewN (by assumption) _ | exact Below.drew (by assumption)) (by omega)))).mono ?_; rintro e w6 ⟨rfl, hb6⟩; have hS6 := bt (W0 := w4) (by first | assumption | exact below_drewN (Below.refl _ _) _ | exact Below.drew (Below.refl _ _) | exact below_drewN (by assumption) _ | exact Below.drew (by assumption)) hb6; have d60 := (hS6.cell (p := ⟨w.heap.size, 0, none⟩) z0).trans k0; have d61 := (hS6.cell (p := ⟨w.heap.size, 1, none⟩) z0).trans k1; have d62 := (hS6.cell (p := ⟨n3, 0, none⟩) z3).trans k2; have d63 := (hS6.cell (p := ⟨n3, 1, none⟩) z3).trans k3; have d64 := (hS6.cell (p := ⟨n4, 0, none⟩) z4).trans k4; have d65 := (hS6.cell (p := ⟨n4, 1, none⟩) z4).trans k5; skip)
     | (go_at_call 19; go_split_ands; refine (from_any _ _ qs cs _ _ ((G.out.below (bm (by first | assumption | exact below_drewN (Below.refl _ _) _ | exact Below.drew (Below.refl _ _) | exact below_drewN (by assumption) _ | exact Below.drew (by assumption)) (by omega))).more (bsz (W0 := w4) (by first | assumption | exact below_drewN (Below.refl _ _) _ | exact Below.drew (Below.refl _ _) | exact below_drewN (by assumption) _ | exact Below.drew (by assumption)) (by omega))) ((GC.out.below (bm (by first | assumption | exact below_drewN (Below.refl _ _) _ | exact Below.drew (Below.refl _ _) | exact below_drewN (by assumption) _ | exact Below.drew (by assumption)) (by omega))).more (bsz (W0 := w4) (by first | assumption | exact below_drewN (Below.refl _ _) _ | exact Below.drew (Below.refl _ _) | exact below_drewN (by assumption) _ | exact Below.drew (by assumption)) (by omega)))).mono ?_; rintro e w7 ⟨rav, rfl, ra, hb7⟩; have hS7 := bt (W0 := w4) (by first | assumption | exact below_drewN (Below.refl _ _) _ | exact Below.drew (Below.refl _ _) | exact below_drewN (by assumption) _ | exact Below.drew (by assumption)) hb7; have d70 := (hS7.cell (p := ⟨w.heap.size, 0, none⟩) z0).trans k0; have d71 := (hS7.cell (p := ⟨w.heap.size, 1, none⟩) z0).trans k1; have d72 := (hS7.cell (p := ⟨n3, 0, none⟩) z3).trans k2; have d73 := (hS7.cell (p := ⟨n3, 1, none⟩) z3).trans k3; have d74 := (hS7.cell (p := ⟨n4, 0, none⟩) z4).trans k4; have d75 := (hS7.cell (p := ⟨n4, 1, none⟩) z4).trans k5; (try (replace rb := carry hb7 rb)); skip)
     | (go_at_call 20; go_split_ands; refine (rfrom_any _ _ qs cs _ _ ((G.out.below (bm (by first | assumption | exact below_drewN (Below.refl _ _) _ | exact Below.drew (Below.refl _ _) | exact below_drewN (by assumption) _ | exact Below.drew (by assumption)) (by omega))).more (bsz (W0 := w4) (by first | assumption | exact below_drewN (Below.refl _ _) _ | exact Below.drew (Below.refl _ _) | exact below_drewN (by assumption) _ | exact Below.drew (by assumption)) (by omega))) ((GC.out.below (bm (by first | assumption | exact below_drewN (Below.refl _ _) _ | exact Below.drew (Below.refl _ _) | exact below_drewN (by assumption) _ | exact Below.drew (by assumption)) (by omega))).more (bsz (W0 := w4) (by first | assumption | exact below_drewN (Below.refl _ _) _ | exact Below.drew (Below.refl _ _) | exact below_drewN (by assumption) _ | exact Below.drew (by assumption)) (by omega)))).mono ?_; rintro e w8 ⟨rbv, rfl, rb, hb8⟩; have hS8 := bt (W0 := w4) (by first | assumption | exact below_drewN (Below.refl _ _) _ | exact Below.drew (Below.refl _ _) | exact below_drewN (by assumption) _ | exact Below.drew (by assumption)) hb8; have d80 := (hS8.cell (p := ⟨w.heap.size, 0, none⟩) z0).trans k0; have d81 := (hS8.cell (p := ⟨w.heap.size, 1, none⟩) z0).trans k1; have d82 := (hS8.cell (p := ⟨n3, 0, none⟩) z3).trans k2; have d83 := (hS8.cell (p := ⟨n3, 1, none⟩) z3).trans k3; have d84 := (hS8.cell (p := ⟨n4, 0, none⟩) z4).trans k4; have d85 := (hS8.cell (p := ⟨n4, 1, none⟩) z4).trans k5; (try (replace ra := carry hb8 ra)); skip)
     | (go_at_call 21; go_split_ands; refine (bet_any _ _ qs cs _ _ _ ((G.out.below (bm (by first | assumption | exact below_drewN (Below.refl _ _) _ | exact Below.drew (Below.refl _ _) | exact below_drewN (by assumption) _ | exact Below.drew (by assumption)) (by omega))).more (bsz (W0 := w4) (by first | assumption | exact below_drewN (Below.refl _ _) _ | exact Below.drew (Below.refl _ _) | exact below_drewN (by assumption) _ | exact Below.drew (by assumption)) (by omega))) ((GC.out.below (bm (by first | assumption | exact below_drewN (Below.refl _ _) _ | exact Below.drew (Below.refl _ _) | exact below_drewN (by assumption) _ | exact Below.drew (by assumption)) (by omega))).more (bsz (W0 := w4) (by first | assumption | exact below_drewN (Below.refl _ _) _ | exact Below.drew (Below.refl _ _) | exact below_drewN (by assumption) _ | exact Below.drew (by assumption)) (by omega)))).mono ?_; rintro e w7 ⟨rav, rfl, ra, hb7⟩; have hS7 := bt (W0 := w4) (by first | assumption | exact below_drewN (Below.refl _ _) _ | exact Below.drew (Below.refl _ _) | exact below_drewN (by assumption) _ | exact Below.drew (by assumption)) hb7; have d70 := (hS7.cell (p := ⟨w.heap.size, 0, none⟩) z0).trans k0; have d71 := (hS7.cell (p := ⟨w.heap.size, 1, none⟩) z0).trans k1; have d72 := (hS7.cell (p := ⟨n3, 0, none⟩) z3).trans k2; have d73 := (hS7.cell (p := ⟨n3, 1, none⟩) z3).trans k3; have d74 := (hS7.cell (p := ⟨n4, 0, none⟩) z4).trans k4; have d75 := (hS7.cell (p := ⟨n4, 1, none⟩) z4).trans k5; (try (replace rb := carry hb7 rb)); skip)
     | (go_at_call 22; go_split_ands; refine (rbet_any _ _ qs cs _ _ _ ((G.out.below (bm (by first | assumption | exact below_drewN (Below.refl _ _) _ | exact Below.drew (Below.refl _ _) | exact below_drewN (by assumption) _ | exact Below.drew (by assumption)) (by omega))).more (bsz (W0 := w4) (by first | assumption | exact below_drewN (Below.refl _ _) _ | exact Below.drew (Below.refl _ _) | exact below_drewN (by assumption) _ | exact Below.drew (by assumption)) (by omega))) ((GC.out.below (bm (by first | assumption | exact below_drewN (Below.refl _ _) _ | exact Below.drew (Below.refl _ _) | exact below_drewN (by assumption) _ | exact Below.drew (by assumption)) (by omega))).more (bsz (W0 := w4) (by first | assumption | exact below_drewN (Below.refl _ _) _ | exact Below.drew (Below.refl _ _) | exact below_drewN (by assumption) _ | exact Below.drew (by assumption)) (by omega)))).mono ?_; rintro e w8 ⟨rbv, rfl, rb, hb8⟩; have hS8 := bt (W0 := w4) (by first | assumption | exact below_drewN (Below.refl _ _) _ | exact Below.drew (Below.refl _ _) | exact below_drewN (by assumption) _ | exact Below.drew (by assumption)) hb8; have d80 := (hS8.cell (p := ⟨w.heap.size, 0, none⟩) z0).trans k0; have d81 := (hS8.cell (p := ⟨w.heap.size, 1, none⟩) z0).trans k1; have d82 := (hS8.cell (p := ⟨n3, 0, none⟩) z3).trans k2; have d83 := (hS8.cell (p := ⟨n3, 1, none⟩) z3).trans k3; have d84 := (hS8.cell (p := ⟨n4, 0, none⟩) z4).trans k4; have d85 := (hS8.cell (p := ⟨n4, 1, none⟩) z4).trans k5; (try (replace ra := carry hb8 ra)); skip)
     | (go_at_call 15; go_split_ands; refine (act_any _ _ qs cs _ _ ((G.out.below (bm (by first | assumption | exact below_drewN (Below.refl _ _) _ | exact Below.drew (Below.refl _ _) | exact below_drewN (by assumption) _ | exact Below.drew (by assumption)) (by omega))).more (bsz (W0 := w4) (by first | assumption | exact below_drewN (Below.refl _ _) _ | exact Below.drew (Below.refl _ _) | exact below_drewN (by assumption) _ | exact Below.drew (by assumption)) (by omega))) ((GC.out.below (bm (by first | assumption | exact below_drewN (Below.refl _ _) _ | exact Below.drew (Below.refl _ _) | exact below_drewN (by assumption) _ | exact Below.drew (by assumption)) (by omega))).more (bsz (W0 := w4) (by first | assumption | exact below_drewN (Below.refl _ _) _ | exact Below.drew (Below.refl _ _) | exact below_drewN (by assumption) _ | exact Below.drew (by assumption)) (by omega)))).mono ?_; rintro e w7 ⟨rav, rfl, ra, hb7⟩; have hS7 := bt (W0 := w4) (by first | assumption | exact below_drewN (Below.refl _ _) _ | exact Below.drew (Below.refl _ _) | exact below_drewN (by assumption) _ | exact Below.drew (by assumption)) hb7; have d70 := (hS7.cell (p := ⟨w.heap.size, 0, none⟩) z0).trans k0; have d71 := (hS7.cell (p := ⟨w.heap.size, 1, none⟩) z0).trans k1; have d72 := (hS7.cell (p := ⟨n3, 0, none⟩) z3).trans k2; have d73 := (hS7.cell (p := ⟨n3, 1, none⟩) z3).trans k3; have d74 := (hS7.cell (p := ⟨n4, 0, none⟩) z4).trans k4; have d75 := (hS7.cell (p := ⟨n4, 1, none⟩) z4).trans k5; (try (replace rb := carry hb7 rb)); skip)
     | (go_at_call 23; go_split_ands; refine (ractive_any _ _ qs cs _ _ ((G.out.below (bm (by first | assumption | exact below_drewN (Below.refl _ _) _ | exact Below.drew (Below.refl _ _) | exact below_drewN (by assumption) _ | exact Below.drew (by assumption)) (by omega))).more (bsz (W0 := w4) (by first | assumption | exact below_drewN (Below.refl _ _) _ | exact Below.drew (Below.refl _ _) | exact below_drewN (by assumption) _ | exact Below.drew (by assumption)) (by omega))) ((GC.out.below (bm (by first | assumption | exact below_drewN (Below.refl _ _) _ | exact Below.drew (Below.refl _ _) | exact below_drewN (by assumption) _ | exact Below.drew (by assumption)) (by omega))).more (bsz (W0 := w4) (by first | assumption | exact below_drewN (Below.refl _ _) _ | exact Below.drew (Below.refl _ _) | exact below_drewN (by assumption) _ | exact Below.drew (by assumption)) (by omega)))).mono ?_; rintro e w8 ⟨rbv, rfl, rb, hb8⟩; have hS8 := bt (W0 := w4) (by first | assumption | exact below_drewN (Below.refl _ _) _ | exact Below.drew (Below.refl _ _) | exact below_drewN (by assumption) _ | exact Below.drew (by assumption)) hb8; have d80 := (hS8.cell (p := ⟨w.heap.size, 0, none⟩) z0).trans k0; have d81 := (hS8.cell (p := ⟨w.heap.size, 1, none⟩) z0).trans k1; have d82 := (hS8.cell (p := ⟨n3, 0, none⟩) z3).trans k2; have d83 := (hS8.cell (p := ⟨n3, 1, none⟩) z3).trans k3; have d84 := (hS8.cell (p := ⟨n4, 0, none⟩) z4).trans k4; have d85 := (hS8.cell (p := ⟨n4, 1, none⟩) z4).trans k5; (try (replace ra := carry hb8 ra)); skip)
     | (go_at_call 18; go_split_ands; refine (eq_self _ _ _ _ _ _ ra rb).mono ?_; rintro e w9 ⟨rfl, hb9⟩; have hS9 := bt (W0 := w4) (by first | assumption | exact below_drewN (Below.refl _ _) _ | exact Below.drew (Below.refl _ _) | exact below_drewN (by assumption) _ | exact Below.drew (by assumption)) hb9; have d90 := (hS9.cell (p := ⟨w.heap.size, 0, none⟩) z0).trans k0; have d91 := (hS9.cell (p := ⟨w.heap.size, 1, none⟩) z0).trans k1; have d92 := (hS9.cell (p := ⟨n3, 0, none⟩) z3).trans k2; have d93 := (hS9.cell (p := ⟨n3, 1, none⟩) z3).trans k3; have d94 := (hS9.cell (p := ⟨n4, 0, none⟩) z4).trans k4; have d95 := (hS9.cell (p := ⟨n4, 1, none⟩) z4).trans k5; clear ra rb; skip)
     | (go_at_call 13; go_split_ands; refine (awake_any _ (GG.out.below (bm (by first | assumption | exact below_drewN (Below.refl _ _) _ | exact Below.drew (Below.refl _ _) | exact below_drewN (by assumption) _ | exact Below.drew (by assumption)) (by omega)) h8)).mono ?_; rintro e w9 ⟨rfl, hb9⟩; have hS9 := bt (W0 := w4) (by first | assumption | exact below_drewN (Below.refl _ _) _ | exact Below.drew (Below.refl _ _) | exact below_drewN (by assumption) _ | exact Below.drew (by assumption)) hb9; have d90 := (hS9.cell (p := ⟨w.heap.size, 0, none⟩) z0).trans k0; have d91 := (hS9.cell (p := ⟨w.heap.size, 1, none⟩) z0).trans k1; have d92 := (hS9.cell (p := ⟨n3, 0, none⟩) z3).trans k2; have d93 := (hS9.cell (p := ⟨n3, 1, none⟩) z3).trans k3; have d94 := (hS9.cell (p := ⟨n4, 0, none⟩) z4).trans k4; have d95 := (hS9.cell (p := ⟨n4, 1, none⟩) z4).trans k5; skip))
  all_goals
    go_wp2_with fail
    go_ret
    exact ⟨rfl, hbel.trans (bm hS9 (by omega))⟩
set_option maxHeartbeats 1000000 in
theorem selections_great (qv cv : Value) (qs : List Int) (cs : List Con) (x y t : Int) (w : World) (hq : Ints w w.heap.size qv qs) (hc : Cons w w.heap.size cv cs) (hG : Glob w) (hg : greatB qs cs = true) : Calls Tryd.prog 4 #[.agg #[qv, cv], .int .i64 x, .int .i64 y, .int .i64 t] w fun e w' => e = .returned (.bool true) ∧ Below w.heap.size w w' := by
  have hq0 := hq
  have hc0 := hc
  obtain ⟨A1, c1, rfl, hc1, hm1, _⟩ := hq
  obtain ⟨A2, c2, rfl, hc2, hm2, _⟩ := hc
  have HG := Lib.hid hg
  clear hg
  go_enter Tryd.func4, Tryd.ntmps4
  go_wp2_with fail
  have b0 := PB.new w (.slice A1 qs.length c1) (.slice A2 cs.length c2) 25
  refine (great_any _ _ qs cs _ (b0.ints hq0) (b0.cons hc0)).mono ?_
  rw [HG.out]
  rintro e w1 ⟨rfl, hb1⟩
  have b1 := b0.below hb1
  have q0 := b1.two.c0
  have q1 := b1.two.c1
  have hl := b1.two.lt
  clear hb1
  go_wp2_with fail
  refine (awake_any _ (b1.glob hG)).mono ?_
  rintro e w2 ⟨rfl, hb2⟩
  have b2 := b1.below hb2
  go_wp2_with fail
  go_ret
  exact ⟨rfl, b2.bel⟩
theorem selections_any (qv cv : Value) (qs : List Int) (cs : List Con) (x y t : Int) (w : World) (hq : Ints w w.heap.size qv qs) (hc : Cons w w.heap.size cv cs) (hG : Glob w) : Calls Tryd.prog 4 #[.agg #[qv, cv], .int .i64 x, .int .i64 y, .int .i64 t] w fun e w' => e = .returned (.bool true) ∧ Below w.heap.size w w' := by
  cases h : greatB qs cs
  · exact selections_small qv cv qs cs x y t w hq hc hG h
  · exact selections_great qv cv qs cs x y t w hq hc hG h
end Go.Proofs.YtgnlanfpholdaaaDoor

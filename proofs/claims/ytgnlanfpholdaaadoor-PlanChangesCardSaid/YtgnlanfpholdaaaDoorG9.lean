/- With. -/
import Derived.Test.YtgnlanfpholdaaaDoorG8
namespace Go.Proofs.YtgnlanfpholdaaaDoor
open Go.RowKit
section
variable {P : Program} {ops : Array Oper} {Q : Exit → Act → World → Prop} {md : Region.Mode} {S : World → Prop} {k : Nat}
theorem wpAnyK_two {i j : Nat} {oi oj : Oper} {fuel : Nat} {listed : Array Bool} {a : Act} {w : World} (hr : Region.ready md ops listed = [i, j]) (hi : ops[i]? = some oi) (hj : ops[j]? = some oj)
    (h1 : ∀ K' : Act → World → Prop, Shut (∀ a w, (i = k ∨ S w) → wpAnyK P md ops Q S k fuel (listed.setIfInBounds i true) a w → K' a w) → if Region.wanted oi (yielded ops a.tmps) = true then Oper.wp P oi a w K' Q else K' (a.put oi.dst undef) w)
    (h2 : ∀ K' : Act → World → Prop, Shut (∀ a w, (j = k ∨ S w) → wpAnyK P md ops Q S k fuel (listed.setIfInBounds j true) a w → K' a w) → if Region.wanted oj (yielded ops a.tmps) = true then Oper.wp P oj a w K' Q else K' (a.put oj.dst undef) w) :
    wpAnyK P md ops Q S k (fuel + 1) listed a w := by
  refine ⟨fun h0 => (by rw [hr] at h0; cases h0), ?_⟩
  rw [hr]
  intro n hn
  rcases List.mem_cons.1 hn with rfl | hn
  · exact wpOp_step hi (fun K' hK => h1 K' (fun a w hS hW => hK a w ⟨hS, hW⟩))
  · rw [List.mem_singleton.1 hn]
    exact wpOp_step hj (fun K' hK => h2 K' (fun a w hS hW => hK a w ⟨hS, hW⟩))
end
theorem own_more {w : World} {B B' : Nat} {e : TypeId} {size : Nat} {v : Value} {n : Nat} {xs : List Value} (h : w.ownsRow B e size v n xs) (hB : B' ≤ B) : w.ownsRow B' e size v n xs := by
  refine ⟨h.1, ?_⟩
  rcases h.2 with h0 | ⟨g, cap, cur, e1, hb, r⟩
  · exact .inl h0
  · exact .inr ⟨g, cap, cur, e1, Nat.le_trans hB hb, r⟩
theorem conAt_two {W : World} {g o m : Nat} {c : Con} (h : ConAt W g o c) (hne : g ≠ m) (x y : Value) : ConAt ((W.setCell ⟨m, 0, none⟩ x).setCell ⟨m, 1, none⟩ y) g o c :=
  conAt_of fun k hk => by
    rw [World.cell?_setCell_other _ _ _ _ (by simp []), World.cell?_setCell_other _ _ _ _ (by simp [])]
    exact conAt_get h k hk
theorem cons_two {W : World} {B g n cap m : Nat} {cs : List Con} (h : Cons W B (.slice (some ⟨g, 0, none⟩) n cap) cs) (hne : g ≠ m) (x y : Value) : Cons ((W.setCell ⟨m, 0, none⟩ x).setCell ⟨m, 1, none⟩ y) B (.slice (some ⟨g, 0, none⟩) n cap) cs := by
  obtain ⟨A, c, e, h1, h2, h3⟩ := h
  refine ⟨A, c, e, h1, h2, fun hp => ?_⟩
  obtain ⟨b, o, e1, h4, h5⟩ := h3 hp
  subst e1
  cases e
  exact ⟨g, 0, rfl, h4, fun j hj => conAt_two (h5 j hj) hne x y⟩
/-- what With answers -/
def withR (qs : List Int) (cs : List Con) (c : Con) : List Int × List Con × Int :=
  if planE qs cs ≠ 0 then ([], [], 1) else if planE qs (cs ++ [c]) ≠ 0 then ([], [], planE qs (cs ++ [c])) else (qs, cs ++ [c], 0)
def PlanPost (R : List Int × List Con × Int) (w : World) (e : Ending) (w' : World) : Prop :=
  ∃ qv cv, e = .returned (.tuple #[.agg #[qv, cv], .int .i64 R.2.2]) ∧ Ints w' w'.heap.size qv R.1 ∧ Cons w' w'.heap.size cv R.2.1 ∧ Below w.heap.size w w'
/-- the box of the plan, with another list of contacts, and the result's block -/
structure WI (w W : World) (n : Nat) (qv V : Value) (cs : List Con) : Prop where
  two : Two w.heap.size qv V W
  res : Two n (.slice none 0 0) (.slice none 0 0) W
  f0 : W.frozen? ⟨n, 0, none⟩ = false
  f1 : W.frozen? ⟨n, 1, none⟩ = false
  bel : Below w.heap.size w W
  con : Cons W W.heap.size V cs
theorem WI.below {w W W' : World} {n : Nat} {qv V : Value} {cs : List Con} (h : WI w W n qv V cs) (hb : Below W.heap.size W W') : WI w W' n qv V cs :=
  ⟨h.two.below hb, h.res.below hb, (hb.frozen (p := ⟨n, 0, none⟩) h.res.lt).trans h.f0, (hb.frozen (p := ⟨n, 1, none⟩) h.res.lt).trans h.f1, h.bel.trans (hb.mono h.bel.size), (h.con.below hb).more hb.size⟩
theorem with_world {w w1 w3 : World} {n : Nat} {qv cv V : Value} {cs : List Con} (h : Two w.heap.size qv cv w1) (hr : Two n (.slice none 0 0) (.slice none 0 0) w1) (f0 : w1.frozen? ⟨n, 0, none⟩ = false) (f1 : w1.frozen? ⟨n, 1, none⟩ = false) (hne : n ≠ w.heap.size) (hb : Below w.heap.size w w1) (h3 : Below w1.heap.size w1 w3) (ho : w3.ownsRow w1.heap.size 40 7 V cs.length (conCells cs)) :
    WI w (w3.setCell ⟨w.heap.size, 1, none⟩ V) n qv V cs := by
  have t3 := h.below h3
  have r3 := hr.below h3
  refine ⟨⟨by simpa using t3.lt, (World.cell?_setCell_other _ _ _ _ (by simp)).trans t3.c0, World.cell?_setCell_same _ _ _ t3.c1⟩, ⟨by simpa using r3.lt, (World.cell?_setCell_other _ _ _ _ (by simp [])).trans r3.c0, (World.cell?_setCell_other _ _ _ _ (by simp [])).trans r3.c1⟩, ?_, ?_, ?_, ?_⟩
  · rw [World.frozen?_setCell]; exact (h3.frozen (p := ⟨n, 0, none⟩) hr.lt).trans f0
  · rw [World.frozen?_setCell]; exact (h3.frozen (p := ⟨n, 1, none⟩) hr.lt).trans f1
  · exact (hb.trans (h3.mono hb.size)).setCell (p := ⟨w.heap.size, 1, none⟩) (Nat.le_refl _) _
  · refine cons_of_own (ownsRow_setCell_other ho (a := ⟨w.heap.size, 1, none⟩) (fun e => ?_) V)
    have h1 : w1.heap.size ≤ w.heap.size := (ho.lt _ e).1
    have := h.lt
    omega
set_option maxHeartbeats 4000000 in
theorem with_bad (qv cv : Value) (qs : List Int) (cs : List Con) (c : Con) (w : World) (hq : Ints w w.heap.size qv qs) (hc : Cons w w.heap.size cv cs) (hE : planE qs cs ≠ 0) : Calls Tryd.prog 36 #[.agg #[qv, cv], .agg #[.int .i64 c.a, .int .i64 c.b, .int .i64 c.s, .int .i64 c.e, .int .i64 c.r, .int .i64 c.g, .int .i64 c.l]] w (PlanPost (withR qs cs c) w) := by
  have HR : Hid (withR qs cs c = ([], [], 1)) := by show _ = _; rw [withR, if_pos hE]
  have hEb : (planE qs cs != 0) = true := by simpa using hE
  clear hE
  have hq0 := hq
  have hc0 := hc
  obtain ⟨A1, c1, rfl, hc1, hm1, _⟩ := hq
  obtain ⟨A2, c2, rfl, hc2, hm2, hA2⟩ := hc
  clear hA2
  go_enter Tryd.func36, Tryd.ntmps36
  go_wp2_with fail
  refine (pcheck_any _ _ qs cs _ ((hq0.below (by (repeat' (first | (with_reducible exact Below.refl _ _) | (with_reducible refine Below.alloc ?_ ?_ _) | (with_reducible refine Below.drew ?_) | (with_reducible refine below_drewN ?_ _) | (with_reducible refine Below.setCell ?_ ?_ _) | (with_reducible refine Below.trans ?_ (Below.mono (by assumption) ?_)) | (with_reducible exact Nat.le_refl _) | omega | (simp; omega) | (simp; done))))).more (by (first | omega | (simp; done) | (simp; omega)))) ((hc0.below (by (repeat' (first | (with_reducible exact Below.refl _ _) | (with_reducible refine Below.alloc ?_ ?_ _) | (with_reducible refine Below.drew ?_) | (with_reducible refine below_drewN ?_ _) | (with_reducible refine Below.setCell ?_ ?_ _) | (with_reducible refine Below.trans ?_ (Below.mono (by assumption) ?_)) | (with_reducible exact Nat.le_refl _) | omega | (simp; omega) | (simp; done))))).more (by (first | omega | (simp; done) | (simp; omega))))).mono ?_
  rintro e w1 ⟨rfl, hb1⟩
  have hW1 : Below (w.heap.size + 1 + 1 + 1) (((w.alloc (.cells #[.slice A1 qs.length c1, .slice A2 cs.length c2] 25)).alloc (.cells #[.int .i64 c.a, .int .i64 c.b, .int .i64 c.s, .int .i64 c.e, .int .i64 c.r, .int .i64 c.g, .int .i64 c.l] 40)).alloc (.cells #[.slice none 0 0, .slice none 0 0] 25)) w1 := hb1.mono (by simp)
  have hB1 : Below w.heap.size w w1 := by (repeat' (first | (with_reducible exact Below.refl _ _) | (with_reducible refine Below.alloc ?_ ?_ _) | (with_reducible refine Below.drew ?_) | (with_reducible refine below_drewN ?_ _) | (with_reducible refine Below.setCell ?_ ?_ _) | (with_reducible refine Below.trans ?_ (Below.mono (by assumption) ?_)) | (with_reducible exact Nat.le_refl _) | omega | (simp; omega) | (simp; done)))
  have tb : Two w.heap.size (.slice A1 qs.length c1) (.slice A2 cs.length c2) w1 := Two.below (W := ((w.alloc (.cells #[.slice A1 qs.length c1, .slice A2 cs.length c2] 25)).alloc (.cells #[.int .i64 c.a, .int .i64 c.b, .int .i64 c.s, .int .i64 c.e, .int .i64 c.r, .int .i64 c.g, .int .i64 c.l] 40)).alloc (.cells #[.slice none 0 0, .slice none 0 0] 25)) ⟨by simp; omega, by simp [go_sem], by simp [go_sem]⟩ hb1
  have tr : Two (w.heap.size + 1 + 1) (.slice none 0 0) (.slice none 0 0) w1 := Two.below (W := ((w.alloc (.cells #[.slice A1 qs.length c1, .slice A2 cs.length c2] 25)).alloc (.cells #[.int .i64 c.a, .int .i64 c.b, .int .i64 c.s, .int .i64 c.e, .int .i64 c.r, .int .i64 c.g, .int .i64 c.l] 40)).alloc (.cells #[.slice none 0 0, .slice none 0 0] 25)) ⟨by simp, by simp [go_sem], by simp [go_sem]⟩ hb1
  have FB : Hid (w1.frozen? ⟨w.heap.size, 1, none⟩ = false) := (hW1.frozen (p := ⟨w.heap.size, 1, none⟩) (by show w.heap.size < _; omega)).trans (by simp [go_sem])
  have f0 : w1.frozen? ⟨w.heap.size + 1 + 1, 0, none⟩ = false := (hW1.frozen (p := ⟨w.heap.size + 1 + 1, 0, none⟩) (by show w.heap.size + 1 + 1 < _; omega)).trans (by simp [go_sem])
  have f1 : w1.frozen? ⟨w.heap.size + 1 + 1, 1, none⟩ = false := (hW1.frozen (p := ⟨w.heap.size + 1 + 1, 1, none⟩) (by show w.heap.size + 1 + 1 < _; omega)).trans (by simp [go_sem])
  have r0 := tr.c0
  have r1 := tr.c1
  clear hW1 hb1
  go_wp2_with fail
  obtain ⟨t0, t1⟩ := two_cells r0 r1 (.slice none 0 0) (.slice none 0 0)
  have hB5 := below_two hB1 (show w.heap.size ≤ w.heap.size + 1 + 1 by omega) (.slice none 0 0) (.slice none 0 0)
  generalize ((w1.setCell ⟨w.heap.size + 1 + 1, 0, none⟩ (.slice none 0 0)).setCell ⟨w.heap.size + 1 + 1, 1, none⟩ (.slice none 0 0)) = w5 at *
  refine bodyPost_ret (v := .tuple #[.agg #[.slice none 0 0, .slice none 0 0], .int .i64 1]) (by simp [results, Tryd.results36, go_sem, t0, t1]) rfl ⟨_, _, by rw [HR.out], by rw [HR.out]; exact ints_nil _ _, by rw [HR.out]; exact cons_nil _ _, hB5⟩
set_option maxHeartbeats 4000000 in
set_option maxRecDepth 100000 in
theorem with_good (qv cv : Value) (qs : List Int) (cs : List Con) (c : Con) (w : World) (hq : Ints w w.heap.size qv qs) (hc : Cons w w.heap.size cv cs) (hE : planE qs cs = 0) : Calls Tryd.prog 36 #[.agg #[qv, cv], .agg #[.int .i64 c.a, .int .i64 c.b, .int .i64 c.s, .int .i64 c.e, .int .i64 c.r, .int .i64 c.g, .int .i64 c.l]] w (PlanPost (withR qs cs c) w) := by
  have hlen := (planE_len hE).2.2
  have HE := Lib.hid hE
  clear hE
  have hq0 := hq
  have hc0 := hc
  obtain ⟨A1, c1, rfl, hc1, hm1, _⟩ := hq
  obtain ⟨A2, c2, rfl, hc2, hm2, hA2⟩ := hc
  clear hA2
  go_enter Tryd.func36, Tryd.ntmps36
  go_wp2_with fail
  refine (pcheck_any _ _ qs cs _ ((hq0.below (by (repeat' (first | (with_reducible exact Below.refl _ _) | (with_reducible refine Below.alloc ?_ ?_ _) | (with_reducible refine Below.drew ?_) | (with_reducible refine below_drewN ?_ _) | (with_reducible refine Below.setCell ?_ ?_ _) | (with_reducible refine Below.trans ?_ (Below.mono (by assumption) ?_)) | (with_reducible exact Nat.le_refl _) | omega | (simp; omega) | (simp; done))))).more (by (first | omega | (simp; done) | (simp; omega)))) ((hc0.below (by (repeat' (first | (with_reducible exact Below.refl _ _) | (with_reducible refine Below.alloc ?_ ?_ _) | (with_reducible refine Below.drew ?_) | (with_reducible refine below_drewN ?_ _) | (with_reducible refine Below.setCell ?_ ?_ _) | (with_reducible refine Below.trans ?_ (Below.mono (by assumption) ?_)) | (with_reducible exact Nat.le_refl _) | omega | (simp; omega) | (simp; done))))).more (by (first | omega | (simp; done) | (simp; omega))))).mono ?_
  rw [HE.out]
  rintro e w1 ⟨rfl, hb1⟩
  have hW1 : Below (w.heap.size + 1 + 1 + 1) (((w.alloc (.cells #[.slice A1 qs.length c1, .slice A2 cs.length c2] 25)).alloc (.cells #[.int .i64 c.a, .int .i64 c.b, .int .i64 c.s, .int .i64 c.e, .int .i64 c.r, .int .i64 c.g, .int .i64 c.l] 40)).alloc (.cells #[.slice none 0 0, .slice none 0 0] 25)) w1 := hb1.mono (by simp)
  have hB1 : Below w.heap.size w w1 := by (repeat' (first | (with_reducible exact Below.refl _ _) | (with_reducible refine Below.alloc ?_ ?_ _) | (with_reducible refine Below.drew ?_) | (with_reducible refine below_drewN ?_ _) | (with_reducible refine Below.setCell ?_ ?_ _) | (with_reducible refine Below.trans ?_ (Below.mono (by assumption) ?_)) | (with_reducible exact Nat.le_refl _) | omega | (simp; omega) | (simp; done)))
  have tb : Two w.heap.size (.slice A1 qs.length c1) (.slice A2 cs.length c2) w1 := Two.below (W := ((w.alloc (.cells #[.slice A1 qs.length c1, .slice A2 cs.length c2] 25)).alloc (.cells #[.int .i64 c.a, .int .i64 c.b, .int .i64 c.s, .int .i64 c.e, .int .i64 c.r, .int .i64 c.g, .int .i64 c.l] 40)).alloc (.cells #[.slice none 0 0, .slice none 0 0] 25)) ⟨by simp; omega, by simp [go_sem], by simp [go_sem]⟩ hb1
  have tr : Two (w.heap.size + 1 + 1) (.slice none 0 0) (.slice none 0 0) w1 := Two.below (W := ((w.alloc (.cells #[.slice A1 qs.length c1, .slice A2 cs.length c2] 25)).alloc (.cells #[.int .i64 c.a, .int .i64 c.b, .int .i64 c.s, .int .i64 c.e, .int .i64 c.r, .int .i64 c.g, .int .i64 c.l] 40)).alloc (.cells #[.slice none 0 0, .slice none 0 0] 25)) ⟨by simp, by simp [go_sem], by simp [go_sem]⟩ hb1
  have FB : Hid (w1.frozen? ⟨w.heap.size, 1, none⟩ = false) := (hW1.frozen (p := ⟨w.heap.size, 1, none⟩) (by show w.heap.size < _; omega)).trans (by simp [go_sem])
  have f0 : w1.frozen? ⟨w.heap.size + 1 + 1, 0, none⟩ = false := (hW1.frozen (p := ⟨w.heap.size + 1 + 1, 0, none⟩) (by show w.heap.size + 1 + 1 < _; omega)).trans (by simp [go_sem])
  have f1 : w1.frozen? ⟨w.heap.size + 1 + 1, 1, none⟩ = false := (hW1.frozen (p := ⟨w.heap.size + 1 + 1, 1, none⟩) (by show w.heap.size + 1 + 1 < _; omega)).trans (by simp [go_sem])
  have y0 : w1.cell? ⟨w.heap.size + 1, 0, none⟩ = some (.int .i64 c.a) := (hW1.cell (p := ⟨w.heap.size + 1, 0, none⟩) (by show w.heap.size + 1 < _; omega)).trans (by simp [go_sem])
  have y1 : w1.cell? ⟨w.heap.size + 1, 1, none⟩ = some (.int .i64 c.b) := (hW1.cell (p := ⟨w.heap.size + 1, 1, none⟩) (by show w.heap.size + 1 < _; omega)).trans (by simp [go_sem])
  have y2 : w1.cell? ⟨w.heap.size + 1, 2, none⟩ = some (.int .i64 c.s) := (hW1.cell (p := ⟨w.heap.size + 1, 2, none⟩) (by show w.heap.size + 1 < _; omega)).trans (by simp [go_sem])
  have y3 : w1.cell? ⟨w.heap.size + 1, 3, none⟩ = some (.int .i64 c.e) := (hW1.cell (p := ⟨w.heap.size + 1, 3, none⟩) (by show w.heap.size + 1 < _; omega)).trans (by simp [go_sem])
  have y4 : w1.cell? ⟨w.heap.size + 1, 4, none⟩ = some (.int .i64 c.r) := (hW1.cell (p := ⟨w.heap.size + 1, 4, none⟩) (by show w.heap.size + 1 < _; omega)).trans (by simp [go_sem])
  have y5 : w1.cell? ⟨w.heap.size + 1, 5, none⟩ = some (.int .i64 c.g) := (hW1.cell (p := ⟨w.heap.size + 1, 5, none⟩) (by show w.heap.size + 1 < _; omega)).trans (by simp [go_sem])
  have y6 : w1.cell? ⟨w.heap.size + 1, 6, none⟩ = some (.int .i64 c.l) := (hW1.cell (p := ⟨w.heap.size + 1, 6, none⟩) (by show w.heap.size + 1 < _; omega)).trans (by simp [go_sem])
  have hl1 : w.heap.size + 1 < w1.heap.size := Nat.lt_of_lt_of_le (by omega) (Nat.le_trans (show w.heap.size + 1 + 1 + 1 ≤ _ by simp) hW1.size)
  have hcW := (hc0.below hB1).more hB1.size
  clear hW1 hb1
  go_wp2_with fail
  refine wp_region_last (fun w' => w'.cell? ⟨w.heap.size, 1, none⟩ = some (.slice A2 cs.length c2) ∧ w'.cell? ⟨w.heap.size + 1, 0, none⟩ = some (.int .i64 c.a) ∧ w'.cell? ⟨w.heap.size + 1, 1, none⟩ = some (.int .i64 c.b) ∧ w'.cell? ⟨w.heap.size + 1, 2, none⟩ = some (.int .i64 c.s) ∧ w'.cell? ⟨w.heap.size + 1, 3, none⟩ = some (.int .i64 c.e) ∧ w'.cell? ⟨w.heap.size + 1, 4, none⟩ = some (.int .i64 c.r) ∧ w'.cell? ⟨w.heap.size + 1, 5, none⟩ = some (.int .i64 c.g) ∧ w'.cell? ⟨w.heap.size + 1, 6, none⟩ = some (.int .i64 c.l)) 7 (by kernel_rfl) ⟨tb.c1, y0, y1, y2, y3, y4, y5, y6⟩ (fun hHeld => ?_)
  (refine wpAnyK_take (i := 0) (v := ?_) rfl rfl (by kernel_rfl) (by kernel_rfl) (by kernel_rfl) (by kernel_rfl) (fun _ _ _ h => h) (Or.inl ⟨by kernel_rfl, fun w0 hSw => ?_⟩) hHeld ?_; rotate_left; (focus ((try dsimp only at hSw); (try obtain ⟨s0, s1, s2, s3, s4, s5, s6, s7⟩ := hSw); simp only [List.getElem_toArray, List.getElem_cons_zero]; (first | (go_simp; done) | (go_simp; with_reducible rfl)))); (try simp only [List.getElem_toArray, List.getElem_cons_zero, Act.put, List.setIfInBounds_toArray, List.set_cons_zero, List.set_cons_succ]))
  (refine wpAnyK_take (i := 1) (v := ?_) rfl rfl (by kernel_rfl) (by kernel_rfl) (by kernel_rfl) (by kernel_rfl) (fun _ _ _ h => h) (Or.inl ⟨by kernel_rfl, fun w0 hSw => ?_⟩) hHeld ?_; rotate_left; (focus ((try dsimp only at hSw); (try obtain ⟨s0, s1, s2, s3, s4, s5, s6, s7⟩ := hSw); simp only [List.getElem_toArray, List.getElem_cons_zero, List.getElem_cons_succ]; (first | (go_simp; done) | (go_simp; with_reducible rfl)))); (try simp only [List.getElem_toArray, List.getElem_cons_zero, List.getElem_cons_succ, Act.put, List.setIfInBounds_toArray, List.set_cons_zero, List.set_cons_succ]))
  (refine wpAnyK_take (i := 3) (v := ?_) rfl rfl (by kernel_rfl) (by kernel_rfl) (by kernel_rfl) (by kernel_rfl) (fun _ _ _ h => h) (Or.inl ⟨by kernel_rfl, fun w0 hSw => ?_⟩) hHeld ?_; rotate_left; (focus ((try dsimp only at hSw); (try obtain ⟨s0, s1, s2, s3, s4, s5, s6, s7⟩ := hSw); simp only [List.getElem_toArray, List.getElem_cons_zero, List.getElem_cons_succ]; (first | (go_simp; done) | (go_simp; with_reducible rfl)))); (try simp only [List.getElem_toArray, List.getElem_cons_zero, List.getElem_cons_succ, Act.put, List.setIfInBounds_toArray, List.set_cons_zero, List.set_cons_succ]))
  have fb : w1.frozen? ⟨w.heap.size, 1, none⟩ = false := FB.out
  obtain ⟨i0, hi, hz0, hz1, hz2⟩ := info_parts info40
  have HI : Hid ((Tryd.prog.info? 40 = some i0) ∧ i0.zero = some (.agg #[.int .i64 0, .int .i64 0, .int .i64 0, .int .i64 0, .int .i64 0, .int .i64 0, .int .i64 0]) ∧ i0.size = 7 ∧ i0.bytes = 56) := ⟨hi, hz0, hz1, hz2⟩
  clear hi hz0 hz1 hz2
  refine wpAnyK_two (i := 2) (j := 4) (by kernel_rfl) rfl rfl (fun K hK => ?_) (fun K hK => ?_)
  · (try simp only [List.getElem_toArray, List.getElem_cons_zero, List.getElem_cons_succ])
    go_simp
    refine (clone_any _ cs w1.drew w1.heap.size hcW (by omega)).mono ?_
    rintro e w2 ⟨v2, rfl, ho2, hb2⟩
    have h12 : Below w1.heap.size w1 w2 := (Below.drew (Below.refl _ _)).trans hb2
    go_wp2_with fail
    refine hK.out _ _ (.inr ⟨(h12.cell (p := ⟨w.heap.size, 1, none⟩) tb.lt).trans tb.c1, (h12.cell (p := ⟨w.heap.size + 1, 0, none⟩) hl1).trans y0, (h12.cell (p := ⟨w.heap.size + 1, 1, none⟩) hl1).trans y1, (h12.cell (p := ⟨w.heap.size + 1, 2, none⟩) hl1).trans y2, (h12.cell (p := ⟨w.heap.size + 1, 3, none⟩) hl1).trans y3, (h12.cell (p := ⟨w.heap.size + 1, 4, none⟩) hl1).trans y4, (h12.cell (p := ⟨w.heap.size + 1, 5, none⟩) hl1).trans y5, (h12.cell (p := ⟨w.heap.size + 1, 6, none⟩) hl1).trans y6⟩) ?_
    clear hK K
    (try simp only [List.getElem_toArray, List.getElem_cons_zero, List.getElem_cons_succ, Act.put, List.setIfInBounds_toArray, List.set_cons_zero, List.set_cons_succ])
    (refine wpAnyK_one (j := 4) (by kernel_rfl) rfl (fun K hK => ?_); (try simp only [List.getElem_toArray, List.getElem_cons_zero, List.getElem_cons_succ]))
    go_simp
    have h13 := h12.alloc h12.size (.cells #[.int .i64 c.a, .int .i64 c.b, .int .i64 c.s, .int .i64 c.e, .int .i64 c.r, .int .i64 c.g, .int .i64 c.l] 40)
    refine hK.out _ _ (.inr ⟨(h13.cell (p := ⟨w.heap.size, 1, none⟩) tb.lt).trans tb.c1, (h13.cell (p := ⟨w.heap.size + 1, 0, none⟩) hl1).trans y0, (h13.cell (p := ⟨w.heap.size + 1, 1, none⟩) hl1).trans y1, (h13.cell (p := ⟨w.heap.size + 1, 2, none⟩) hl1).trans y2, (h13.cell (p := ⟨w.heap.size + 1, 3, none⟩) hl1).trans y3, (h13.cell (p := ⟨w.heap.size + 1, 4, none⟩) hl1).trans y4, (h13.cell (p := ⟨w.heap.size + 1, 5, none⟩) hl1).trans y5, (h13.cell (p := ⟨w.heap.size + 1, 6, none⟩) hl1).trans y6⟩) ?_
    clear hK K
    (try simp only [List.getElem_toArray, List.getElem_cons_zero, List.getElem_cons_succ, Act.put, List.setIfInBounds_toArray, List.set_cons_zero, List.set_cons_succ])
    (refine wpAnyK_one (j := 5) (by kernel_rfl) rfl (fun K hK => ?_); (try simp only [List.getElem_toArray, List.getElem_cons_zero, List.getElem_cons_succ]))
    rw [if_pos (by simp [Region.wanted])]
    refine wp_append_lies (w2.alloc (.cells #[.int .i64 c.a, .int .i64 c.b, .int .i64 c.s, .int .i64 c.e, .int .i64 c.r, .int .i64 c.g, .int .i64 c.l] 40)) (.tmp 13) (.tmp 15) 23 rfl w1.heap.size 40 i0 (.agg #[.int .i64 0, .int .i64 0, .int .i64 0, .int .i64 0, .int .i64 0, .int .i64 0, .int .i64 0]) 7 56 Tryd.underlying23 HI.out.1 HI.out.2.1 HI.out.2.2.1 HI.out.2.2.2 rfl (by decide) v2 cs.length (conCells cs) (by kernel_rfl) (ho2.alloc _) ⟨w2.heap.size, 0, none⟩ 1 1 [.int .i64 c.a, .int .i64 c.b, .int .i64 c.s, .int .i64 c.e, .int .i64 c.r, .int .i64 c.g, .int .i64 c.l] (by kernel_rfl) rfl (World.news_of_block (heap_last _ _ _ rfl)) (by simp [Value.oneCell']) (by decide) (by unfold maxLen; omega) (by omega) (by have := h13.size; omega) _ rfl ?_
    intro g cap w6 hown6 hgrow6 _ hlt6
    have h16 : Below w1.heap.size w1 w6 := Below.grown h13 hgrow6 h13.size (fun j e => (ho2.lt j e).1)
    have ho6 : w6.ownsRow w1.heap.size 40 7 (.slice (some ⟨g, 0, none⟩) (cs.length + 1) cap) (cs ++ [c]).length (conCells (cs ++ [c])) := by rw [List.length_append, conCells_snoc]; exact hown6
    have k6 := (h16.cell (p := ⟨w.heap.size, 1, none⟩) tb.lt).trans tb.c1
    have kf : w6.frozen? ⟨w.heap.size, 1, none⟩ = false := (h16.frozen (p := ⟨w.heap.size, 1, none⟩) tb.lt).trans fb
    refine hK.out _ _ (.inr ⟨(h16.cell (p := ⟨w.heap.size, 1, none⟩) tb.lt).trans tb.c1, (h16.cell (p := ⟨w.heap.size + 1, 0, none⟩) hl1).trans y0, (h16.cell (p := ⟨w.heap.size + 1, 1, none⟩) hl1).trans y1, (h16.cell (p := ⟨w.heap.size + 1, 2, none⟩) hl1).trans y2, (h16.cell (p := ⟨w.heap.size + 1, 3, none⟩) hl1).trans y3, (h16.cell (p := ⟨w.heap.size + 1, 4, none⟩) hl1).trans y4, (h16.cell (p := ⟨w.heap.size + 1, 5, none⟩) hl1).trans y5, (h16.cell (p := ⟨w.heap.size + 1, 6, none⟩) hl1).trans y6⟩) ?_
    clear hK K
    (try simp only [Act.put, List.setIfInBounds_toArray, List.set_cons_zero, List.set_cons_succ])
    (refine wpAnyK_one (j := 6) (by kernel_rfl) rfl (fun K hK => ?_); (try simp only [List.getElem_toArray, List.getElem_cons_zero, List.getElem_cons_succ]))
    go_simp
    refine hK.out _ _ (.inr ⟨(h16.cell (p := ⟨w.heap.size, 1, none⟩) tb.lt).trans tb.c1, (h16.cell (p := ⟨w.heap.size + 1, 0, none⟩) hl1).trans y0, (h16.cell (p := ⟨w.heap.size + 1, 1, none⟩) hl1).trans y1, (h16.cell (p := ⟨w.heap.size + 1, 2, none⟩) hl1).trans y2, (h16.cell (p := ⟨w.heap.size + 1, 3, none⟩) hl1).trans y3, (h16.cell (p := ⟨w.heap.size + 1, 4, none⟩) hl1).trans y4, (h16.cell (p := ⟨w.heap.size + 1, 5, none⟩) hl1).trans y5, (h16.cell (p := ⟨w.heap.size + 1, 6, none⟩) hl1).trans y6⟩) ?_
    clear hK K
    (try simp only [List.getElem_toArray, List.getElem_cons_zero, List.getElem_cons_succ, Act.put, List.setIfInBounds_toArray, List.set_cons_zero, List.set_cons_succ])
    (refine wpAnyK_one (j := 7) (by kernel_rfl) rfl (fun K hK => ?_); (try simp only [List.getElem_toArray, List.getElem_cons_zero, List.getElem_cons_succ]))
    go_simp
    refine hK.out _ _ (.inl rfl) ?_
    clear hK K
    refine wpAnyK_done (by kernel_rfl) ?_ _
    have hne8 : g ≠ w.heap.size + 1 + 1 := by have := (ho6.lt g rfl).1; have := tr.lt; omega
    have hWI := with_world tb tr f0 f1 (by omega) hB1 h16 ho6
    clear k6 kf h16 ho6 hown6 hgrow6 hHeld ho2
    generalize (w6.setCell ⟨w.heap.size, 1, none⟩ (.slice (some ⟨g, 0, none⟩) (cs.length + 1) cap)) = w7 at *
    have u0 := hWI.two.c0
    have u1 := hWI.two.c1
    have ul := hWI.two.lt
    have HI2 := Lib.hid ((hq0.below hWI.bel).more hWI.bel.size)
    go_wp2_with fail
    refine (pcheck_any _ _ qs (cs ++ [c]) _ HI2.out hWI.con).mono ?_
    by_cases hE2 : planE qs (cs ++ [c]) = 0
    · rw [hE2]
      have HR : Hid (withR qs cs c = (qs, cs ++ [c], 0)) := by show _ = _; rw [withR, if_neg (by simp [HE.out]), if_neg (by simp [hE2])]
      clear hE2
      rintro e w8 ⟨rfl, hb8⟩
      have h8 := hWI.below hb8
      clear u0 u1 ul hWI hb8
      have u0 := h8.two.c0
      have u1 := h8.two.c1
      have ul := h8.two.lt
      have r0 := h8.res.c0
      have r1 := h8.res.c1
      have rl := h8.res.lt
      have g0 := h8.f0
      have g1 := h8.f1
      have hB8 := h8.bel
      go_wp2_with fail
      obtain ⟨t0, t1⟩ := two_cells r0 r1 (.slice A1 qs.length c1) (.slice (some ⟨g, 0, none⟩) (cs.length + 1) cap)
      have hB9 := below_two hB8 (show w.heap.size ≤ w.heap.size + 1 + 1 by omega) (.slice A1 qs.length c1) (.slice (some ⟨g, 0, none⟩) (cs.length + 1) cap)
      have hcn : Cons ((w8.setCell ⟨w.heap.size + 1 + 1, 0, none⟩ (.slice A1 qs.length c1)).setCell ⟨w.heap.size + 1 + 1, 1, none⟩ (.slice (some ⟨g, 0, none⟩) (cs.length + 1) cap)) w8.heap.size (.slice (some ⟨g, 0, none⟩) (cs.length + 1) cap) (cs ++ [c]) := cons_two h8.con hne8 _ _
      have hsz8 : ((w8.setCell ⟨w.heap.size + 1 + 1, 0, none⟩ (.slice A1 qs.length c1)).setCell ⟨w.heap.size + 1 + 1, 1, none⟩ (.slice (some ⟨g, 0, none⟩) (cs.length + 1) cap)).heap.size = w8.heap.size := by simp
      generalize ((w8.setCell ⟨w.heap.size + 1 + 1, 0, none⟩ (.slice A1 qs.length c1)).setCell ⟨w.heap.size + 1 + 1, 1, none⟩ (.slice (some ⟨g, 0, none⟩) (cs.length + 1) cap)) = w9 at *
      refine bodyPost_ret (v := .tuple #[.agg #[.slice A1 qs.length c1, .slice (some ⟨g, 0, none⟩) (cs.length + 1) cap], .int .i64 0]) (by simp [results, Tryd.results36, go_sem, t0, t1]) rfl ⟨_, _, by rw [HR.out], by rw [HR.out]; exact (hq0.below hB9).more hB9.size, by rw [HR.out, hsz8]; exact hcn, hB9⟩
    · have HR : Hid (withR qs cs c = ([], [], planE qs (cs ++ [c]))) := by show _ = _; rw [withR, if_neg (by simp [HE.out]), if_pos hE2]
      have hEb : (planE qs (cs ++ [c]) != 0) = true := by simpa using hE2
      clear hE2
      rintro e w8 ⟨rfl, hb8⟩
      have h8 := hWI.below hb8
      clear u0 u1 ul hWI hb8
      have r0 := h8.res.c0
      have r1 := h8.res.c1
      have rl := h8.res.lt
      have g0 := h8.f0
      have g1 := h8.f1
      have hB8 := h8.bel
      go_wp2_with fail
      obtain ⟨t0, t1⟩ := two_cells r0 r1 (.slice none 0 0) (.slice none 0 0)
      have hB9 := below_two hB8 (show w.heap.size ≤ w.heap.size + 1 + 1 by omega) (.slice none 0 0) (.slice none 0 0)
      generalize ((w8.setCell ⟨w.heap.size + 1 + 1, 0, none⟩ (.slice none 0 0)).setCell ⟨w.heap.size + 1 + 1, 1, none⟩ (.slice none 0 0)) = w9 at *
      refine bodyPost_ret (v := .tuple #[.agg #[.slice none 0 0, .slice none 0 0], .int .i64 (planE qs (cs ++ [c]))]) (by simp [results, Tryd.results36, go_sem, t0, t1]) rfl ⟨_, _, by rw [HR.out], by rw [HR.out]; exact ints_nil _ _, by rw [HR.out]; exact cons_nil _ _, hB9⟩
  · (try simp only [List.getElem_toArray, List.getElem_cons_zero, List.getElem_cons_succ])
    go_simp
    have h11 : Below w1.heap.size w1 (w1.drew.alloc (.cells #[.int .i64 c.a, .int .i64 c.b, .int .i64 c.s, .int .i64 c.e, .int .i64 c.r, .int .i64 c.g, .int .i64 c.l] 40)) := (Below.drew (Below.refl _ _)).alloc (Nat.le_refl _) _
    have hnew : (w1.drew.alloc (.cells #[.int .i64 c.a, .int .i64 c.b, .int .i64 c.s, .int .i64 c.e, .int .i64 c.r, .int .i64 c.g, .int .i64 c.l] 40)).heap[w1.heap.size]? = some (.cells #[.int .i64 c.a, .int .i64 c.b, .int .i64 c.s, .int .i64 c.e, .int .i64 c.r, .int .i64 c.g, .int .i64 c.l] 40) := heap_last _ _ _ rfl
    refine hK.out _ _ (.inr ⟨(h11.cell (p := ⟨w.heap.size, 1, none⟩) tb.lt).trans tb.c1, (h11.cell (p := ⟨w.heap.size + 1, 0, none⟩) hl1).trans y0, (h11.cell (p := ⟨w.heap.size + 1, 1, none⟩) hl1).trans y1, (h11.cell (p := ⟨w.heap.size + 1, 2, none⟩) hl1).trans y2, (h11.cell (p := ⟨w.heap.size + 1, 3, none⟩) hl1).trans y3, (h11.cell (p := ⟨w.heap.size + 1, 4, none⟩) hl1).trans y4, (h11.cell (p := ⟨w.heap.size + 1, 5, none⟩) hl1).trans y5, (h11.cell (p := ⟨w.heap.size + 1, 6, none⟩) hl1).trans y6⟩) ?_
    clear hK K
    (try simp only [List.getElem_toArray, List.getElem_cons_zero, List.getElem_cons_succ, Act.put, List.setIfInBounds_toArray, List.set_cons_zero, List.set_cons_succ])
    (refine wpAnyK_one (j := 2) (by kernel_rfl) rfl (fun K hK => ?_); (try simp only [List.getElem_toArray, List.getElem_cons_zero, List.getElem_cons_succ]))
    go_simp
    refine (clone_any _ cs (w1.drew.alloc (.cells #[.int .i64 c.a, .int .i64 c.b, .int .i64 c.s, .int .i64 c.e, .int .i64 c.r, .int .i64 c.g, .int .i64 c.l] 40)) w1.heap.size (hcW.below h11) (by omega)).mono ?_
    rintro e w2 ⟨v2, rfl, ho2, hb2⟩
    have h12 : Below w1.heap.size w1 w2 := h11.trans (hb2.mono h11.size)
    have hnew2 : w2.heap[w1.heap.size]? = some (.cells #[.int .i64 c.a, .int .i64 c.b, .int .i64 c.s, .int .i64 c.e, .int .i64 c.r, .int .i64 c.g, .int .i64 c.l] 40) := (hb2.block _ (blk_lt hnew)).trans hnew
    have ho2 : w2.ownsRow w1.heap.size 40 7 v2 cs.length (conCells cs) := own_more ho2 h11.size
    go_wp2_with fail
    refine hK.out _ _ (.inr ⟨(h12.cell (p := ⟨w.heap.size, 1, none⟩) tb.lt).trans tb.c1, (h12.cell (p := ⟨w.heap.size + 1, 0, none⟩) hl1).trans y0, (h12.cell (p := ⟨w.heap.size + 1, 1, none⟩) hl1).trans y1, (h12.cell (p := ⟨w.heap.size + 1, 2, none⟩) hl1).trans y2, (h12.cell (p := ⟨w.heap.size + 1, 3, none⟩) hl1).trans y3, (h12.cell (p := ⟨w.heap.size + 1, 4, none⟩) hl1).trans y4, (h12.cell (p := ⟨w.heap.size + 1, 5, none⟩) hl1).trans y5, (h12.cell (p := ⟨w.heap.size + 1, 6, none⟩) hl1).trans y6⟩) ?_
    clear hK K
    (try simp only [List.getElem_toArray, List.getElem_cons_zero, List.getElem_cons_succ, Act.put, List.setIfInBounds_toArray, List.set_cons_zero, List.set_cons_succ])
    (refine wpAnyK_one (j := 5) (by kernel_rfl) rfl (fun K hK => ?_); (try simp only [List.getElem_toArray, List.getElem_cons_zero, List.getElem_cons_succ]))
    rw [if_pos (by simp [Region.wanted])]
    refine wp_append_lies (w2) (.tmp 13) (.tmp 15) 23 rfl w1.heap.size 40 i0 (.agg #[.int .i64 0, .int .i64 0, .int .i64 0, .int .i64 0, .int .i64 0, .int .i64 0, .int .i64 0]) 7 56 Tryd.underlying23 HI.out.1 HI.out.2.1 HI.out.2.2.1 HI.out.2.2.2 rfl (by decide) v2 cs.length (conCells cs) (by kernel_rfl) ho2 ⟨w1.heap.size, 0, none⟩ 1 1 [.int .i64 c.a, .int .i64 c.b, .int .i64 c.s, .int .i64 c.e, .int .i64 c.r, .int .i64 c.g, .int .i64 c.l] (by kernel_rfl) rfl (World.news_of_block hnew2) (by simp [Value.oneCell']) (by decide) (by unfold maxLen; omega) (by omega) (by have := h12.size; omega) _ rfl ?_
    intro g cap w6 hown6 hgrow6 _ hlt6
    have h16 : Below w1.heap.size w1 w6 := Below.grown h12 hgrow6 h12.size (fun j e => (ho2.lt j e).1)
    have ho6 : w6.ownsRow w1.heap.size 40 7 (.slice (some ⟨g, 0, none⟩) (cs.length + 1) cap) (cs ++ [c]).length (conCells (cs ++ [c])) := by rw [List.length_append, conCells_snoc]; exact hown6
    have k6 := (h16.cell (p := ⟨w.heap.size, 1, none⟩) tb.lt).trans tb.c1
    have kf : w6.frozen? ⟨w.heap.size, 1, none⟩ = false := (h16.frozen (p := ⟨w.heap.size, 1, none⟩) tb.lt).trans fb
    refine hK.out _ _ (.inr ⟨(h16.cell (p := ⟨w.heap.size, 1, none⟩) tb.lt).trans tb.c1, (h16.cell (p := ⟨w.heap.size + 1, 0, none⟩) hl1).trans y0, (h16.cell (p := ⟨w.heap.size + 1, 1, none⟩) hl1).trans y1, (h16.cell (p := ⟨w.heap.size + 1, 2, none⟩) hl1).trans y2, (h16.cell (p := ⟨w.heap.size + 1, 3, none⟩) hl1).trans y3, (h16.cell (p := ⟨w.heap.size + 1, 4, none⟩) hl1).trans y4, (h16.cell (p := ⟨w.heap.size + 1, 5, none⟩) hl1).trans y5, (h16.cell (p := ⟨w.heap.size + 1, 6, none⟩) hl1).trans y6⟩) ?_
    clear hK K
    (try simp only [Act.put, List.setIfInBounds_toArray, List.set_cons_zero, List.set_cons_succ])
    (refine wpAnyK_one (j := 6) (by kernel_rfl) rfl (fun K hK => ?_); (try simp only [List.getElem_toArray, List.getElem_cons_zero, List.getElem_cons_succ]))
    go_simp
    refine hK.out _ _ (.inr ⟨(h16.cell (p := ⟨w.heap.size, 1, none⟩) tb.lt).trans tb.c1, (h16.cell (p := ⟨w.heap.size + 1, 0, none⟩) hl1).trans y0, (h16.cell (p := ⟨w.heap.size + 1, 1, none⟩) hl1).trans y1, (h16.cell (p := ⟨w.heap.size + 1, 2, none⟩) hl1).trans y2, (h16.cell (p := ⟨w.heap.size + 1, 3, none⟩) hl1).trans y3, (h16.cell (p := ⟨w.heap.size + 1, 4, none⟩) hl1).trans y4, (h16.cell (p := ⟨w.heap.size + 1, 5, none⟩) hl1).trans y5, (h16.cell (p := ⟨w.heap.size + 1, 6, none⟩) hl1).trans y6⟩) ?_
    clear hK K
    (try simp only [List.getElem_toArray, List.getElem_cons_zero, List.getElem_cons_succ, Act.put, List.setIfInBounds_toArray, List.set_cons_zero, List.set_cons_succ])
    (refine wpAnyK_one (j := 7) (by kernel_rfl) rfl (fun K hK => ?_); (try simp only [List.getElem_toArray, List.getElem_cons_zero, List.getElem_cons_succ]))
    go_simp
    refine hK.out _ _ (.inl rfl) ?_
    clear hK K
    refine wpAnyK_done (by kernel_rfl) ?_ _
    have hne8 : g ≠ w.heap.size + 1 + 1 := by have := (ho6.lt g rfl).1; have := tr.lt; omega
    have hWI := with_world tb tr f0 f1 (by omega) hB1 h16 ho6
    clear k6 kf h16 ho6 hown6 hgrow6 hHeld ho2
    generalize (w6.setCell ⟨w.heap.size, 1, none⟩ (.slice (some ⟨g, 0, none⟩) (cs.length + 1) cap)) = w7 at *
    have u0 := hWI.two.c0
    have u1 := hWI.two.c1
    have ul := hWI.two.lt
    have HI2 := Lib.hid ((hq0.below hWI.bel).more hWI.bel.size)
    go_wp2_with fail
    refine (pcheck_any _ _ qs (cs ++ [c]) _ HI2.out hWI.con).mono ?_
    by_cases hE2 : planE qs (cs ++ [c]) = 0
    · rw [hE2]
      have HR : Hid (withR qs cs c = (qs, cs ++ [c], 0)) := by show _ = _; rw [withR, if_neg (by simp [HE.out]), if_neg (by simp [hE2])]
      clear hE2
      rintro e w8 ⟨rfl, hb8⟩
      have h8 := hWI.below hb8
      clear u0 u1 ul hWI hb8
      have u0 := h8.two.c0
      have u1 := h8.two.c1
      have ul := h8.two.lt
      have r0 := h8.res.c0
      have r1 := h8.res.c1
      have rl := h8.res.lt
      have g0 := h8.f0
      have g1 := h8.f1
      have hB8 := h8.bel
      go_wp2_with fail
      obtain ⟨t0, t1⟩ := two_cells r0 r1 (.slice A1 qs.length c1) (.slice (some ⟨g, 0, none⟩) (cs.length + 1) cap)
      have hB9 := below_two hB8 (show w.heap.size ≤ w.heap.size + 1 + 1 by omega) (.slice A1 qs.length c1) (.slice (some ⟨g, 0, none⟩) (cs.length + 1) cap)
      have hcn : Cons ((w8.setCell ⟨w.heap.size + 1 + 1, 0, none⟩ (.slice A1 qs.length c1)).setCell ⟨w.heap.size + 1 + 1, 1, none⟩ (.slice (some ⟨g, 0, none⟩) (cs.length + 1) cap)) w8.heap.size (.slice (some ⟨g, 0, none⟩) (cs.length + 1) cap) (cs ++ [c]) := cons_two h8.con hne8 _ _
      have hsz8 : ((w8.setCell ⟨w.heap.size + 1 + 1, 0, none⟩ (.slice A1 qs.length c1)).setCell ⟨w.heap.size + 1 + 1, 1, none⟩ (.slice (some ⟨g, 0, none⟩) (cs.length + 1) cap)).heap.size = w8.heap.size := by simp
      generalize ((w8.setCell ⟨w.heap.size + 1 + 1, 0, none⟩ (.slice A1 qs.length c1)).setCell ⟨w.heap.size + 1 + 1, 1, none⟩ (.slice (some ⟨g, 0, none⟩) (cs.length + 1) cap)) = w9 at *
      refine bodyPost_ret (v := .tuple #[.agg #[.slice A1 qs.length c1, .slice (some ⟨g, 0, none⟩) (cs.length + 1) cap], .int .i64 0]) (by simp [results, Tryd.results36, go_sem, t0, t1]) rfl ⟨_, _, by rw [HR.out], by rw [HR.out]; exact (hq0.below hB9).more hB9.size, by rw [HR.out, hsz8]; exact hcn, hB9⟩
    · have HR : Hid (withR qs cs c = ([], [], planE qs (cs ++ [c]))) := by show _ = _; rw [withR, if_neg (by simp [HE.out]), if_pos hE2]
      have hEb : (planE qs (cs ++ [c]) != 0) = true := by simpa using hE2
      clear hE2
      rintro e w8 ⟨rfl, hb8⟩
      have h8 := hWI.below hb8
      clear u0 u1 ul hWI hb8
      have r0 := h8.res.c0
      have r1 := h8.res.c1
      have rl := h8.res.lt
      have g0 := h8.f0
      have g1 := h8.f1
      have hB8 := h8.bel
      go_wp2_with fail
      obtain ⟨t0, t1⟩ := two_cells r0 r1 (.slice none 0 0) (.slice none 0 0)
      have hB9 := below_two hB8 (show w.heap.size ≤ w.heap.size + 1 + 1 by omega) (.slice none 0 0) (.slice none 0 0)
      generalize ((w8.setCell ⟨w.heap.size + 1 + 1, 0, none⟩ (.slice none 0 0)).setCell ⟨w.heap.size + 1 + 1, 1, none⟩ (.slice none 0 0)) = w9 at *
      refine bodyPost_ret (v := .tuple #[.agg #[.slice none 0 0, .slice none 0 0], .int .i64 (planE qs (cs ++ [c]))]) (by simp [results, Tryd.results36, go_sem, t0, t1]) rfl ⟨_, _, by rw [HR.out], by rw [HR.out]; exact ints_nil _ _, by rw [HR.out]; exact cons_nil _ _, hB9⟩
theorem with_any (qv cv : Value) (qs : List Int) (cs : List Con) (c : Con) (w : World) (hq : Ints w w.heap.size qv qs) (hc : Cons w w.heap.size cv cs) : Calls Tryd.prog 36 #[.agg #[qv, cv], .agg #[.int .i64 c.a, .int .i64 c.b, .int .i64 c.s, .int .i64 c.e, .int .i64 c.r, .int .i64 c.g, .int .i64 c.l]] w (PlanPost (withR qs cs c) w) := by
  by_cases hE : planE qs cs = 0
  · exact with_good qv cv qs cs c w hq hc hE
  · exact with_bad qv cv qs cs c w hq hc hE
end Go.Proofs.YtgnlanfpholdaaaDoor

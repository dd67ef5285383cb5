/- The reference's With. -/
import Derived.Test.YtgnlanfpholdaaaDoorG18
namespace Go.Proofs.YtgnlanfpholdaaaDoor
open Go.RowKit
theorem consAt_one {W : World} {nb : Nat} {c : Con} (h : W.heap[nb]? = some (.cells (conVals c).toArray 40 (0, 0))) : ConsAt W (some ⟨nb, 0, none⟩) [c] := fun _ => ⟨nb, 0, rfl, fun j hj => by
  obtain rfl : j = 0 := by simpa using hj
  exact ⟨cell_blk h 0, cell_blk h 1, cell_blk h 2, cell_blk h 3, cell_blk h 4, cell_blk h 5, cell_blk h 6⟩⟩
set_option maxHeartbeats 4000000 in
set_option maxRecDepth 100000 in
theorem rwith_good (qv cv : Value) (qs : List Int) (cs : List Con) (c : Con) (w : World) (hq : Ints w w.heap.size qv qs) (hc : Cons w w.heap.size cv cs) (hE : planE qs cs = 0) : Calls Tryd.prog 37 #[.agg #[qv, cv], .agg #[.int .i64 c.a, .int .i64 c.b, .int .i64 c.s, .int .i64 c.e, .int .i64 c.r, .int .i64 c.g, .int .i64 c.l]] w (PlanPost (withR qs cs c) w) := by
  have hlen := (planE_len hE).2.2
  have HE := Lib.hid hE
  clear hE
  have hq0 := hq
  have hc0 := hc
  obtain ⟨A1, c1, rfl, hc1, hm1, _⟩ := hq
  obtain ⟨A2, c2, rfl, hc2, hm2, hA2⟩ := hc
  clear hA2
  go_enter Tryd.func37, Tryd.ntmps37
  go_wp2_with fail
  refine (rpcheck_any _ _ qs cs _ ((hq0.below (by (repeat' (first | (with_reducible exact Below.refl _ _) | (with_reducible refine Below.alloc ?_ ?_ _) | (with_reducible refine Below.drew ?_) | (with_reducible refine below_drewN ?_ _) | (with_reducible refine Below.setCell ?_ ?_ _) | (with_reducible refine Below.trans ?_ (Below.mono (by assumption) ?_)) | (with_reducible exact Nat.le_refl _) | omega | (simp; omega) | (simp; done))))).more (by (first | omega | (simp; done) | (simp; omega)))) ((hc0.below (by (repeat' (first | (with_reducible exact Below.refl _ _) | (with_reducible refine Below.alloc ?_ ?_ _) | (with_reducible refine Below.drew ?_) | (with_reducible refine below_drewN ?_ _) | (with_reducible refine Below.setCell ?_ ?_ _) | (with_reducible refine Below.trans ?_ (Below.mono (by assumption) ?_)) | (with_reducible exact Nat.le_refl _) | omega | (simp; omega) | (simp; done))))).more (by (first | omega | (simp; done) | (simp; omega))))).mono ?_
  rw [HE.out]
  rintro e w1 ⟨rfl, hb1⟩
  have hW1 : Below (w.heap.size + 1 + 1 + 1) (((w.alloc (.cells #[.slice A1 qs.length c1, .slice A2 cs.length c2] 25)).alloc (.cells #[.int .i64 c.a, .int .i64 c.b, .int .i64 c.s, .int .i64 c.e, .int .i64 c.r, .int .i64 c.g, .int .i64 c.l] 40)).alloc (.cells #[.slice none 0 0, .slice none 0 0] 25)) w1 := hb1.mono (by simp)
  have hB1 : Below w.heap.size w w1 := by (repeat' (first | (with_reducible exact Below.refl _ _) | (with_reducible refine Below.alloc ?_ ?_ _) | (with_reducible refine Below.drew ?_) | (with_reducible refine below_drewN ?_ _) | (with_reducible refine Below.setCell ?_ ?_ _) | (with_reducible refine Below.trans ?_ (Below.mono (by assumption) ?_)) | (with_reducible exact Nat.le_refl _) | omega | (simp; omega) | (simp; done)))
  have tb : Two w.heap.size (.slice A1 qs.length c1) (.slice A2 cs.length c2) w1 := Two.below (W := ((w.alloc (.cells #[.slice A1 qs.length c1, .slice A2 cs.length c2] 25)).alloc (.cells #[.int .i64 c.a, .int .i64 c.b, .int .i64 c.s, .int .i64 c.e, .int .i64 c.r, .int .i64 c.g, .int .i64 c.l] 40)).alloc (.cells #[.slice none 0 0, .slice none 0 0] 25)) ⟨by simp; omega, by simp [go_sem], by simp [go_sem]⟩ hb1
  have tr : Two (w.heap.size + 1 + 1) (.slice none 0 0) (.slice none 0 0) w1 := Two.below (W := ((w.alloc (.cells #[.slice A1 qs.length c1, .slice A2 cs.length c2] 25)).alloc (.cells #[.int .i64 c.a, .int .i64 c.b, .int .i64 c.s, .int .i64 c.e, .int .i64 c.r, .int .i64 c.g, .int .i64 c.l] 40)).alloc (.cells #[.slice none 0 0, .slice none 0 0] 25)) ⟨by simp, by simp [go_sem], by simp [go_sem]⟩ hb1
  have FB : Hid (w1.frozen? ⟨w.heap.size, 1, none⟩ = false) := (hW1.frozen (p := ⟨w.heap.size, 1, none⟩) (by show w.heap.size < _; omega)).trans (by simp [go_sem])
  have f0 : w1.frozen? ⟨w.heap.size + 1 + 1, 0, none⟩ = false := (hW1.frozen (p := ⟨w.heap.size + 1 + 1, 0, none⟩) (by show w.heap.size + 1 + 1 < _; omega)).trans (by simp [go_sem])
  have f1 : w1.frozen? ⟨w.heap.size + 1 + 1, 1, none⟩ = false := (hW1.frozen (p := ⟨w.heap.size + 1 + 1, 1, none⟩) (by show w.heap.size + 1 + 1 < _; omega)).trans (by simp [go_sem])
  have y0 : w1.cell? ⟨w.heap.size + 1, 0, none⟩ = some (.int .i64 c.a) := (hW1.cell (p := ⟨w.heap.size + 1, 0, none⟩) (by show w.heap.size + 1 < _; omega)).trans (by simp [go_sem])
  have y1 : w1.cell? ⟨w.heap.size + 1, 1, none⟩ = some (.int .i64 c.b) := (hW1.cell (p := ⟨w.heap.size + 1, 1, none⟩) (by show w.heap.size + 1 < _; omega)).trans (by simp [go_sem])
  have y2 : w1.cell? ⟨w.heap.size + 1, 2, none⟩ = some (.int .i64 c.s) := (hW1.cell (p := ⟨w.heap.size + 1, 2, none⟩) (by show w.heap.size + 1 < _; omega)).trans (by simp [go_sem])
  have y3 : w1.cell? ⟨w.heap.size + 1, 3, none⟩ = some (.int .i64 c.e) := (hW1.cell (p := ⟨w.heap.size + 1, 3, none⟩) (by show w.heap.size + 1 < _; omega)).trans (by simp [go_sem])
  have y4 : w1.cell? ⟨w.heap.size + 1, 4, none⟩ = some (.int .i64 c.r) := (hW1.cell (p := ⟨w.heap.size + 1, 4, none⟩) (by show w.heap.size + 1 < _; omega)).trans (by simp [go_sem])
  have y5 : w1.cell? ⟨w.heap.size + 1, 5, none⟩ = some (.int .i64 c.g) := (hW1.cell (p := ⟨w.heap.size + 1, 5, none⟩) (by show w.heap.size + 1 < _; omega)).trans (by simp [go_sem])
  have y6 : w1.cell? ⟨w.heap.size + 1, 6, none⟩ = some (.int .i64 c.l) := (hW1.cell (p := ⟨w.heap.size + 1, 6, none⟩) (by show w.heap.size + 1 < _; omega)).trans (by simp [go_sem])
  have hl1 : w.heap.size + 1 < w1.heap.size := Nat.lt_of_lt_of_le (by omega) (Nat.le_trans (show w.heap.size + 1 + 1 + 1 ≤ _ by simp) hW1.size)
  have hcW := (hc0.below hB1).more hB1.size
  have hbk : w1.heap[w.heap.size + 1 + 1]? = some (.cells #[.slice none 0 0, .slice none 0 0] 25 (0, 0)) := (hW1.block _ (by omega)).trans (heap_last _ _ _ (by simp))
  have hqW := (hq0.below hB1).more hB1.size
  clear hW1 hb1
  go_wp2_with fail
  have hl := tb.lt
  have q0 := tb.c0
  have q1 := tb.c1
  have hd0 : Below w1.heap.size w1 w1.drew := Below.drew (Below.refl _ _)
  refine wp_region_held_drew (S := fun w' => w'.cell? ⟨w.heap.size, 0, none⟩ = some (.slice A1 qs.length c1) ∧ w'.cell? ⟨w.heap.size, 1, none⟩ = some (.slice A2 cs.length c2) ∧ w'.cell? ⟨w.heap.size + 1, 0, none⟩ = some (.int .i64 c.a) ∧ w'.cell? ⟨w.heap.size + 1, 1, none⟩ = some (.int .i64 c.b) ∧ w'.cell? ⟨w.heap.size + 1, 2, none⟩ = some (.int .i64 c.s) ∧ w'.cell? ⟨w.heap.size + 1, 3, none⟩ = some (.int .i64 c.e) ∧ w'.cell? ⟨w.heap.size + 1, 4, none⟩ = some (.int .i64 c.r) ∧ w'.cell? ⟨w.heap.size + 1, 5, none⟩ = some (.int .i64 c.g) ∧ w'.cell? ⟨w.heap.size + 1, 6, none⟩ = some (.int .i64 c.l)) (by kernel_rfl) ⟨q0, q1, y0, y1, y2, y3, y4, y5, y6⟩ (fun hHeld => ?_)
  generalize hX0 : w1.drew = wd at *
  clear hX0
  (refine wpAnyH_take (i := 0) (v := ?_) rfl (by kernel_rfl) (by kernel_rfl) (by kernel_rfl) (fun _ _ _ h => h) (Or.inl ⟨by kernel_rfl, fun w0 hSw => ?_⟩) hHeld ?_; rotate_left; (focus ((try dsimp only at hSw); simp only [List.getElem_toArray, List.getElem_cons_zero]; (first | (go_simp; done) | (go_simp; with_reducible rfl)))); (try simp only [List.getElem_toArray, List.getElem_cons_zero, Act.put, List.setIfInBounds_toArray, List.set_cons_zero, List.set_cons_succ]))
  (refine wpAnyH_take (i := 1) (v := ?_) rfl (by kernel_rfl) (by kernel_rfl) (by kernel_rfl) (fun _ _ _ h => h) (Or.inl ⟨by kernel_rfl, fun w0 hSw => ?_⟩) hHeld ?_; rotate_left; (focus ((try dsimp only at hSw); simp only [List.getElem_toArray, List.getElem_cons_zero, List.getElem_cons_succ]; (first | (go_simp; done) | (go_simp; with_reducible rfl)))); (try simp only [List.getElem_toArray, List.getElem_cons_zero, List.getElem_cons_succ, Act.put, List.setIfInBounds_toArray, List.set_cons_zero, List.set_cons_succ]))
  (refine wpAnyH_take (i := 3) (v := ?_) rfl (by kernel_rfl) (by kernel_rfl) (by kernel_rfl) (fun _ _ _ h => h) (Or.inl ⟨by kernel_rfl, fun w0 hSw => ?_⟩) hHeld ?_; rotate_left; (focus ((try dsimp only at hSw); simp only [List.getElem_toArray, List.getElem_cons_zero, List.getElem_cons_succ]; (first | (go_simp; done) | (go_simp; with_reducible rfl)))); (try simp only [List.getElem_toArray, List.getElem_cons_zero, List.getElem_cons_succ, Act.put, List.setIfInBounds_toArray, List.set_cons_zero, List.set_cons_succ]))
  (refine wpAnyH_take (i := 4) (v := ?_) rfl (by kernel_rfl) (by kernel_rfl) (by kernel_rfl) (fun _ _ _ h => h) (Or.inl ⟨by kernel_rfl, fun w0 hSw => ?_⟩) hHeld ?_; rotate_left; (focus ((try dsimp only at hSw); simp only [List.getElem_toArray, List.getElem_cons_zero, List.getElem_cons_succ]; (first | (go_simp; done) | (go_simp; with_reducible rfl)))); (try simp only [List.getElem_toArray, List.getElem_cons_zero, List.getElem_cons_succ, Act.put, List.setIfInBounds_toArray, List.set_cons_zero, List.set_cons_succ]))
  (refine wpAnyH_take (i := 6) (v := ?_) rfl (by kernel_rfl) (by kernel_rfl) (by kernel_rfl) (fun _ _ _ h => h) (Or.inl ⟨by kernel_rfl, fun w0 hSw => ?_⟩) hHeld ?_; rotate_left; (focus ((try dsimp only at hSw); simp only [List.getElem_toArray, List.getElem_cons_zero, List.getElem_cons_succ]; (first | (go_simp; done) | (go_simp; with_reducible rfl)))); (try simp only [List.getElem_toArray, List.getElem_cons_zero, List.getElem_cons_succ, Act.put, List.setIfInBounds_toArray, List.set_cons_zero, List.set_cons_succ]))
  refine wpAnyH_ready (rs := [2, 7, 10]) (by kernel_rfl) (by simp) ?_
  refine (AllReadyH.cons rfl (fun K hK => ?_) (AllReadyH.cons rfl (fun K hK => ?_) (AllReadyH.cons rfl (fun K hK => ?_) AllReadyH.nil)))
  · simp only [List.getElem_toArray, List.getElem_cons_zero, List.getElem_cons_succ]
    go_simp
    have hd1 := hd0.alloc hd0.size (.cells #[] 40)
    have ho1 : (wd.alloc (.cells #[] 40)).ownsRow w1.heap.size 40 7 (.slice (some ⟨wd.heap.size, 0, none⟩) 0 0) ([] : List Con).length (conCells []) := World.ownsRow_lit (e := 40) (size := 7) wd #[] 0 hd0.size (by simp [maxLen]) rfl
    refine hK.out _ _ ⟨(hd1.cell (p := ⟨w.heap.size, 0, none⟩) hl).trans q0, (hd1.cell (p := ⟨w.heap.size, 1, none⟩) hl).trans q1, (hd1.cell (p := ⟨w.heap.size + 1, 0, none⟩) hl1).trans y0, (hd1.cell (p := ⟨w.heap.size + 1, 1, none⟩) hl1).trans y1, (hd1.cell (p := ⟨w.heap.size + 1, 2, none⟩) hl1).trans y2, (hd1.cell (p := ⟨w.heap.size + 1, 3, none⟩) hl1).trans y3, (hd1.cell (p := ⟨w.heap.size + 1, 4, none⟩) hl1).trans y4, (hd1.cell (p := ⟨w.heap.size + 1, 5, none⟩) hl1).trans y5, (hd1.cell (p := ⟨w.heap.size + 1, 6, none⟩) hl1).trans y6⟩ (fun _ => ?_)
    clear hK K
    (try simp only [List.getElem_toArray, List.getElem_cons_zero, List.getElem_cons_succ, Act.put, List.setIfInBounds_toArray, List.set_cons_zero, List.set_cons_succ])
    generalize hX1 : (wd.alloc (.cells #[] 40)) = w2 at *
    clear hX1
    refine wpAnyH_ready (rs := [5, 7, 10]) (by kernel_rfl) (by simp) ?_
    refine (AllReadyH.cons rfl (fun K hK => ?_) (AllReadyH.cons rfl (fun K hK => ?_) (AllReadyH.cons rfl (fun K hK => ?_) AllReadyH.nil)))
    · simp only [List.getElem_toArray, List.getElem_cons_zero, List.getElem_cons_succ]
      rw [if_pos (by simp [Region.wanted])]
      refine wp_append_con (.tmp 14) (.tmp 16) rfl w2 w1.heap.size (.slice (some ⟨wd.heap.size, 0, none⟩) 0 0) [] cs (by kernel_rfl) ho1 A2 c2 (by kernel_rfl) (by have h := consAt_take (i := cs.length) hcW hd1 (Nat.le_refl _); rwa [List.take_length] at h) (by simp; omega) hd1.size ?_
      intro V2 w3 ho2 hg2 h52
      have hd2 : Below w1.heap.size w1 w3 := Below.grown hd1 hg2 hd1.size (fun j e => (ho1.lt j e).1)
      rw [List.nil_append] at ho2
      obtain ⟨AV2, cV2, rfl⟩ := own_shape ho2
      clear h52 hg2
      refine hK.out _ _ ⟨(hd2.cell (p := ⟨w.heap.size, 0, none⟩) hl).trans q0, (hd2.cell (p := ⟨w.heap.size, 1, none⟩) hl).trans q1, (hd2.cell (p := ⟨w.heap.size + 1, 0, none⟩) hl1).trans y0, (hd2.cell (p := ⟨w.heap.size + 1, 1, none⟩) hl1).trans y1, (hd2.cell (p := ⟨w.heap.size + 1, 2, none⟩) hl1).trans y2, (hd2.cell (p := ⟨w.heap.size + 1, 3, none⟩) hl1).trans y3, (hd2.cell (p := ⟨w.heap.size + 1, 4, none⟩) hl1).trans y4, (hd2.cell (p := ⟨w.heap.size + 1, 5, none⟩) hl1).trans y5, (hd2.cell (p := ⟨w.heap.size + 1, 6, none⟩) hl1).trans y6⟩ (fun hHeld => ?_)
      clear hK K
      (try simp only [Act.put, List.setIfInBounds_toArray, List.set_cons_zero, List.set_cons_succ])
      refine wpAnyH_ready (rs := [7, 10]) (by kernel_rfl) (by simp) ?_
      refine (AllReadyH.cons rfl (fun K hK => ?_) (AllReadyH.cons rfl (fun K hK => ?_) AllReadyH.nil))
      · simp only [List.getElem_toArray, List.getElem_cons_zero, List.getElem_cons_succ]
        go_simp
        have hd3 := hd2.alloc hd2.size (.cells #[.int .i64 c.a, .int .i64 c.b, .int .i64 c.s, .int .i64 c.e, .int .i64 c.r, .int .i64 c.g, .int .i64 c.l] 40)
        have ho3 := ho2.alloc (.cells #[.int .i64 c.a, .int .i64 c.b, .int .i64 c.s, .int .i64 c.e, .int .i64 c.r, .int .i64 c.g, .int .i64 c.l] 40)
        have hn3 : (w3.alloc (.cells #[.int .i64 c.a, .int .i64 c.b, .int .i64 c.s, .int .i64 c.e, .int .i64 c.r, .int .i64 c.g, .int .i64 c.l] 40)).heap[w3.heap.size]? = some (.cells (conVals c).toArray 40 (0, 0)) := heap_last _ _ _ rfl
        have hne3 := own_ne_lt ho2 (g := w3.heap.size) (.inr (Nat.le_refl _))
        refine hK.out _ _ ⟨(hd3.cell (p := ⟨w.heap.size, 0, none⟩) hl).trans q0, (hd3.cell (p := ⟨w.heap.size, 1, none⟩) hl).trans q1, (hd3.cell (p := ⟨w.heap.size + 1, 0, none⟩) hl1).trans y0, (hd3.cell (p := ⟨w.heap.size + 1, 1, none⟩) hl1).trans y1, (hd3.cell (p := ⟨w.heap.size + 1, 2, none⟩) hl1).trans y2, (hd3.cell (p := ⟨w.heap.size + 1, 3, none⟩) hl1).trans y3, (hd3.cell (p := ⟨w.heap.size + 1, 4, none⟩) hl1).trans y4, (hd3.cell (p := ⟨w.heap.size + 1, 5, none⟩) hl1).trans y5, (hd3.cell (p := ⟨w.heap.size + 1, 6, none⟩) hl1).trans y6⟩ (fun _ => ?_)
        clear hK K
        (try simp only [List.getElem_toArray, List.getElem_cons_zero, List.getElem_cons_succ, Act.put, List.setIfInBounds_toArray, List.set_cons_zero, List.set_cons_succ])
        generalize hX3 : (w3.alloc (.cells #[.int .i64 c.a, .int .i64 c.b, .int .i64 c.s, .int .i64 c.e, .int .i64 c.r, .int .i64 c.g, .int .i64 c.l] 40)) = w4 at *
        clear hX3
        refine wpAnyH_ready (rs := [8, 10]) (by kernel_rfl) (by simp) ?_
        refine (AllReadyH.cons rfl (fun K hK => ?_) (AllReadyH.cons rfl (fun K hK => ?_) AllReadyH.nil))
        · simp only [List.getElem_toArray, List.getElem_cons_zero, List.getElem_cons_succ]
          rw [if_pos (by simp [Region.wanted])]
          refine wp_append_con (.tmp 17) (.tmp 19) rfl w4 w1.heap.size (.slice AV2 cs.length cV2) cs [c] (by kernel_rfl) ho3 (some ⟨w3.heap.size, 0, none⟩) 1 (by kernel_rfl) (consAt_one hn3) (by simp; omega) hd3.size ?_
          intro V4 w5 ho4 hg4 h54
          have hd4 : Below w1.heap.size w1 w5 := Below.grown hd3 hg4 hd3.size (fun j e => (ho3.lt j e).1)
          have hn4 := (hg4.block w3.heap.size (blk_lt hn3) (fun e => hne3 e.symm)).trans hn3
          have hne4 : V4.ownBlock ≠ some w3.heap.size := fun e => by have h1 := blk_lt hn3; rcases h54 with h | h; exact hne3 (h.symm.trans e); rw [h] at e; injection e; omega
          obtain ⟨AV4, cV4, rfl⟩ := own_shape ho4
          clear h54 hg4
          generalize hds : cs ++ [c] = ds at *
          have HDS := Lib.hid hds
          clear hds
          refine hK.out _ _ ⟨(hd4.cell (p := ⟨w.heap.size, 0, none⟩) hl).trans q0, (hd4.cell (p := ⟨w.heap.size, 1, none⟩) hl).trans q1, (hd4.cell (p := ⟨w.heap.size + 1, 0, none⟩) hl1).trans y0, (hd4.cell (p := ⟨w.heap.size + 1, 1, none⟩) hl1).trans y1, (hd4.cell (p := ⟨w.heap.size + 1, 2, none⟩) hl1).trans y2, (hd4.cell (p := ⟨w.heap.size + 1, 3, none⟩) hl1).trans y3, (hd4.cell (p := ⟨w.heap.size + 1, 4, none⟩) hl1).trans y4, (hd4.cell (p := ⟨w.heap.size + 1, 5, none⟩) hl1).trans y5, (hd4.cell (p := ⟨w.heap.size + 1, 6, none⟩) hl1).trans y6⟩ (fun hHeld => ?_)
          clear hK K
          (try simp only [Act.put, List.setIfInBounds_toArray, List.set_cons_zero, List.set_cons_succ])
          (refine wpAnyH_take (i := 9) (v := ?_) rfl (by kernel_rfl) (by kernel_rfl) (by kernel_rfl) (fun _ _ _ h => h) (Or.inl ⟨by kernel_rfl, fun w0 hSw => ?_⟩) hHeld ?_; rotate_left; (focus ((try dsimp only at hSw); simp only [List.getElem_toArray, List.getElem_cons_zero, List.getElem_cons_succ]; (first | (go_simp; done) | (go_simp; with_reducible rfl)))); (try simp only [List.getElem_toArray, List.getElem_cons_zero, List.getElem_cons_succ, Act.put, List.setIfInBounds_toArray, List.set_cons_zero, List.set_cons_succ]))
          refine wpAnyH_ready (rs := [10]) (by kernel_rfl) (by simp) ?_
          refine (AllReadyH.cons rfl (fun K hK => ?_) AllReadyH.nil)
          · simp only [List.getElem_toArray, List.getElem_cons_zero, List.getElem_cons_succ]
            go_simp
            have hd5 := hd4.alloc hd4.size (.cells #[.slice none 0 0, .slice none 0 0] 25)
            have ho5 := ho4.alloc (.cells #[.slice none 0 0, .slice none 0 0] 25)
            have hn5 := (Below.heap_alloc _ (.cells #[.slice none 0 0, .slice none 0 0] 25) _ (blk_lt hn4)).trans hn4
            have hne5 := hne4
            have hqlo : w1.heap.size ≤ w5.heap.size := hd4.size
            have hq5 : (w5.alloc (.cells #[.slice none 0 0, .slice none 0 0] 25)).heap[w5.heap.size]? = some (.cells #[.slice none 0 0, .slice none 0 0] 25 (0, 0)) := heap_last _ _ _ rfl
            refine hK.out _ _ ⟨(hd5.cell (p := ⟨w.heap.size, 0, none⟩) hl).trans q0, (hd5.cell (p := ⟨w.heap.size, 1, none⟩) hl).trans q1, (hd5.cell (p := ⟨w.heap.size + 1, 0, none⟩) hl1).trans y0, (hd5.cell (p := ⟨w.heap.size + 1, 1, none⟩) hl1).trans y1, (hd5.cell (p := ⟨w.heap.size + 1, 2, none⟩) hl1).trans y2, (hd5.cell (p := ⟨w.heap.size + 1, 3, none⟩) hl1).trans y3, (hd5.cell (p := ⟨w.heap.size + 1, 4, none⟩) hl1).trans y4, (hd5.cell (p := ⟨w.heap.size + 1, 5, none⟩) hl1).trans y5, (hd5.cell (p := ⟨w.heap.size + 1, 6, none⟩) hl1).trans y6⟩ (fun _ => ?_)
            clear hK K
            (try simp only [List.getElem_toArray, List.getElem_cons_zero, List.getElem_cons_succ, Act.put, List.setIfInBounds_toArray, List.set_cons_zero, List.set_cons_succ])
            generalize hX5 : (w5.alloc (.cells #[.slice none 0 0, .slice none 0 0] 25)) = w6 at *
            clear hX5
            refine wpAnyH_ready (rs := [11]) (by kernel_rfl) (by simp) ?_
            refine (AllReadyH.cons rfl (fun K hK => ?_) AllReadyH.nil)
            · simp only [List.getElem_toArray, List.getElem_cons_zero, List.getElem_cons_succ]
              have z0 := cell_blk hq5 0
              have z1 := cell_blk hq5 1
              have g0 := frozen_blk hq5 0
              have g1 := frozen_blk hq5 1
              simp only [List.getElem?_toArray, List.getElem?_cons_zero, List.getElem?_cons_succ] at z0 z1
              go_simp
              obtain ⟨⟨t0, t1⟩, hiP, hcP⟩ := put_plan hq5 ((hqW.below hd5).more hd5.size) (cons_of_own ho5)
              have hdP : Below w1.heap.size w1 ((w6.setCell ⟨w5.heap.size, 0, none⟩ (.slice A1 qs.length c1)).setCell ⟨w5.heap.size, 1, none⟩ (.slice AV4 ds.length cV4)) := below_two hd5 hqlo (.slice A1 qs.length c1) (.slice AV4 ds.length cV4)
              have ulP : w5.heap.size < ((w6.setCell ⟨w5.heap.size, 0, none⟩ (.slice A1 qs.length c1)).setCell ⟨w5.heap.size, 1, none⟩ (.slice AV4 ds.length cV4)).heap.size := by have h1 := blk_lt hq5; simpa using h1
              refine hK.out _ _ ⟨(hdP.cell (p := ⟨w.heap.size, 0, none⟩) hl).trans q0, (hdP.cell (p := ⟨w.heap.size, 1, none⟩) hl).trans q1, (hdP.cell (p := ⟨w.heap.size + 1, 0, none⟩) hl1).trans y0, (hdP.cell (p := ⟨w.heap.size + 1, 1, none⟩) hl1).trans y1, (hdP.cell (p := ⟨w.heap.size + 1, 2, none⟩) hl1).trans y2, (hdP.cell (p := ⟨w.heap.size + 1, 3, none⟩) hl1).trans y3, (hdP.cell (p := ⟨w.heap.size + 1, 4, none⟩) hl1).trans y4, (hdP.cell (p := ⟨w.heap.size + 1, 5, none⟩) hl1).trans y5, (hdP.cell (p := ⟨w.heap.size + 1, 6, none⟩) hl1).trans y6⟩ (fun hHeld => ?_)
              clear hK K
              (try simp only [List.getElem_toArray, List.getElem_cons_zero, List.getElem_cons_succ, Act.put, List.setIfInBounds_toArray, List.set_cons_zero, List.set_cons_succ])
              refine wpAnyH_done (by kernel_rfl) ?_ _
              clear z0 z1 g0 g1 hHeld hq5 ho5 hn5 hne5
              generalize ((w6.setCell ⟨w5.heap.size, 0, none⟩ (.slice A1 qs.length c1)).setCell ⟨w5.heap.size, 1, none⟩ (.slice AV4 ds.length cV4)) = w20 at *
              go_wp2_with fail
              refine (rpcheck_any _ _ qs ds _ hiP hcP).mono ?_
              by_cases hE2 : planE qs ds = 0
              · rw [hE2]
                have HR : Hid (withR qs cs c = (qs, ds, 0)) := by show _ = _; rw [withR, if_neg (by simp [HE.out]), HDS.out, if_neg (by simp [hE2])]
                clear hE2
                rintro e w21 ⟨rfl, hb21⟩
                have hd21 := hdP.trans (hb21.mono hdP.size)
                have hi21 := (hiP.below hb21).more hb21.size
                have hc21 := (hcP.below hb21).more hb21.size
                have s0 := (hb21.cell (p := ⟨w5.heap.size, 0, none⟩) ulP).trans t0
                have s1 := (hb21.cell (p := ⟨w5.heap.size, 1, none⟩) ulP).trans t1
                have hb4 := (hd21.block (w.heap.size + 1 + 1) (blk_lt hbk)).trans hbk
                have r0 := cell_blk hb4 0
                have r1 := cell_blk hb4 1
                have g0 := frozen_blk hb4 0
                have g1 := frozen_blk hb4 1
                simp only [List.getElem?_toArray, List.getElem?_cons_zero, List.getElem?_cons_succ] at r0 r1
                have hB21 := hB1.trans (hd21.mono hB1.size)
                clear t0 t1 hdP hiP hcP
                go_wp2_with fail
                obtain ⟨⟨u0, u1⟩, hiF, hcF⟩ := put_plan hb4 hi21 hc21
                have hB22 := below_two hB21 (show w.heap.size ≤ w.heap.size + 1 + 1 by omega) (.slice A1 qs.length c1) (.slice AV4 ds.length cV4)
                generalize ((w21.setCell ⟨w.heap.size + 1 + 1, 0, none⟩ (.slice A1 qs.length c1)).setCell ⟨w.heap.size + 1 + 1, 1, none⟩ (.slice AV4 ds.length cV4)) = w22 at *
                refine bodyPost_ret (v := .tuple #[.agg #[.slice A1 qs.length c1, .slice AV4 ds.length cV4], .int .i64 0]) (by simp [results, Tryd.results37, go_sem, u0, u1]) rfl ⟨_, _, by rw [HR.out], by rw [HR.out]; exact hiF, by rw [HR.out]; exact hcF, hB22⟩
              · have HR : Hid (withR qs cs c = ([], [], planE qs ds)) := by show _ = _; rw [withR, if_neg (by simp [HE.out]), HDS.out, if_pos hE2]
                have hEb : (planE qs ds != 0) = true := by simpa using hE2
                clear hE2
                rintro e w21 ⟨rfl, hb21⟩
                have hd21 := hdP.trans (hb21.mono hdP.size)
                have hi21 := (hiP.below hb21).more hb21.size
                have hc21 := (hcP.below hb21).more hb21.size
                have s0 := (hb21.cell (p := ⟨w5.heap.size, 0, none⟩) ulP).trans t0
                have s1 := (hb21.cell (p := ⟨w5.heap.size, 1, none⟩) ulP).trans t1
                have hb4 := (hd21.block (w.heap.size + 1 + 1) (blk_lt hbk)).trans hbk
                have r0 := cell_blk hb4 0
                have r1 := cell_blk hb4 1
                have g0 := frozen_blk hb4 0
                have g1 := frozen_blk hb4 1
                simp only [List.getElem?_toArray, List.getElem?_cons_zero, List.getElem?_cons_succ] at r0 r1
                have hB21 := hB1.trans (hd21.mono hB1.size)
                clear t0 t1 hdP hiP hcP
                go_wp2_with fail
                obtain ⟨u0, u1⟩ := two_cells r0 r1 (.slice none 0 0) (.slice none 0 0)
                have hB22 := below_two hB21 (show w.heap.size ≤ w.heap.size + 1 + 1 by omega) (.slice none 0 0) (.slice none 0 0)
                generalize ((w21.setCell ⟨w.heap.size + 1 + 1, 0, none⟩ (.slice none 0 0)).setCell ⟨w.heap.size + 1 + 1, 1, none⟩ (.slice none 0 0)) = w22 at *
                refine bodyPost_ret (v := .tuple #[.agg #[.slice none 0 0, .slice none 0 0], .int .i64 (planE qs ds)]) (by simp [results, Tryd.results37, go_sem, u0, u1]) rfl ⟨_, _, by rw [HR.out], by rw [HR.out]; exact ints_nil _ _, by rw [HR.out]; exact cons_nil _ _, hB22⟩
        · simp only [List.getElem_toArray, List.getElem_cons_zero, List.getElem_cons_succ]
          go_simp
          have hd4 := hd3.alloc hd3.size (.cells #[.slice none 0 0, .slice none 0 0] 25)
          have ho4 := ho3.alloc (.cells #[.slice none 0 0, .slice none 0 0] 25)
          have hn4 := (Below.heap_alloc _ (.cells #[.slice none 0 0, .slice none 0 0] 25) _ (blk_lt hn3)).trans hn3
          have hne4 := hne3
          have hqlo : w1.heap.size ≤ w4.heap.size := hd3.size
          have hq4 : (w4.alloc (.cells #[.slice none 0 0, .slice none 0 0] 25)).heap[w4.heap.size]? = some (.cells #[.slice none 0 0, .slice none 0 0] 25 (0, 0)) := heap_last _ _ _ rfl
          refine hK.out _ _ ⟨(hd4.cell (p := ⟨w.heap.size, 0, none⟩) hl).trans q0, (hd4.cell (p := ⟨w.heap.size, 1, none⟩) hl).trans q1, (hd4.cell (p := ⟨w.heap.size + 1, 0, none⟩) hl1).trans y0, (hd4.cell (p := ⟨w.heap.size + 1, 1, none⟩) hl1).trans y1, (hd4.cell (p := ⟨w.heap.size + 1, 2, none⟩) hl1).trans y2, (hd4.cell (p := ⟨w.heap.size + 1, 3, none⟩) hl1).trans y3, (hd4.cell (p := ⟨w.heap.size + 1, 4, none⟩) hl1).trans y4, (hd4.cell (p := ⟨w.heap.size + 1, 5, none⟩) hl1).trans y5, (hd4.cell (p := ⟨w.heap.size + 1, 6, none⟩) hl1).trans y6⟩ (fun _ => ?_)
          clear hK K
          (try simp only [List.getElem_toArray, List.getElem_cons_zero, List.getElem_cons_succ, Act.put, List.setIfInBounds_toArray, List.set_cons_zero, List.set_cons_succ])
          generalize hX4 : (w4.alloc (.cells #[.slice none 0 0, .slice none 0 0] 25)) = w5 at *
          clear hX4
          refine wpAnyH_ready (rs := [8]) (by kernel_rfl) (by simp) ?_
          refine (AllReadyH.cons rfl (fun K hK => ?_) AllReadyH.nil)
          · simp only [List.getElem_toArray, List.getElem_cons_zero, List.getElem_cons_succ]
            rw [if_pos (by simp [Region.wanted])]
            refine wp_append_con (.tmp 17) (.tmp 19) rfl w5 w1.heap.size (.slice AV2 cs.length cV2) cs [c] (by kernel_rfl) ho4 (some ⟨w3.heap.size, 0, none⟩) 1 (by kernel_rfl) (consAt_one hn4) (by simp; omega) hd4.size ?_
            intro V5 w6 ho5 hg5 h55
            have hd5 : Below w1.heap.size w1 w6 := Below.grown hd4 hg5 hd4.size (fun j e => (ho4.lt j e).1)
            have hn5 := (hg5.block w3.heap.size (blk_lt hn4) (fun e => hne4 e.symm)).trans hn4
            have hne5 : V5.ownBlock ≠ some w3.heap.size := fun e => by have h1 := blk_lt hn4; rcases h55 with h | h; exact hne4 (h.symm.trans e); rw [h] at e; injection e; omega
            have hq5 := (hg5.block w4.heap.size (blk_lt hq4) (fun e => own_ne_kind ho4 hq4 (by decide) e.symm)).trans hq4
            obtain ⟨AV5, cV5, rfl⟩ := own_shape ho5
            clear h55 hg5
            generalize hds : cs ++ [c] = ds at *
            have HDS := Lib.hid hds
            clear hds
            refine hK.out _ _ ⟨(hd5.cell (p := ⟨w.heap.size, 0, none⟩) hl).trans q0, (hd5.cell (p := ⟨w.heap.size, 1, none⟩) hl).trans q1, (hd5.cell (p := ⟨w.heap.size + 1, 0, none⟩) hl1).trans y0, (hd5.cell (p := ⟨w.heap.size + 1, 1, none⟩) hl1).trans y1, (hd5.cell (p := ⟨w.heap.size + 1, 2, none⟩) hl1).trans y2, (hd5.cell (p := ⟨w.heap.size + 1, 3, none⟩) hl1).trans y3, (hd5.cell (p := ⟨w.heap.size + 1, 4, none⟩) hl1).trans y4, (hd5.cell (p := ⟨w.heap.size + 1, 5, none⟩) hl1).trans y5, (hd5.cell (p := ⟨w.heap.size + 1, 6, none⟩) hl1).trans y6⟩ (fun hHeld => ?_)
            clear hK K
            (try simp only [Act.put, List.setIfInBounds_toArray, List.set_cons_zero, List.set_cons_succ])
            (refine wpAnyH_take (i := 9) (v := ?_) rfl (by kernel_rfl) (by kernel_rfl) (by kernel_rfl) (fun _ _ _ h => h) (Or.inl ⟨by kernel_rfl, fun w0 hSw => ?_⟩) hHeld ?_; rotate_left; (focus ((try dsimp only at hSw); simp only [List.getElem_toArray, List.getElem_cons_zero, List.getElem_cons_succ]; (first | (go_simp; done) | (go_simp; with_reducible rfl)))); (try simp only [List.getElem_toArray, List.getElem_cons_zero, List.getElem_cons_succ, Act.put, List.setIfInBounds_toArray, List.set_cons_zero, List.set_cons_succ]))
            refine wpAnyH_ready (rs := [11]) (by kernel_rfl) (by simp) ?_
            refine (AllReadyH.cons rfl (fun K hK => ?_) AllReadyH.nil)
            · simp only [List.getElem_toArray, List.getElem_cons_zero, List.getElem_cons_succ]
              have z0 := cell_blk hq5 0
              have z1 := cell_blk hq5 1
              have g0 := frozen_blk hq5 0
              have g1 := frozen_blk hq5 1
              simp only [List.getElem?_toArray, List.getElem?_cons_zero, List.getElem?_cons_succ] at z0 z1
              go_simp
              obtain ⟨⟨t0, t1⟩, hiP, hcP⟩ := put_plan hq5 ((hqW.below hd5).more hd5.size) (cons_of_own ho5)
              have hdP : Below w1.heap.size w1 ((w6.setCell ⟨w4.heap.size, 0, none⟩ (.slice A1 qs.length c1)).setCell ⟨w4.heap.size, 1, none⟩ (.slice AV5 ds.length cV5)) := below_two hd5 hqlo (.slice A1 qs.length c1) (.slice AV5 ds.length cV5)
              have ulP : w4.heap.size < ((w6.setCell ⟨w4.heap.size, 0, none⟩ (.slice A1 qs.length c1)).setCell ⟨w4.heap.size, 1, none⟩ (.slice AV5 ds.length cV5)).heap.size := by have h1 := blk_lt hq5; simpa using h1
              refine hK.out _ _ ⟨(hdP.cell (p := ⟨w.heap.size, 0, none⟩) hl).trans q0, (hdP.cell (p := ⟨w.heap.size, 1, none⟩) hl).trans q1, (hdP.cell (p := ⟨w.heap.size + 1, 0, none⟩) hl1).trans y0, (hdP.cell (p := ⟨w.heap.size + 1, 1, none⟩) hl1).trans y1, (hdP.cell (p := ⟨w.heap.size + 1, 2, none⟩) hl1).trans y2, (hdP.cell (p := ⟨w.heap.size + 1, 3, none⟩) hl1).trans y3, (hdP.cell (p := ⟨w.heap.size + 1, 4, none⟩) hl1).trans y4, (hdP.cell (p := ⟨w.heap.size + 1, 5, none⟩) hl1).trans y5, (hdP.cell (p := ⟨w.heap.size + 1, 6, none⟩) hl1).trans y6⟩ (fun hHeld => ?_)
              clear hK K
              (try simp only [List.getElem_toArray, List.getElem_cons_zero, List.getElem_cons_succ, Act.put, List.setIfInBounds_toArray, List.set_cons_zero, List.set_cons_succ])
              refine wpAnyH_done (by kernel_rfl) ?_ _
              clear z0 z1 g0 g1 hHeld hq5 ho5 hn5 hne5
              generalize ((w6.setCell ⟨w4.heap.size, 0, none⟩ (.slice A1 qs.length c1)).setCell ⟨w4.heap.size, 1, none⟩ (.slice AV5 ds.length cV5)) = w20 at *
              go_wp2_with fail
              refine (rpcheck_any _ _ qs ds _ hiP hcP).mono ?_
              by_cases hE2 : planE qs ds = 0
              · rw [hE2]
                have HR : Hid (withR qs cs c = (qs, ds, 0)) := by show _ = _; rw [withR, if_neg (by simp [HE.out]), HDS.out, if_neg (by simp [hE2])]
                clear hE2
                rintro e w21 ⟨rfl, hb21⟩
                have hd21 := hdP.trans (hb21.mono hdP.size)
                have hi21 := (hiP.below hb21).more hb21.size
                have hc21 := (hcP.below hb21).more hb21.size
                have s0 := (hb21.cell (p := ⟨w4.heap.size, 0, none⟩) ulP).trans t0
                have s1 := (hb21.cell (p := ⟨w4.heap.size, 1, none⟩) ulP).trans t1
                have hb4 := (hd21.block (w.heap.size + 1 + 1) (blk_lt hbk)).trans hbk
                have r0 := cell_blk hb4 0
                have r1 := cell_blk hb4 1
                have g0 := frozen_blk hb4 0
                have g1 := frozen_blk hb4 1
                simp only [List.getElem?_toArray, List.getElem?_cons_zero, List.getElem?_cons_succ] at r0 r1
                have hB21 := hB1.trans (hd21.mono hB1.size)
                clear t0 t1 hdP hiP hcP
                go_wp2_with fail
                obtain ⟨⟨u0, u1⟩, hiF, hcF⟩ := put_plan hb4 hi21 hc21
                have hB22 := below_two hB21 (show w.heap.size ≤ w.heap.size + 1 + 1 by omega) (.slice A1 qs.length c1) (.slice AV5 ds.length cV5)
                generalize ((w21.setCell ⟨w.heap.size + 1 + 1, 0, none⟩ (.slice A1 qs.length c1)).setCell ⟨w.heap.size + 1 + 1, 1, none⟩ (.slice AV5 ds.length cV5)) = w22 at *
                refine bodyPost_ret (v := .tuple #[.agg #[.slice A1 qs.length c1, .slice AV5 ds.length cV5], .int .i64 0]) (by simp [results, Tryd.results37, go_sem, u0, u1]) rfl ⟨_, _, by rw [HR.out], by rw [HR.out]; exact hiF, by rw [HR.out]; exact hcF, hB22⟩
              · have HR : Hid (withR qs cs c = ([], [], planE qs ds)) := by show _ = _; rw [withR, if_neg (by simp [HE.out]), HDS.out, if_pos hE2]
                have hEb : (planE qs ds != 0) = true := by simpa using hE2
                clear hE2
                rintro e w21 ⟨rfl, hb21⟩
                have hd21 := hdP.trans (hb21.mono hdP.size)
                have hi21 := (hiP.below hb21).more hb21.size
                have hc21 := (hcP.below hb21).more hb21.size
                have s0 := (hb21.cell (p := ⟨w4.heap.size, 0, none⟩) ulP).trans t0
                have s1 := (hb21.cell (p := ⟨w4.heap.size, 1, none⟩) ulP).trans t1
                have hb4 := (hd21.block (w.heap.size + 1 + 1) (blk_lt hbk)).trans hbk
                have r0 := cell_blk hb4 0
                have r1 := cell_blk hb4 1
                have g0 := frozen_blk hb4 0
                have g1 := frozen_blk hb4 1
                simp only [List.getElem?_toArray, List.getElem?_cons_zero, List.getElem?_cons_succ] at r0 r1
                have hB21 := hB1.trans (hd21.mono hB1.size)
                clear t0 t1 hdP hiP hcP
                go_wp2_with fail
                obtain ⟨u0, u1⟩ := two_cells r0 r1 (.slice none 0 0) (.slice none 0 0)
                have hB22 := below_two hB21 (show w.heap.size ≤ w.heap.size + 1 + 1 by omega) (.slice none 0 0) (.slice none 0 0)
                generalize ((w21.setCell ⟨w.heap.size + 1 + 1, 0, none⟩ (.slice none 0 0)).setCell ⟨w.heap.size + 1 + 1, 1, none⟩ (.slice none 0 0)) = w22 at *
                refine bodyPost_ret (v := .tuple #[.agg #[.slice none 0 0, .slice none 0 0], .int .i64 (planE qs ds)]) (by simp [results, Tryd.results37, go_sem, u0, u1]) rfl ⟨_, _, by rw [HR.out], by rw [HR.out]; exact ints_nil _ _, by rw [HR.out]; exact cons_nil _ _, hB22⟩
      · simp only [List.getElem_toArray, List.getElem_cons_zero, List.getElem_cons_succ]
        go_simp
        have hd3 := hd2.alloc hd2.size (.cells #[.slice none 0 0, .slice none 0 0] 25)
        have ho3 := ho2.alloc (.cells #[.slice none 0 0, .slice none 0 0] 25)
        have hqlo : w1.heap.size ≤ w3.heap.size := hd2.size
        have hq3 : (w3.alloc (.cells #[.slice none 0 0, .slice none 0 0] 25)).heap[w3.heap.size]? = some (.cells #[.slice none 0 0, .slice none 0 0] 25 (0, 0)) := heap_last _ _ _ rfl
        refine hK.out _ _ ⟨(hd3.cell (p := ⟨w.heap.size, 0, none⟩) hl).trans q0, (hd3.cell (p := ⟨w.heap.size, 1, none⟩) hl).trans q1, (hd3.cell (p := ⟨w.heap.size + 1, 0, none⟩) hl1).trans y0, (hd3.cell (p := ⟨w.heap.size + 1, 1, none⟩) hl1).trans y1, (hd3.cell (p := ⟨w.heap.size + 1, 2, none⟩) hl1).trans y2, (hd3.cell (p := ⟨w.heap.size + 1, 3, none⟩) hl1).trans y3, (hd3.cell (p := ⟨w.heap.size + 1, 4, none⟩) hl1).trans y4, (hd3.cell (p := ⟨w.heap.size + 1, 5, none⟩) hl1).trans y5, (hd3.cell (p := ⟨w.heap.size + 1, 6, none⟩) hl1).trans y6⟩ (fun _ => ?_)
        clear hK K
        (try simp only [List.getElem_toArray, List.getElem_cons_zero, List.getElem_cons_succ, Act.put, List.setIfInBounds_toArray, List.set_cons_zero, List.set_cons_succ])
        generalize hX3 : (w3.alloc (.cells #[.slice none 0 0, .slice none 0 0] 25)) = w4 at *
        clear hX3
        refine wpAnyH_ready (rs := [7]) (by kernel_rfl) (by simp) ?_
        refine (AllReadyH.cons rfl (fun K hK => ?_) AllReadyH.nil)
        · simp only [List.getElem_toArray, List.getElem_cons_zero, List.getElem_cons_succ]
          go_simp
          have hd4 := hd3.alloc hd3.size (.cells #[.int .i64 c.a, .int .i64 c.b, .int .i64 c.s, .int .i64 c.e, .int .i64 c.r, .int .i64 c.g, .int .i64 c.l] 40)
          have ho4 := ho3.alloc (.cells #[.int .i64 c.a, .int .i64 c.b, .int .i64 c.s, .int .i64 c.e, .int .i64 c.r, .int .i64 c.g, .int .i64 c.l] 40)
          have hq4 := (Below.heap_alloc _ (.cells #[.int .i64 c.a, .int .i64 c.b, .int .i64 c.s, .int .i64 c.e, .int .i64 c.r, .int .i64 c.g, .int .i64 c.l] 40) _ (blk_lt hq3)).trans hq3
          have hn4 : (w4.alloc (.cells #[.int .i64 c.a, .int .i64 c.b, .int .i64 c.s, .int .i64 c.e, .int .i64 c.r, .int .i64 c.g, .int .i64 c.l] 40)).heap[w4.heap.size]? = some (.cells (conVals c).toArray 40 (0, 0)) := heap_last _ _ _ rfl
          have hne4 := own_ne_lt ho3 (g := w4.heap.size) (.inr (Nat.le_refl _))
          refine hK.out _ _ ⟨(hd4.cell (p := ⟨w.heap.size, 0, none⟩) hl).trans q0, (hd4.cell (p := ⟨w.heap.size, 1, none⟩) hl).trans q1, (hd4.cell (p := ⟨w.heap.size + 1, 0, none⟩) hl1).trans y0, (hd4.cell (p := ⟨w.heap.size + 1, 1, none⟩) hl1).trans y1, (hd4.cell (p := ⟨w.heap.size + 1, 2, none⟩) hl1).trans y2, (hd4.cell (p := ⟨w.heap.size + 1, 3, none⟩) hl1).trans y3, (hd4.cell (p := ⟨w.heap.size + 1, 4, none⟩) hl1).trans y4, (hd4.cell (p := ⟨w.heap.size + 1, 5, none⟩) hl1).trans y5, (hd4.cell (p := ⟨w.heap.size + 1, 6, none⟩) hl1).trans y6⟩ (fun _ => ?_)
          clear hK K
          (try simp only [List.getElem_toArray, List.getElem_cons_zero, List.getElem_cons_succ, Act.put, List.setIfInBounds_toArray, List.set_cons_zero, List.set_cons_succ])
          generalize hX4 : (w4.alloc (.cells #[.int .i64 c.a, .int .i64 c.b, .int .i64 c.s, .int .i64 c.e, .int .i64 c.r, .int .i64 c.g, .int .i64 c.l] 40)) = w5 at *
          clear hX4
          refine wpAnyH_ready (rs := [8]) (by kernel_rfl) (by simp) ?_
          refine (AllReadyH.cons rfl (fun K hK => ?_) AllReadyH.nil)
          · simp only [List.getElem_toArray, List.getElem_cons_zero, List.getElem_cons_succ]
            rw [if_pos (by simp [Region.wanted])]
            refine wp_append_con (.tmp 17) (.tmp 19) rfl w5 w1.heap.size (.slice AV2 cs.length cV2) cs [c] (by kernel_rfl) ho4 (some ⟨w4.heap.size, 0, none⟩) 1 (by kernel_rfl) (consAt_one hn4) (by simp; omega) hd4.size ?_
            intro V5 w6 ho5 hg5 h55
            have hd5 : Below w1.heap.size w1 w6 := Below.grown hd4 hg5 hd4.size (fun j e => (ho4.lt j e).1)
            have hn5 := (hg5.block w4.heap.size (blk_lt hn4) (fun e => hne4 e.symm)).trans hn4
            have hne5 : V5.ownBlock ≠ some w4.heap.size := fun e => by have h1 := blk_lt hn4; rcases h55 with h | h; exact hne4 (h.symm.trans e); rw [h] at e; injection e; omega
            have hq5 := (hg5.block w3.heap.size (blk_lt hq4) (fun e => own_ne_kind ho4 hq4 (by decide) e.symm)).trans hq4
            obtain ⟨AV5, cV5, rfl⟩ := own_shape ho5
            clear h55 hg5
            generalize hds : cs ++ [c] = ds at *
            have HDS := Lib.hid hds
            clear hds
            refine hK.out _ _ ⟨(hd5.cell (p := ⟨w.heap.size, 0, none⟩) hl).trans q0, (hd5.cell (p := ⟨w.heap.size, 1, none⟩) hl).trans q1, (hd5.cell (p := ⟨w.heap.size + 1, 0, none⟩) hl1).trans y0, (hd5.cell (p := ⟨w.heap.size + 1, 1, none⟩) hl1).trans y1, (hd5.cell (p := ⟨w.heap.size + 1, 2, none⟩) hl1).trans y2, (hd5.cell (p := ⟨w.heap.size + 1, 3, none⟩) hl1).trans y3, (hd5.cell (p := ⟨w.heap.size + 1, 4, none⟩) hl1).trans y4, (hd5.cell (p := ⟨w.heap.size + 1, 5, none⟩) hl1).trans y5, (hd5.cell (p := ⟨w.heap.size + 1, 6, none⟩) hl1).trans y6⟩ (fun hHeld => ?_)
            clear hK K
            (try simp only [Act.put, List.setIfInBounds_toArray, List.set_cons_zero, List.set_cons_succ])
            (refine wpAnyH_take (i := 9) (v := ?_) rfl (by kernel_rfl) (by kernel_rfl) (by kernel_rfl) (fun _ _ _ h => h) (Or.inl ⟨by kernel_rfl, fun w0 hSw => ?_⟩) hHeld ?_; rotate_left; (focus ((try dsimp only at hSw); simp only [List.getElem_toArray, List.getElem_cons_zero, List.getElem_cons_succ]; (first | (go_simp; done) | (go_simp; with_reducible rfl)))); (try simp only [List.getElem_toArray, List.getElem_cons_zero, List.getElem_cons_succ, Act.put, List.setIfInBounds_toArray, List.set_cons_zero, List.set_cons_succ]))
            refine wpAnyH_ready (rs := [11]) (by kernel_rfl) (by simp) ?_
            refine (AllReadyH.cons rfl (fun K hK => ?_) AllReadyH.nil)
            · simp only [List.getElem_toArray, List.getElem_cons_zero, List.getElem_cons_succ]
              have z0 := cell_blk hq5 0
              have z1 := cell_blk hq5 1
              have g0 := frozen_blk hq5 0
              have g1 := frozen_blk hq5 1
              simp only [List.getElem?_toArray, List.getElem?_cons_zero, List.getElem?_cons_succ] at z0 z1
              go_simp
              obtain ⟨⟨t0, t1⟩, hiP, hcP⟩ := put_plan hq5 ((hqW.below hd5).more hd5.size) (cons_of_own ho5)
              have hdP : Below w1.heap.size w1 ((w6.setCell ⟨w3.heap.size, 0, none⟩ (.slice A1 qs.length c1)).setCell ⟨w3.heap.size, 1, none⟩ (.slice AV5 ds.length cV5)) := below_two hd5 hqlo (.slice A1 qs.length c1) (.slice AV5 ds.length cV5)
              have ulP : w3.heap.size < ((w6.setCell ⟨w3.heap.size, 0, none⟩ (.slice A1 qs.length c1)).setCell ⟨w3.heap.size, 1, none⟩ (.slice AV5 ds.length cV5)).heap.size := by have h1 := blk_lt hq5; simpa using h1
              refine hK.out _ _ ⟨(hdP.cell (p := ⟨w.heap.size, 0, none⟩) hl).trans q0, (hdP.cell (p := ⟨w.heap.size, 1, none⟩) hl).trans q1, (hdP.cell (p := ⟨w.heap.size + 1, 0, none⟩) hl1).trans y0, (hdP.cell (p := ⟨w.heap.size + 1, 1, none⟩) hl1).trans y1, (hdP.cell (p := ⟨w.heap.size + 1, 2, none⟩) hl1).trans y2, (hdP.cell (p := ⟨w.heap.size + 1, 3, none⟩) hl1).trans y3, (hdP.cell (p := ⟨w.heap.size + 1, 4, none⟩) hl1).trans y4, (hdP.cell (p := ⟨w.heap.size + 1, 5, none⟩) hl1).trans y5, (hdP.cell (p := ⟨w.heap.size + 1, 6, none⟩) hl1).trans y6⟩ (fun hHeld => ?_)
              clear hK K
              (try simp only [List.getElem_toArray, List.getElem_cons_zero, List.getElem_cons_succ, Act.put, List.setIfInBounds_toArray, List.set_cons_zero, List.set_cons_succ])
              refine wpAnyH_done (by kernel_rfl) ?_ _
              clear z0 z1 g0 g1 hHeld hq5 ho5 hn5 hne5
              generalize ((w6.setCell ⟨w3.heap.size, 0, none⟩ (.slice A1 qs.length c1)).setCell ⟨w3.heap.size, 1, none⟩ (.slice AV5 ds.length cV5)) = w20 at *
              go_wp2_with fail
              refine (rpcheck_any _ _ qs ds _ hiP hcP).mono ?_
              by_cases hE2 : planE qs ds = 0
              · rw [hE2]
                have HR : Hid (withR qs cs c = (qs, ds, 0)) := by show _ = _; rw [withR, if_neg (by simp [HE.out]), HDS.out, if_neg (by simp [hE2])]
                clear hE2
                rintro e w21 ⟨rfl, hb21⟩
                have hd21 := hdP.trans (hb21.mono hdP.size)
                have hi21 := (hiP.below hb21).more hb21.size
                have hc21 := (hcP.below hb21).more hb21.size
                have s0 := (hb21.cell (p := ⟨w3.heap.size, 0, none⟩) ulP).trans t0
                have s1 := (hb21.cell (p := ⟨w3.heap.size, 1, none⟩) ulP).trans t1
                have hb4 := (hd21.block (w.heap.size + 1 + 1) (blk_lt hbk)).trans hbk
                have r0 := cell_blk hb4 0
                have r1 := cell_blk hb4 1
                have g0 := frozen_blk hb4 0
                have g1 := frozen_blk hb4 1
                simp only [List.getElem?_toArray, List.getElem?_cons_zero, List.getElem?_cons_succ] at r0 r1
                have hB21 := hB1.trans (hd21.mono hB1.size)
                clear t0 t1 hdP hiP hcP
                go_wp2_with fail
                obtain ⟨⟨u0, u1⟩, hiF, hcF⟩ := put_plan hb4 hi21 hc21
                have hB22 := below_two hB21 (show w.heap.size ≤ w.heap.size + 1 + 1 by omega) (.slice A1 qs.length c1) (.slice AV5 ds.length cV5)
                generalize ((w21.setCell ⟨w.heap.size + 1 + 1, 0, none⟩ (.slice A1 qs.length c1)).setCell ⟨w.heap.size + 1 + 1, 1, none⟩ (.slice AV5 ds.length cV5)) = w22 at *
                refine bodyPost_ret (v := .tuple #[.agg #[.slice A1 qs.length c1, .slice AV5 ds.length cV5], .int .i64 0]) (by simp [results, Tryd.results37, go_sem, u0, u1]) rfl ⟨_, _, by rw [HR.out], by rw [HR.out]; exact hiF, by rw [HR.out]; exact hcF, hB22⟩
              · have HR : Hid (withR qs cs c = ([], [], planE qs ds)) := by show _ = _; rw [withR, if_neg (by simp [HE.out]), HDS.out, if_pos hE2]
                have hEb : (planE qs ds != 0) = true := by simpa using hE2
                clear hE2
                rintro e w21 ⟨rfl, hb21⟩
                have hd21 := hdP.trans (hb21.mono hdP.size)
                have hi21 := (hiP.below hb21).more hb21.size
                have hc21 := (hcP.below hb21).more hb21.size
                have s0 := (hb21.cell (p := ⟨w3.heap.size, 0, none⟩) ulP).trans t0
                have s1 := (hb21.cell (p := ⟨w3.heap.size, 1, none⟩) ulP).trans t1
                have hb4 := (hd21.block (w.heap.size + 1 + 1) (blk_lt hbk)).trans hbk
                have r0 := cell_blk hb4 0
                have r1 := cell_blk hb4 1
                have g0 := frozen_blk hb4 0
                have g1 := frozen_blk hb4 1
                simp only [List.getElem?_toArray, List.getElem?_cons_zero, List.getElem?_cons_succ] at r0 r1
                have hB21 := hB1.trans (hd21.mono hB1.size)
                clear t0 t1 hdP hiP hcP
                go_wp2_with fail
                obtain ⟨u0, u1⟩ := two_cells r0 r1 (.slice none 0 0) (.slice none 0 0)
                have hB22 := below_two hB21 (show w.heap.size ≤ w.heap.size + 1 + 1 by omega) (.slice none 0 0) (.slice none 0 0)
                generalize ((w21.setCell ⟨w.heap.size + 1 + 1, 0, none⟩ (.slice none 0 0)).setCell ⟨w.heap.size + 1 + 1, 1, none⟩ (.slice none 0 0)) = w22 at *
                refine bodyPost_ret (v := .tuple #[.agg #[.slice none 0 0, .slice none 0 0], .int .i64 (planE qs ds)]) (by simp [results, Tryd.results37, go_sem, u0, u1]) rfl ⟨_, _, by rw [HR.out], by rw [HR.out]; exact ints_nil _ _, by rw [HR.out]; exact cons_nil _ _, hB22⟩
    · simp only [List.getElem_toArray, List.getElem_cons_zero, List.getElem_cons_succ]
      go_simp
      have hd2 := hd1.alloc hd1.size (.cells #[.int .i64 c.a, .int .i64 c.b, .int .i64 c.s, .int .i64 c.e, .int .i64 c.r, .int .i64 c.g, .int .i64 c.l] 40)
      have ho2 := ho1.alloc (.cells #[.int .i64 c.a, .int .i64 c.b, .int .i64 c.s, .int .i64 c.e, .int .i64 c.r, .int .i64 c.g, .int .i64 c.l] 40)
      have hn2 : (w2.alloc (.cells #[.int .i64 c.a, .int .i64 c.b, .int .i64 c.s, .int .i64 c.e, .int .i64 c.r, .int .i64 c.g, .int .i64 c.l] 40)).heap[w2.heap.size]? = some (.cells (conVals c).toArray 40 (0, 0)) := heap_last _ _ _ rfl
      have hne2 := own_ne_lt ho1 (g := w2.heap.size) (.inr (Nat.le_refl _))
      refine hK.out _ _ ⟨(hd2.cell (p := ⟨w.heap.size, 0, none⟩) hl).trans q0, (hd2.cell (p := ⟨w.heap.size, 1, none⟩) hl).trans q1, (hd2.cell (p := ⟨w.heap.size + 1, 0, none⟩) hl1).trans y0, (hd2.cell (p := ⟨w.heap.size + 1, 1, none⟩) hl1).trans y1, (hd2.cell (p := ⟨w.heap.size + 1, 2, none⟩) hl1).trans y2, (hd2.cell (p := ⟨w.heap.size + 1, 3, none⟩) hl1).trans y3, (hd2.cell (p := ⟨w.heap.size + 1, 4, none⟩) hl1).trans y4, (hd2.cell (p := ⟨w.heap.size + 1, 5, none⟩) hl1).trans y5, (hd2.cell (p := ⟨w.heap.size + 1, 6, none⟩) hl1).trans y6⟩ (fun _ => ?_)
      clear hK K
      (try simp only [List.getElem_toArray, List.getElem_cons_zero, List.getElem_cons_succ, Act.put, List.setIfInBounds_toArray, List.set_cons_zero, List.set_cons_succ])
      generalize hX2 : (w2.alloc (.cells #[.int .i64 c.a, .int .i64 c.b, .int .i64 c.s, .int .i64 c.e, .int .i64 c.r, .int .i64 c.g, .int .i64 c.l] 40)) = w3 at *
      clear hX2
      refine wpAnyH_ready (rs := [5, 10]) (by kernel_rfl) (by simp) ?_
      refine (AllReadyH.cons rfl (fun K hK => ?_) (AllReadyH.cons rfl (fun K hK => ?_) AllReadyH.nil))
      · simp only [List.getElem_toArray, List.getElem_cons_zero, List.getElem_cons_succ]
        rw [if_pos (by simp [Region.wanted])]
        refine wp_append_con (.tmp 14) (.tmp 16) rfl w3 w1.heap.size (.slice (some ⟨wd.heap.size, 0, none⟩) 0 0) [] cs (by kernel_rfl) ho2 A2 c2 (by kernel_rfl) (by have h := consAt_take (i := cs.length) hcW hd2 (Nat.le_refl _); rwa [List.take_length] at h) (by simp; omega) hd2.size ?_
        intro V3 w4 ho3 hg3 h53
        have hd3 : Below w1.heap.size w1 w4 := Below.grown hd2 hg3 hd2.size (fun j e => (ho2.lt j e).1)
        have hn3 := (hg3.block w2.heap.size (blk_lt hn2) (fun e => hne2 e.symm)).trans hn2
        have hne3 : V3.ownBlock ≠ some w2.heap.size := fun e => by have h1 := blk_lt hn2; rcases h53 with h | h; exact hne2 (h.symm.trans e); rw [h] at e; injection e; omega
        rw [List.nil_append] at ho3
        obtain ⟨AV3, cV3, rfl⟩ := own_shape ho3
        clear h53 hg3
        refine hK.out _ _ ⟨(hd3.cell (p := ⟨w.heap.size, 0, none⟩) hl).trans q0, (hd3.cell (p := ⟨w.heap.size, 1, none⟩) hl).trans q1, (hd3.cell (p := ⟨w.heap.size + 1, 0, none⟩) hl1).trans y0, (hd3.cell (p := ⟨w.heap.size + 1, 1, none⟩) hl1).trans y1, (hd3.cell (p := ⟨w.heap.size + 1, 2, none⟩) hl1).trans y2, (hd3.cell (p := ⟨w.heap.size + 1, 3, none⟩) hl1).trans y3, (hd3.cell (p := ⟨w.heap.size + 1, 4, none⟩) hl1).trans y4, (hd3.cell (p := ⟨w.heap.size + 1, 5, none⟩) hl1).trans y5, (hd3.cell (p := ⟨w.heap.size + 1, 6, none⟩) hl1).trans y6⟩ (fun hHeld => ?_)
        clear hK K
        (try simp only [Act.put, List.setIfInBounds_toArray, List.set_cons_zero, List.set_cons_succ])
        refine wpAnyH_ready (rs := [8, 10]) (by kernel_rfl) (by simp) ?_
        refine (AllReadyH.cons rfl (fun K hK => ?_) (AllReadyH.cons rfl (fun K hK => ?_) AllReadyH.nil))
        · simp only [List.getElem_toArray, List.getElem_cons_zero, List.getElem_cons_succ]
          rw [if_pos (by simp [Region.wanted])]
          refine wp_append_con (.tmp 17) (.tmp 19) rfl w4 w1.heap.size (.slice AV3 cs.length cV3) cs [c] (by kernel_rfl) ho3 (some ⟨w2.heap.size, 0, none⟩) 1 (by kernel_rfl) (consAt_one hn3) (by simp; omega) hd3.size ?_
          intro V4 w5 ho4 hg4 h54
          have hd4 : Below w1.heap.size w1 w5 := Below.grown hd3 hg4 hd3.size (fun j e => (ho3.lt j e).1)
          have hn4 := (hg4.block w2.heap.size (blk_lt hn3) (fun e => hne3 e.symm)).trans hn3
          have hne4 : V4.ownBlock ≠ some w2.heap.size := fun e => by have h1 := blk_lt hn3; rcases h54 with h | h; exact hne3 (h.symm.trans e); rw [h] at e; injection e; omega
          obtain ⟨AV4, cV4, rfl⟩ := own_shape ho4
          clear h54 hg4
          generalize hds : cs ++ [c] = ds at *
          have HDS := Lib.hid hds
          clear hds
          refine hK.out _ _ ⟨(hd4.cell (p := ⟨w.heap.size, 0, none⟩) hl).trans q0, (hd4.cell (p := ⟨w.heap.size, 1, none⟩) hl).trans q1, (hd4.cell (p := ⟨w.heap.size + 1, 0, none⟩) hl1).trans y0, (hd4.cell (p := ⟨w.heap.size + 1, 1, none⟩) hl1).trans y1, (hd4.cell (p := ⟨w.heap.size + 1, 2, none⟩) hl1).trans y2, (hd4.cell (p := ⟨w.heap.size + 1, 3, none⟩) hl1).trans y3, (hd4.cell (p := ⟨w.heap.size + 1, 4, none⟩) hl1).trans y4, (hd4.cell (p := ⟨w.heap.size + 1, 5, none⟩) hl1).trans y5, (hd4.cell (p := ⟨w.heap.size + 1, 6, none⟩) hl1).trans y6⟩ (fun hHeld => ?_)
          clear hK K
          (try simp only [Act.put, List.setIfInBounds_toArray, List.set_cons_zero, List.set_cons_succ])
          (refine wpAnyH_take (i := 9) (v := ?_) rfl (by kernel_rfl) (by kernel_rfl) (by kernel_rfl) (fun _ _ _ h => h) (Or.inl ⟨by kernel_rfl, fun w0 hSw => ?_⟩) hHeld ?_; rotate_left; (focus ((try dsimp only at hSw); simp only [List.getElem_toArray, List.getElem_cons_zero, List.getElem_cons_succ]; (first | (go_simp; done) | (go_simp; with_reducible rfl)))); (try simp only [List.getElem_toArray, List.getElem_cons_zero, List.getElem_cons_succ, Act.put, List.setIfInBounds_toArray, List.set_cons_zero, List.set_cons_succ]))
          refine wpAnyH_ready (rs := [10]) (by kernel_rfl) (by simp) ?_
          refine (AllReadyH.cons rfl (fun K hK => ?_) AllReadyH.nil)
          · simp only [List.getElem_toArray, List.getElem_cons_zero, List.getElem_cons_succ]
            go_simp
            have hd5 := hd4.alloc hd4.size (.cells #[.slice none 0 0, .slice none 0 0] 25)
            have ho5 := ho4.alloc (.cells #[.slice none 0 0, .slice none 0 0] 25)
            have hn5 := (Below.heap_alloc _ (.cells #[.slice none 0 0, .slice none 0 0] 25) _ (blk_lt hn4)).trans hn4
            have hne5 := hne4
            have hqlo : w1.heap.size ≤ w5.heap.size := hd4.size
            have hq5 : (w5.alloc (.cells #[.slice none 0 0, .slice none 0 0] 25)).heap[w5.heap.size]? = some (.cells #[.slice none 0 0, .slice none 0 0] 25 (0, 0)) := heap_last _ _ _ rfl
            refine hK.out _ _ ⟨(hd5.cell (p := ⟨w.heap.size, 0, none⟩) hl).trans q0, (hd5.cell (p := ⟨w.heap.size, 1, none⟩) hl).trans q1, (hd5.cell (p := ⟨w.heap.size + 1, 0, none⟩) hl1).trans y0, (hd5.cell (p := ⟨w.heap.size + 1, 1, none⟩) hl1).trans y1, (hd5.cell (p := ⟨w.heap.size + 1, 2, none⟩) hl1).trans y2, (hd5.cell (p := ⟨w.heap.size + 1, 3, none⟩) hl1).trans y3, (hd5.cell (p := ⟨w.heap.size + 1, 4, none⟩) hl1).trans y4, (hd5.cell (p := ⟨w.heap.size + 1, 5, none⟩) hl1).trans y5, (hd5.cell (p := ⟨w.heap.size + 1, 6, none⟩) hl1).trans y6⟩ (fun _ => ?_)
            clear hK K
            (try simp only [List.getElem_toArray, List.getElem_cons_zero, List.getElem_cons_succ, Act.put, List.setIfInBounds_toArray, List.set_cons_zero, List.set_cons_succ])
            generalize hX5 : (w5.alloc (.cells #[.slice none 0 0, .slice none 0 0] 25)) = w6 at *
            clear hX5
            refine wpAnyH_ready (rs := [11]) (by kernel_rfl) (by simp) ?_
            refine (AllReadyH.cons rfl (fun K hK => ?_) AllReadyH.nil)
            · simp only [List.getElem_toArray, List.getElem_cons_zero, List.getElem_cons_succ]
              have z0 := cell_blk hq5 0
              have z1 := cell_blk hq5 1
              have g0 := frozen_blk hq5 0
              have g1 := frozen_blk hq5 1
              simp only [List.getElem?_toArray, List.getElem?_cons_zero, List.getElem?_cons_succ] at z0 z1
              go_simp
              obtain ⟨⟨t0, t1⟩, hiP, hcP⟩ := put_plan hq5 ((hqW.below hd5).more hd5.size) (cons_of_own ho5)
              have hdP : Below w1.heap.size w1 ((w6.setCell ⟨w5.heap.size, 0, none⟩ (.slice A1 qs.length c1)).setCell ⟨w5.heap.size, 1, none⟩ (.slice AV4 ds.length cV4)) := below_two hd5 hqlo (.slice A1 qs.length c1) (.slice AV4 ds.length cV4)
              have ulP : w5.heap.size < ((w6.setCell ⟨w5.heap.size, 0, none⟩ (.slice A1 qs.length c1)).setCell ⟨w5.heap.size, 1, none⟩ (.slice AV4 ds.length cV4)).heap.size := by have h1 := blk_lt hq5; simpa using h1
              refine hK.out _ _ ⟨(hdP.cell (p := ⟨w.heap.size, 0, none⟩) hl).trans q0, (hdP.cell (p := ⟨w.heap.size, 1, none⟩) hl).trans q1, (hdP.cell (p := ⟨w.heap.size + 1, 0, none⟩) hl1).trans y0, (hdP.cell (p := ⟨w.heap.size + 1, 1, none⟩) hl1).trans y1, (hdP.cell (p := ⟨w.heap.size + 1, 2, none⟩) hl1).trans y2, (hdP.cell (p := ⟨w.heap.size + 1, 3, none⟩) hl1).trans y3, (hdP.cell (p := ⟨w.heap.size + 1, 4, none⟩) hl1).trans y4, (hdP.cell (p := ⟨w.heap.size + 1, 5, none⟩) hl1).trans y5, (hdP.cell (p := ⟨w.heap.size + 1, 6, none⟩) hl1).trans y6⟩ (fun hHeld => ?_)
              clear hK K
              (try simp only [List.getElem_toArray, List.getElem_cons_zero, List.getElem_cons_succ, Act.put, List.setIfInBounds_toArray, List.set_cons_zero, List.set_cons_succ])
              refine wpAnyH_done (by kernel_rfl) ?_ _
              clear z0 z1 g0 g1 hHeld hq5 ho5 hn5 hne5
              generalize ((w6.setCell ⟨w5.heap.size, 0, none⟩ (.slice A1 qs.length c1)).setCell ⟨w5.heap.size, 1, none⟩ (.slice AV4 ds.length cV4)) = w20 at *
              go_wp2_with fail
              refine (rpcheck_any _ _ qs ds _ hiP hcP).mono ?_
              by_cases hE2 : planE qs ds = 0
              · rw [hE2]
                have HR : Hid (withR qs cs c = (qs, ds, 0)) := by show _ = _; rw [withR, if_neg (by simp [HE.out]), HDS.out, if_neg (by simp [hE2])]
                clear hE2
                rintro e w21 ⟨rfl, hb21⟩
                have hd21 := hdP.trans (hb21.mono hdP.size)
                have hi21 := (hiP.below hb21).more hb21.size
                have hc21 := (hcP.below hb21).more hb21.size
                have s0 := (hb21.cell (p := ⟨w5.heap.size, 0, none⟩) ulP).trans t0
                have s1 := (hb21.cell (p := ⟨w5.heap.size, 1, none⟩) ulP).trans t1
                have hb4 := (hd21.block (w.heap.size + 1 + 1) (blk_lt hbk)).trans hbk
                have r0 := cell_blk hb4 0
                have r1 := cell_blk hb4 1
                have g0 := frozen_blk hb4 0
                have g1 := frozen_blk hb4 1
                simp only [List.getElem?_toArray, List.getElem?_cons_zero, List.getElem?_cons_succ] at r0 r1
                have hB21 := hB1.trans (hd21.mono hB1.size)
                clear t0 t1 hdP hiP hcP
                go_wp2_with fail
                obtain ⟨⟨u0, u1⟩, hiF, hcF⟩ := put_plan hb4 hi21 hc21
                have hB22 := below_two hB21 (show w.heap.size ≤ w.heap.size + 1 + 1 by omega) (.slice A1 qs.length c1) (.slice AV4 ds.length cV4)
                generalize ((w21.setCell ⟨w.heap.size + 1 + 1, 0, none⟩ (.slice A1 qs.length c1)).setCell ⟨w.heap.size + 1 + 1, 1, none⟩ (.slice AV4 ds.length cV4)) = w22 at *
                refine bodyPost_ret (v := .tuple #[.agg #[.slice A1 qs.length c1, .slice AV4 ds.length cV4], .int .i64 0]) (by simp [results, Tryd.results37, go_sem, u0, u1]) rfl ⟨_, _, by rw [HR.out], by rw [HR.out]; exact hiF, by rw [HR.out]; exact hcF, hB22⟩
              · have HR : Hid (withR qs cs c = ([], [], planE qs ds)) := by show _ = _; rw [withR, if_neg (by simp [HE.out]), HDS.out, if_pos hE2]
                have hEb : (planE qs ds != 0) = true := by simpa using hE2
                clear hE2
                rintro e w21 ⟨rfl, hb21⟩
                have hd21 := hdP.trans (hb21.mono hdP.size)
                have hi21 := (hiP.below hb21).more hb21.size
                have hc21 := (hcP.below hb21).more hb21.size
                have s0 := (hb21.cell (p := ⟨w5.heap.size, 0, none⟩) ulP).trans t0
                have s1 := (hb21.cell (p := ⟨w5.heap.size, 1, none⟩) ulP).trans t1
                have hb4 := (hd21.block (w.heap.size + 1 + 1) (blk_lt hbk)).trans hbk
                have r0 := cell_blk hb4 0
                have r1 := cell_blk hb4 1
                have g0 := frozen_blk hb4 0
                have g1 := frozen_blk hb4 1
                simp only [List.getElem?_toArray, List.getElem?_cons_zero, List.getElem?_cons_succ] at r0 r1
                have hB21 := hB1.trans (hd21.mono hB1.size)
                clear t0 t1 hdP hiP hcP
                go_wp2_with fail
                obtain ⟨u0, u1⟩ := two_cells r0 r1 (.slice none 0 0) (.slice none 0 0)
                have hB22 := below_two hB21 (show w.heap.size ≤ w.heap.size + 1 + 1 by omega) (.slice none 0 0) (.slice none 0 0)
                generalize ((w21.setCell ⟨w.heap.size + 1 + 1, 0, none⟩ (.slice none 0 0)).setCell ⟨w.heap.size + 1 + 1, 1, none⟩ (.slice none 0 0)) = w22 at *
                refine bodyPost_ret (v := .tuple #[.agg #[.slice none 0 0, .slice none 0 0], .int .i64 (planE qs ds)]) (by simp [results, Tryd.results37, go_sem, u0, u1]) rfl ⟨_, _, by rw [HR.out], by rw [HR.out]; exact ints_nil _ _, by rw [HR.out]; exact cons_nil _ _, hB22⟩
        · simp only [List.getElem_toArray, List.getElem_cons_zero, List.getElem_cons_succ]
          go_simp
          have hd4 := hd3.alloc hd3.size (.cells #[.slice none 0 0, .slice none 0 0] 25)
          have ho4 := ho3.alloc (.cells #[.slice none 0 0, .slice none 0 0] 25)
          have hn4 := (Below.heap_alloc _ (.cells #[.slice none 0 0, .slice none 0 0] 25) _ (blk_lt hn3)).trans hn3
          have hne4 := hne3
          have hqlo : w1.heap.size ≤ w4.heap.size := hd3.size
          have hq4 : (w4.alloc (.cells #[.slice none 0 0, .slice none 0 0] 25)).heap[w4.heap.size]? = some (.cells #[.slice none 0 0, .slice none 0 0] 25 (0, 0)) := heap_last _ _ _ rfl
          refine hK.out _ _ ⟨(hd4.cell (p := ⟨w.heap.size, 0, none⟩) hl).trans q0, (hd4.cell (p := ⟨w.heap.size, 1, none⟩) hl).trans q1, (hd4.cell (p := ⟨w.heap.size + 1, 0, none⟩) hl1).trans y0, (hd4.cell (p := ⟨w.heap.size + 1, 1, none⟩) hl1).trans y1, (hd4.cell (p := ⟨w.heap.size + 1, 2, none⟩) hl1).trans y2, (hd4.cell (p := ⟨w.heap.size + 1, 3, none⟩) hl1).trans y3, (hd4.cell (p := ⟨w.heap.size + 1, 4, none⟩) hl1).trans y4, (hd4.cell (p := ⟨w.heap.size + 1, 5, none⟩) hl1).trans y5, (hd4.cell (p := ⟨w.heap.size + 1, 6, none⟩) hl1).trans y6⟩ (fun _ => ?_)
          clear hK K
          (try simp only [List.getElem_toArray, List.getElem_cons_zero, List.getElem_cons_succ, Act.put, List.setIfInBounds_toArray, List.set_cons_zero, List.set_cons_succ])
          generalize hX4 : (w4.alloc (.cells #[.slice none 0 0, .slice none 0 0] 25)) = w5 at *
          clear hX4
          refine wpAnyH_ready (rs := [8]) (by kernel_rfl) (by simp) ?_
          refine (AllReadyH.cons rfl (fun K hK => ?_) AllReadyH.nil)
          · simp only [List.getElem_toArray, List.getElem_cons_zero, List.getElem_cons_succ]
            rw [if_pos (by simp [Region.wanted])]
            refine wp_append_con (.tmp 17) (.tmp 19) rfl w5 w1.heap.size (.slice AV3 cs.length cV3) cs [c] (by kernel_rfl) ho4 (some ⟨w2.heap.size, 0, none⟩) 1 (by kernel_rfl) (consAt_one hn4) (by simp; omega) hd4.size ?_
            intro V5 w6 ho5 hg5 h55
            have hd5 : Below w1.heap.size w1 w6 := Below.grown hd4 hg5 hd4.size (fun j e => (ho4.lt j e).1)
            have hn5 := (hg5.block w2.heap.size (blk_lt hn4) (fun e => hne4 e.symm)).trans hn4
            have hne5 : V5.ownBlock ≠ some w2.heap.size := fun e => by have h1 := blk_lt hn4; rcases h55 with h | h; exact hne4 (h.symm.trans e); rw [h] at e; injection e; omega
            have hq5 := (hg5.block w4.heap.size (blk_lt hq4) (fun e => own_ne_kind ho4 hq4 (by decide) e.symm)).trans hq4
            obtain ⟨AV5, cV5, rfl⟩ := own_shape ho5
            clear h55 hg5
            generalize hds : cs ++ [c] = ds at *
            have HDS := Lib.hid hds
            clear hds
            refine hK.out _ _ ⟨(hd5.cell (p := ⟨w.heap.size, 0, none⟩) hl).trans q0, (hd5.cell (p := ⟨w.heap.size, 1, none⟩) hl).trans q1, (hd5.cell (p := ⟨w.heap.size + 1, 0, none⟩) hl1).trans y0, (hd5.cell (p := ⟨w.heap.size + 1, 1, none⟩) hl1).trans y1, (hd5.cell (p := ⟨w.heap.size + 1, 2, none⟩) hl1).trans y2, (hd5.cell (p := ⟨w.heap.size + 1, 3, none⟩) hl1).trans y3, (hd5.cell (p := ⟨w.heap.size + 1, 4, none⟩) hl1).trans y4, (hd5.cell (p := ⟨w.heap.size + 1, 5, none⟩) hl1).trans y5, (hd5.cell (p := ⟨w.heap.size + 1, 6, none⟩) hl1).trans y6⟩ (fun hHeld => ?_)
            clear hK K
            (try simp only [Act.put, List.setIfInBounds_toArray, List.set_cons_zero, List.set_cons_succ])
            (refine wpAnyH_take (i := 9) (v := ?_) rfl (by kernel_rfl) (by kernel_rfl) (by kernel_rfl) (fun _ _ _ h => h) (Or.inl ⟨by kernel_rfl, fun w0 hSw => ?_⟩) hHeld ?_; rotate_left; (focus ((try dsimp only at hSw); simp only [List.getElem_toArray, List.getElem_cons_zero, List.getElem_cons_succ]; (first | (go_simp; done) | (go_simp; with_reducible rfl)))); (try simp only [List.getElem_toArray, List.getElem_cons_zero, List.getElem_cons_succ, Act.put, List.setIfInBounds_toArray, List.set_cons_zero, List.set_cons_succ]))
            refine wpAnyH_ready (rs := [11]) (by kernel_rfl) (by simp) ?_
            refine (AllReadyH.cons rfl (fun K hK => ?_) AllReadyH.nil)
            · simp only [List.getElem_toArray, List.getElem_cons_zero, List.getElem_cons_succ]
              have z0 := cell_blk hq5 0
              have z1 := cell_blk hq5 1
              have g0 := frozen_blk hq5 0
              have g1 := frozen_blk hq5 1
              simp only [List.getElem?_toArray, List.getElem?_cons_zero, List.getElem?_cons_succ] at z0 z1
              go_simp
              obtain ⟨⟨t0, t1⟩, hiP, hcP⟩ := put_plan hq5 ((hqW.below hd5).more hd5.size) (cons_of_own ho5)
              have hdP : Below w1.heap.size w1 ((w6.setCell ⟨w4.heap.size, 0, none⟩ (.slice A1 qs.length c1)).setCell ⟨w4.heap.size, 1, none⟩ (.slice AV5 ds.length cV5)) := below_two hd5 hqlo (.slice A1 qs.length c1) (.slice AV5 ds.length cV5)
              have ulP : w4.heap.size < ((w6.setCell ⟨w4.heap.size, 0, none⟩ (.slice A1 qs.length c1)).setCell ⟨w4.heap.size, 1, none⟩ (.slice AV5 ds.length cV5)).heap.size := by have h1 := blk_lt hq5; simpa using h1
              refine hK.out _ _ ⟨(hdP.cell (p := ⟨w.heap.size, 0, none⟩) hl).trans q0, (hdP.cell (p := ⟨w.heap.size, 1, none⟩) hl).trans q1, (hdP.cell (p := ⟨w.heap.size + 1, 0, none⟩) hl1).trans y0, (hdP.cell (p := ⟨w.heap.size + 1, 1, none⟩) hl1).trans y1, (hdP.cell (p := ⟨w.heap.size + 1, 2, none⟩) hl1).trans y2, (hdP.cell (p := ⟨w.heap.size + 1, 3, none⟩) hl1).trans y3, (hdP.cell (p := ⟨w.heap.size + 1, 4, none⟩) hl1).trans y4, (hdP.cell (p := ⟨w.heap.size + 1, 5, none⟩) hl1).trans y5, (hdP.cell (p := ⟨w.heap.size + 1, 6, none⟩) hl1).trans y6⟩ (fun hHeld => ?_)
              clear hK K
              (try simp only [List.getElem_toArray, List.getElem_cons_zero, List.getElem_cons_succ, Act.put, List.setIfInBounds_toArray, List.set_cons_zero, List.set_cons_succ])
              refine wpAnyH_done (by kernel_rfl) ?_ _
              clear z0 z1 g0 g1 hHeld hq5 ho5 hn5 hne5
              generalize ((w6.setCell ⟨w4.heap.size, 0, none⟩ (.slice A1 qs.length c1)).setCell ⟨w4.heap.size, 1, none⟩ (.slice AV5 ds.length cV5)) = w20 at *
              go_wp2_with fail
              refine (rpcheck_any _ _ qs ds _ hiP hcP).mono ?_
              by_cases hE2 : planE qs ds = 0
              · rw [hE2]
                have HR : Hid (withR qs cs c = (qs, ds, 0)) := by show _ = _; rw [withR, if_neg (by simp [HE.out]), HDS.out, if_neg (by simp [hE2])]
                clear hE2
                rintro e w21 ⟨rfl, hb21⟩
                have hd21 := hdP.trans (hb21.mono hdP.size)
                have hi21 := (hiP.below hb21).more hb21.size
                have hc21 := (hcP.below hb21).more hb21.size
                have s0 := (hb21.cell (p := ⟨w4.heap.size, 0, none⟩) ulP).trans t0
                have s1 := (hb21.cell (p := ⟨w4.heap.size, 1, none⟩) ulP).trans t1
                have hb4 := (hd21.block (w.heap.size + 1 + 1) (blk_lt hbk)).trans hbk
                have r0 := cell_blk hb4 0
                have r1 := cell_blk hb4 1
                have g0 := frozen_blk hb4 0
                have g1 := frozen_blk hb4 1
                simp only [List.getElem?_toArray, List.getElem?_cons_zero, List.getElem?_cons_succ] at r0 r1
                have hB21 := hB1.trans (hd21.mono hB1.size)
                clear t0 t1 hdP hiP hcP
                go_wp2_with fail
                obtain ⟨⟨u0, u1⟩, hiF, hcF⟩ := put_plan hb4 hi21 hc21
                have hB22 := below_two hB21 (show w.heap.size ≤ w.heap.size + 1 + 1 by omega) (.slice A1 qs.length c1) (.slice AV5 ds.length cV5)
                generalize ((w21.setCell ⟨w.heap.size + 1 + 1, 0, none⟩ (.slice A1 qs.length c1)).setCell ⟨w.heap.size + 1 + 1, 1, none⟩ (.slice AV5 ds.length cV5)) = w22 at *
                refine bodyPost_ret (v := .tuple #[.agg #[.slice A1 qs.length c1, .slice AV5 ds.length cV5], .int .i64 0]) (by simp [results, Tryd.results37, go_sem, u0, u1]) rfl ⟨_, _, by rw [HR.out], by rw [HR.out]; exact hiF, by rw [HR.out]; exact hcF, hB22⟩
              · have HR : Hid (withR qs cs c = ([], [], planE qs ds)) := by show _ = _; rw [withR, if_neg (by simp [HE.out]), HDS.out, if_pos hE2]
                have hEb : (planE qs ds != 0) = true := by simpa using hE2
                clear hE2
                rintro e w21 ⟨rfl, hb21⟩
                have hd21 := hdP.trans (hb21.mono hdP.size)
                have hi21 := (hiP.below hb21).more hb21.size
                have hc21 := (hcP.below hb21).more hb21.size
                have s0 := (hb21.cell (p := ⟨w4.heap.size, 0, none⟩) ulP).trans t0
                have s1 := (hb21.cell (p := ⟨w4.heap.size, 1, none⟩) ulP).trans t1
                have hb4 := (hd21.block (w.heap.size + 1 + 1) (blk_lt hbk)).trans hbk
                have r0 := cell_blk hb4 0
                have r1 := cell_blk hb4 1
                have g0 := frozen_blk hb4 0
                have g1 := frozen_blk hb4 1
                simp only [List.getElem?_toArray, List.getElem?_cons_zero, List.getElem?_cons_succ] at r0 r1
                have hB21 := hB1.trans (hd21.mono hB1.size)
                clear t0 t1 hdP hiP hcP
                go_wp2_with fail
                obtain ⟨u0, u1⟩ := two_cells r0 r1 (.slice none 0 0) (.slice none 0 0)
                have hB22 := below_two hB21 (show w.heap.size ≤ w.heap.size + 1 + 1 by omega) (.slice none 0 0) (.slice none 0 0)
                generalize ((w21.setCell ⟨w.heap.size + 1 + 1, 0, none⟩ (.slice none 0 0)).setCell ⟨w.heap.size + 1 + 1, 1, none⟩ (.slice none 0 0)) = w22 at *
                refine bodyPost_ret (v := .tuple #[.agg #[.slice none 0 0, .slice none 0 0], .int .i64 (planE qs ds)]) (by simp [results, Tryd.results37, go_sem, u0, u1]) rfl ⟨_, _, by rw [HR.out], by rw [HR.out]; exact ints_nil _ _, by rw [HR.out]; exact cons_nil _ _, hB22⟩
      · simp only [List.getElem_toArray, List.getElem_cons_zero, List.getElem_cons_succ]
        go_simp
        have hd3 := hd2.alloc hd2.size (.cells #[.slice none 0 0, .slice none 0 0] 25)
        have ho3 := ho2.alloc (.cells #[.slice none 0 0, .slice none 0 0] 25)
        have hn3 := (Below.heap_alloc _ (.cells #[.slice none 0 0, .slice none 0 0] 25) _ (blk_lt hn2)).trans hn2
        have hne3 := hne2
        have hqlo : w1.heap.size ≤ w3.heap.size := hd2.size
        have hq3 : (w3.alloc (.cells #[.slice none 0 0, .slice none 0 0] 25)).heap[w3.heap.size]? = some (.cells #[.slice none 0 0, .slice none 0 0] 25 (0, 0)) := heap_last _ _ _ rfl
        refine hK.out _ _ ⟨(hd3.cell (p := ⟨w.heap.size, 0, none⟩) hl).trans q0, (hd3.cell (p := ⟨w.heap.size, 1, none⟩) hl).trans q1, (hd3.cell (p := ⟨w.heap.size + 1, 0, none⟩) hl1).trans y0, (hd3.cell (p := ⟨w.heap.size + 1, 1, none⟩) hl1).trans y1, (hd3.cell (p := ⟨w.heap.size + 1, 2, none⟩) hl1).trans y2, (hd3.cell (p := ⟨w.heap.size + 1, 3, none⟩) hl1).trans y3, (hd3.cell (p := ⟨w.heap.size + 1, 4, none⟩) hl1).trans y4, (hd3.cell (p := ⟨w.heap.size + 1, 5, none⟩) hl1).trans y5, (hd3.cell (p := ⟨w.heap.size + 1, 6, none⟩) hl1).trans y6⟩ (fun _ => ?_)
        clear hK K
        (try simp only [List.getElem_toArray, List.getElem_cons_zero, List.getElem_cons_succ, Act.put, List.setIfInBounds_toArray, List.set_cons_zero, List.set_cons_succ])
        generalize hX3 : (w3.alloc (.cells #[.slice none 0 0, .slice none 0 0] 25)) = w4 at *
        clear hX3
        refine wpAnyH_ready (rs := [5]) (by kernel_rfl) (by simp) ?_
        refine (AllReadyH.cons rfl (fun K hK => ?_) AllReadyH.nil)
        · simp only [List.getElem_toArray, List.getElem_cons_zero, List.getElem_cons_succ]
          rw [if_pos (by simp [Region.wanted])]
          refine wp_append_con (.tmp 14) (.tmp 16) rfl w4 w1.heap.size (.slice (some ⟨wd.heap.size, 0, none⟩) 0 0) [] cs (by kernel_rfl) ho3 A2 c2 (by kernel_rfl) (by have h := consAt_take (i := cs.length) hcW hd3 (Nat.le_refl _); rwa [List.take_length] at h) (by simp; omega) hd3.size ?_
          intro V4 w5 ho4 hg4 h54
          have hd4 : Below w1.heap.size w1 w5 := Below.grown hd3 hg4 hd3.size (fun j e => (ho3.lt j e).1)
          have hn4 := (hg4.block w2.heap.size (blk_lt hn3) (fun e => hne3 e.symm)).trans hn3
          have hne4 : V4.ownBlock ≠ some w2.heap.size := fun e => by have h1 := blk_lt hn3; rcases h54 with h | h; exact hne3 (h.symm.trans e); rw [h] at e; injection e; omega
          have hq4 := (hg4.block w3.heap.size (blk_lt hq3) (fun e => own_ne_kind ho3 hq3 (by decide) e.symm)).trans hq3
          rw [List.nil_append] at ho4
          obtain ⟨AV4, cV4, rfl⟩ := own_shape ho4
          clear h54 hg4
          refine hK.out _ _ ⟨(hd4.cell (p := ⟨w.heap.size, 0, none⟩) hl).trans q0, (hd4.cell (p := ⟨w.heap.size, 1, none⟩) hl).trans q1, (hd4.cell (p := ⟨w.heap.size + 1, 0, none⟩) hl1).trans y0, (hd4.cell (p := ⟨w.heap.size + 1, 1, none⟩) hl1).trans y1, (hd4.cell (p := ⟨w.heap.size + 1, 2, none⟩) hl1).trans y2, (hd4.cell (p := ⟨w.heap.size + 1, 3, none⟩) hl1).trans y3, (hd4.cell (p := ⟨w.heap.size + 1, 4, none⟩) hl1).trans y4, (hd4.cell (p := ⟨w.heap.size + 1, 5, none⟩) hl1).trans y5, (hd4.cell (p := ⟨w.heap.size + 1, 6, none⟩) hl1).trans y6⟩ (fun hHeld => ?_)
          clear hK K
          (try simp only [Act.put, List.setIfInBounds_toArray, List.set_cons_zero, List.set_cons_succ])
          refine wpAnyH_ready (rs := [8]) (by kernel_rfl) (by simp) ?_
          refine (AllReadyH.cons rfl (fun K hK => ?_) AllReadyH.nil)
          · simp only [List.getElem_toArray, List.getElem_cons_zero, List.getElem_cons_succ]
            rw [if_pos (by simp [Region.wanted])]
            refine wp_append_con (.tmp 17) (.tmp 19) rfl w5 w1.heap.size (.slice AV4 cs.length cV4) cs [c] (by kernel_rfl) ho4 (some ⟨w2.heap.size, 0, none⟩) 1 (by kernel_rfl) (consAt_one hn4) (by simp; omega) hd4.size ?_
            intro V5 w6 ho5 hg5 h55
            have hd5 : Below w1.heap.size w1 w6 := Below.grown hd4 hg5 hd4.size (fun j e => (ho4.lt j e).1)
            have hn5 := (hg5.block w2.heap.size (blk_lt hn4) (fun e => hne4 e.symm)).trans hn4
            have hne5 : V5.ownBlock ≠ some w2.heap.size := fun e => by have h1 := blk_lt hn4; rcases h55 with h | h; exact hne4 (h.symm.trans e); rw [h] at e; injection e; omega
            have hq5 := (hg5.block w3.heap.size (blk_lt hq4) (fun e => own_ne_kind ho4 hq4 (by decide) e.symm)).trans hq4
            obtain ⟨AV5, cV5, rfl⟩ := own_shape ho5
            clear h55 hg5
            generalize hds : cs ++ [c] = ds at *
            have HDS := Lib.hid hds
            clear hds
            refine hK.out _ _ ⟨(hd5.cell (p := ⟨w.heap.size, 0, none⟩) hl).trans q0, (hd5.cell (p := ⟨w.heap.size, 1, none⟩) hl).trans q1, (hd5.cell (p := ⟨w.heap.size + 1, 0, none⟩) hl1).trans y0, (hd5.cell (p := ⟨w.heap.size + 1, 1, none⟩) hl1).trans y1, (hd5.cell (p := ⟨w.heap.size + 1, 2, none⟩) hl1).trans y2, (hd5.cell (p := ⟨w.heap.size + 1, 3, none⟩) hl1).trans y3, (hd5.cell (p := ⟨w.heap.size + 1, 4, none⟩) hl1).trans y4, (hd5.cell (p := ⟨w.heap.size + 1, 5, none⟩) hl1).trans y5, (hd5.cell (p := ⟨w.heap.size + 1, 6, none⟩) hl1).trans y6⟩ (fun hHeld => ?_)
            clear hK K
            (try simp only [Act.put, List.setIfInBounds_toArray, List.set_cons_zero, List.set_cons_succ])
            (refine wpAnyH_take (i := 9) (v := ?_) rfl (by kernel_rfl) (by kernel_rfl) (by kernel_rfl) (fun _ _ _ h => h) (Or.inl ⟨by kernel_rfl, fun w0 hSw => ?_⟩) hHeld ?_; rotate_left; (focus ((try dsimp only at hSw); simp only [List.getElem_toArray, List.getElem_cons_zero, List.getElem_cons_succ]; (first | (go_simp; done) | (go_simp; with_reducible rfl)))); (try simp only [List.getElem_toArray, List.getElem_cons_zero, List.getElem_cons_succ, Act.put, List.setIfInBounds_toArray, List.set_cons_zero, List.set_cons_succ]))
            refine wpAnyH_ready (rs := [11]) (by kernel_rfl) (by simp) ?_
            refine (AllReadyH.cons rfl (fun K hK => ?_) AllReadyH.nil)
            · simp only [List.getElem_toArray, List.getElem_cons_zero, List.getElem_cons_succ]
              have z0 := cell_blk hq5 0
              have z1 := cell_blk hq5 1
              have g0 := frozen_blk hq5 0
              have g1 := frozen_blk hq5 1
              simp only [List.getElem?_toArray, List.getElem?_cons_zero, List.getElem?_cons_succ] at z0 z1
              go_simp
              obtain ⟨⟨t0, t1⟩, hiP, hcP⟩ := put_plan hq5 ((hqW.below hd5).more hd5.size) (cons_of_own ho5)
              have hdP : Below w1.heap.size w1 ((w6.setCell ⟨w3.heap.size, 0, none⟩ (.slice A1 qs.length c1)).setCell ⟨w3.heap.size, 1, none⟩ (.slice AV5 ds.length cV5)) := below_two hd5 hqlo (.slice A1 qs.length c1) (.slice AV5 ds.length cV5)
              have ulP : w3.heap.size < ((w6.setCell ⟨w3.heap.size, 0, none⟩ (.slice A1 qs.length c1)).setCell ⟨w3.heap.size, 1, none⟩ (.slice AV5 ds.length cV5)).heap.size := by have h1 := blk_lt hq5; simpa using h1
              refine hK.out _ _ ⟨(hdP.cell (p := ⟨w.heap.size, 0, none⟩) hl).trans q0, (hdP.cell (p := ⟨w.heap.size, 1, none⟩) hl).trans q1, (hdP.cell (p := ⟨w.heap.size + 1, 0, none⟩) hl1).trans y0, (hdP.cell (p := ⟨w.heap.size + 1, 1, none⟩) hl1).trans y1, (hdP.cell (p := ⟨w.heap.size + 1, 2, none⟩) hl1).trans y2, (hdP.cell (p := ⟨w.heap.size + 1, 3, none⟩) hl1).trans y3, (hdP.cell (p := ⟨w.heap.size + 1, 4, none⟩) hl1).trans y4, (hdP.cell (p := ⟨w.heap.size + 1, 5, none⟩) hl1).trans y5, (hdP.cell (p := ⟨w.heap.size + 1, 6, none⟩) hl1).trans y6⟩ (fun hHeld => ?_)
              clear hK K
              (try simp only [List.getElem_toArray, List.getElem_cons_zero, List.getElem_cons_succ, Act.put, List.setIfInBounds_toArray, List.set_cons_zero, List.set_cons_succ])
              refine wpAnyH_done (by kernel_rfl) ?_ _
              clear z0 z1 g0 g1 hHeld hq5 ho5 hn5 hne5
              generalize ((w6.setCell ⟨w3.heap.size, 0, none⟩ (.slice A1 qs.length c1)).setCell ⟨w3.heap.size, 1, none⟩ (.slice AV5 ds.length cV5)) = w20 at *
              go_wp2_with fail
              refine (rpcheck_any _ _ qs ds _ hiP hcP).mono ?_
              by_cases hE2 : planE qs ds = 0
              · rw [hE2]
                have HR : Hid (withR qs cs c = (qs, ds, 0)) := by show _ = _; rw [withR, if_neg (by simp [HE.out]), HDS.out, if_neg (by simp [hE2])]
                clear hE2
                rintro e w21 ⟨rfl, hb21⟩
                have hd21 := hdP.trans (hb21.mono hdP.size)
                have hi21 := (hiP.below hb21).more hb21.size
                have hc21 := (hcP.below hb21).more hb21.size
                have s0 := (hb21.cell (p := ⟨w3.heap.size, 0, none⟩) ulP).trans t0
                have s1 := (hb21.cell (p := ⟨w3.heap.size, 1, none⟩) ulP).trans t1
                have hb4 := (hd21.block (w.heap.size + 1 + 1) (blk_lt hbk)).trans hbk
                have r0 := cell_blk hb4 0
                have r1 := cell_blk hb4 1
                have g0 := frozen_blk hb4 0
                have g1 := frozen_blk hb4 1
                simp only [List.getElem?_toArray, List.getElem?_cons_zero, List.getElem?_cons_succ] at r0 r1
                have hB21 := hB1.trans (hd21.mono hB1.size)
                clear t0 t1 hdP hiP hcP
                go_wp2_with fail
                obtain ⟨⟨u0, u1⟩, hiF, hcF⟩ := put_plan hb4 hi21 hc21
                have hB22 := below_two hB21 (show w.heap.size ≤ w.heap.size + 1 + 1 by omega) (.slice A1 qs.length c1) (.slice AV5 ds.length cV5)
                generalize ((w21.setCell ⟨w.heap.size + 1 + 1, 0, none⟩ (.slice A1 qs.length c1)).setCell ⟨w.heap.size + 1 + 1, 1, none⟩ (.slice AV5 ds.length cV5)) = w22 at *
                refine bodyPost_ret (v := .tuple #[.agg #[.slice A1 qs.length c1, .slice AV5 ds.length cV5], .int .i64 0]) (by simp [results, Tryd.results37, go_sem, u0, u1]) rfl ⟨_, _, by rw [HR.out], by rw [HR.out]; exact hiF, by rw [HR.out]; exact hcF, hB22⟩
              · have HR : Hid (withR qs cs c = ([], [], planE qs ds)) := by show _ = _; rw [withR, if_neg (by simp [HE.out]), HDS.out, if_pos hE2]
                have hEb : (planE qs ds != 0) = true := by simpa using hE2
                clear hE2
                rintro e w21 ⟨rfl, hb21⟩
                have hd21 := hdP.trans (hb21.mono hdP.size)
                have hi21 := (hiP.below hb21).more hb21.size
                have hc21 := (hcP.below hb21).more hb21.size
                have s0 := (hb21.cell (p := ⟨w3.heap.size, 0, none⟩) ulP).trans t0
                have s1 := (hb21.cell (p := ⟨w3.heap.size, 1, none⟩) ulP).trans t1
                have hb4 := (hd21.block (w.heap.size + 1 + 1) (blk_lt hbk)).trans hbk
                have r0 := cell_blk hb4 0
                have r1 := cell_blk hb4 1
                have g0 := frozen_blk hb4 0
                have g1 := frozen_blk hb4 1
                simp only [List.getElem?_toArray, List.getElem?_cons_zero, List.getElem?_cons_succ] at r0 r1
                have hB21 := hB1.trans (hd21.mono hB1.size)
                clear t0 t1 hdP hiP hcP
                go_wp2_with fail
                obtain ⟨u0, u1⟩ := two_cells r0 r1 (.slice none 0 0) (.slice none 0 0)
                have hB22 := below_two hB21 (show w.heap.size ≤ w.heap.size + 1 + 1 by omega) (.slice none 0 0) (.slice none 0 0)
                generalize ((w21.setCell ⟨w.heap.size + 1 + 1, 0, none⟩ (.slice none 0 0)).setCell ⟨w.heap.size + 1 + 1, 1, none⟩ (.slice none 0 0)) = w22 at *
                refine bodyPost_ret (v := .tuple #[.agg #[.slice none 0 0, .slice none 0 0], .int .i64 (planE qs ds)]) (by simp [results, Tryd.results37, go_sem, u0, u1]) rfl ⟨_, _, by rw [HR.out], by rw [HR.out]; exact ints_nil _ _, by rw [HR.out]; exact cons_nil _ _, hB22⟩
    · simp only [List.getElem_toArray, List.getElem_cons_zero, List.getElem_cons_succ]
      go_simp
      have hd2 := hd1.alloc hd1.size (.cells #[.slice none 0 0, .slice none 0 0] 25)
      have ho2 := ho1.alloc (.cells #[.slice none 0 0, .slice none 0 0] 25)
      have hqlo : w1.heap.size ≤ w2.heap.size := hd1.size
      have hq2 : (w2.alloc (.cells #[.slice none 0 0, .slice none 0 0] 25)).heap[w2.heap.size]? = some (.cells #[.slice none 0 0, .slice none 0 0] 25 (0, 0)) := heap_last _ _ _ rfl
      refine hK.out _ _ ⟨(hd2.cell (p := ⟨w.heap.size, 0, none⟩) hl).trans q0, (hd2.cell (p := ⟨w.heap.size, 1, none⟩) hl).trans q1, (hd2.cell (p := ⟨w.heap.size + 1, 0, none⟩) hl1).trans y0, (hd2.cell (p := ⟨w.heap.size + 1, 1, none⟩) hl1).trans y1, (hd2.cell (p := ⟨w.heap.size + 1, 2, none⟩) hl1).trans y2, (hd2.cell (p := ⟨w.heap.size + 1, 3, none⟩) hl1).trans y3, (hd2.cell (p := ⟨w.heap.size + 1, 4, none⟩) hl1).trans y4, (hd2.cell (p := ⟨w.heap.size + 1, 5, none⟩) hl1).trans y5, (hd2.cell (p := ⟨w.heap.size + 1, 6, none⟩) hl1).trans y6⟩ (fun _ => ?_)
      clear hK K
      (try simp only [List.getElem_toArray, List.getElem_cons_zero, List.getElem_cons_succ, Act.put, List.setIfInBounds_toArray, List.set_cons_zero, List.set_cons_succ])
      generalize hX2 : (w2.alloc (.cells #[.slice none 0 0, .slice none 0 0] 25)) = w3 at *
      clear hX2
      refine wpAnyH_ready (rs := [5, 7]) (by kernel_rfl) (by simp) ?_
      refine (AllReadyH.cons rfl (fun K hK => ?_) (AllReadyH.cons rfl (fun K hK => ?_) AllReadyH.nil))
      · simp only [List.getElem_toArray, List.getElem_cons_zero, List.getElem_cons_succ]
        rw [if_pos (by simp [Region.wanted])]
        refine wp_append_con (.tmp 14) (.tmp 16) rfl w3 w1.heap.size (.slice (some ⟨wd.heap.size, 0, none⟩) 0 0) [] cs (by kernel_rfl) ho2 A2 c2 (by kernel_rfl) (by have h := consAt_take (i := cs.length) hcW hd2 (Nat.le_refl _); rwa [List.take_length] at h) (by simp; omega) hd2.size ?_
        intro V3 w4 ho3 hg3 h53
        have hd3 : Below w1.heap.size w1 w4 := Below.grown hd2 hg3 hd2.size (fun j e => (ho2.lt j e).1)
        have hq3 := (hg3.block w2.heap.size (blk_lt hq2) (fun e => own_ne_kind ho2 hq2 (by decide) e.symm)).trans hq2
        rw [List.nil_append] at ho3
        obtain ⟨AV3, cV3, rfl⟩ := own_shape ho3
        clear h53 hg3
        refine hK.out _ _ ⟨(hd3.cell (p := ⟨w.heap.size, 0, none⟩) hl).trans q0, (hd3.cell (p := ⟨w.heap.size, 1, none⟩) hl).trans q1, (hd3.cell (p := ⟨w.heap.size + 1, 0, none⟩) hl1).trans y0, (hd3.cell (p := ⟨w.heap.size + 1, 1, none⟩) hl1).trans y1, (hd3.cell (p := ⟨w.heap.size + 1, 2, none⟩) hl1).trans y2, (hd3.cell (p := ⟨w.heap.size + 1, 3, none⟩) hl1).trans y3, (hd3.cell (p := ⟨w.heap.size + 1, 4, none⟩) hl1).trans y4, (hd3.cell (p := ⟨w.heap.size + 1, 5, none⟩) hl1).trans y5, (hd3.cell (p := ⟨w.heap.size + 1, 6, none⟩) hl1).trans y6⟩ (fun hHeld => ?_)
        clear hK K
        (try simp only [Act.put, List.setIfInBounds_toArray, List.set_cons_zero, List.set_cons_succ])
        refine wpAnyH_ready (rs := [7]) (by kernel_rfl) (by simp) ?_
        refine (AllReadyH.cons rfl (fun K hK => ?_) AllReadyH.nil)
        · simp only [List.getElem_toArray, List.getElem_cons_zero, List.getElem_cons_succ]
          go_simp
          have hd4 := hd3.alloc hd3.size (.cells #[.int .i64 c.a, .int .i64 c.b, .int .i64 c.s, .int .i64 c.e, .int .i64 c.r, .int .i64 c.g, .int .i64 c.l] 40)
          have ho4 := ho3.alloc (.cells #[.int .i64 c.a, .int .i64 c.b, .int .i64 c.s, .int .i64 c.e, .int .i64 c.r, .int .i64 c.g, .int .i64 c.l] 40)
          have hq4 := (Below.heap_alloc _ (.cells #[.int .i64 c.a, .int .i64 c.b, .int .i64 c.s, .int .i64 c.e, .int .i64 c.r, .int .i64 c.g, .int .i64 c.l] 40) _ (blk_lt hq3)).trans hq3
          have hn4 : (w4.alloc (.cells #[.int .i64 c.a, .int .i64 c.b, .int .i64 c.s, .int .i64 c.e, .int .i64 c.r, .int .i64 c.g, .int .i64 c.l] 40)).heap[w4.heap.size]? = some (.cells (conVals c).toArray 40 (0, 0)) := heap_last _ _ _ rfl
          have hne4 := own_ne_lt ho3 (g := w4.heap.size) (.inr (Nat.le_refl _))
          refine hK.out _ _ ⟨(hd4.cell (p := ⟨w.heap.size, 0, none⟩) hl).trans q0, (hd4.cell (p := ⟨w.heap.size, 1, none⟩) hl).trans q1, (hd4.cell (p := ⟨w.heap.size + 1, 0, none⟩) hl1).trans y0, (hd4.cell (p := ⟨w.heap.size + 1, 1, none⟩) hl1).trans y1, (hd4.cell (p := ⟨w.heap.size + 1, 2, none⟩) hl1).trans y2, (hd4.cell (p := ⟨w.heap.size + 1, 3, none⟩) hl1).trans y3, (hd4.cell (p := ⟨w.heap.size + 1, 4, none⟩) hl1).trans y4, (hd4.cell (p := ⟨w.heap.size + 1, 5, none⟩) hl1).trans y5, (hd4.cell (p := ⟨w.heap.size + 1, 6, none⟩) hl1).trans y6⟩ (fun _ => ?_)
          clear hK K
          (try simp only [List.getElem_toArray, List.getElem_cons_zero, List.getElem_cons_succ, Act.put, List.setIfInBounds_toArray, List.set_cons_zero, List.set_cons_succ])
          generalize hX4 : (w4.alloc (.cells #[.int .i64 c.a, .int .i64 c.b, .int .i64 c.s, .int .i64 c.e, .int .i64 c.r, .int .i64 c.g, .int .i64 c.l] 40)) = w5 at *
          clear hX4
          refine wpAnyH_ready (rs := [8]) (by kernel_rfl) (by simp) ?_
          refine (AllReadyH.cons rfl (fun K hK => ?_) AllReadyH.nil)
          · simp only [List.getElem_toArray, List.getElem_cons_zero, List.getElem_cons_succ]
            rw [if_pos (by simp [Region.wanted])]
            refine wp_append_con (.tmp 17) (.tmp 19) rfl w5 w1.heap.size (.slice AV3 cs.length cV3) cs [c] (by kernel_rfl) ho4 (some ⟨w4.heap.size, 0, none⟩) 1 (by kernel_rfl) (consAt_one hn4) (by simp; omega) hd4.size ?_
            intro V5 w6 ho5 hg5 h55
            have hd5 : Below w1.heap.size w1 w6 := Below.grown hd4 hg5 hd4.size (fun j e => (ho4.lt j e).1)
            have hn5 := (hg5.block w4.heap.size (blk_lt hn4) (fun e => hne4 e.symm)).trans hn4
            have hne5 : V5.ownBlock ≠ some w4.heap.size := fun e => by have h1 := blk_lt hn4; rcases h55 with h | h; exact hne4 (h.symm.trans e); rw [h] at e; injection e; omega
            have hq5 := (hg5.block w2.heap.size (blk_lt hq4) (fun e => own_ne_kind ho4 hq4 (by decide) e.symm)).trans hq4
            obtain ⟨AV5, cV5, rfl⟩ := own_shape ho5
            clear h55 hg5
            generalize hds : cs ++ [c] = ds at *
            have HDS := Lib.hid hds
            clear hds
            refine hK.out _ _ ⟨(hd5.cell (p := ⟨w.heap.size, 0, none⟩) hl).trans q0, (hd5.cell (p := ⟨w.heap.size, 1, none⟩) hl).trans q1, (hd5.cell (p := ⟨w.heap.size + 1, 0, none⟩) hl1).trans y0, (hd5.cell (p := ⟨w.heap.size + 1, 1, none⟩) hl1).trans y1, (hd5.cell (p := ⟨w.heap.size + 1, 2, none⟩) hl1).trans y2, (hd5.cell (p := ⟨w.heap.size + 1, 3, none⟩) hl1).trans y3, (hd5.cell (p := ⟨w.heap.size + 1, 4, none⟩) hl1).trans y4, (hd5.cell (p := ⟨w.heap.size + 1, 5, none⟩) hl1).trans y5, (hd5.cell (p := ⟨w.heap.size + 1, 6, none⟩) hl1).trans y6⟩ (fun hHeld => ?_)
            clear hK K
            (try simp only [Act.put, List.setIfInBounds_toArray, List.set_cons_zero, List.set_cons_succ])
            (refine wpAnyH_take (i := 9) (v := ?_) rfl (by kernel_rfl) (by kernel_rfl) (by kernel_rfl) (fun _ _ _ h => h) (Or.inl ⟨by kernel_rfl, fun w0 hSw => ?_⟩) hHeld ?_; rotate_left; (focus ((try dsimp only at hSw); simp only [List.getElem_toArray, List.getElem_cons_zero, List.getElem_cons_succ]; (first | (go_simp; done) | (go_simp; with_reducible rfl)))); (try simp only [List.getElem_toArray, List.getElem_cons_zero, List.getElem_cons_succ, Act.put, List.setIfInBounds_toArray, List.set_cons_zero, List.set_cons_succ]))
            refine wpAnyH_ready (rs := [11]) (by kernel_rfl) (by simp) ?_
            refine (AllReadyH.cons rfl (fun K hK => ?_) AllReadyH.nil)
            · simp only [List.getElem_toArray, List.getElem_cons_zero, List.getElem_cons_succ]
              have z0 := cell_blk hq5 0
              have z1 := cell_blk hq5 1
              have g0 := frozen_blk hq5 0
              have g1 := frozen_blk hq5 1
              simp only [List.getElem?_toArray, List.getElem?_cons_zero, List.getElem?_cons_succ] at z0 z1
              go_simp
              obtain ⟨⟨t0, t1⟩, hiP, hcP⟩ := put_plan hq5 ((hqW.below hd5).more hd5.size) (cons_of_own ho5)
              have hdP : Below w1.heap.size w1 ((w6.setCell ⟨w2.heap.size, 0, none⟩ (.slice A1 qs.length c1)).setCell ⟨w2.heap.size, 1, none⟩ (.slice AV5 ds.length cV5)) := below_two hd5 hqlo (.slice A1 qs.length c1) (.slice AV5 ds.length cV5)
              have ulP : w2.heap.size < ((w6.setCell ⟨w2.heap.size, 0, none⟩ (.slice A1 qs.length c1)).setCell ⟨w2.heap.size, 1, none⟩ (.slice AV5 ds.length cV5)).heap.size := by have h1 := blk_lt hq5; simpa using h1
              refine hK.out _ _ ⟨(hdP.cell (p := ⟨w.heap.size, 0, none⟩) hl).trans q0, (hdP.cell (p := ⟨w.heap.size, 1, none⟩) hl).trans q1, (hdP.cell (p := ⟨w.heap.size + 1, 0, none⟩) hl1).trans y0, (hdP.cell (p := ⟨w.heap.size + 1, 1, none⟩) hl1).trans y1, (hdP.cell (p := ⟨w.heap.size + 1, 2, none⟩) hl1).trans y2, (hdP.cell (p := ⟨w.heap.size + 1, 3, none⟩) hl1).trans y3, (hdP.cell (p := ⟨w.heap.size + 1, 4, none⟩) hl1).trans y4, (hdP.cell (p := ⟨w.heap.size + 1, 5, none⟩) hl1).trans y5, (hdP.cell (p := ⟨w.heap.size + 1, 6, none⟩) hl1).trans y6⟩ (fun hHeld => ?_)
              clear hK K
              (try simp only [List.getElem_toArray, List.getElem_cons_zero, List.getElem_cons_succ, Act.put, List.setIfInBounds_toArray, List.set_cons_zero, List.set_cons_succ])
              refine wpAnyH_done (by kernel_rfl) ?_ _
              clear z0 z1 g0 g1 hHeld hq5 ho5 hn5 hne5
              generalize ((w6.setCell ⟨w2.heap.size, 0, none⟩ (.slice A1 qs.length c1)).setCell ⟨w2.heap.size, 1, none⟩ (.slice AV5 ds.length cV5)) = w20 at *
              go_wp2_with fail
              refine (rpcheck_any _ _ qs ds _ hiP hcP).mono ?_
              by_cases hE2 : planE qs ds = 0
              · rw [hE2]
                have HR : Hid (withR qs cs c = (qs, ds, 0)) := by show _ = _; rw [withR, if_neg (by simp [HE.out]), HDS.out, if_neg (by simp [hE2])]
                clear hE2
                rintro e w21 ⟨rfl, hb21⟩
                have hd21 := hdP.trans (hb21.mono hdP.size)
                have hi21 := (hiP.below hb21).more hb21.size
                have hc21 := (hcP.below hb21).more hb21.size
                have s0 := (hb21.cell (p := ⟨w2.heap.size, 0, none⟩) ulP).trans t0
                have s1 := (hb21.cell (p := ⟨w2.heap.size, 1, none⟩) ulP).trans t1
                have hb4 := (hd21.block (w.heap.size + 1 + 1) (blk_lt hbk)).trans hbk
                have r0 := cell_blk hb4 0
                have r1 := cell_blk hb4 1
                have g0 := frozen_blk hb4 0
                have g1 := frozen_blk hb4 1
                simp only [List.getElem?_toArray, List.getElem?_cons_zero, List.getElem?_cons_succ] at r0 r1
                have hB21 := hB1.trans (hd21.mono hB1.size)
                clear t0 t1 hdP hiP hcP
                go_wp2_with fail
                obtain ⟨⟨u0, u1⟩, hiF, hcF⟩ := put_plan hb4 hi21 hc21
                have hB22 := below_two hB21 (show w.heap.size ≤ w.heap.size + 1 + 1 by omega) (.slice A1 qs.length c1) (.slice AV5 ds.length cV5)
                generalize ((w21.setCell ⟨w.heap.size + 1 + 1, 0, none⟩ (.slice A1 qs.length c1)).setCell ⟨w.heap.size + 1 + 1, 1, none⟩ (.slice AV5 ds.length cV5)) = w22 at *
                refine bodyPost_ret (v := .tuple #[.agg #[.slice A1 qs.length c1, .slice AV5 ds.length cV5], .int .i64 0]) (by simp [results, Tryd.results37, go_sem, u0, u1]) rfl ⟨_, _, by rw [HR.out], by rw [HR.out]; exact hiF, by rw [HR.out]; exact hcF, hB22⟩
              · have HR : Hid (withR qs cs c = ([], [], planE qs ds)) := by show _ = _; rw [withR, if_neg (by simp [HE.out]), HDS.out, if_pos hE2]
                have hEb : (planE qs ds != 0) = true := by simpa using hE2
                clear hE2
                rintro e w21 ⟨rfl, hb21⟩
                have hd21 := hdP.trans (hb21.mono hdP.size)
                have hi21 := (hiP.below hb21).more hb21.size
                have hc21 := (hcP.below hb21).more hb21.size
                have s0 := (hb21.cell (p := ⟨w2.heap.size, 0, none⟩) ulP).trans t0
                have s1 := (hb21.cell (p := ⟨w2.heap.size, 1, none⟩) ulP).trans t1
                have hb4 := (hd21.block (w.heap.size + 1 + 1) (blk_lt hbk)).trans hbk
                have r0 := cell_blk hb4 0
                have r1 := cell_blk hb4 1
                have g0 := frozen_blk hb4 0
                have g1 := frozen_blk hb4 1
                simp only [List.getElem?_toArray, List.getElem?_cons_zero, List.getElem?_cons_succ] at r0 r1
                have hB21 := hB1.trans (hd21.mono hB1.size)
                clear t0 t1 hdP hiP hcP
                go_wp2_with fail
                obtain ⟨u0, u1⟩ := two_cells r0 r1 (.slice none 0 0) (.slice none 0 0)
                have hB22 := below_two hB21 (show w.heap.size ≤ w.heap.size + 1 + 1 by omega) (.slice none 0 0) (.slice none 0 0)
                generalize ((w21.setCell ⟨w.heap.size + 1 + 1, 0, none⟩ (.slice none 0 0)).setCell ⟨w.heap.size + 1 + 1, 1, none⟩ (.slice none 0 0)) = w22 at *
                refine bodyPost_ret (v := .tuple #[.agg #[.slice none 0 0, .slice none 0 0], .int .i64 (planE qs ds)]) (by simp [results, Tryd.results37, go_sem, u0, u1]) rfl ⟨_, _, by rw [HR.out], by rw [HR.out]; exact ints_nil _ _, by rw [HR.out]; exact cons_nil _ _, hB22⟩
      · simp only [List.getElem_toArray, List.getElem_cons_zero, List.getElem_cons_succ]
        go_simp
        have hd3 := hd2.alloc hd2.size (.cells #[.int .i64 c.a, .int .i64 c.b, .int .i64 c.s, .int .i64 c.e, .int .i64 c.r, .int .i64 c.g, .int .i64 c.l] 40)
        have ho3 := ho2.alloc (.cells #[.int .i64 c.a, .int .i64 c.b, .int .i64 c.s, .int .i64 c.e, .int .i64 c.r, .int .i64 c.g, .int .i64 c.l] 40)
        have hq3 := (Below.heap_alloc _ (.cells #[.int .i64 c.a, .int .i64 c.b, .int .i64 c.s, .int .i64 c.e, .int .i64 c.r, .int .i64 c.g, .int .i64 c.l] 40) _ (blk_lt hq2)).trans hq2
        have hn3 : (w3.alloc (.cells #[.int .i64 c.a, .int .i64 c.b, .int .i64 c.s, .int .i64 c.e, .int .i64 c.r, .int .i64 c.g, .int .i64 c.l] 40)).heap[w3.heap.size]? = some (.cells (conVals c).toArray 40 (0, 0)) := heap_last _ _ _ rfl
        have hne3 := own_ne_lt ho2 (g := w3.heap.size) (.inr (Nat.le_refl _))
        refine hK.out _ _ ⟨(hd3.cell (p := ⟨w.heap.size, 0, none⟩) hl).trans q0, (hd3.cell (p := ⟨w.heap.size, 1, none⟩) hl).trans q1, (hd3.cell (p := ⟨w.heap.size + 1, 0, none⟩) hl1).trans y0, (hd3.cell (p := ⟨w.heap.size + 1, 1, none⟩) hl1).trans y1, (hd3.cell (p := ⟨w.heap.size + 1, 2, none⟩) hl1).trans y2, (hd3.cell (p := ⟨w.heap.size + 1, 3, none⟩) hl1).trans y3, (hd3.cell (p := ⟨w.heap.size + 1, 4, none⟩) hl1).trans y4, (hd3.cell (p := ⟨w.heap.size + 1, 5, none⟩) hl1).trans y5, (hd3.cell (p := ⟨w.heap.size + 1, 6, none⟩) hl1).trans y6⟩ (fun _ => ?_)
        clear hK K
        (try simp only [List.getElem_toArray, List.getElem_cons_zero, List.getElem_cons_succ, Act.put, List.setIfInBounds_toArray, List.set_cons_zero, List.set_cons_succ])
        generalize hX3 : (w3.alloc (.cells #[.int .i64 c.a, .int .i64 c.b, .int .i64 c.s, .int .i64 c.e, .int .i64 c.r, .int .i64 c.g, .int .i64 c.l] 40)) = w4 at *
        clear hX3
        refine wpAnyH_ready (rs := [5]) (by kernel_rfl) (by simp) ?_
        refine (AllReadyH.cons rfl (fun K hK => ?_) AllReadyH.nil)
        · simp only [List.getElem_toArray, List.getElem_cons_zero, List.getElem_cons_succ]
          rw [if_pos (by simp [Region.wanted])]
          refine wp_append_con (.tmp 14) (.tmp 16) rfl w4 w1.heap.size (.slice (some ⟨wd.heap.size, 0, none⟩) 0 0) [] cs (by kernel_rfl) ho3 A2 c2 (by kernel_rfl) (by have h := consAt_take (i := cs.length) hcW hd3 (Nat.le_refl _); rwa [List.take_length] at h) (by simp; omega) hd3.size ?_
          intro V4 w5 ho4 hg4 h54
          have hd4 : Below w1.heap.size w1 w5 := Below.grown hd3 hg4 hd3.size (fun j e => (ho3.lt j e).1)
          have hn4 := (hg4.block w3.heap.size (blk_lt hn3) (fun e => hne3 e.symm)).trans hn3
          have hne4 : V4.ownBlock ≠ some w3.heap.size := fun e => by have h1 := blk_lt hn3; rcases h54 with h | h; exact hne3 (h.symm.trans e); rw [h] at e; injection e; omega
          have hq4 := (hg4.block w2.heap.size (blk_lt hq3) (fun e => own_ne_kind ho3 hq3 (by decide) e.symm)).trans hq3
          rw [List.nil_append] at ho4
          obtain ⟨AV4, cV4, rfl⟩ := own_shape ho4
          clear h54 hg4
          refine hK.out _ _ ⟨(hd4.cell (p := ⟨w.heap.size, 0, none⟩) hl).trans q0, (hd4.cell (p := ⟨w.heap.size, 1, none⟩) hl).trans q1, (hd4.cell (p := ⟨w.heap.size + 1, 0, none⟩) hl1).trans y0, (hd4.cell (p := ⟨w.heap.size + 1, 1, none⟩) hl1).trans y1, (hd4.cell (p := ⟨w.heap.size + 1, 2, none⟩) hl1).trans y2, (hd4.cell (p := ⟨w.heap.size + 1, 3, none⟩) hl1).trans y3, (hd4.cell (p := ⟨w.heap.size + 1, 4, none⟩) hl1).trans y4, (hd4.cell (p := ⟨w.heap.size + 1, 5, none⟩) hl1).trans y5, (hd4.cell (p := ⟨w.heap.size + 1, 6, none⟩) hl1).trans y6⟩ (fun hHeld => ?_)
          clear hK K
          (try simp only [Act.put, List.setIfInBounds_toArray, List.set_cons_zero, List.set_cons_succ])
          refine wpAnyH_ready (rs := [8]) (by kernel_rfl) (by simp) ?_
          refine (AllReadyH.cons rfl (fun K hK => ?_) AllReadyH.nil)
          · simp only [List.getElem_toArray, List.getElem_cons_zero, List.getElem_cons_succ]
            rw [if_pos (by simp [Region.wanted])]
            refine wp_append_con (.tmp 17) (.tmp 19) rfl w5 w1.heap.size (.slice AV4 cs.length cV4) cs [c] (by kernel_rfl) ho4 (some ⟨w3.heap.size, 0, none⟩) 1 (by kernel_rfl) (consAt_one hn4) (by simp; omega) hd4.size ?_
            intro V5 w6 ho5 hg5 h55
            have hd5 : Below w1.heap.size w1 w6 := Below.grown hd4 hg5 hd4.size (fun j e => (ho4.lt j e).1)
            have hn5 := (hg5.block w3.heap.size (blk_lt hn4) (fun e => hne4 e.symm)).trans hn4
            have hne5 : V5.ownBlock ≠ some w3.heap.size := fun e => by have h1 := blk_lt hn4; rcases h55 with h | h; exact hne4 (h.symm.trans e); rw [h] at e; injection e; omega
            have hq5 := (hg5.block w2.heap.size (blk_lt hq4) (fun e => own_ne_kind ho4 hq4 (by decide) e.symm)).trans hq4
            obtain ⟨AV5, cV5, rfl⟩ := own_shape ho5
            clear h55 hg5
            generalize hds : cs ++ [c] = ds at *
            have HDS := Lib.hid hds
            clear hds
            refine hK.out _ _ ⟨(hd5.cell (p := ⟨w.heap.size, 0, none⟩) hl).trans q0, (hd5.cell (p := ⟨w.heap.size, 1, none⟩) hl).trans q1, (hd5.cell (p := ⟨w.heap.size + 1, 0, none⟩) hl1).trans y0, (hd5.cell (p := ⟨w.heap.size + 1, 1, none⟩) hl1).trans y1, (hd5.cell (p := ⟨w.heap.size + 1, 2, none⟩) hl1).trans y2, (hd5.cell (p := ⟨w.heap.size + 1, 3, none⟩) hl1).trans y3, (hd5.cell (p := ⟨w.heap.size + 1, 4, none⟩) hl1).trans y4, (hd5.cell (p := ⟨w.heap.size + 1, 5, none⟩) hl1).trans y5, (hd5.cell (p := ⟨w.heap.size + 1, 6, none⟩) hl1).trans y6⟩ (fun hHeld => ?_)
            clear hK K
            (try simp only [Act.put, List.setIfInBounds_toArray, List.set_cons_zero, List.set_cons_succ])
            (refine wpAnyH_take (i := 9) (v := ?_) rfl (by kernel_rfl) (by kernel_rfl) (by kernel_rfl) (fun _ _ _ h => h) (Or.inl ⟨by kernel_rfl, fun w0 hSw => ?_⟩) hHeld ?_; rotate_left; (focus ((try dsimp only at hSw); simp only [List.getElem_toArray, List.getElem_cons_zero, List.getElem_cons_succ]; (first | (go_simp; done) | (go_simp; with_reducible rfl)))); (try simp only [List.getElem_toArray, List.getElem_cons_zero, List.getElem_cons_succ, Act.put, List.setIfInBounds_toArray, List.set_cons_zero, List.set_cons_succ]))
            refine wpAnyH_ready (rs := [11]) (by kernel_rfl) (by simp) ?_
            refine (AllReadyH.cons rfl (fun K hK => ?_) AllReadyH.nil)
            · simp only [List.getElem_toArray, List.getElem_cons_zero, List.getElem_cons_succ]
              have z0 := cell_blk hq5 0
              have z1 := cell_blk hq5 1
              have g0 := frozen_blk hq5 0
              have g1 := frozen_blk hq5 1
              simp only [List.getElem?_toArray, List.getElem?_cons_zero, List.getElem?_cons_succ] at z0 z1
              go_simp
              obtain ⟨⟨t0, t1⟩, hiP, hcP⟩ := put_plan hq5 ((hqW.below hd5).more hd5.size) (cons_of_own ho5)
              have hdP : Below w1.heap.size w1 ((w6.setCell ⟨w2.heap.size, 0, none⟩ (.slice A1 qs.length c1)).setCell ⟨w2.heap.size, 1, none⟩ (.slice AV5 ds.length cV5)) := below_two hd5 hqlo (.slice A1 qs.length c1) (.slice AV5 ds.length cV5)
              have ulP : w2.heap.size < ((w6.setCell ⟨w2.heap.size, 0, none⟩ (.slice A1 qs.length c1)).setCell ⟨w2.heap.size, 1, none⟩ (.slice AV5 ds.length cV5)).heap.size := by have h1 := blk_lt hq5; simpa using h1
              refine hK.out _ _ ⟨(hdP.cell (p := ⟨w.heap.size, 0, none⟩) hl).trans q0, (hdP.cell (p := ⟨w.heap.size, 1, none⟩) hl).trans q1, (hdP.cell (p := ⟨w.heap.size + 1, 0, none⟩) hl1).trans y0, (hdP.cell (p := ⟨w.heap.size + 1, 1, none⟩) hl1).trans y1, (hdP.cell (p := ⟨w.heap.size + 1, 2, none⟩) hl1).trans y2, (hdP.cell (p := ⟨w.heap.size + 1, 3, none⟩) hl1).trans y3, (hdP.cell (p := ⟨w.heap.size + 1, 4, none⟩) hl1).trans y4, (hdP.cell (p := ⟨w.heap.size + 1, 5, none⟩) hl1).trans y5, (hdP.cell (p := ⟨w.heap.size + 1, 6, none⟩) hl1).trans y6⟩ (fun hHeld => ?_)
              clear hK K
              (try simp only [List.getElem_toArray, List.getElem_cons_zero, List.getElem_cons_succ, Act.put, List.setIfInBounds_toArray, List.set_cons_zero, List.set_cons_succ])
              refine wpAnyH_done (by kernel_rfl) ?_ _
              clear z0 z1 g0 g1 hHeld hq5 ho5 hn5 hne5
              generalize ((w6.setCell ⟨w2.heap.size, 0, none⟩ (.slice A1 qs.length c1)).setCell ⟨w2.heap.size, 1, none⟩ (.slice AV5 ds.length cV5)) = w20 at *
              go_wp2_with fail
              refine (rpcheck_any _ _ qs ds _ hiP hcP).mono ?_
              by_cases hE2 : planE qs ds = 0
              · rw [hE2]
                have HR : Hid (withR qs cs c = (qs, ds, 0)) := by show _ = _; rw [withR, if_neg (by simp [HE.out]), HDS.out, if_neg (by simp [hE2])]
                clear hE2
                rintro e w21 ⟨rfl, hb21⟩
                have hd21 := hdP.trans (hb21.mono hdP.size)
                have hi21 := (hiP.below hb21).more hb21.size
                have hc21 := (hcP.below hb21).more hb21.size
                have s0 := (hb21.cell (p := ⟨w2.heap.size, 0, none⟩) ulP).trans t0
                have s1 := (hb21.cell (p := ⟨w2.heap.size, 1, none⟩) ulP).trans t1
                have hb4 := (hd21.block (w.heap.size + 1 + 1) (blk_lt hbk)).trans hbk
                have r0 := cell_blk hb4 0
                have r1 := cell_blk hb4 1
                have g0 := frozen_blk hb4 0
                have g1 := frozen_blk hb4 1
                simp only [List.getElem?_toArray, List.getElem?_cons_zero, List.getElem?_cons_succ] at r0 r1
                have hB21 := hB1.trans (hd21.mono hB1.size)
                clear t0 t1 hdP hiP hcP
                go_wp2_with fail
                obtain ⟨⟨u0, u1⟩, hiF, hcF⟩ := put_plan hb4 hi21 hc21
                have hB22 := below_two hB21 (show w.heap.size ≤ w.heap.size + 1 + 1 by omega) (.slice A1 qs.length c1) (.slice AV5 ds.length cV5)
                generalize ((w21.setCell ⟨w.heap.size + 1 + 1, 0, none⟩ (.slice A1 qs.length c1)).setCell ⟨w.heap.size + 1 + 1, 1, none⟩ (.slice AV5 ds.length cV5)) = w22 at *
                refine bodyPost_ret (v := .tuple #[.agg #[.slice A1 qs.length c1, .slice AV5 ds.length cV5], .int .i64 0]) (by simp [results, Tryd.results37, go_sem, u0, u1]) rfl ⟨_, _, by rw [HR.out], by rw [HR.out]; exact hiF, by rw [HR.out]; exact hcF, hB22⟩
              · have HR : Hid (withR qs cs c = ([], [], planE qs ds)) := by show _ = _; rw [withR, if_neg (by simp [HE.out]), HDS.out, if_pos hE2]
                have hEb : (planE qs ds != 0) = true := by simpa using hE2
                clear hE2
                rintro e w21 ⟨rfl, hb21⟩
                have hd21 := hdP.trans (hb21.mono hdP.size)
                have hi21 := (hiP.below hb21).more hb21.size
                have hc21 := (hcP.below hb21).more hb21.size
                have s0 := (hb21.cell (p := ⟨w2.heap.size, 0, none⟩) ulP).trans t0
                have s1 := (hb21.cell (p := ⟨w2.heap.size, 1, none⟩) ulP).trans t1
                have hb4 := (hd21.block (w.heap.size + 1 + 1) (blk_lt hbk)).trans hbk
                have r0 := cell_blk hb4 0
                have r1 := cell_blk hb4 1
                have g0 := frozen_blk hb4 0
                have g1 := frozen_blk hb4 1
                simp only [List.getElem?_toArray, List.getElem?_cons_zero, List.getElem?_cons_succ] at r0 r1
                have hB21 := hB1.trans (hd21.mono hB1.size)
                clear t0 t1 hdP hiP hcP
                go_wp2_with fail
                obtain ⟨u0, u1⟩ := two_cells r0 r1 (.slice none 0 0) (.slice none 0 0)
                have hB22 := below_two hB21 (show w.heap.size ≤ w.heap.size + 1 + 1 by omega) (.slice none 0 0) (.slice none 0 0)
                generalize ((w21.setCell ⟨w.heap.size + 1 + 1, 0, none⟩ (.slice none 0 0)).setCell ⟨w.heap.size + 1 + 1, 1, none⟩ (.slice none 0 0)) = w22 at *
                refine bodyPost_ret (v := .tuple #[.agg #[.slice none 0 0, .slice none 0 0], .int .i64 (planE qs ds)]) (by simp [results, Tryd.results37, go_sem, u0, u1]) rfl ⟨_, _, by rw [HR.out], by rw [HR.out]; exact ints_nil _ _, by rw [HR.out]; exact cons_nil _ _, hB22⟩
  · simp only [List.getElem_toArray, List.getElem_cons_zero, List.getElem_cons_succ]
    go_simp
    have hd1 := hd0.alloc hd0.size (.cells #[.int .i64 c.a, .int .i64 c.b, .int .i64 c.s, .int .i64 c.e, .int .i64 c.r, .int .i64 c.g, .int .i64 c.l] 40)
    have hn1 : (wd.alloc (.cells #[.int .i64 c.a, .int .i64 c.b, .int .i64 c.s, .int .i64 c.e, .int .i64 c.r, .int .i64 c.g, .int .i64 c.l] 40)).heap[wd.heap.size]? = some (.cells (conVals c).toArray 40 (0, 0)) := heap_last _ _ _ rfl
    refine hK.out _ _ ⟨(hd1.cell (p := ⟨w.heap.size, 0, none⟩) hl).trans q0, (hd1.cell (p := ⟨w.heap.size, 1, none⟩) hl).trans q1, (hd1.cell (p := ⟨w.heap.size + 1, 0, none⟩) hl1).trans y0, (hd1.cell (p := ⟨w.heap.size + 1, 1, none⟩) hl1).trans y1, (hd1.cell (p := ⟨w.heap.size + 1, 2, none⟩) hl1).trans y2, (hd1.cell (p := ⟨w.heap.size + 1, 3, none⟩) hl1).trans y3, (hd1.cell (p := ⟨w.heap.size + 1, 4, none⟩) hl1).trans y4, (hd1.cell (p := ⟨w.heap.size + 1, 5, none⟩) hl1).trans y5, (hd1.cell (p := ⟨w.heap.size + 1, 6, none⟩) hl1).trans y6⟩ (fun _ => ?_)
    clear hK K
    (try simp only [List.getElem_toArray, List.getElem_cons_zero, List.getElem_cons_succ, Act.put, List.setIfInBounds_toArray, List.set_cons_zero, List.set_cons_succ])
    generalize hX1 : (wd.alloc (.cells #[.int .i64 c.a, .int .i64 c.b, .int .i64 c.s, .int .i64 c.e, .int .i64 c.r, .int .i64 c.g, .int .i64 c.l] 40)) = w2 at *
    clear hX1
    refine wpAnyH_ready (rs := [2, 10]) (by kernel_rfl) (by simp) ?_
    refine (AllReadyH.cons rfl (fun K hK => ?_) (AllReadyH.cons rfl (fun K hK => ?_) AllReadyH.nil))
    · simp only [List.getElem_toArray, List.getElem_cons_zero, List.getElem_cons_succ]
      go_simp
      have hd2 := hd1.alloc hd1.size (.cells #[] 40)
      have hn2 := (Below.heap_alloc _ (.cells #[] 40) _ (blk_lt hn1)).trans hn1
      have ho2 : (w2.alloc (.cells #[] 40)).ownsRow w1.heap.size 40 7 (.slice (some ⟨w2.heap.size, 0, none⟩) 0 0) ([] : List Con).length (conCells []) := World.ownsRow_lit (e := 40) (size := 7) w2 #[] 0 hd1.size (by simp [maxLen]) rfl
      have hne2 : (Value.slice (some ⟨w2.heap.size, 0, none⟩) 0 0).ownBlock ≠ some wd.heap.size := fun e => by have h1 := blk_lt hn1; have h2 : w2.heap.size = wd.heap.size := (by simpa [Value.ownBlock] using e); omega
      refine hK.out _ _ ⟨(hd2.cell (p := ⟨w.heap.size, 0, none⟩) hl).trans q0, (hd2.cell (p := ⟨w.heap.size, 1, none⟩) hl).trans q1, (hd2.cell (p := ⟨w.heap.size + 1, 0, none⟩) hl1).trans y0, (hd2.cell (p := ⟨w.heap.size + 1, 1, none⟩) hl1).trans y1, (hd2.cell (p := ⟨w.heap.size + 1, 2, none⟩) hl1).trans y2, (hd2.cell (p := ⟨w.heap.size + 1, 3, none⟩) hl1).trans y3, (hd2.cell (p := ⟨w.heap.size + 1, 4, none⟩) hl1).trans y4, (hd2.cell (p := ⟨w.heap.size + 1, 5, none⟩) hl1).trans y5, (hd2.cell (p := ⟨w.heap.size + 1, 6, none⟩) hl1).trans y6⟩ (fun _ => ?_)
      clear hK K
      (try simp only [List.getElem_toArray, List.getElem_cons_zero, List.getElem_cons_succ, Act.put, List.setIfInBounds_toArray, List.set_cons_zero, List.set_cons_succ])
      generalize hX2 : (w2.alloc (.cells #[] 40)) = w3 at *
      clear hX2
      refine wpAnyH_ready (rs := [5, 10]) (by kernel_rfl) (by simp) ?_
      refine (AllReadyH.cons rfl (fun K hK => ?_) (AllReadyH.cons rfl (fun K hK => ?_) AllReadyH.nil))
      · simp only [List.getElem_toArray, List.getElem_cons_zero, List.getElem_cons_succ]
        rw [if_pos (by simp [Region.wanted])]
        refine wp_append_con (.tmp 14) (.tmp 16) rfl w3 w1.heap.size (.slice (some ⟨w2.heap.size, 0, none⟩) 0 0) [] cs (by kernel_rfl) ho2 A2 c2 (by kernel_rfl) (by have h := consAt_take (i := cs.length) hcW hd2 (Nat.le_refl _); rwa [List.take_length] at h) (by simp; omega) hd2.size ?_
        intro V3 w4 ho3 hg3 h53
        have hd3 : Below w1.heap.size w1 w4 := Below.grown hd2 hg3 hd2.size (fun j e => (ho2.lt j e).1)
        have hn3 := (hg3.block wd.heap.size (blk_lt hn2) (fun e => hne2 e.symm)).trans hn2
        have hne3 : V3.ownBlock ≠ some wd.heap.size := fun e => by have h1 := blk_lt hn2; rcases h53 with h | h; exact hne2 (h.symm.trans e); rw [h] at e; injection e; omega
        rw [List.nil_append] at ho3
        obtain ⟨AV3, cV3, rfl⟩ := own_shape ho3
        clear h53 hg3
        refine hK.out _ _ ⟨(hd3.cell (p := ⟨w.heap.size, 0, none⟩) hl).trans q0, (hd3.cell (p := ⟨w.heap.size, 1, none⟩) hl).trans q1, (hd3.cell (p := ⟨w.heap.size + 1, 0, none⟩) hl1).trans y0, (hd3.cell (p := ⟨w.heap.size + 1, 1, none⟩) hl1).trans y1, (hd3.cell (p := ⟨w.heap.size + 1, 2, none⟩) hl1).trans y2, (hd3.cell (p := ⟨w.heap.size + 1, 3, none⟩) hl1).trans y3, (hd3.cell (p := ⟨w.heap.size + 1, 4, none⟩) hl1).trans y4, (hd3.cell (p := ⟨w.heap.size + 1, 5, none⟩) hl1).trans y5, (hd3.cell (p := ⟨w.heap.size + 1, 6, none⟩) hl1).trans y6⟩ (fun hHeld => ?_)
        clear hK K
        (try simp only [Act.put, List.setIfInBounds_toArray, List.set_cons_zero, List.set_cons_succ])
        refine wpAnyH_ready (rs := [8, 10]) (by kernel_rfl) (by simp) ?_
        refine (AllReadyH.cons rfl (fun K hK => ?_) (AllReadyH.cons rfl (fun K hK => ?_) AllReadyH.nil))
        · simp only [List.getElem_toArray, List.getElem_cons_zero, List.getElem_cons_succ]
          rw [if_pos (by simp [Region.wanted])]
          refine wp_append_con (.tmp 17) (.tmp 19) rfl w4 w1.heap.size (.slice AV3 cs.length cV3) cs [c] (by kernel_rfl) ho3 (some ⟨wd.heap.size, 0, none⟩) 1 (by kernel_rfl) (consAt_one hn3) (by simp; omega) hd3.size ?_
          intro V4 w5 ho4 hg4 h54
          have hd4 : Below w1.heap.size w1 w5 := Below.grown hd3 hg4 hd3.size (fun j e => (ho3.lt j e).1)
          have hn4 := (hg4.block wd.heap.size (blk_lt hn3) (fun e => hne3 e.symm)).trans hn3
          have hne4 : V4.ownBlock ≠ some wd.heap.size := fun e => by have h1 := blk_lt hn3; rcases h54 with h | h; exact hne3 (h.symm.trans e); rw [h] at e; injection e; omega
          obtain ⟨AV4, cV4, rfl⟩ := own_shape ho4
          clear h54 hg4
          generalize hds : cs ++ [c] = ds at *
          have HDS := Lib.hid hds
          clear hds
          refine hK.out _ _ ⟨(hd4.cell (p := ⟨w.heap.size, 0, none⟩) hl).trans q0, (hd4.cell (p := ⟨w.heap.size, 1, none⟩) hl).trans q1, (hd4.cell (p := ⟨w.heap.size + 1, 0, none⟩) hl1).trans y0, (hd4.cell (p := ⟨w.heap.size + 1, 1, none⟩) hl1).trans y1, (hd4.cell (p := ⟨w.heap.size + 1, 2, none⟩) hl1).trans y2, (hd4.cell (p := ⟨w.heap.size + 1, 3, none⟩) hl1).trans y3, (hd4.cell (p := ⟨w.heap.size + 1, 4, none⟩) hl1).trans y4, (hd4.cell (p := ⟨w.heap.size + 1, 5, none⟩) hl1).trans y5, (hd4.cell (p := ⟨w.heap.size + 1, 6, none⟩) hl1).trans y6⟩ (fun hHeld => ?_)
          clear hK K
          (try simp only [Act.put, List.setIfInBounds_toArray, List.set_cons_zero, List.set_cons_succ])
          (refine wpAnyH_take (i := 9) (v := ?_) rfl (by kernel_rfl) (by kernel_rfl) (by kernel_rfl) (fun _ _ _ h => h) (Or.inl ⟨by kernel_rfl, fun w0 hSw => ?_⟩) hHeld ?_; rotate_left; (focus ((try dsimp only at hSw); simp only [List.getElem_toArray, List.getElem_cons_zero, List.getElem_cons_succ]; (first | (go_simp; done) | (go_simp; with_reducible rfl)))); (try simp only [List.getElem_toArray, List.getElem_cons_zero, List.getElem_cons_succ, Act.put, List.setIfInBounds_toArray, List.set_cons_zero, List.set_cons_succ]))
          refine wpAnyH_ready (rs := [10]) (by kernel_rfl) (by simp) ?_
          refine (AllReadyH.cons rfl (fun K hK => ?_) AllReadyH.nil)
          · simp only [List.getElem_toArray, List.getElem_cons_zero, List.getElem_cons_succ]
            go_simp
            have hd5 := hd4.alloc hd4.size (.cells #[.slice none 0 0, .slice none 0 0] 25)
            have ho5 := ho4.alloc (.cells #[.slice none 0 0, .slice none 0 0] 25)
            have hn5 := (Below.heap_alloc _ (.cells #[.slice none 0 0, .slice none 0 0] 25) _ (blk_lt hn4)).trans hn4
            have hne5 := hne4
            have hqlo : w1.heap.size ≤ w5.heap.size := hd4.size
            have hq5 : (w5.alloc (.cells #[.slice none 0 0, .slice none 0 0] 25)).heap[w5.heap.size]? = some (.cells #[.slice none 0 0, .slice none 0 0] 25 (0, 0)) := heap_last _ _ _ rfl
            refine hK.out _ _ ⟨(hd5.cell (p := ⟨w.heap.size, 0, none⟩) hl).trans q0, (hd5.cell (p := ⟨w.heap.size, 1, none⟩) hl).trans q1, (hd5.cell (p := ⟨w.heap.size + 1, 0, none⟩) hl1).trans y0, (hd5.cell (p := ⟨w.heap.size + 1, 1, none⟩) hl1).trans y1, (hd5.cell (p := ⟨w.heap.size + 1, 2, none⟩) hl1).trans y2, (hd5.cell (p := ⟨w.heap.size + 1, 3, none⟩) hl1).trans y3, (hd5.cell (p := ⟨w.heap.size + 1, 4, none⟩) hl1).trans y4, (hd5.cell (p := ⟨w.heap.size + 1, 5, none⟩) hl1).trans y5, (hd5.cell (p := ⟨w.heap.size + 1, 6, none⟩) hl1).trans y6⟩ (fun _ => ?_)
            clear hK K
            (try simp only [List.getElem_toArray, List.getElem_cons_zero, List.getElem_cons_succ, Act.put, List.setIfInBounds_toArray, List.set_cons_zero, List.set_cons_succ])
            generalize hX5 : (w5.alloc (.cells #[.slice none 0 0, .slice none 0 0] 25)) = w6 at *
            clear hX5
            refine wpAnyH_ready (rs := [11]) (by kernel_rfl) (by simp) ?_
            refine (AllReadyH.cons rfl (fun K hK => ?_) AllReadyH.nil)
            · simp only [List.getElem_toArray, List.getElem_cons_zero, List.getElem_cons_succ]
              have z0 := cell_blk hq5 0
              have z1 := cell_blk hq5 1
              have g0 := frozen_blk hq5 0
              have g1 := frozen_blk hq5 1
              simp only [List.getElem?_toArray, List.getElem?_cons_zero, List.getElem?_cons_succ] at z0 z1
              go_simp
              obtain ⟨⟨t0, t1⟩, hiP, hcP⟩ := put_plan hq5 ((hqW.below hd5).more hd5.size) (cons_of_own ho5)
              have hdP : Below w1.heap.size w1 ((w6.setCell ⟨w5.heap.size, 0, none⟩ (.slice A1 qs.length c1)).setCell ⟨w5.heap.size, 1, none⟩ (.slice AV4 ds.length cV4)) := below_two hd5 hqlo (.slice A1 qs.length c1) (.slice AV4 ds.length cV4)
              have ulP : w5.heap.size < ((w6.setCell ⟨w5.heap.size, 0, none⟩ (.slice A1 qs.length c1)).setCell ⟨w5.heap.size, 1, none⟩ (.slice AV4 ds.length cV4)).heap.size := by have h1 := blk_lt hq5; simpa using h1
              refine hK.out _ _ ⟨(hdP.cell (p := ⟨w.heap.size, 0, none⟩) hl).trans q0, (hdP.cell (p := ⟨w.heap.size, 1, none⟩) hl).trans q1, (hdP.cell (p := ⟨w.heap.size + 1, 0, none⟩) hl1).trans y0, (hdP.cell (p := ⟨w.heap.size + 1, 1, none⟩) hl1).trans y1, (hdP.cell (p := ⟨w.heap.size + 1, 2, none⟩) hl1).trans y2, (hdP.cell (p := ⟨w.heap.size + 1, 3, none⟩) hl1).trans y3, (hdP.cell (p := ⟨w.heap.size + 1, 4, none⟩) hl1).trans y4, (hdP.cell (p := ⟨w.heap.size + 1, 5, none⟩) hl1).trans y5, (hdP.cell (p := ⟨w.heap.size + 1, 6, none⟩) hl1).trans y6⟩ (fun hHeld => ?_)
              clear hK K
              (try simp only [List.getElem_toArray, List.getElem_cons_zero, List.getElem_cons_succ, Act.put, List.setIfInBounds_toArray, List.set_cons_zero, List.set_cons_succ])
              refine wpAnyH_done (by kernel_rfl) ?_ _
              clear z0 z1 g0 g1 hHeld hq5 ho5 hn5 hne5
              generalize ((w6.setCell ⟨w5.heap.size, 0, none⟩ (.slice A1 qs.length c1)).setCell ⟨w5.heap.size, 1, none⟩ (.slice AV4 ds.length cV4)) = w20 at *
              go_wp2_with fail
              refine (rpcheck_any _ _ qs ds _ hiP hcP).mono ?_
              by_cases hE2 : planE qs ds = 0
              · rw [hE2]
                have HR : Hid (withR qs cs c = (qs, ds, 0)) := by show _ = _; rw [withR, if_neg (by simp [HE.out]), HDS.out, if_neg (by simp [hE2])]
                clear hE2
                rintro e w21 ⟨rfl, hb21⟩
                have hd21 := hdP.trans (hb21.mono hdP.size)
                have hi21 := (hiP.below hb21).more hb21.size
                have hc21 := (hcP.below hb21).more hb21.size
                have s0 := (hb21.cell (p := ⟨w5.heap.size, 0, none⟩) ulP).trans t0
                have s1 := (hb21.cell (p := ⟨w5.heap.size, 1, none⟩) ulP).trans t1
                have hb4 := (hd21.block (w.heap.size + 1 + 1) (blk_lt hbk)).trans hbk
                have r0 := cell_blk hb4 0
                have r1 := cell_blk hb4 1
                have g0 := frozen_blk hb4 0
                have g1 := frozen_blk hb4 1
                simp only [List.getElem?_toArray, List.getElem?_cons_zero, List.getElem?_cons_succ] at r0 r1
                have hB21 := hB1.trans (hd21.mono hB1.size)
                clear t0 t1 hdP hiP hcP
                go_wp2_with fail
                obtain ⟨⟨u0, u1⟩, hiF, hcF⟩ := put_plan hb4 hi21 hc21
                have hB22 := below_two hB21 (show w.heap.size ≤ w.heap.size + 1 + 1 by omega) (.slice A1 qs.length c1) (.slice AV4 ds.length cV4)
                generalize ((w21.setCell ⟨w.heap.size + 1 + 1, 0, none⟩ (.slice A1 qs.length c1)).setCell ⟨w.heap.size + 1 + 1, 1, none⟩ (.slice AV4 ds.length cV4)) = w22 at *
                refine bodyPost_ret (v := .tuple #[.agg #[.slice A1 qs.length c1, .slice AV4 ds.length cV4], .int .i64 0]) (by simp [results, Tryd.results37, go_sem, u0, u1]) rfl ⟨_, _, by rw [HR.out], by rw [HR.out]; exact hiF, by rw [HR.out]; exact hcF, hB22⟩
              · have HR : Hid (withR qs cs c = ([], [], planE qs ds)) := by show _ = _; rw [withR, if_neg (by simp [HE.out]), HDS.out, if_pos hE2]
                have hEb : (planE qs ds != 0) = true := by simpa using hE2
                clear hE2
                rintro e w21 ⟨rfl, hb21⟩
                have hd21 := hdP.trans (hb21.mono hdP.size)
                have hi21 := (hiP.below hb21).more hb21.size
                have hc21 := (hcP.below hb21).more hb21.size
                have s0 := (hb21.cell (p := ⟨w5.heap.size, 0, none⟩) ulP).trans t0
                have s1 := (hb21.cell (p := ⟨w5.heap.size, 1, none⟩) ulP).trans t1
                have hb4 := (hd21.block (w.heap.size + 1 + 1) (blk_lt hbk)).trans hbk
                have r0 := cell_blk hb4 0
                have r1 := cell_blk hb4 1
                have g0 := frozen_blk hb4 0
                have g1 := frozen_blk hb4 1
                simp only [List.getElem?_toArray, List.getElem?_cons_zero, List.getElem?_cons_succ] at r0 r1
                have hB21 := hB1.trans (hd21.mono hB1.size)
                clear t0 t1 hdP hiP hcP
                go_wp2_with fail
                obtain ⟨u0, u1⟩ := two_cells r0 r1 (.slice none 0 0) (.slice none 0 0)
                have hB22 := below_two hB21 (show w.heap.size ≤ w.heap.size + 1 + 1 by omega) (.slice none 0 0) (.slice none 0 0)
                generalize ((w21.setCell ⟨w.heap.size + 1 + 1, 0, none⟩ (.slice none 0 0)).setCell ⟨w.heap.size + 1 + 1, 1, none⟩ (.slice none 0 0)) = w22 at *
                refine bodyPost_ret (v := .tuple #[.agg #[.slice none 0 0, .slice none 0 0], .int .i64 (planE qs ds)]) (by simp [results, Tryd.results37, go_sem, u0, u1]) rfl ⟨_, _, by rw [HR.out], by rw [HR.out]; exact ints_nil _ _, by rw [HR.out]; exact cons_nil _ _, hB22⟩
        · simp only [List.getElem_toArray, List.getElem_cons_zero, List.getElem_cons_succ]
          go_simp
          have hd4 := hd3.alloc hd3.size (.cells #[.slice none 0 0, .slice none 0 0] 25)
          have ho4 := ho3.alloc (.cells #[.slice none 0 0, .slice none 0 0] 25)
          have hn4 := (Below.heap_alloc _ (.cells #[.slice none 0 0, .slice none 0 0] 25) _ (blk_lt hn3)).trans hn3
          have hne4 := hne3
          have hqlo : w1.heap.size ≤ w4.heap.size := hd3.size
          have hq4 : (w4.alloc (.cells #[.slice none 0 0, .slice none 0 0] 25)).heap[w4.heap.size]? = some (.cells #[.slice none 0 0, .slice none 0 0] 25 (0, 0)) := heap_last _ _ _ rfl
          refine hK.out _ _ ⟨(hd4.cell (p := ⟨w.heap.size, 0, none⟩) hl).trans q0, (hd4.cell (p := ⟨w.heap.size, 1, none⟩) hl).trans q1, (hd4.cell (p := ⟨w.heap.size + 1, 0, none⟩) hl1).trans y0, (hd4.cell (p := ⟨w.heap.size + 1, 1, none⟩) hl1).trans y1, (hd4.cell (p := ⟨w.heap.size + 1, 2, none⟩) hl1).trans y2, (hd4.cell (p := ⟨w.heap.size + 1, 3, none⟩) hl1).trans y3, (hd4.cell (p := ⟨w.heap.size + 1, 4, none⟩) hl1).trans y4, (hd4.cell (p := ⟨w.heap.size + 1, 5, none⟩) hl1).trans y5, (hd4.cell (p := ⟨w.heap.size + 1, 6, none⟩) hl1).trans y6⟩ (fun _ => ?_)
          clear hK K
          (try simp only [List.getElem_toArray, List.getElem_cons_zero, List.getElem_cons_succ, Act.put, List.setIfInBounds_toArray, List.set_cons_zero, List.set_cons_succ])
          generalize hX4 : (w4.alloc (.cells #[.slice none 0 0, .slice none 0 0] 25)) = w5 at *
          clear hX4
          refine wpAnyH_ready (rs := [8]) (by kernel_rfl) (by simp) ?_
          refine (AllReadyH.cons rfl (fun K hK => ?_) AllReadyH.nil)
          · simp only [List.getElem_toArray, List.getElem_cons_zero, List.getElem_cons_succ]
            rw [if_pos (by simp [Region.wanted])]
            refine wp_append_con (.tmp 17) (.tmp 19) rfl w5 w1.heap.size (.slice AV3 cs.length cV3) cs [c] (by kernel_rfl) ho4 (some ⟨wd.heap.size, 0, none⟩) 1 (by kernel_rfl) (consAt_one hn4) (by simp; omega) hd4.size ?_
            intro V5 w6 ho5 hg5 h55
            have hd5 : Below w1.heap.size w1 w6 := Below.grown hd4 hg5 hd4.size (fun j e => (ho4.lt j e).1)
            have hn5 := (hg5.block wd.heap.size (blk_lt hn4) (fun e => hne4 e.symm)).trans hn4
            have hne5 : V5.ownBlock ≠ some wd.heap.size := fun e => by have h1 := blk_lt hn4; rcases h55 with h | h; exact hne4 (h.symm.trans e); rw [h] at e; injection e; omega
            have hq5 := (hg5.block w4.heap.size (blk_lt hq4) (fun e => own_ne_kind ho4 hq4 (by decide) e.symm)).trans hq4
            obtain ⟨AV5, cV5, rfl⟩ := own_shape ho5
            clear h55 hg5
            generalize hds : cs ++ [c] = ds at *
            have HDS := Lib.hid hds
            clear hds
            refine hK.out _ _ ⟨(hd5.cell (p := ⟨w.heap.size, 0, none⟩) hl).trans q0, (hd5.cell (p := ⟨w.heap.size, 1, none⟩) hl).trans q1, (hd5.cell (p := ⟨w.heap.size + 1, 0, none⟩) hl1).trans y0, (hd5.cell (p := ⟨w.heap.size + 1, 1, none⟩) hl1).trans y1, (hd5.cell (p := ⟨w.heap.size + 1, 2, none⟩) hl1).trans y2, (hd5.cell (p := ⟨w.heap.size + 1, 3, none⟩) hl1).trans y3, (hd5.cell (p := ⟨w.heap.size + 1, 4, none⟩) hl1).trans y4, (hd5.cell (p := ⟨w.heap.size + 1, 5, none⟩) hl1).trans y5, (hd5.cell (p := ⟨w.heap.size + 1, 6, none⟩) hl1).trans y6⟩ (fun hHeld => ?_)
            clear hK K
            (try simp only [Act.put, List.setIfInBounds_toArray, List.set_cons_zero, List.set_cons_succ])
            (refine wpAnyH_take (i := 9) (v := ?_) rfl (by kernel_rfl) (by kernel_rfl) (by kernel_rfl) (fun _ _ _ h => h) (Or.inl ⟨by kernel_rfl, fun w0 hSw => ?_⟩) hHeld ?_; rotate_left; (focus ((try dsimp only at hSw); simp only [List.getElem_toArray, List.getElem_cons_zero, List.getElem_cons_succ]; (first | (go_simp; done) | (go_simp; with_reducible rfl)))); (try simp only [List.getElem_toArray, List.getElem_cons_zero, List.getElem_cons_succ, Act.put, List.setIfInBounds_toArray, List.set_cons_zero, List.set_cons_succ]))
            refine wpAnyH_ready (rs := [11]) (by kernel_rfl) (by simp) ?_
            refine (AllReadyH.cons rfl (fun K hK => ?_) AllReadyH.nil)
            · simp only [List.getElem_toArray, List.getElem_cons_zero, List.getElem_cons_succ]
              have z0 := cell_blk hq5 0
              have z1 := cell_blk hq5 1
              have g0 := frozen_blk hq5 0
              have g1 := frozen_blk hq5 1
              simp only [List.getElem?_toArray, List.getElem?_cons_zero, List.getElem?_cons_succ] at z0 z1
              go_simp
              obtain ⟨⟨t0, t1⟩, hiP, hcP⟩ := put_plan hq5 ((hqW.below hd5).more hd5.size) (cons_of_own ho5)
              have hdP : Below w1.heap.size w1 ((w6.setCell ⟨w4.heap.size, 0, none⟩ (.slice A1 qs.length c1)).setCell ⟨w4.heap.size, 1, none⟩ (.slice AV5 ds.length cV5)) := below_two hd5 hqlo (.slice A1 qs.length c1) (.slice AV5 ds.length cV5)
              have ulP : w4.heap.size < ((w6.setCell ⟨w4.heap.size, 0, none⟩ (.slice A1 qs.length c1)).setCell ⟨w4.heap.size, 1, none⟩ (.slice AV5 ds.length cV5)).heap.size := by have h1 := blk_lt hq5; simpa using h1
              refine hK.out _ _ ⟨(hdP.cell (p := ⟨w.heap.size, 0, none⟩) hl).trans q0, (hdP.cell (p := ⟨w.heap.size, 1, none⟩) hl).trans q1, (hdP.cell (p := ⟨w.heap.size + 1, 0, none⟩) hl1).trans y0, (hdP.cell (p := ⟨w.heap.size + 1, 1, none⟩) hl1).trans y1, (hdP.cell (p := ⟨w.heap.size + 1, 2, none⟩) hl1).trans y2, (hdP.cell (p := ⟨w.heap.size + 1, 3, none⟩) hl1).trans y3, (hdP.cell (p := ⟨w.heap.size + 1, 4, none⟩) hl1).trans y4, (hdP.cell (p := ⟨w.heap.size + 1, 5, none⟩) hl1).trans y5, (hdP.cell (p := ⟨w.heap.size + 1, 6, none⟩) hl1).trans y6⟩ (fun hHeld => ?_)
              clear hK K
              (try simp only [List.getElem_toArray, List.getElem_cons_zero, List.getElem_cons_succ, Act.put, List.setIfInBounds_toArray, List.set_cons_zero, List.set_cons_succ])
              refine wpAnyH_done (by kernel_rfl) ?_ _
              clear z0 z1 g0 g1 hHeld hq5 ho5 hn5 hne5
              generalize ((w6.setCell ⟨w4.heap.size, 0, none⟩ (.slice A1 qs.length c1)).setCell ⟨w4.heap.size, 1, none⟩ (.slice AV5 ds.length cV5)) = w20 at *
              go_wp2_with fail
              refine (rpcheck_any _ _ qs ds _ hiP hcP).mono ?_
              by_cases hE2 : planE qs ds = 0
              · rw [hE2]
                have HR : Hid (withR qs cs c = (qs, ds, 0)) := by show _ = _; rw [withR, if_neg (by simp [HE.out]), HDS.out, if_neg (by simp [hE2])]
                clear hE2
                rintro e w21 ⟨rfl, hb21⟩
                have hd21 := hdP.trans (hb21.mono hdP.size)
                have hi21 := (hiP.below hb21).more hb21.size
                have hc21 := (hcP.below hb21).more hb21.size
                have s0 := (hb21.cell (p := ⟨w4.heap.size, 0, none⟩) ulP).trans t0
                have s1 := (hb21.cell (p := ⟨w4.heap.size, 1, none⟩) ulP).trans t1
                have hb4 := (hd21.block (w.heap.size + 1 + 1) (blk_lt hbk)).trans hbk
                have r0 := cell_blk hb4 0
                have r1 := cell_blk hb4 1
                have g0 := frozen_blk hb4 0
                have g1 := frozen_blk hb4 1
                simp only [List.getElem?_toArray, List.getElem?_cons_zero, List.getElem?_cons_succ] at r0 r1
                have hB21 := hB1.trans (hd21.mono hB1.size)
                clear t0 t1 hdP hiP hcP
                go_wp2_with fail
                obtain ⟨⟨u0, u1⟩, hiF, hcF⟩ := put_plan hb4 hi21 hc21
                have hB22 := below_two hB21 (show w.heap.size ≤ w.heap.size + 1 + 1 by omega) (.slice A1 qs.length c1) (.slice AV5 ds.length cV5)
                generalize ((w21.setCell ⟨w.heap.size + 1 + 1, 0, none⟩ (.slice A1 qs.length c1)).setCell ⟨w.heap.size + 1 + 1, 1, none⟩ (.slice AV5 ds.length cV5)) = w22 at *
                refine bodyPost_ret (v := .tuple #[.agg #[.slice A1 qs.length c1, .slice AV5 ds.length cV5], .int .i64 0]) (by simp [results, Tryd.results37, go_sem, u0, u1]) rfl ⟨_, _, by rw [HR.out], by rw [HR.out]; exact hiF, by rw [HR.out]; exact hcF, hB22⟩
              · have HR : Hid (withR qs cs c = ([], [], planE qs ds)) := by show _ = _; rw [withR, if_neg (by simp [HE.out]), HDS.out, if_pos hE2]
                have hEb : (planE qs ds != 0) = true := by simpa using hE2
                clear hE2
                rintro e w21 ⟨rfl, hb21⟩
                have hd21 := hdP.trans (hb21.mono hdP.size)
                have hi21 := (hiP.below hb21).more hb21.size
                have hc21 := (hcP.below hb21).more hb21.size
                have s0 := (hb21.cell (p := ⟨w4.heap.size, 0, none⟩) ulP).trans t0
                have s1 := (hb21.cell (p := ⟨w4.heap.size, 1, none⟩) ulP).trans t1
                have hb4 := (hd21.block (w.heap.size + 1 + 1) (blk_lt hbk)).trans hbk
                have r0 := cell_blk hb4 0
                have r1 := cell_blk hb4 1
                have g0 := frozen_blk hb4 0
                have g1 := frozen_blk hb4 1
                simp only [List.getElem?_toArray, List.getElem?_cons_zero, List.getElem?_cons_succ] at r0 r1
                have hB21 := hB1.trans (hd21.mono hB1.size)
                clear t0 t1 hdP hiP hcP
                go_wp2_with fail
                obtain ⟨u0, u1⟩ := two_cells r0 r1 (.slice none 0 0) (.slice none 0 0)
                have hB22 := below_two hB21 (show w.heap.size ≤ w.heap.size + 1 + 1 by omega) (.slice none 0 0) (.slice none 0 0)
                generalize ((w21.setCell ⟨w.heap.size + 1 + 1, 0, none⟩ (.slice none 0 0)).setCell ⟨w.heap.size + 1 + 1, 1, none⟩ (.slice none 0 0)) = w22 at *
                refine bodyPost_ret (v := .tuple #[.agg #[.slice none 0 0, .slice none 0 0], .int .i64 (planE qs ds)]) (by simp [results, Tryd.results37, go_sem, u0, u1]) rfl ⟨_, _, by rw [HR.out], by rw [HR.out]; exact ints_nil _ _, by rw [HR.out]; exact cons_nil _ _, hB22⟩
      · simp only [List.getElem_toArray, List.getElem_cons_zero, List.getElem_cons_succ]
        go_simp
        have hd3 := hd2.alloc hd2.size (.cells #[.slice none 0 0, .slice none 0 0] 25)
        have ho3 := ho2.alloc (.cells #[.slice none 0 0, .slice none 0 0] 25)
        have hn3 := (Below.heap_alloc _ (.cells #[.slice none 0 0, .slice none 0 0] 25) _ (blk_lt hn2)).trans hn2
        have hne3 := hne2
        have hqlo : w1.heap.size ≤ w3.heap.size := hd2.size
        have hq3 : (w3.alloc (.cells #[.slice none 0 0, .slice none 0 0] 25)).heap[w3.heap.size]? = some (.cells #[.slice none 0 0, .slice none 0 0] 25 (0, 0)) := heap_last _ _ _ rfl
        refine hK.out _ _ ⟨(hd3.cell (p := ⟨w.heap.size, 0, none⟩) hl).trans q0, (hd3.cell (p := ⟨w.heap.size, 1, none⟩) hl).trans q1, (hd3.cell (p := ⟨w.heap.size + 1, 0, none⟩) hl1).trans y0, (hd3.cell (p := ⟨w.heap.size + 1, 1, none⟩) hl1).trans y1, (hd3.cell (p := ⟨w.heap.size + 1, 2, none⟩) hl1).trans y2, (hd3.cell (p := ⟨w.heap.size + 1, 3, none⟩) hl1).trans y3, (hd3.cell (p := ⟨w.heap.size + 1, 4, none⟩) hl1).trans y4, (hd3.cell (p := ⟨w.heap.size + 1, 5, none⟩) hl1).trans y5, (hd3.cell (p := ⟨w.heap.size + 1, 6, none⟩) hl1).trans y6⟩ (fun _ => ?_)
        clear hK K
        (try simp only [List.getElem_toArray, List.getElem_cons_zero, List.getElem_cons_succ, Act.put, List.setIfInBounds_toArray, List.set_cons_zero, List.set_cons_succ])
        generalize hX3 : (w3.alloc (.cells #[.slice none 0 0, .slice none 0 0] 25)) = w4 at *
        clear hX3
        refine wpAnyH_ready (rs := [5]) (by kernel_rfl) (by simp) ?_
        refine (AllReadyH.cons rfl (fun K hK => ?_) AllReadyH.nil)
        · simp only [List.getElem_toArray, List.getElem_cons_zero, List.getElem_cons_succ]
          rw [if_pos (by simp [Region.wanted])]
          refine wp_append_con (.tmp 14) (.tmp 16) rfl w4 w1.heap.size (.slice (some ⟨w2.heap.size, 0, none⟩) 0 0) [] cs (by kernel_rfl) ho3 A2 c2 (by kernel_rfl) (by have h := consAt_take (i := cs.length) hcW hd3 (Nat.le_refl _); rwa [List.take_length] at h) (by simp; omega) hd3.size ?_
          intro V4 w5 ho4 hg4 h54
          have hd4 : Below w1.heap.size w1 w5 := Below.grown hd3 hg4 hd3.size (fun j e => (ho3.lt j e).1)
          have hn4 := (hg4.block wd.heap.size (blk_lt hn3) (fun e => hne3 e.symm)).trans hn3
          have hne4 : V4.ownBlock ≠ some wd.heap.size := fun e => by have h1 := blk_lt hn3; rcases h54 with h | h; exact hne3 (h.symm.trans e); rw [h] at e; injection e; omega
          have hq4 := (hg4.block w3.heap.size (blk_lt hq3) (fun e => own_ne_kind ho3 hq3 (by decide) e.symm)).trans hq3
          rw [List.nil_append] at ho4
          obtain ⟨AV4, cV4, rfl⟩ := own_shape ho4
          clear h54 hg4
          refine hK.out _ _ ⟨(hd4.cell (p := ⟨w.heap.size, 0, none⟩) hl).trans q0, (hd4.cell (p := ⟨w.heap.size, 1, none⟩) hl).trans q1, (hd4.cell (p := ⟨w.heap.size + 1, 0, none⟩) hl1).trans y0, (hd4.cell (p := ⟨w.heap.size + 1, 1, none⟩) hl1).trans y1, (hd4.cell (p := ⟨w.heap.size + 1, 2, none⟩) hl1).trans y2, (hd4.cell (p := ⟨w.heap.size + 1, 3, none⟩) hl1).trans y3, (hd4.cell (p := ⟨w.heap.size + 1, 4, none⟩) hl1).trans y4, (hd4.cell (p := ⟨w.heap.size + 1, 5, none⟩) hl1).trans y5, (hd4.cell (p := ⟨w.heap.size + 1, 6, none⟩) hl1).trans y6⟩ (fun hHeld => ?_)
          clear hK K
          (try simp only [Act.put, List.setIfInBounds_toArray, List.set_cons_zero, List.set_cons_succ])
          refine wpAnyH_ready (rs := [8]) (by kernel_rfl) (by simp) ?_
          refine (AllReadyH.cons rfl (fun K hK => ?_) AllReadyH.nil)
          · simp only [List.getElem_toArray, List.getElem_cons_zero, List.getElem_cons_succ]
            rw [if_pos (by simp [Region.wanted])]
            refine wp_append_con (.tmp 17) (.tmp 19) rfl w5 w1.heap.size (.slice AV4 cs.length cV4) cs [c] (by kernel_rfl) ho4 (some ⟨wd.heap.size, 0, none⟩) 1 (by kernel_rfl) (consAt_one hn4) (by simp; omega) hd4.size ?_
            intro V5 w6 ho5 hg5 h55
            have hd5 : Below w1.heap.size w1 w6 := Below.grown hd4 hg5 hd4.size (fun j e => (ho4.lt j e).1)
            have hn5 := (hg5.block wd.heap.size (blk_lt hn4) (fun e => hne4 e.symm)).trans hn4
            have hne5 : V5.ownBlock ≠ some wd.heap.size := fun e => by have h1 := blk_lt hn4; rcases h55 with h | h; exact hne4 (h.symm.trans e); rw [h] at e; injection e; omega
            have hq5 := (hg5.block w3.heap.size (blk_lt hq4) (fun e => own_ne_kind ho4 hq4 (by decide) e.symm)).trans hq4
            obtain ⟨AV5, cV5, rfl⟩ := own_shape ho5
            clear h55 hg5
            generalize hds : cs ++ [c] = ds at *
            have HDS := Lib.hid hds
            clear hds
            refine hK.out _ _ ⟨(hd5.cell (p := ⟨w.heap.size, 0, none⟩) hl).trans q0, (hd5.cell (p := ⟨w.heap.size, 1, none⟩) hl).trans q1, (hd5.cell (p := ⟨w.heap.size + 1, 0, none⟩) hl1).trans y0, (hd5.cell (p := ⟨w.heap.size + 1, 1, none⟩) hl1).trans y1, (hd5.cell (p := ⟨w.heap.size + 1, 2, none⟩) hl1).trans y2, (hd5.cell (p := ⟨w.heap.size + 1, 3, none⟩) hl1).trans y3, (hd5.cell (p := ⟨w.heap.size + 1, 4, none⟩) hl1).trans y4, (hd5.cell (p := ⟨w.heap.size + 1, 5, none⟩) hl1).trans y5, (hd5.cell (p := ⟨w.heap.size + 1, 6, none⟩) hl1).trans y6⟩ (fun hHeld => ?_)
            clear hK K
            (try simp only [Act.put, List.setIfInBounds_toArray, List.set_cons_zero, List.set_cons_succ])
            (refine wpAnyH_take (i := 9) (v := ?_) rfl (by kernel_rfl) (by kernel_rfl) (by kernel_rfl) (fun _ _ _ h => h) (Or.inl ⟨by kernel_rfl, fun w0 hSw => ?_⟩) hHeld ?_; rotate_left; (focus ((try dsimp only at hSw); simp only [List.getElem_toArray, List.getElem_cons_zero, List.getElem_cons_succ]; (first | (go_simp; done) | (go_simp; with_reducible rfl)))); (try simp only [List.getElem_toArray, List.getElem_cons_zero, List.getElem_cons_succ, Act.put, List.setIfInBounds_toArray, List.set_cons_zero, List.set_cons_succ]))
            refine wpAnyH_ready (rs := [11]) (by kernel_rfl) (by simp) ?_
            refine (AllReadyH.cons rfl (fun K hK => ?_) AllReadyH.nil)
            · simp only [List.getElem_toArray, List.getElem_cons_zero, List.getElem_cons_succ]
              have z0 := cell_blk hq5 0
              have z1 := cell_blk hq5 1
              have g0 := frozen_blk hq5 0
              have g1 := frozen_blk hq5 1
              simp only [List.getElem?_toArray, List.getElem?_cons_zero, List.getElem?_cons_succ] at z0 z1
              go_simp
              obtain ⟨⟨t0, t1⟩, hiP, hcP⟩ := put_plan hq5 ((hqW.below hd5).more hd5.size) (cons_of_own ho5)
              have hdP : Below w1.heap.size w1 ((w6.setCell ⟨w3.heap.size, 0, none⟩ (.slice A1 qs.length c1)).setCell ⟨w3.heap.size, 1, none⟩ (.slice AV5 ds.length cV5)) := below_two hd5 hqlo (.slice A1 qs.length c1) (.slice AV5 ds.length cV5)
              have ulP : w3.heap.size < ((w6.setCell ⟨w3.heap.size, 0, none⟩ (.slice A1 qs.length c1)).setCell ⟨w3.heap.size, 1, none⟩ (.slice AV5 ds.length cV5)).heap.size := by have h1 := blk_lt hq5; simpa using h1
              refine hK.out _ _ ⟨(hdP.cell (p := ⟨w.heap.size, 0, none⟩) hl).trans q0, (hdP.cell (p := ⟨w.heap.size, 1, none⟩) hl).trans q1, (hdP.cell (p := ⟨w.heap.size + 1, 0, none⟩) hl1).trans y0, (hdP.cell (p := ⟨w.heap.size + 1, 1, none⟩) hl1).trans y1, (hdP.cell (p := ⟨w.heap.size + 1, 2, none⟩) hl1).trans y2, (hdP.cell (p := ⟨w.heap.size + 1, 3, none⟩) hl1).trans y3, (hdP.cell (p := ⟨w.heap.size + 1, 4, none⟩) hl1).trans y4, (hdP.cell (p := ⟨w.heap.size + 1, 5, none⟩) hl1).trans y5, (hdP.cell (p := ⟨w.heap.size + 1, 6, none⟩) hl1).trans y6⟩ (fun hHeld => ?_)
              clear hK K
              (try simp only [List.getElem_toArray, List.getElem_cons_zero, List.getElem_cons_succ, Act.put, List.setIfInBounds_toArray, List.set_cons_zero, List.set_cons_succ])
              refine wpAnyH_done (by kernel_rfl) ?_ _
              clear z0 z1 g0 g1 hHeld hq5 ho5 hn5 hne5
              generalize ((w6.setCell ⟨w3.heap.size, 0, none⟩ (.slice A1 qs.length c1)).setCell ⟨w3.heap.size, 1, none⟩ (.slice AV5 ds.length cV5)) = w20 at *
              go_wp2_with fail
              refine (rpcheck_any _ _ qs ds _ hiP hcP).mono ?_
              by_cases hE2 : planE qs ds = 0
              · rw [hE2]
                have HR : Hid (withR qs cs c = (qs, ds, 0)) := by show _ = _; rw [withR, if_neg (by simp [HE.out]), HDS.out, if_neg (by simp [hE2])]
                clear hE2
                rintro e w21 ⟨rfl, hb21⟩
                have hd21 := hdP.trans (hb21.mono hdP.size)
                have hi21 := (hiP.below hb21).more hb21.size
                have hc21 := (hcP.below hb21).more hb21.size
                have s0 := (hb21.cell (p := ⟨w3.heap.size, 0, none⟩) ulP).trans t0
                have s1 := (hb21.cell (p := ⟨w3.heap.size, 1, none⟩) ulP).trans t1
                have hb4 := (hd21.block (w.heap.size + 1 + 1) (blk_lt hbk)).trans hbk
                have r0 := cell_blk hb4 0
                have r1 := cell_blk hb4 1
                have g0 := frozen_blk hb4 0
                have g1 := frozen_blk hb4 1
                simp only [List.getElem?_toArray, List.getElem?_cons_zero, List.getElem?_cons_succ] at r0 r1
                have hB21 := hB1.trans (hd21.mono hB1.size)
                clear t0 t1 hdP hiP hcP
                go_wp2_with fail
                obtain ⟨⟨u0, u1⟩, hiF, hcF⟩ := put_plan hb4 hi21 hc21
                have hB22 := below_two hB21 (show w.heap.size ≤ w.heap.size + 1 + 1 by omega) (.slice A1 qs.length c1) (.slice AV5 ds.length cV5)
                generalize ((w21.setCell ⟨w.heap.size + 1 + 1, 0, none⟩ (.slice A1 qs.length c1)).setCell ⟨w.heap.size + 1 + 1, 1, none⟩ (.slice AV5 ds.length cV5)) = w22 at *
                refine bodyPost_ret (v := .tuple #[.agg #[.slice A1 qs.length c1, .slice AV5 ds.length cV5], .int .i64 0]) (by simp [results, Tryd.results37, go_sem, u0, u1]) rfl ⟨_, _, by rw [HR.out], by rw [HR.out]; exact hiF, by rw [HR.out]; exact hcF, hB22⟩
              · have HR : Hid (withR qs cs c = ([], [], planE qs ds)) := by show _ = _; rw [withR, if_neg (by simp [HE.out]), HDS.out, if_pos hE2]
                have hEb : (planE qs ds != 0) = true := by simpa using hE2
                clear hE2
                rintro e w21 ⟨rfl, hb21⟩
                have hd21 := hdP.trans (hb21.mono hdP.size)
                have hi21 := (hiP.below hb21).more hb21.size
                have hc21 := (hcP.below hb21).more hb21.size
                have s0 := (hb21.cell (p := ⟨w3.heap.size, 0, none⟩) ulP).trans t0
                have s1 := (hb21.cell (p := ⟨w3.heap.size, 1, none⟩) ulP).trans t1
                have hb4 := (hd21.block (w.heap.size + 1 + 1) (blk_lt hbk)).trans hbk
                have r0 := cell_blk hb4 0
                have r1 := cell_blk hb4 1
                have g0 := frozen_blk hb4 0
                have g1 := frozen_blk hb4 1
                simp only [List.getElem?_toArray, List.getElem?_cons_zero, List.getElem?_cons_succ] at r0 r1
                have hB21 := hB1.trans (hd21.mono hB1.size)
                clear t0 t1 hdP hiP hcP
                go_wp2_with fail
                obtain ⟨u0, u1⟩ := two_cells r0 r1 (.slice none 0 0) (.slice none 0 0)
                have hB22 := below_two hB21 (show w.heap.size ≤ w.heap.size + 1 + 1 by omega) (.slice none 0 0) (.slice none 0 0)
                generalize ((w21.setCell ⟨w.heap.size + 1 + 1, 0, none⟩ (.slice none 0 0)).setCell ⟨w.heap.size + 1 + 1, 1, none⟩ (.slice none 0 0)) = w22 at *
                refine bodyPost_ret (v := .tuple #[.agg #[.slice none 0 0, .slice none 0 0], .int .i64 (planE qs ds)]) (by simp [results, Tryd.results37, go_sem, u0, u1]) rfl ⟨_, _, by rw [HR.out], by rw [HR.out]; exact ints_nil _ _, by rw [HR.out]; exact cons_nil _ _, hB22⟩
    · simp only [List.getElem_toArray, List.getElem_cons_zero, List.getElem_cons_succ]
      go_simp
      have hd2 := hd1.alloc hd1.size (.cells #[.slice none 0 0, .slice none 0 0] 25)
      have hn2 := (Below.heap_alloc _ (.cells #[.slice none 0 0, .slice none 0 0] 25) _ (blk_lt hn1)).trans hn1
      have hqlo : w1.heap.size ≤ w2.heap.size := hd1.size
      have hq2 : (w2.alloc (.cells #[.slice none 0 0, .slice none 0 0] 25)).heap[w2.heap.size]? = some (.cells #[.slice none 0 0, .slice none 0 0] 25 (0, 0)) := heap_last _ _ _ rfl
      refine hK.out _ _ ⟨(hd2.cell (p := ⟨w.heap.size, 0, none⟩) hl).trans q0, (hd2.cell (p := ⟨w.heap.size, 1, none⟩) hl).trans q1, (hd2.cell (p := ⟨w.heap.size + 1, 0, none⟩) hl1).trans y0, (hd2.cell (p := ⟨w.heap.size + 1, 1, none⟩) hl1).trans y1, (hd2.cell (p := ⟨w.heap.size + 1, 2, none⟩) hl1).trans y2, (hd2.cell (p := ⟨w.heap.size + 1, 3, none⟩) hl1).trans y3, (hd2.cell (p := ⟨w.heap.size + 1, 4, none⟩) hl1).trans y4, (hd2.cell (p := ⟨w.heap.size + 1, 5, none⟩) hl1).trans y5, (hd2.cell (p := ⟨w.heap.size + 1, 6, none⟩) hl1).trans y6⟩ (fun _ => ?_)
      clear hK K
      (try simp only [List.getElem_toArray, List.getElem_cons_zero, List.getElem_cons_succ, Act.put, List.setIfInBounds_toArray, List.set_cons_zero, List.set_cons_succ])
      generalize hX2 : (w2.alloc (.cells #[.slice none 0 0, .slice none 0 0] 25)) = w3 at *
      clear hX2
      refine wpAnyH_ready (rs := [2]) (by kernel_rfl) (by simp) ?_
      refine (AllReadyH.cons rfl (fun K hK => ?_) AllReadyH.nil)
      · simp only [List.getElem_toArray, List.getElem_cons_zero, List.getElem_cons_succ]
        go_simp
        have hd3 := hd2.alloc hd2.size (.cells #[] 40)
        have hn3 := (Below.heap_alloc _ (.cells #[] 40) _ (blk_lt hn2)).trans hn2
        have hq3 := (Below.heap_alloc _ (.cells #[] 40) _ (blk_lt hq2)).trans hq2
        have ho3 : (w3.alloc (.cells #[] 40)).ownsRow w1.heap.size 40 7 (.slice (some ⟨w3.heap.size, 0, none⟩) 0 0) ([] : List Con).length (conCells []) := World.ownsRow_lit (e := 40) (size := 7) w3 #[] 0 hd2.size (by simp [maxLen]) rfl
        have hne3 : (Value.slice (some ⟨w3.heap.size, 0, none⟩) 0 0).ownBlock ≠ some wd.heap.size := fun e => by have h1 := blk_lt hn2; have h2 : w3.heap.size = wd.heap.size := (by simpa [Value.ownBlock] using e); omega
        refine hK.out _ _ ⟨(hd3.cell (p := ⟨w.heap.size, 0, none⟩) hl).trans q0, (hd3.cell (p := ⟨w.heap.size, 1, none⟩) hl).trans q1, (hd3.cell (p := ⟨w.heap.size + 1, 0, none⟩) hl1).trans y0, (hd3.cell (p := ⟨w.heap.size + 1, 1, none⟩) hl1).trans y1, (hd3.cell (p := ⟨w.heap.size + 1, 2, none⟩) hl1).trans y2, (hd3.cell (p := ⟨w.heap.size + 1, 3, none⟩) hl1).trans y3, (hd3.cell (p := ⟨w.heap.size + 1, 4, none⟩) hl1).trans y4, (hd3.cell (p := ⟨w.heap.size + 1, 5, none⟩) hl1).trans y5, (hd3.cell (p := ⟨w.heap.size + 1, 6, none⟩) hl1).trans y6⟩ (fun _ => ?_)
        clear hK K
        (try simp only [List.getElem_toArray, List.getElem_cons_zero, List.getElem_cons_succ, Act.put, List.setIfInBounds_toArray, List.set_cons_zero, List.set_cons_succ])
        generalize hX3 : (w3.alloc (.cells #[] 40)) = w4 at *
        clear hX3
        refine wpAnyH_ready (rs := [5]) (by kernel_rfl) (by simp) ?_
        refine (AllReadyH.cons rfl (fun K hK => ?_) AllReadyH.nil)
        · simp only [List.getElem_toArray, List.getElem_cons_zero, List.getElem_cons_succ]
          rw [if_pos (by simp [Region.wanted])]
          refine wp_append_con (.tmp 14) (.tmp 16) rfl w4 w1.heap.size (.slice (some ⟨w3.heap.size, 0, none⟩) 0 0) [] cs (by kernel_rfl) ho3 A2 c2 (by kernel_rfl) (by have h := consAt_take (i := cs.length) hcW hd3 (Nat.le_refl _); rwa [List.take_length] at h) (by simp; omega) hd3.size ?_
          intro V4 w5 ho4 hg4 h54
          have hd4 : Below w1.heap.size w1 w5 := Below.grown hd3 hg4 hd3.size (fun j e => (ho3.lt j e).1)
          have hn4 := (hg4.block wd.heap.size (blk_lt hn3) (fun e => hne3 e.symm)).trans hn3
          have hne4 : V4.ownBlock ≠ some wd.heap.size := fun e => by have h1 := blk_lt hn3; rcases h54 with h | h; exact hne3 (h.symm.trans e); rw [h] at e; injection e; omega
          have hq4 := (hg4.block w2.heap.size (blk_lt hq3) (fun e => own_ne_kind ho3 hq3 (by decide) e.symm)).trans hq3
          rw [List.nil_append] at ho4
          obtain ⟨AV4, cV4, rfl⟩ := own_shape ho4
          clear h54 hg4
          refine hK.out _ _ ⟨(hd4.cell (p := ⟨w.heap.size, 0, none⟩) hl).trans q0, (hd4.cell (p := ⟨w.heap.size, 1, none⟩) hl).trans q1, (hd4.cell (p := ⟨w.heap.size + 1, 0, none⟩) hl1).trans y0, (hd4.cell (p := ⟨w.heap.size + 1, 1, none⟩) hl1).trans y1, (hd4.cell (p := ⟨w.heap.size + 1, 2, none⟩) hl1).trans y2, (hd4.cell (p := ⟨w.heap.size + 1, 3, none⟩) hl1).trans y3, (hd4.cell (p := ⟨w.heap.size + 1, 4, none⟩) hl1).trans y4, (hd4.cell (p := ⟨w.heap.size + 1, 5, none⟩) hl1).trans y5, (hd4.cell (p := ⟨w.heap.size + 1, 6, none⟩) hl1).trans y6⟩ (fun hHeld => ?_)
          clear hK K
          (try simp only [Act.put, List.setIfInBounds_toArray, List.set_cons_zero, List.set_cons_succ])
          refine wpAnyH_ready (rs := [8]) (by kernel_rfl) (by simp) ?_
          refine (AllReadyH.cons rfl (fun K hK => ?_) AllReadyH.nil)
          · simp only [List.getElem_toArray, List.getElem_cons_zero, List.getElem_cons_succ]
            rw [if_pos (by simp [Region.wanted])]
            refine wp_append_con (.tmp 17) (.tmp 19) rfl w5 w1.heap.size (.slice AV4 cs.length cV4) cs [c] (by kernel_rfl) ho4 (some ⟨wd.heap.size, 0, none⟩) 1 (by kernel_rfl) (consAt_one hn4) (by simp; omega) hd4.size ?_
            intro V5 w6 ho5 hg5 h55
            have hd5 : Below w1.heap.size w1 w6 := Below.grown hd4 hg5 hd4.size (fun j e => (ho4.lt j e).1)
            have hn5 := (hg5.block wd.heap.size (blk_lt hn4) (fun e => hne4 e.symm)).trans hn4
            have hne5 : V5.ownBlock ≠ some wd.heap.size := fun e => by have h1 := blk_lt hn4; rcases h55 with h | h; exact hne4 (h.symm.trans e); rw [h] at e; injection e; omega
            have hq5 := (hg5.block w2.heap.size (blk_lt hq4) (fun e => own_ne_kind ho4 hq4 (by decide) e.symm)).trans hq4
            obtain ⟨AV5, cV5, rfl⟩ := own_shape ho5
            clear h55 hg5
            generalize hds : cs ++ [c] = ds at *
            have HDS := Lib.hid hds
            clear hds
            refine hK.out _ _ ⟨(hd5.cell (p := ⟨w.heap.size, 0, none⟩) hl).trans q0, (hd5.cell (p := ⟨w.heap.size, 1, none⟩) hl).trans q1, (hd5.cell (p := ⟨w.heap.size + 1, 0, none⟩) hl1).trans y0, (hd5.cell (p := ⟨w.heap.size + 1, 1, none⟩) hl1).trans y1, (hd5.cell (p := ⟨w.heap.size + 1, 2, none⟩) hl1).trans y2, (hd5.cell (p := ⟨w.heap.size + 1, 3, none⟩) hl1).trans y3, (hd5.cell (p := ⟨w.heap.size + 1, 4, none⟩) hl1).trans y4, (hd5.cell (p := ⟨w.heap.size + 1, 5, none⟩) hl1).trans y5, (hd5.cell (p := ⟨w.heap.size + 1, 6, none⟩) hl1).trans y6⟩ (fun hHeld => ?_)
            clear hK K
            (try simp only [Act.put, List.setIfInBounds_toArray, List.set_cons_zero, List.set_cons_succ])
            (refine wpAnyH_take (i := 9) (v := ?_) rfl (by kernel_rfl) (by kernel_rfl) (by kernel_rfl) (fun _ _ _ h => h) (Or.inl ⟨by kernel_rfl, fun w0 hSw => ?_⟩) hHeld ?_; rotate_left; (focus ((try dsimp only at hSw); simp only [List.getElem_toArray, List.getElem_cons_zero, List.getElem_cons_succ]; (first | (go_simp; done) | (go_simp; with_reducible rfl)))); (try simp only [List.getElem_toArray, List.getElem_cons_zero, List.getElem_cons_succ, Act.put, List.setIfInBounds_toArray, List.set_cons_zero, List.set_cons_succ]))
            refine wpAnyH_ready (rs := [11]) (by kernel_rfl) (by simp) ?_
            refine (AllReadyH.cons rfl (fun K hK => ?_) AllReadyH.nil)
            · simp only [List.getElem_toArray, List.getElem_cons_zero, List.getElem_cons_succ]
              have z0 := cell_blk hq5 0
              have z1 := cell_blk hq5 1
              have g0 := frozen_blk hq5 0
              have g1 := frozen_blk hq5 1
              simp only [List.getElem?_toArray, List.getElem?_cons_zero, List.getElem?_cons_succ] at z0 z1
              go_simp
              obtain ⟨⟨t0, t1⟩, hiP, hcP⟩ := put_plan hq5 ((hqW.below hd5).more hd5.size) (cons_of_own ho5)
              have hdP : Below w1.heap.size w1 ((w6.setCell ⟨w2.heap.size, 0, none⟩ (.slice A1 qs.length c1)).setCell ⟨w2.heap.size, 1, none⟩ (.slice AV5 ds.length cV5)) := below_two hd5 hqlo (.slice A1 qs.length c1) (.slice AV5 ds.length cV5)
              have ulP : w2.heap.size < ((w6.setCell ⟨w2.heap.size, 0, none⟩ (.slice A1 qs.length c1)).setCell ⟨w2.heap.size, 1, none⟩ (.slice AV5 ds.length cV5)).heap.size := by have h1 := blk_lt hq5; simpa using h1
              refine hK.out _ _ ⟨(hdP.cell (p := ⟨w.heap.size, 0, none⟩) hl).trans q0, (hdP.cell (p := ⟨w.heap.size, 1, none⟩) hl).trans q1, (hdP.cell (p := ⟨w.heap.size + 1, 0, none⟩) hl1).trans y0, (hdP.cell (p := ⟨w.heap.size + 1, 1, none⟩) hl1).trans y1, (hdP.cell (p := ⟨w.heap.size + 1, 2, none⟩) hl1).trans y2, (hdP.cell (p := ⟨w.heap.size + 1, 3, none⟩) hl1).trans y3, (hdP.cell (p := ⟨w.heap.size + 1, 4, none⟩) hl1).trans y4, (hdP.cell (p := ⟨w.heap.size + 1, 5, none⟩) hl1).trans y5, (hdP.cell (p := ⟨w.heap.size + 1, 6, none⟩) hl1).trans y6⟩ (fun hHeld => ?_)
              clear hK K
              (try simp only [List.getElem_toArray, List.getElem_cons_zero, List.getElem_cons_succ, Act.put, List.setIfInBounds_toArray, List.set_cons_zero, List.set_cons_succ])
              refine wpAnyH_done (by kernel_rfl) ?_ _
              clear z0 z1 g0 g1 hHeld hq5 ho5 hn5 hne5
              generalize ((w6.setCell ⟨w2.heap.size, 0, none⟩ (.slice A1 qs.length c1)).setCell ⟨w2.heap.size, 1, none⟩ (.slice AV5 ds.length cV5)) = w20 at *
              go_wp2_with fail
              refine (rpcheck_any _ _ qs ds _ hiP hcP).mono ?_
              by_cases hE2 : planE qs ds = 0
              · rw [hE2]
                have HR : Hid (withR qs cs c = (qs, ds, 0)) := by show _ = _; rw [withR, if_neg (by simp [HE.out]), HDS.out, if_neg (by simp [hE2])]
                clear hE2
                rintro e w21 ⟨rfl, hb21⟩
                have hd21 := hdP.trans (hb21.mono hdP.size)
                have hi21 := (hiP.below hb21).more hb21.size
                have hc21 := (hcP.below hb21).more hb21.size
                have s0 := (hb21.cell (p := ⟨w2.heap.size, 0, none⟩) ulP).trans t0
                have s1 := (hb21.cell (p := ⟨w2.heap.size, 1, none⟩) ulP).trans t1
                have hb4 := (hd21.block (w.heap.size + 1 + 1) (blk_lt hbk)).trans hbk
                have r0 := cell_blk hb4 0
                have r1 := cell_blk hb4 1
                have g0 := frozen_blk hb4 0
                have g1 := frozen_blk hb4 1
                simp only [List.getElem?_toArray, List.getElem?_cons_zero, List.getElem?_cons_succ] at r0 r1
                have hB21 := hB1.trans (hd21.mono hB1.size)
                clear t0 t1 hdP hiP hcP
                go_wp2_with fail
                obtain ⟨⟨u0, u1⟩, hiF, hcF⟩ := put_plan hb4 hi21 hc21
                have hB22 := below_two hB21 (show w.heap.size ≤ w.heap.size + 1 + 1 by omega) (.slice A1 qs.length c1) (.slice AV5 ds.length cV5)
                generalize ((w21.setCell ⟨w.heap.size + 1 + 1, 0, none⟩ (.slice A1 qs.length c1)).setCell ⟨w.heap.size + 1 + 1, 1, none⟩ (.slice AV5 ds.length cV5)) = w22 at *
                refine bodyPost_ret (v := .tuple #[.agg #[.slice A1 qs.length c1, .slice AV5 ds.length cV5], .int .i64 0]) (by simp [results, Tryd.results37, go_sem, u0, u1]) rfl ⟨_, _, by rw [HR.out], by rw [HR.out]; exact hiF, by rw [HR.out]; exact hcF, hB22⟩
              · have HR : Hid (withR qs cs c = ([], [], planE qs ds)) := by show _ = _; rw [withR, if_neg (by simp [HE.out]), HDS.out, if_pos hE2]
                have hEb : (planE qs ds != 0) = true := by simpa using hE2
                clear hE2
                rintro e w21 ⟨rfl, hb21⟩
                have hd21 := hdP.trans (hb21.mono hdP.size)
                have hi21 := (hiP.below hb21).more hb21.size
                have hc21 := (hcP.below hb21).more hb21.size
                have s0 := (hb21.cell (p := ⟨w2.heap.size, 0, none⟩) ulP).trans t0
                have s1 := (hb21.cell (p := ⟨w2.heap.size, 1, none⟩) ulP).trans t1
                have hb4 := (hd21.block (w.heap.size + 1 + 1) (blk_lt hbk)).trans hbk
                have r0 := cell_blk hb4 0
                have r1 := cell_blk hb4 1
                have g0 := frozen_blk hb4 0
                have g1 := frozen_blk hb4 1
                simp only [List.getElem?_toArray, List.getElem?_cons_zero, List.getElem?_cons_succ] at r0 r1
                have hB21 := hB1.trans (hd21.mono hB1.size)
                clear t0 t1 hdP hiP hcP
                go_wp2_with fail
                obtain ⟨u0, u1⟩ := two_cells r0 r1 (.slice none 0 0) (.slice none 0 0)
                have hB22 := below_two hB21 (show w.heap.size ≤ w.heap.size + 1 + 1 by omega) (.slice none 0 0) (.slice none 0 0)
                generalize ((w21.setCell ⟨w.heap.size + 1 + 1, 0, none⟩ (.slice none 0 0)).setCell ⟨w.heap.size + 1 + 1, 1, none⟩ (.slice none 0 0)) = w22 at *
                refine bodyPost_ret (v := .tuple #[.agg #[.slice none 0 0, .slice none 0 0], .int .i64 (planE qs ds)]) (by simp [results, Tryd.results37, go_sem, u0, u1]) rfl ⟨_, _, by rw [HR.out], by rw [HR.out]; exact ints_nil _ _, by rw [HR.out]; exact cons_nil _ _, hB22⟩
  · simp only [List.getElem_toArray, List.getElem_cons_zero, List.getElem_cons_succ]
    go_simp
    have hd1 := hd0.alloc hd0.size (.cells #[.slice none 0 0, .slice none 0 0] 25)
    have hqlo : w1.heap.size ≤ wd.heap.size := hd0.size
    have hq1 : (wd.alloc (.cells #[.slice none 0 0, .slice none 0 0] 25)).heap[wd.heap.size]? = some (.cells #[.slice none 0 0, .slice none 0 0] 25 (0, 0)) := heap_last _ _ _ rfl
    refine hK.out _ _ ⟨(hd1.cell (p := ⟨w.heap.size, 0, none⟩) hl).trans q0, (hd1.cell (p := ⟨w.heap.size, 1, none⟩) hl).trans q1, (hd1.cell (p := ⟨w.heap.size + 1, 0, none⟩) hl1).trans y0, (hd1.cell (p := ⟨w.heap.size + 1, 1, none⟩) hl1).trans y1, (hd1.cell (p := ⟨w.heap.size + 1, 2, none⟩) hl1).trans y2, (hd1.cell (p := ⟨w.heap.size + 1, 3, none⟩) hl1).trans y3, (hd1.cell (p := ⟨w.heap.size + 1, 4, none⟩) hl1).trans y4, (hd1.cell (p := ⟨w.heap.size + 1, 5, none⟩) hl1).trans y5, (hd1.cell (p := ⟨w.heap.size + 1, 6, none⟩) hl1).trans y6⟩ (fun _ => ?_)
    clear hK K
    (try simp only [List.getElem_toArray, List.getElem_cons_zero, List.getElem_cons_succ, Act.put, List.setIfInBounds_toArray, List.set_cons_zero, List.set_cons_succ])
    generalize hX1 : (wd.alloc (.cells #[.slice none 0 0, .slice none 0 0] 25)) = w2 at *
    clear hX1
    refine wpAnyH_ready (rs := [2, 7]) (by kernel_rfl) (by simp) ?_
    refine (AllReadyH.cons rfl (fun K hK => ?_) (AllReadyH.cons rfl (fun K hK => ?_) AllReadyH.nil))
    · simp only [List.getElem_toArray, List.getElem_cons_zero, List.getElem_cons_succ]
      go_simp
      have hd2 := hd1.alloc hd1.size (.cells #[] 40)
      have hq2 := (Below.heap_alloc _ (.cells #[] 40) _ (blk_lt hq1)).trans hq1
      have ho2 : (w2.alloc (.cells #[] 40)).ownsRow w1.heap.size 40 7 (.slice (some ⟨w2.heap.size, 0, none⟩) 0 0) ([] : List Con).length (conCells []) := World.ownsRow_lit (e := 40) (size := 7) w2 #[] 0 hd1.size (by simp [maxLen]) rfl
      refine hK.out _ _ ⟨(hd2.cell (p := ⟨w.heap.size, 0, none⟩) hl).trans q0, (hd2.cell (p := ⟨w.heap.size, 1, none⟩) hl).trans q1, (hd2.cell (p := ⟨w.heap.size + 1, 0, none⟩) hl1).trans y0, (hd2.cell (p := ⟨w.heap.size + 1, 1, none⟩) hl1).trans y1, (hd2.cell (p := ⟨w.heap.size + 1, 2, none⟩) hl1).trans y2, (hd2.cell (p := ⟨w.heap.size + 1, 3, none⟩) hl1).trans y3, (hd2.cell (p := ⟨w.heap.size + 1, 4, none⟩) hl1).trans y4, (hd2.cell (p := ⟨w.heap.size + 1, 5, none⟩) hl1).trans y5, (hd2.cell (p := ⟨w.heap.size + 1, 6, none⟩) hl1).trans y6⟩ (fun _ => ?_)
      clear hK K
      (try simp only [List.getElem_toArray, List.getElem_cons_zero, List.getElem_cons_succ, Act.put, List.setIfInBounds_toArray, List.set_cons_zero, List.set_cons_succ])
      generalize hX2 : (w2.alloc (.cells #[] 40)) = w3 at *
      clear hX2
      refine wpAnyH_ready (rs := [5, 7]) (by kernel_rfl) (by simp) ?_
      refine (AllReadyH.cons rfl (fun K hK => ?_) (AllReadyH.cons rfl (fun K hK => ?_) AllReadyH.nil))
      · simp only [List.getElem_toArray, List.getElem_cons_zero, List.getElem_cons_succ]
        rw [if_pos (by simp [Region.wanted])]
        refine wp_append_con (.tmp 14) (.tmp 16) rfl w3 w1.heap.size (.slice (some ⟨w2.heap.size, 0, none⟩) 0 0) [] cs (by kernel_rfl) ho2 A2 c2 (by kernel_rfl) (by have h := consAt_take (i := cs.length) hcW hd2 (Nat.le_refl _); rwa [List.take_length] at h) (by simp; omega) hd2.size ?_
        intro V3 w4 ho3 hg3 h53
        have hd3 : Below w1.heap.size w1 w4 := Below.grown hd2 hg3 hd2.size (fun j e => (ho2.lt j e).1)
        have hq3 := (hg3.block wd.heap.size (blk_lt hq2) (fun e => own_ne_kind ho2 hq2 (by decide) e.symm)).trans hq2
        rw [List.nil_append] at ho3
        obtain ⟨AV3, cV3, rfl⟩ := own_shape ho3
        clear h53 hg3
        refine hK.out _ _ ⟨(hd3.cell (p := ⟨w.heap.size, 0, none⟩) hl).trans q0, (hd3.cell (p := ⟨w.heap.size, 1, none⟩) hl).trans q1, (hd3.cell (p := ⟨w.heap.size + 1, 0, none⟩) hl1).trans y0, (hd3.cell (p := ⟨w.heap.size + 1, 1, none⟩) hl1).trans y1, (hd3.cell (p := ⟨w.heap.size + 1, 2, none⟩) hl1).trans y2, (hd3.cell (p := ⟨w.heap.size + 1, 3, none⟩) hl1).trans y3, (hd3.cell (p := ⟨w.heap.size + 1, 4, none⟩) hl1).trans y4, (hd3.cell (p := ⟨w.heap.size + 1, 5, none⟩) hl1).trans y5, (hd3.cell (p := ⟨w.heap.size + 1, 6, none⟩) hl1).trans y6⟩ (fun hHeld => ?_)
        clear hK K
        (try simp only [Act.put, List.setIfInBounds_toArray, List.set_cons_zero, List.set_cons_succ])
        refine wpAnyH_ready (rs := [7]) (by kernel_rfl) (by simp) ?_
        refine (AllReadyH.cons rfl (fun K hK => ?_) AllReadyH.nil)
        · simp only [List.getElem_toArray, List.getElem_cons_zero, List.getElem_cons_succ]
          go_simp
          have hd4 := hd3.alloc hd3.size (.cells #[.int .i64 c.a, .int .i64 c.b, .int .i64 c.s, .int .i64 c.e, .int .i64 c.r, .int .i64 c.g, .int .i64 c.l] 40)
          have ho4 := ho3.alloc (.cells #[.int .i64 c.a, .int .i64 c.b, .int .i64 c.s, .int .i64 c.e, .int .i64 c.r, .int .i64 c.g, .int .i64 c.l] 40)
          have hq4 := (Below.heap_alloc _ (.cells #[.int .i64 c.a, .int .i64 c.b, .int .i64 c.s, .int .i64 c.e, .int .i64 c.r, .int .i64 c.g, .int .i64 c.l] 40) _ (blk_lt hq3)).trans hq3
          have hn4 : (w4.alloc (.cells #[.int .i64 c.a, .int .i64 c.b, .int .i64 c.s, .int .i64 c.e, .int .i64 c.r, .int .i64 c.g, .int .i64 c.l] 40)).heap[w4.heap.size]? = some (.cells (conVals c).toArray 40 (0, 0)) := heap_last _ _ _ rfl
          have hne4 := own_ne_lt ho3 (g := w4.heap.size) (.inr (Nat.le_refl _))
          refine hK.out _ _ ⟨(hd4.cell (p := ⟨w.heap.size, 0, none⟩) hl).trans q0, (hd4.cell (p := ⟨w.heap.size, 1, none⟩) hl).trans q1, (hd4.cell (p := ⟨w.heap.size + 1, 0, none⟩) hl1).trans y0, (hd4.cell (p := ⟨w.heap.size + 1, 1, none⟩) hl1).trans y1, (hd4.cell (p := ⟨w.heap.size + 1, 2, none⟩) hl1).trans y2, (hd4.cell (p := ⟨w.heap.size + 1, 3, none⟩) hl1).trans y3, (hd4.cell (p := ⟨w.heap.size + 1, 4, none⟩) hl1).trans y4, (hd4.cell (p := ⟨w.heap.size + 1, 5, none⟩) hl1).trans y5, (hd4.cell (p := ⟨w.heap.size + 1, 6, none⟩) hl1).trans y6⟩ (fun _ => ?_)
          clear hK K
          (try simp only [List.getElem_toArray, List.getElem_cons_zero, List.getElem_cons_succ, Act.put, List.setIfInBounds_toArray, List.set_cons_zero, List.set_cons_succ])
          generalize hX4 : (w4.alloc (.cells #[.int .i64 c.a, .int .i64 c.b, .int .i64 c.s, .int .i64 c.e, .int .i64 c.r, .int .i64 c.g, .int .i64 c.l] 40)) = w5 at *
          clear hX4
          refine wpAnyH_ready (rs := [8]) (by kernel_rfl) (by simp) ?_
          refine (AllReadyH.cons rfl (fun K hK => ?_) AllReadyH.nil)
          · simp only [List.getElem_toArray, List.getElem_cons_zero, List.getElem_cons_succ]
            rw [if_pos (by simp [Region.wanted])]
            refine wp_append_con (.tmp 17) (.tmp 19) rfl w5 w1.heap.size (.slice AV3 cs.length cV3) cs [c] (by kernel_rfl) ho4 (some ⟨w4.heap.size, 0, none⟩) 1 (by kernel_rfl) (consAt_one hn4) (by simp; omega) hd4.size ?_
            intro V5 w6 ho5 hg5 h55
            have hd5 : Below w1.heap.size w1 w6 := Below.grown hd4 hg5 hd4.size (fun j e => (ho4.lt j e).1)
            have hn5 := (hg5.block w4.heap.size (blk_lt hn4) (fun e => hne4 e.symm)).trans hn4
            have hne5 : V5.ownBlock ≠ some w4.heap.size := fun e => by have h1 := blk_lt hn4; rcases h55 with h | h; exact hne4 (h.symm.trans e); rw [h] at e; injection e; omega
            have hq5 := (hg5.block wd.heap.size (blk_lt hq4) (fun e => own_ne_kind ho4 hq4 (by decide) e.symm)).trans hq4
            obtain ⟨AV5, cV5, rfl⟩ := own_shape ho5
            clear h55 hg5
            generalize hds : cs ++ [c] = ds at *
            have HDS := Lib.hid hds
            clear hds
            refine hK.out _ _ ⟨(hd5.cell (p := ⟨w.heap.size, 0, none⟩) hl).trans q0, (hd5.cell (p := ⟨w.heap.size, 1, none⟩) hl).trans q1, (hd5.cell (p := ⟨w.heap.size + 1, 0, none⟩) hl1).trans y0, (hd5.cell (p := ⟨w.heap.size + 1, 1, none⟩) hl1).trans y1, (hd5.cell (p := ⟨w.heap.size + 1, 2, none⟩) hl1).trans y2, (hd5.cell (p := ⟨w.heap.size + 1, 3, none⟩) hl1).trans y3, (hd5.cell (p := ⟨w.heap.size + 1, 4, none⟩) hl1).trans y4, (hd5.cell (p := ⟨w.heap.size + 1, 5, none⟩) hl1).trans y5, (hd5.cell (p := ⟨w.heap.size + 1, 6, none⟩) hl1).trans y6⟩ (fun hHeld => ?_)
            clear hK K
            (try simp only [Act.put, List.setIfInBounds_toArray, List.set_cons_zero, List.set_cons_succ])
            (refine wpAnyH_take (i := 9) (v := ?_) rfl (by kernel_rfl) (by kernel_rfl) (by kernel_rfl) (fun _ _ _ h => h) (Or.inl ⟨by kernel_rfl, fun w0 hSw => ?_⟩) hHeld ?_; rotate_left; (focus ((try dsimp only at hSw); simp only [List.getElem_toArray, List.getElem_cons_zero, List.getElem_cons_succ]; (first | (go_simp; done) | (go_simp; with_reducible rfl)))); (try simp only [List.getElem_toArray, List.getElem_cons_zero, List.getElem_cons_succ, Act.put, List.setIfInBounds_toArray, List.set_cons_zero, List.set_cons_succ]))
            refine wpAnyH_ready (rs := [11]) (by kernel_rfl) (by simp) ?_
            refine (AllReadyH.cons rfl (fun K hK => ?_) AllReadyH.nil)
            · simp only [List.getElem_toArray, List.getElem_cons_zero, List.getElem_cons_succ]
              have z0 := cell_blk hq5 0
              have z1 := cell_blk hq5 1
              have g0 := frozen_blk hq5 0
              have g1 := frozen_blk hq5 1
              simp only [List.getElem?_toArray, List.getElem?_cons_zero, List.getElem?_cons_succ] at z0 z1
              go_simp
              obtain ⟨⟨t0, t1⟩, hiP, hcP⟩ := put_plan hq5 ((hqW.below hd5).more hd5.size) (cons_of_own ho5)
              have hdP : Below w1.heap.size w1 ((w6.setCell ⟨wd.heap.size, 0, none⟩ (.slice A1 qs.length c1)).setCell ⟨wd.heap.size, 1, none⟩ (.slice AV5 ds.length cV5)) := below_two hd5 hqlo (.slice A1 qs.length c1) (.slice AV5 ds.length cV5)
              have ulP : wd.heap.size < ((w6.setCell ⟨wd.heap.size, 0, none⟩ (.slice A1 qs.length c1)).setCell ⟨wd.heap.size, 1, none⟩ (.slice AV5 ds.length cV5)).heap.size := by have h1 := blk_lt hq5; simpa using h1
              refine hK.out _ _ ⟨(hdP.cell (p := ⟨w.heap.size, 0, none⟩) hl).trans q0, (hdP.cell (p := ⟨w.heap.size, 1, none⟩) hl).trans q1, (hdP.cell (p := ⟨w.heap.size + 1, 0, none⟩) hl1).trans y0, (hdP.cell (p := ⟨w.heap.size + 1, 1, none⟩) hl1).trans y1, (hdP.cell (p := ⟨w.heap.size + 1, 2, none⟩) hl1).trans y2, (hdP.cell (p := ⟨w.heap.size + 1, 3, none⟩) hl1).trans y3, (hdP.cell (p := ⟨w.heap.size + 1, 4, none⟩) hl1).trans y4, (hdP.cell (p := ⟨w.heap.size + 1, 5, none⟩) hl1).trans y5, (hdP.cell (p := ⟨w.heap.size + 1, 6, none⟩) hl1).trans y6⟩ (fun hHeld => ?_)
              clear hK K
              (try simp only [List.getElem_toArray, List.getElem_cons_zero, List.getElem_cons_succ, Act.put, List.setIfInBounds_toArray, List.set_cons_zero, List.set_cons_succ])
              refine wpAnyH_done (by kernel_rfl) ?_ _
              clear z0 z1 g0 g1 hHeld hq5 ho5 hn5 hne5
              generalize ((w6.setCell ⟨wd.heap.size, 0, none⟩ (.slice A1 qs.length c1)).setCell ⟨wd.heap.size, 1, none⟩ (.slice AV5 ds.length cV5)) = w20 at *
              go_wp2_with fail
              refine (rpcheck_any _ _ qs ds _ hiP hcP).mono ?_
              by_cases hE2 : planE qs ds = 0
              · rw [hE2]
                have HR : Hid (withR qs cs c = (qs, ds, 0)) := by show _ = _; rw [withR, if_neg (by simp [HE.out]), HDS.out, if_neg (by simp [hE2])]
                clear hE2
                rintro e w21 ⟨rfl, hb21⟩
                have hd21 := hdP.trans (hb21.mono hdP.size)
                have hi21 := (hiP.below hb21).more hb21.size
                have hc21 := (hcP.below hb21).more hb21.size
                have s0 := (hb21.cell (p := ⟨wd.heap.size, 0, none⟩) ulP).trans t0
                have s1 := (hb21.cell (p := ⟨wd.heap.size, 1, none⟩) ulP).trans t1
                have hb4 := (hd21.block (w.heap.size + 1 + 1) (blk_lt hbk)).trans hbk
                have r0 := cell_blk hb4 0
                have r1 := cell_blk hb4 1
                have g0 := frozen_blk hb4 0
                have g1 := frozen_blk hb4 1
                simp only [List.getElem?_toArray, List.getElem?_cons_zero, List.getElem?_cons_succ] at r0 r1
                have hB21 := hB1.trans (hd21.mono hB1.size)
                clear t0 t1 hdP hiP hcP
                go_wp2_with fail
                obtain ⟨⟨u0, u1⟩, hiF, hcF⟩ := put_plan hb4 hi21 hc21
                have hB22 := below_two hB21 (show w.heap.size ≤ w.heap.size + 1 + 1 by omega) (.slice A1 qs.length c1) (.slice AV5 ds.length cV5)
                generalize ((w21.setCell ⟨w.heap.size + 1 + 1, 0, none⟩ (.slice A1 qs.length c1)).setCell ⟨w.heap.size + 1 + 1, 1, none⟩ (.slice AV5 ds.length cV5)) = w22 at *
                refine bodyPost_ret (v := .tuple #[.agg #[.slice A1 qs.length c1, .slice AV5 ds.length cV5], .int .i64 0]) (by simp [results, Tryd.results37, go_sem, u0, u1]) rfl ⟨_, _, by rw [HR.out], by rw [HR.out]; exact hiF, by rw [HR.out]; exact hcF, hB22⟩
              · have HR : Hid (withR qs cs c = ([], [], planE qs ds)) := by show _ = _; rw [withR, if_neg (by simp [HE.out]), HDS.out, if_pos hE2]
                have hEb : (planE qs ds != 0) = true := by simpa using hE2
                clear hE2
                rintro e w21 ⟨rfl, hb21⟩
                have hd21 := hdP.trans (hb21.mono hdP.size)
                have hi21 := (hiP.below hb21).more hb21.size
                have hc21 := (hcP.below hb21).more hb21.size
                have s0 := (hb21.cell (p := ⟨wd.heap.size, 0, none⟩) ulP).trans t0
                have s1 := (hb21.cell (p := ⟨wd.heap.size, 1, none⟩) ulP).trans t1
                have hb4 := (hd21.block (w.heap.size + 1 + 1) (blk_lt hbk)).trans hbk
                have r0 := cell_blk hb4 0
                have r1 := cell_blk hb4 1
                have g0 := frozen_blk hb4 0
                have g1 := frozen_blk hb4 1
                simp only [List.getElem?_toArray, List.getElem?_cons_zero, List.getElem?_cons_succ] at r0 r1
                have hB21 := hB1.trans (hd21.mono hB1.size)
                clear t0 t1 hdP hiP hcP
                go_wp2_with fail
                obtain ⟨u0, u1⟩ := two_cells r0 r1 (.slice none 0 0) (.slice none 0 0)
                have hB22 := below_two hB21 (show w.heap.size ≤ w.heap.size + 1 + 1 by omega) (.slice none 0 0) (.slice none 0 0)
                generalize ((w21.setCell ⟨w.heap.size + 1 + 1, 0, none⟩ (.slice none 0 0)).setCell ⟨w.heap.size + 1 + 1, 1, none⟩ (.slice none 0 0)) = w22 at *
                refine bodyPost_ret (v := .tuple #[.agg #[.slice none 0 0, .slice none 0 0], .int .i64 (planE qs ds)]) (by simp [results, Tryd.results37, go_sem, u0, u1]) rfl ⟨_, _, by rw [HR.out], by rw [HR.out]; exact ints_nil _ _, by rw [HR.out]; exact cons_nil _ _, hB22⟩
      · simp only [List.getElem_toArray, List.getElem_cons_zero, List.getElem_cons_succ]
        go_simp
        have hd3 := hd2.alloc hd2.size (.cells #[.int .i64 c.a, .int .i64 c.b, .int .i64 c.s, .int .i64 c.e, .int .i64 c.r, .int .i64 c.g, .int .i64 c.l] 40)
        have ho3 := ho2.alloc (.cells #[.int .i64 c.a, .int .i64 c.b, .int .i64 c.s, .int .i64 c.e, .int .i64 c.r, .int .i64 c.g, .int .i64 c.l] 40)
        have hq3 := (Below.heap_alloc _ (.cells #[.int .i64 c.a, .int .i64 c.b, .int .i64 c.s, .int .i64 c.e, .int .i64 c.r, .int .i64 c.g, .int .i64 c.l] 40) _ (blk_lt hq2)).trans hq2
        have hn3 : (w3.alloc (.cells #[.int .i64 c.a, .int .i64 c.b, .int .i64 c.s, .int .i64 c.e, .int .i64 c.r, .int .i64 c.g, .int .i64 c.l] 40)).heap[w3.heap.size]? = some (.cells (conVals c).toArray 40 (0, 0)) := heap_last _ _ _ rfl
        have hne3 := own_ne_lt ho2 (g := w3.heap.size) (.inr (Nat.le_refl _))
        refine hK.out _ _ ⟨(hd3.cell (p := ⟨w.heap.size, 0, none⟩) hl).trans q0, (hd3.cell (p := ⟨w.heap.size, 1, none⟩) hl).trans q1, (hd3.cell (p := ⟨w.heap.size + 1, 0, none⟩) hl1).trans y0, (hd3.cell (p := ⟨w.heap.size + 1, 1, none⟩) hl1).trans y1, (hd3.cell (p := ⟨w.heap.size + 1, 2, none⟩) hl1).trans y2, (hd3.cell (p := ⟨w.heap.size + 1, 3, none⟩) hl1).trans y3, (hd3.cell (p := ⟨w.heap.size + 1, 4, none⟩) hl1).trans y4, (hd3.cell (p := ⟨w.heap.size + 1, 5, none⟩) hl1).trans y5, (hd3.cell (p := ⟨w.heap.size + 1, 6, none⟩) hl1).trans y6⟩ (fun _ => ?_)
        clear hK K
        (try simp only [List.getElem_toArray, List.getElem_cons_zero, List.getElem_cons_succ, Act.put, List.setIfInBounds_toArray, List.set_cons_zero, List.set_cons_succ])
        generalize hX3 : (w3.alloc (.cells #[.int .i64 c.a, .int .i64 c.b, .int .i64 c.s, .int .i64 c.e, .int .i64 c.r, .int .i64 c.g, .int .i64 c.l] 40)) = w4 at *
        clear hX3
        refine wpAnyH_ready (rs := [5]) (by kernel_rfl) (by simp) ?_
        refine (AllReadyH.cons rfl (fun K hK => ?_) AllReadyH.nil)
        · simp only [List.getElem_toArray, List.getElem_cons_zero, List.getElem_cons_succ]
          rw [if_pos (by simp [Region.wanted])]
          refine wp_append_con (.tmp 14) (.tmp 16) rfl w4 w1.heap.size (.slice (some ⟨w2.heap.size, 0, none⟩) 0 0) [] cs (by kernel_rfl) ho3 A2 c2 (by kernel_rfl) (by have h := consAt_take (i := cs.length) hcW hd3 (Nat.le_refl _); rwa [List.take_length] at h) (by simp; omega) hd3.size ?_
          intro V4 w5 ho4 hg4 h54
          have hd4 : Below w1.heap.size w1 w5 := Below.grown hd3 hg4 hd3.size (fun j e => (ho3.lt j e).1)
          have hn4 := (hg4.block w3.heap.size (blk_lt hn3) (fun e => hne3 e.symm)).trans hn3
          have hne4 : V4.ownBlock ≠ some w3.heap.size := fun e => by have h1 := blk_lt hn3; rcases h54 with h | h; exact hne3 (h.symm.trans e); rw [h] at e; injection e; omega
          have hq4 := (hg4.block wd.heap.size (blk_lt hq3) (fun e => own_ne_kind ho3 hq3 (by decide) e.symm)).trans hq3
          rw [List.nil_append] at ho4
          obtain ⟨AV4, cV4, rfl⟩ := own_shape ho4
          clear h54 hg4
          refine hK.out _ _ ⟨(hd4.cell (p := ⟨w.heap.size, 0, none⟩) hl).trans q0, (hd4.cell (p := ⟨w.heap.size, 1, none⟩) hl).trans q1, (hd4.cell (p := ⟨w.heap.size + 1, 0, none⟩) hl1).trans y0, (hd4.cell (p := ⟨w.heap.size + 1, 1, none⟩) hl1).trans y1, (hd4.cell (p := ⟨w.heap.size + 1, 2, none⟩) hl1).trans y2, (hd4.cell (p := ⟨w.heap.size + 1, 3, none⟩) hl1).trans y3, (hd4.cell (p := ⟨w.heap.size + 1, 4, none⟩) hl1).trans y4, (hd4.cell (p := ⟨w.heap.size + 1, 5, none⟩) hl1).trans y5, (hd4.cell (p := ⟨w.heap.size + 1, 6, none⟩) hl1).trans y6⟩ (fun hHeld => ?_)
          clear hK K
          (try simp only [Act.put, List.setIfInBounds_toArray, List.set_cons_zero, List.set_cons_succ])
          refine wpAnyH_ready (rs := [8]) (by kernel_rfl) (by simp) ?_
          refine (AllReadyH.cons rfl (fun K hK => ?_) AllReadyH.nil)
          · simp only [List.getElem_toArray, List.getElem_cons_zero, List.getElem_cons_succ]
            rw [if_pos (by simp [Region.wanted])]
            refine wp_append_con (.tmp 17) (.tmp 19) rfl w5 w1.heap.size (.slice AV4 cs.length cV4) cs [c] (by kernel_rfl) ho4 (some ⟨w3.heap.size, 0, none⟩) 1 (by kernel_rfl) (consAt_one hn4) (by simp; omega) hd4.size ?_
            intro V5 w6 ho5 hg5 h55
            have hd5 : Below w1.heap.size w1 w6 := Below.grown hd4 hg5 hd4.size (fun j e => (ho4.lt j e).1)
            have hn5 := (hg5.block w3.heap.size (blk_lt hn4) (fun e => hne4 e.symm)).trans hn4
            have hne5 : V5.ownBlock ≠ some w3.heap.size := fun e => by have h1 := blk_lt hn4; rcases h55 with h | h; exact hne4 (h.symm.trans e); rw [h] at e; injection e; omega
            have hq5 := (hg5.block wd.heap.size (blk_lt hq4) (fun e => own_ne_kind ho4 hq4 (by decide) e.symm)).trans hq4
            obtain ⟨AV5, cV5, rfl⟩ := own_shape ho5
            clear h55 hg5
            generalize hds : cs ++ [c] = ds at *
            have HDS := Lib.hid hds
            clear hds
            refine hK.out _ _ ⟨(hd5.cell (p := ⟨w.heap.size, 0, none⟩) hl).trans q0, (hd5.cell (p := ⟨w.heap.size, 1, none⟩) hl).trans q1, (hd5.cell (p := ⟨w.heap.size + 1, 0, none⟩) hl1).trans y0, (hd5.cell (p := ⟨w.heap.size + 1, 1, none⟩) hl1).trans y1, (hd5.cell (p := ⟨w.heap.size + 1, 2, none⟩) hl1).trans y2, (hd5.cell (p := ⟨w.heap.size + 1, 3, none⟩) hl1).trans y3, (hd5.cell (p := ⟨w.heap.size + 1, 4, none⟩) hl1).trans y4, (hd5.cell (p := ⟨w.heap.size + 1, 5, none⟩) hl1).trans y5, (hd5.cell (p := ⟨w.heap.size + 1, 6, none⟩) hl1).trans y6⟩ (fun hHeld => ?_)
            clear hK K
            (try simp only [Act.put, List.setIfInBounds_toArray, List.set_cons_zero, List.set_cons_succ])
            (refine wpAnyH_take (i := 9) (v := ?_) rfl (by kernel_rfl) (by kernel_rfl) (by kernel_rfl) (fun _ _ _ h => h) (Or.inl ⟨by kernel_rfl, fun w0 hSw => ?_⟩) hHeld ?_; rotate_left; (focus ((try dsimp only at hSw); simp only [List.getElem_toArray, List.getElem_cons_zero, List.getElem_cons_succ]; (first | (go_simp; done) | (go_simp; with_reducible rfl)))); (try simp only [List.getElem_toArray, List.getElem_cons_zero, List.getElem_cons_succ, Act.put, List.setIfInBounds_toArray, List.set_cons_zero, List.set_cons_succ]))
            refine wpAnyH_ready (rs := [11]) (by kernel_rfl) (by simp) ?_
            refine (AllReadyH.cons rfl (fun K hK => ?_) AllReadyH.nil)
            · simp only [List.getElem_toArray, List.getElem_cons_zero, List.getElem_cons_succ]
              have z0 := cell_blk hq5 0
              have z1 := cell_blk hq5 1
              have g0 := frozen_blk hq5 0
              have g1 := frozen_blk hq5 1
              simp only [List.getElem?_toArray, List.getElem?_cons_zero, List.getElem?_cons_succ] at z0 z1
              go_simp
              obtain ⟨⟨t0, t1⟩, hiP, hcP⟩ := put_plan hq5 ((hqW.below hd5).more hd5.size) (cons_of_own ho5)
              have hdP : Below w1.heap.size w1 ((w6.setCell ⟨wd.heap.size, 0, none⟩ (.slice A1 qs.length c1)).setCell ⟨wd.heap.size, 1, none⟩ (.slice AV5 ds.length cV5)) := below_two hd5 hqlo (.slice A1 qs.length c1) (.slice AV5 ds.length cV5)
              have ulP : wd.heap.size < ((w6.setCell ⟨wd.heap.size, 0, none⟩ (.slice A1 qs.length c1)).setCell ⟨wd.heap.size, 1, none⟩ (.slice AV5 ds.length cV5)).heap.size := by have h1 := blk_lt hq5; simpa using h1
              refine hK.out _ _ ⟨(hdP.cell (p := ⟨w.heap.size, 0, none⟩) hl).trans q0, (hdP.cell (p := ⟨w.heap.size, 1, none⟩) hl).trans q1, (hdP.cell (p := ⟨w.heap.size + 1, 0, none⟩) hl1).trans y0, (hdP.cell (p := ⟨w.heap.size + 1, 1, none⟩) hl1).trans y1, (hdP.cell (p := ⟨w.heap.size + 1, 2, none⟩) hl1).trans y2, (hdP.cell (p := ⟨w.heap.size + 1, 3, none⟩) hl1).trans y3, (hdP.cell (p := ⟨w.heap.size + 1, 4, none⟩) hl1).trans y4, (hdP.cell (p := ⟨w.heap.size + 1, 5, none⟩) hl1).trans y5, (hdP.cell (p := ⟨w.heap.size + 1, 6, none⟩) hl1).trans y6⟩ (fun hHeld => ?_)
              clear hK K
              (try simp only [List.getElem_toArray, List.getElem_cons_zero, List.getElem_cons_succ, Act.put, List.setIfInBounds_toArray, List.set_cons_zero, List.set_cons_succ])
              refine wpAnyH_done (by kernel_rfl) ?_ _
              clear z0 z1 g0 g1 hHeld hq5 ho5 hn5 hne5
              generalize ((w6.setCell ⟨wd.heap.size, 0, none⟩ (.slice A1 qs.length c1)).setCell ⟨wd.heap.size, 1, none⟩ (.slice AV5 ds.length cV5)) = w20 at *
              go_wp2_with fail
              refine (rpcheck_any _ _ qs ds _ hiP hcP).mono ?_
              by_cases hE2 : planE qs ds = 0
              · rw [hE2]
                have HR : Hid (withR qs cs c = (qs, ds, 0)) := by show _ = _; rw [withR, if_neg (by simp [HE.out]), HDS.out, if_neg (by simp [hE2])]
                clear hE2
                rintro e w21 ⟨rfl, hb21⟩
                have hd21 := hdP.trans (hb21.mono hdP.size)
                have hi21 := (hiP.below hb21).more hb21.size
                have hc21 := (hcP.below hb21).more hb21.size
                have s0 := (hb21.cell (p := ⟨wd.heap.size, 0, none⟩) ulP).trans t0
                have s1 := (hb21.cell (p := ⟨wd.heap.size, 1, none⟩) ulP).trans t1
                have hb4 := (hd21.block (w.heap.size + 1 + 1) (blk_lt hbk)).trans hbk
                have r0 := cell_blk hb4 0
                have r1 := cell_blk hb4 1
                have g0 := frozen_blk hb4 0
                have g1 := frozen_blk hb4 1
                simp only [List.getElem?_toArray, List.getElem?_cons_zero, List.getElem?_cons_succ] at r0 r1
                have hB21 := hB1.trans (hd21.mono hB1.size)
                clear t0 t1 hdP hiP hcP
                go_wp2_with fail
                obtain ⟨⟨u0, u1⟩, hiF, hcF⟩ := put_plan hb4 hi21 hc21
                have hB22 := below_two hB21 (show w.heap.size ≤ w.heap.size + 1 + 1 by omega) (.slice A1 qs.length c1) (.slice AV5 ds.length cV5)
                generalize ((w21.setCell ⟨w.heap.size + 1 + 1, 0, none⟩ (.slice A1 qs.length c1)).setCell ⟨w.heap.size + 1 + 1, 1, none⟩ (.slice AV5 ds.length cV5)) = w22 at *
                refine bodyPost_ret (v := .tuple #[.agg #[.slice A1 qs.length c1, .slice AV5 ds.length cV5], .int .i64 0]) (by simp [results, Tryd.results37, go_sem, u0, u1]) rfl ⟨_, _, by rw [HR.out], by rw [HR.out]; exact hiF, by rw [HR.out]; exact hcF, hB22⟩
              · have HR : Hid (withR qs cs c = ([], [], planE qs ds)) := by show _ = _; rw [withR, if_neg (by simp [HE.out]), HDS.out, if_pos hE2]
                have hEb : (planE qs ds != 0) = true := by simpa using hE2
                clear hE2
                rintro e w21 ⟨rfl, hb21⟩
                have hd21 := hdP.trans (hb21.mono hdP.size)
                have hi21 := (hiP.below hb21).more hb21.size
                have hc21 := (hcP.below hb21).more hb21.size
                have s0 := (hb21.cell (p := ⟨wd.heap.size, 0, none⟩) ulP).trans t0
                have s1 := (hb21.cell (p := ⟨wd.heap.size, 1, none⟩) ulP).trans t1
                have hb4 := (hd21.block (w.heap.size + 1 + 1) (blk_lt hbk)).trans hbk
                have r0 := cell_blk hb4 0
                have r1 := cell_blk hb4 1
                have g0 := frozen_blk hb4 0
                have g1 := frozen_blk hb4 1
                simp only [List.getElem?_toArray, List.getElem?_cons_zero, List.getElem?_cons_succ] at r0 r1
                have hB21 := hB1.trans (hd21.mono hB1.size)
                clear t0 t1 hdP hiP hcP
                go_wp2_with fail
                obtain ⟨u0, u1⟩ := two_cells r0 r1 (.slice none 0 0) (.slice none 0 0)
                have hB22 := below_two hB21 (show w.heap.size ≤ w.heap.size + 1 + 1 by omega) (.slice none 0 0) (.slice none 0 0)
                generalize ((w21.setCell ⟨w.heap.size + 1 + 1, 0, none⟩ (.slice none 0 0)).setCell ⟨w.heap.size + 1 + 1, 1, none⟩ (.slice none 0 0)) = w22 at *
                refine bodyPost_ret (v := .tuple #[.agg #[.slice none 0 0, .slice none 0 0], .int .i64 (planE qs ds)]) (by simp [results, Tryd.results37, go_sem, u0, u1]) rfl ⟨_, _, by rw [HR.out], by rw [HR.out]; exact ints_nil _ _, by rw [HR.out]; exact cons_nil _ _, hB22⟩
    · simp only [List.getElem_toArray, List.getElem_cons_zero, List.getElem_cons_succ]
      go_simp
      have hd2 := hd1.alloc hd1.size (.cells #[.int .i64 c.a, .int .i64 c.b, .int .i64 c.s, .int .i64 c.e, .int .i64 c.r, .int .i64 c.g, .int .i64 c.l] 40)
      have hq2 := (Below.heap_alloc _ (.cells #[.int .i64 c.a, .int .i64 c.b, .int .i64 c.s, .int .i64 c.e, .int .i64 c.r, .int .i64 c.g, .int .i64 c.l] 40) _ (blk_lt hq1)).trans hq1
      have hn2 : (w2.alloc (.cells #[.int .i64 c.a, .int .i64 c.b, .int .i64 c.s, .int .i64 c.e, .int .i64 c.r, .int .i64 c.g, .int .i64 c.l] 40)).heap[w2.heap.size]? = some (.cells (conVals c).toArray 40 (0, 0)) := heap_last _ _ _ rfl
      refine hK.out _ _ ⟨(hd2.cell (p := ⟨w.heap.size, 0, none⟩) hl).trans q0, (hd2.cell (p := ⟨w.heap.size, 1, none⟩) hl).trans q1, (hd2.cell (p := ⟨w.heap.size + 1, 0, none⟩) hl1).trans y0, (hd2.cell (p := ⟨w.heap.size + 1, 1, none⟩) hl1).trans y1, (hd2.cell (p := ⟨w.heap.size + 1, 2, none⟩) hl1).trans y2, (hd2.cell (p := ⟨w.heap.size + 1, 3, none⟩) hl1).trans y3, (hd2.cell (p := ⟨w.heap.size + 1, 4, none⟩) hl1).trans y4, (hd2.cell (p := ⟨w.heap.size + 1, 5, none⟩) hl1).trans y5, (hd2.cell (p := ⟨w.heap.size + 1, 6, none⟩) hl1).trans y6⟩ (fun _ => ?_)
      clear hK K
      (try simp only [List.getElem_toArray, List.getElem_cons_zero, List.getElem_cons_succ, Act.put, List.setIfInBounds_toArray, List.set_cons_zero, List.set_cons_succ])
      generalize hX2 : (w2.alloc (.cells #[.int .i64 c.a, .int .i64 c.b, .int .i64 c.s, .int .i64 c.e, .int .i64 c.r, .int .i64 c.g, .int .i64 c.l] 40)) = w3 at *
      clear hX2
      refine wpAnyH_ready (rs := [2]) (by kernel_rfl) (by simp) ?_
      refine (AllReadyH.cons rfl (fun K hK => ?_) AllReadyH.nil)
      · simp only [List.getElem_toArray, List.getElem_cons_zero, List.getElem_cons_succ]
        go_simp
        have hd3 := hd2.alloc hd2.size (.cells #[] 40)
        have hn3 := (Below.heap_alloc _ (.cells #[] 40) _ (blk_lt hn2)).trans hn2
        have hq3 := (Below.heap_alloc _ (.cells #[] 40) _ (blk_lt hq2)).trans hq2
        have ho3 : (w3.alloc (.cells #[] 40)).ownsRow w1.heap.size 40 7 (.slice (some ⟨w3.heap.size, 0, none⟩) 0 0) ([] : List Con).length (conCells []) := World.ownsRow_lit (e := 40) (size := 7) w3 #[] 0 hd2.size (by simp [maxLen]) rfl
        have hne3 : (Value.slice (some ⟨w3.heap.size, 0, none⟩) 0 0).ownBlock ≠ some w2.heap.size := fun e => by have h1 := blk_lt hn2; have h2 : w3.heap.size = w2.heap.size := (by simpa [Value.ownBlock] using e); omega
        refine hK.out _ _ ⟨(hd3.cell (p := ⟨w.heap.size, 0, none⟩) hl).trans q0, (hd3.cell (p := ⟨w.heap.size, 1, none⟩) hl).trans q1, (hd3.cell (p := ⟨w.heap.size + 1, 0, none⟩) hl1).trans y0, (hd3.cell (p := ⟨w.heap.size + 1, 1, none⟩) hl1).trans y1, (hd3.cell (p := ⟨w.heap.size + 1, 2, none⟩) hl1).trans y2, (hd3.cell (p := ⟨w.heap.size + 1, 3, none⟩) hl1).trans y3, (hd3.cell (p := ⟨w.heap.size + 1, 4, none⟩) hl1).trans y4, (hd3.cell (p := ⟨w.heap.size + 1, 5, none⟩) hl1).trans y5, (hd3.cell (p := ⟨w.heap.size + 1, 6, none⟩) hl1).trans y6⟩ (fun _ => ?_)
        clear hK K
        (try simp only [List.getElem_toArray, List.getElem_cons_zero, List.getElem_cons_succ, Act.put, List.setIfInBounds_toArray, List.set_cons_zero, List.set_cons_succ])
        generalize hX3 : (w3.alloc (.cells #[] 40)) = w4 at *
        clear hX3
        refine wpAnyH_ready (rs := [5]) (by kernel_rfl) (by simp) ?_
        refine (AllReadyH.cons rfl (fun K hK => ?_) AllReadyH.nil)
        · simp only [List.getElem_toArray, List.getElem_cons_zero, List.getElem_cons_succ]
          rw [if_pos (by simp [Region.wanted])]
          refine wp_append_con (.tmp 14) (.tmp 16) rfl w4 w1.heap.size (.slice (some ⟨w3.heap.size, 0, none⟩) 0 0) [] cs (by kernel_rfl) ho3 A2 c2 (by kernel_rfl) (by have h := consAt_take (i := cs.length) hcW hd3 (Nat.le_refl _); rwa [List.take_length] at h) (by simp; omega) hd3.size ?_
          intro V4 w5 ho4 hg4 h54
          have hd4 : Below w1.heap.size w1 w5 := Below.grown hd3 hg4 hd3.size (fun j e => (ho3.lt j e).1)
          have hn4 := (hg4.block w2.heap.size (blk_lt hn3) (fun e => hne3 e.symm)).trans hn3
          have hne4 : V4.ownBlock ≠ some w2.heap.size := fun e => by have h1 := blk_lt hn3; rcases h54 with h | h; exact hne3 (h.symm.trans e); rw [h] at e; injection e; omega
          have hq4 := (hg4.block wd.heap.size (blk_lt hq3) (fun e => own_ne_kind ho3 hq3 (by decide) e.symm)).trans hq3
          rw [List.nil_append] at ho4
          obtain ⟨AV4, cV4, rfl⟩ := own_shape ho4
          clear h54 hg4
          refine hK.out _ _ ⟨(hd4.cell (p := ⟨w.heap.size, 0, none⟩) hl).trans q0, (hd4.cell (p := ⟨w.heap.size, 1, none⟩) hl).trans q1, (hd4.cell (p := ⟨w.heap.size + 1, 0, none⟩) hl1).trans y0, (hd4.cell (p := ⟨w.heap.size + 1, 1, none⟩) hl1).trans y1, (hd4.cell (p := ⟨w.heap.size + 1, 2, none⟩) hl1).trans y2, (hd4.cell (p := ⟨w.heap.size + 1, 3, none⟩) hl1).trans y3, (hd4.cell (p := ⟨w.heap.size + 1, 4, none⟩) hl1).trans y4, (hd4.cell (p := ⟨w.heap.size + 1, 5, none⟩) hl1).trans y5, (hd4.cell (p := ⟨w.heap.size + 1, 6, none⟩) hl1).trans y6⟩ (fun hHeld => ?_)
          clear hK K
          (try simp only [Act.put, List.setIfInBounds_toArray, List.set_cons_zero, List.set_cons_succ])
          refine wpAnyH_ready (rs := [8]) (by kernel_rfl) (by simp) ?_
          refine (AllReadyH.cons rfl (fun K hK => ?_) AllReadyH.nil)
          · simp only [List.getElem_toArray, List.getElem_cons_zero, List.getElem_cons_succ]
            rw [if_pos (by simp [Region.wanted])]
            refine wp_append_con (.tmp 17) (.tmp 19) rfl w5 w1.heap.size (.slice AV4 cs.length cV4) cs [c] (by kernel_rfl) ho4 (some ⟨w2.heap.size, 0, none⟩) 1 (by kernel_rfl) (consAt_one hn4) (by simp; omega) hd4.size ?_
            intro V5 w6 ho5 hg5 h55
            have hd5 : Below w1.heap.size w1 w6 := Below.grown hd4 hg5 hd4.size (fun j e => (ho4.lt j e).1)
            have hn5 := (hg5.block w2.heap.size (blk_lt hn4) (fun e => hne4 e.symm)).trans hn4
            have hne5 : V5.ownBlock ≠ some w2.heap.size := fun e => by have h1 := blk_lt hn4; rcases h55 with h | h; exact hne4 (h.symm.trans e); rw [h] at e; injection e; omega
            have hq5 := (hg5.block wd.heap.size (blk_lt hq4) (fun e => own_ne_kind ho4 hq4 (by decide) e.symm)).trans hq4
            obtain ⟨AV5, cV5, rfl⟩ := own_shape ho5
            clear h55 hg5
            generalize hds : cs ++ [c] = ds at *
            have HDS := Lib.hid hds
            clear hds
            refine hK.out _ _ ⟨(hd5.cell (p := ⟨w.heap.size, 0, none⟩) hl).trans q0, (hd5.cell (p := ⟨w.heap.size, 1, none⟩) hl).trans q1, (hd5.cell (p := ⟨w.heap.size + 1, 0, none⟩) hl1).trans y0, (hd5.cell (p := ⟨w.heap.size + 1, 1, none⟩) hl1).trans y1, (hd5.cell (p := ⟨w.heap.size + 1, 2, none⟩) hl1).trans y2, (hd5.cell (p := ⟨w.heap.size + 1, 3, none⟩) hl1).trans y3, (hd5.cell (p := ⟨w.heap.size + 1, 4, none⟩) hl1).trans y4, (hd5.cell (p := ⟨w.heap.size + 1, 5, none⟩) hl1).trans y5, (hd5.cell (p := ⟨w.heap.size + 1, 6, none⟩) hl1).trans y6⟩ (fun hHeld => ?_)
            clear hK K
            (try simp only [Act.put, List.setIfInBounds_toArray, List.set_cons_zero, List.set_cons_succ])
            (refine wpAnyH_take (i := 9) (v := ?_) rfl (by kernel_rfl) (by kernel_rfl) (by kernel_rfl) (fun _ _ _ h => h) (Or.inl ⟨by kernel_rfl, fun w0 hSw => ?_⟩) hHeld ?_; rotate_left; (focus ((try dsimp only at hSw); simp only [List.getElem_toArray, List.getElem_cons_zero, List.getElem_cons_succ]; (first | (go_simp; done) | (go_simp; with_reducible rfl)))); (try simp only [List.getElem_toArray, List.getElem_cons_zero, List.getElem_cons_succ, Act.put, List.setIfInBounds_toArray, List.set_cons_zero, List.set_cons_succ]))
            refine wpAnyH_ready (rs := [11]) (by kernel_rfl) (by simp) ?_
            refine (AllReadyH.cons rfl (fun K hK => ?_) AllReadyH.nil)
            · simp only [List.getElem_toArray, List.getElem_cons_zero, List.getElem_cons_succ]
              have z0 := cell_blk hq5 0
              have z1 := cell_blk hq5 1
              have g0 := frozen_blk hq5 0
              have g1 := frozen_blk hq5 1
              simp only [List.getElem?_toArray, List.getElem?_cons_zero, List.getElem?_cons_succ] at z0 z1
              go_simp
              obtain ⟨⟨t0, t1⟩, hiP, hcP⟩ := put_plan hq5 ((hqW.below hd5).more hd5.size) (cons_of_own ho5)
              have hdP : Below w1.heap.size w1 ((w6.setCell ⟨wd.heap.size, 0, none⟩ (.slice A1 qs.length c1)).setCell ⟨wd.heap.size, 1, none⟩ (.slice AV5 ds.length cV5)) := below_two hd5 hqlo (.slice A1 qs.length c1) (.slice AV5 ds.length cV5)
              have ulP : wd.heap.size < ((w6.setCell ⟨wd.heap.size, 0, none⟩ (.slice A1 qs.length c1)).setCell ⟨wd.heap.size, 1, none⟩ (.slice AV5 ds.length cV5)).heap.size := by have h1 := blk_lt hq5; simpa using h1
              refine hK.out _ _ ⟨(hdP.cell (p := ⟨w.heap.size, 0, none⟩) hl).trans q0, (hdP.cell (p := ⟨w.heap.size, 1, none⟩) hl).trans q1, (hdP.cell (p := ⟨w.heap.size + 1, 0, none⟩) hl1).trans y0, (hdP.cell (p := ⟨w.heap.size + 1, 1, none⟩) hl1).trans y1, (hdP.cell (p := ⟨w.heap.size + 1, 2, none⟩) hl1).trans y2, (hdP.cell (p := ⟨w.heap.size + 1, 3, none⟩) hl1).trans y3, (hdP.cell (p := ⟨w.heap.size + 1, 4, none⟩) hl1).trans y4, (hdP.cell (p := ⟨w.heap.size + 1, 5, none⟩) hl1).trans y5, (hdP.cell (p := ⟨w.heap.size + 1, 6, none⟩) hl1).trans y6⟩ (fun hHeld => ?_)
              clear hK K
              (try simp only [List.getElem_toArray, List.getElem_cons_zero, List.getElem_cons_succ, Act.put, List.setIfInBounds_toArray, List.set_cons_zero, List.set_cons_succ])
              refine wpAnyH_done (by kernel_rfl) ?_ _
              clear z0 z1 g0 g1 hHeld hq5 ho5 hn5 hne5
              generalize ((w6.setCell ⟨wd.heap.size, 0, none⟩ (.slice A1 qs.length c1)).setCell ⟨wd.heap.size, 1, none⟩ (.slice AV5 ds.length cV5)) = w20 at *
              go_wp2_with fail
              refine (rpcheck_any _ _ qs ds _ hiP hcP).mono ?_
              by_cases hE2 : planE qs ds = 0
              · rw [hE2]
                have HR : Hid (withR qs cs c = (qs, ds, 0)) := by show _ = _; rw [withR, if_neg (by simp [HE.out]), HDS.out, if_neg (by simp [hE2])]
                clear hE2
                rintro e w21 ⟨rfl, hb21⟩
                have hd21 := hdP.trans (hb21.mono hdP.size)
                have hi21 := (hiP.below hb21).more hb21.size
                have hc21 := (hcP.below hb21).more hb21.size
                have s0 := (hb21.cell (p := ⟨wd.heap.size, 0, none⟩) ulP).trans t0
                have s1 := (hb21.cell (p := ⟨wd.heap.size, 1, none⟩) ulP).trans t1
                have hb4 := (hd21.block (w.heap.size + 1 + 1) (blk_lt hbk)).trans hbk
                have r0 := cell_blk hb4 0
                have r1 := cell_blk hb4 1
                have g0 := frozen_blk hb4 0
                have g1 := frozen_blk hb4 1
                simp only [List.getElem?_toArray, List.getElem?_cons_zero, List.getElem?_cons_succ] at r0 r1
                have hB21 := hB1.trans (hd21.mono hB1.size)
                clear t0 t1 hdP hiP hcP
                go_wp2_with fail
                obtain ⟨⟨u0, u1⟩, hiF, hcF⟩ := put_plan hb4 hi21 hc21
                have hB22 := below_two hB21 (show w.heap.size ≤ w.heap.size + 1 + 1 by omega) (.slice A1 qs.length c1) (.slice AV5 ds.length cV5)
                generalize ((w21.setCell ⟨w.heap.size + 1 + 1, 0, none⟩ (.slice A1 qs.length c1)).setCell ⟨w.heap.size + 1 + 1, 1, none⟩ (.slice AV5 ds.length cV5)) = w22 at *
                refine bodyPost_ret (v := .tuple #[.agg #[.slice A1 qs.length c1, .slice AV5 ds.length cV5], .int .i64 0]) (by simp [results, Tryd.results37, go_sem, u0, u1]) rfl ⟨_, _, by rw [HR.out], by rw [HR.out]; exact hiF, by rw [HR.out]; exact hcF, hB22⟩
              · have HR : Hid (withR qs cs c = ([], [], planE qs ds)) := by show _ = _; rw [withR, if_neg (by simp [HE.out]), HDS.out, if_pos hE2]
                have hEb : (planE qs ds != 0) = true := by simpa using hE2
                clear hE2
                rintro e w21 ⟨rfl, hb21⟩
                have hd21 := hdP.trans (hb21.mono hdP.size)
                have hi21 := (hiP.below hb21).more hb21.size
                have hc21 := (hcP.below hb21).more hb21.size
                have s0 := (hb21.cell (p := ⟨wd.heap.size, 0, none⟩) ulP).trans t0
                have s1 := (hb21.cell (p := ⟨wd.heap.size, 1, none⟩) ulP).trans t1
                have hb4 := (hd21.block (w.heap.size + 1 + 1) (blk_lt hbk)).trans hbk
                have r0 := cell_blk hb4 0
                have r1 := cell_blk hb4 1
                have g0 := frozen_blk hb4 0
                have g1 := frozen_blk hb4 1
                simp only [List.getElem?_toArray, List.getElem?_cons_zero, List.getElem?_cons_succ] at r0 r1
                have hB21 := hB1.trans (hd21.mono hB1.size)
                clear t0 t1 hdP hiP hcP
                go_wp2_with fail
                obtain ⟨u0, u1⟩ := two_cells r0 r1 (.slice none 0 0) (.slice none 0 0)
                have hB22 := below_two hB21 (show w.heap.size ≤ w.heap.size + 1 + 1 by omega) (.slice none 0 0) (.slice none 0 0)
                generalize ((w21.setCell ⟨w.heap.size + 1 + 1, 0, none⟩ (.slice none 0 0)).setCell ⟨w.heap.size + 1 + 1, 1, none⟩ (.slice none 0 0)) = w22 at *
                refine bodyPost_ret (v := .tuple #[.agg #[.slice none 0 0, .slice none 0 0], .int .i64 (planE qs ds)]) (by simp [results, Tryd.results37, go_sem, u0, u1]) rfl ⟨_, _, by rw [HR.out], by rw [HR.out]; exact ints_nil _ _, by rw [HR.out]; exact cons_nil _ _, hB22⟩
set_option maxHeartbeats 4000000 in
theorem rwith_bad (qv cv : Value) (qs : List Int) (cs : List Con) (c : Con) (w : World) (hq : Ints w w.heap.size qv qs) (hc : Cons w w.heap.size cv cs) (hE : planE qs cs ≠ 0) : Calls Tryd.prog 37 #[.agg #[qv, cv], .agg #[.int .i64 c.a, .int .i64 c.b, .int .i64 c.s, .int .i64 c.e, .int .i64 c.r, .int .i64 c.g, .int .i64 c.l]] w (PlanPost (withR qs cs c) w) := by
  have HR : Hid (withR qs cs c = ([], [], 1)) := by show _ = _; rw [withR, if_pos hE]
  have hEb : (planE qs cs != 0) = true := by simpa using hE
  clear hE
  have hq0 := hq
  have hc0 := hc
  obtain ⟨A1, c1, rfl, hc1, hm1, _⟩ := hq
  obtain ⟨A2, c2, rfl, hc2, hm2, hA2⟩ := hc
  clear hA2
  go_enter Tryd.func37, Tryd.ntmps37
  go_wp2_with fail
  refine (rpcheck_any _ _ qs cs _ ((hq0.below (by (repeat' (first | (with_reducible exact Below.refl _ _) | (with_reducible refine Below.alloc ?_ ?_ _) | (with_reducible refine Below.drew ?_) | (with_reducible refine below_drewN ?_ _) | (with_reducible refine Below.setCell ?_ ?_ _) | (with_reducible refine Below.trans ?_ (Below.mono (by assumption) ?_)) | (with_reducible exact Nat.le_refl _) | omega | (simp; omega) | (simp; done))))).more (by (first | omega | (simp; done) | (simp; omega)))) ((hc0.below (by (repeat' (first | (with_reducible exact Below.refl _ _) | (with_reducible refine Below.alloc ?_ ?_ _) | (with_reducible refine Below.drew ?_) | (with_reducible refine below_drewN ?_ _) | (with_reducible refine Below.setCell ?_ ?_ _) | (with_reducible refine Below.trans ?_ (Below.mono (by assumption) ?_)) | (with_reducible exact Nat.le_refl _) | omega | (simp; omega) | (simp; done))))).more (by (first | omega | (simp; done) | (simp; omega))))).mono ?_
  rintro e w1 ⟨rfl, hb1⟩
  have hW1 : Below (w.heap.size + 1 + 1 + 1) (((w.alloc (.cells #[.slice A1 qs.length c1, .slice A2 cs.length c2] 25)).alloc (.cells #[.int .i64 c.a, .int .i64 c.b, .int .i64 c.s, .int .i64 c.e, .int .i64 c.r, .int .i64 c.g, .int .i64 c.l] 40)).alloc (.cells #[.slice none 0 0, .slice none 0 0] 25)) w1 := hb1.mono (by simp)
  have hB1 : Below w.heap.size w w1 := by (repeat' (first | (with_reducible exact Below.refl _ _) | (with_reducible refine Below.alloc ?_ ?_ _) | (with_reducible refine Below.drew ?_) | (with_reducible refine below_drewN ?_ _) | (with_reducible refine Below.setCell ?_ ?_ _) | (with_reducible refine Below.trans ?_ (Below.mono (by assumption) ?_)) | (with_reducible exact Nat.le_refl _) | omega | (simp; omega) | (simp; done)))
  have tb : Two w.heap.size (.slice A1 qs.length c1) (.slice A2 cs.length c2) w1 := Two.below (W := ((w.alloc (.cells #[.slice A1 qs.length c1, .slice A2 cs.length c2] 25)).alloc (.cells #[.int .i64 c.a, .int .i64 c.b, .int .i64 c.s, .int .i64 c.e, .int .i64 c.r, .int .i64 c.g, .int .i64 c.l] 40)).alloc (.cells #[.slice none 0 0, .slice none 0 0] 25)) ⟨by simp; omega, by simp [go_sem], by simp [go_sem]⟩ hb1
  have tr : Two (w.heap.size + 1 + 1) (.slice none 0 0) (.slice none 0 0) w1 := Two.below (W := ((w.alloc (.cells #[.slice A1 qs.length c1, .slice A2 cs.length c2] 25)).alloc (.cells #[.int .i64 c.a, .int .i64 c.b, .int .i64 c.s, .int .i64 c.e, .int .i64 c.r, .int .i64 c.g, .int .i64 c.l] 40)).alloc (.cells #[.slice none 0 0, .slice none 0 0] 25)) ⟨by simp, by simp [go_sem], by simp [go_sem]⟩ hb1
  have FB : Hid (w1.frozen? ⟨w.heap.size, 1, none⟩ = false) := (hW1.frozen (p := ⟨w.heap.size, 1, none⟩) (by show w.heap.size < _; omega)).trans (by simp [go_sem])
  have f0 : w1.frozen? ⟨w.heap.size + 1 + 1, 0, none⟩ = false := (hW1.frozen (p := ⟨w.heap.size + 1 + 1, 0, none⟩) (by show w.heap.size + 1 + 1 < _; omega)).trans (by simp [go_sem])
  have f1 : w1.frozen? ⟨w.heap.size + 1 + 1, 1, none⟩ = false := (hW1.frozen (p := ⟨w.heap.size + 1 + 1, 1, none⟩) (by show w.heap.size + 1 + 1 < _; omega)).trans (by simp [go_sem])
  have r0 := tr.c0
  have r1 := tr.c1
  clear hW1 hb1
  go_wp2_with fail
  obtain ⟨t0, t1⟩ := two_cells r0 r1 (.slice none 0 0) (.slice none 0 0)
  have hB5 := below_two hB1 (show w.heap.size ≤ w.heap.size + 1 + 1 by omega) (.slice none 0 0) (.slice none 0 0)
  generalize ((w1.setCell ⟨w.heap.size + 1 + 1, 0, none⟩ (.slice none 0 0)).setCell ⟨w.heap.size + 1 + 1, 1, none⟩ (.slice none 0 0)) = w5 at *
  refine bodyPost_ret (v := .tuple #[.agg #[.slice none 0 0, .slice none 0 0], .int .i64 1]) (by simp [results, Tryd.results37, go_sem, t0, t1]) rfl ⟨_, _, by rw [HR.out], by rw [HR.out]; exact ints_nil _ _, by rw [HR.out]; exact cons_nil _ _, hB5⟩
theorem rwith_any (qv cv : Value) (qs : List Int) (cs : List Con) (c : Con) (w : World) (hq : Ints w w.heap.size qv qs) (hc : Cons w w.heap.size cv cs) : Calls Tryd.prog 37 #[.agg #[qv, cv], .agg #[.int .i64 c.a, .int .i64 c.b, .int .i64 c.s, .int .i64 c.e, .int .i64 c.r, .int .i64 c.g, .int .i64 c.l]] w (PlanPost (withR qs cs c) w) := by
  by_cases hE : planE qs cs = 0
  · exact rwith_good qv cv qs cs c w hq hc hE
  · exact rwith_bad qv cv qs cs c w hq hc hE
end Go.Proofs.YtgnlanfpholdaaaDoor

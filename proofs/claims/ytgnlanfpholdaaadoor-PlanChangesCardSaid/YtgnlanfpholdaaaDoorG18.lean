/- The reference's Without. -/
import Derived.Test.YtgnlanfpholdaaaDoorG17
import Derived.Test.YtgnlanfpholdaaaDoorRK
import Derived.Test.YtgnlanfpholdaaaDoorF13
namespace Go.Proofs.YtgnlanfpholdaaaDoor
open Go.RowKit
set_option maxHeartbeats 4000000 in
theorem rwout_any (qv cv : Value) (qs : List Int) (cs : List Con) (x : Int) (w : World) (hq : Ints w w.heap.size qv qs) (hc : Cons w w.heap.size cv cs) : Calls Tryd.prog 39 #[.agg #[qv, cv], .int .i64 x] w (PlanPost (woutR qs cs x) w) := by
  by_cases hE : planE qs cs = 0
  · have HE := Lib.hid hE
    by_cases hx : x < 0
    · have HR : Hid (woutR qs cs x = ([], [], 2)) := by show _ = _; rw [woutR, if_neg (by simp [hE]), if_pos (.inl hx)]
      clear hE
      have hq0 := hq
      have hc0 := hc
      obtain ⟨A1, c1, rfl, hc1, hm1, _⟩ := hq
      obtain ⟨A2, c2, rfl, hc2, hm2, hA2⟩ := hc
      unfold maxLen at hm2
      clear hA2
      go_enter Tryd.func39, Tryd.ntmps39
      go_wp2_with fail
      refine (rpcheck_any _ _ qs cs _ ((hq0.below (by (repeat' (first | (with_reducible exact Below.refl _ _) | (with_reducible refine Below.alloc ?_ ?_ _) | (with_reducible refine Below.drew ?_) | (with_reducible refine below_drewN ?_ _) | (with_reducible refine Below.setCell ?_ ?_ _) | (with_reducible refine Below.trans ?_ (Below.mono (by assumption) ?_)) | (with_reducible exact Nat.le_refl _) | omega | (simp; omega) | (simp; done))))).more (by (first | omega | (simp; done) | (simp; omega)))) ((hc0.below (by (repeat' (first | (with_reducible exact Below.refl _ _) | (with_reducible refine Below.alloc ?_ ?_ _) | (with_reducible refine Below.drew ?_) | (with_reducible refine below_drewN ?_ _) | (with_reducible refine Below.setCell ?_ ?_ _) | (with_reducible refine Below.trans ?_ (Below.mono (by assumption) ?_)) | (with_reducible exact Nat.le_refl _) | omega | (simp; omega) | (simp; done))))).more (by (first | omega | (simp; done) | (simp; omega))))).mono ?_
      rw [HE.out]
      rintro e w1 ⟨rfl, hb1⟩
      have hW1 : Below (w.heap.size + 1 + 1) ((w.alloc (.cells #[.slice A1 qs.length c1, .slice A2 cs.length c2] 25)).alloc (.cells #[.slice none 0 0, .slice none 0 0] 25)) w1 := hb1.mono (by simp)
      have hB1 : Below w.heap.size w w1 := by (repeat' (first | (with_reducible exact Below.refl _ _) | (with_reducible refine Below.alloc ?_ ?_ _) | (with_reducible refine Below.drew ?_) | (with_reducible refine below_drewN ?_ _) | (with_reducible refine Below.setCell ?_ ?_ _) | (with_reducible refine Below.trans ?_ (Below.mono (by assumption) ?_)) | (with_reducible exact Nat.le_refl _) | omega | (simp; omega) | (simp; done)))
      have tb : Two w.heap.size (.slice A1 qs.length c1) (.slice A2 cs.length c2) w1 := Two.below (W := ((w.alloc (.cells #[.slice A1 qs.length c1, .slice A2 cs.length c2] 25)).alloc (.cells #[.slice none 0 0, .slice none 0 0] 25))) ⟨by simp; omega, by simp [go_sem], by simp [go_sem]⟩ hb1
      have tr : Two (w.heap.size + 1) (.slice none 0 0) (.slice none 0 0) w1 := Two.below (W := ((w.alloc (.cells #[.slice A1 qs.length c1, .slice A2 cs.length c2] 25)).alloc (.cells #[.slice none 0 0, .slice none 0 0] 25))) ⟨by simp, by simp [go_sem], by simp [go_sem]⟩ hb1
      have FB : Hid (w1.frozen? ⟨w.heap.size, 1, none⟩ = false) := (hW1.frozen (p := ⟨w.heap.size, 1, none⟩) (by show w.heap.size < _; omega)).trans (by simp [go_sem])
      have f0 : w1.frozen? ⟨w.heap.size + 1, 0, none⟩ = false := (hW1.frozen (p := ⟨w.heap.size + 1, 0, none⟩) (by show w.heap.size + 1 < _; omega)).trans (by simp [go_sem])
      have f1 : w1.frozen? ⟨w.heap.size + 1, 1, none⟩ = false := (hW1.frozen (p := ⟨w.heap.size + 1, 1, none⟩) (by show w.heap.size + 1 < _; omega)).trans (by simp [go_sem])
      have q1 := tb.c1
      have hl := tb.lt
      have r0 := tr.c0
      have r1 := tr.c1
      have rl := tr.lt
      clear hW1 hb1
      go_wp2_with fail
      obtain ⟨t0, t1⟩ := two_cells r0 r1 (.slice none 0 0) (.slice none 0 0)
      have hB5 := below_two hB1 (show w.heap.size ≤ w.heap.size + 1 by omega) (.slice none 0 0) (.slice none 0 0)
      generalize ((w1.setCell ⟨w.heap.size + 1, 0, none⟩ (.slice none 0 0)).setCell ⟨w.heap.size + 1, 1, none⟩ (.slice none 0 0)) = w5 at *
      refine bodyPost_ret (v := .tuple #[.agg #[.slice none 0 0, .slice none 0 0], .int .i64 2]) (by simp [results, Tryd.results39, go_sem, t0, t1]) rfl ⟨_, _, by rw [HR.out], by rw [HR.out]; exact ints_nil _ _, by rw [HR.out]; exact cons_nil _ _, hB5⟩
    · by_cases hx2 : (cs.length : Int) ≤ x
      · have HR : Hid (woutR qs cs x = ([], [], 2)) := by show _ = _; rw [woutR, if_neg (by simp [hE]), if_pos (.inr hx2)]
        have hx' : 0 ≤ x := by omega
        clear hE
        have hq0 := hq
        have hc0 := hc
        obtain ⟨A1, c1, rfl, hc1, hm1, _⟩ := hq
        obtain ⟨A2, c2, rfl, hc2, hm2, hA2⟩ := hc
        unfold maxLen at hm2
        clear hA2
        go_enter Tryd.func39, Tryd.ntmps39
        go_wp2_with fail
        refine (rpcheck_any _ _ qs cs _ ((hq0.below (by (repeat' (first | (with_reducible exact Below.refl _ _) | (with_reducible refine Below.alloc ?_ ?_ _) | (with_reducible refine Below.drew ?_) | (with_reducible refine below_drewN ?_ _) | (with_reducible refine Below.setCell ?_ ?_ _) | (with_reducible refine Below.trans ?_ (Below.mono (by assumption) ?_)) | (with_reducible exact Nat.le_refl _) | omega | (simp; omega) | (simp; done))))).more (by (first | omega | (simp; done) | (simp; omega)))) ((hc0.below (by (repeat' (first | (with_reducible exact Below.refl _ _) | (with_reducible refine Below.alloc ?_ ?_ _) | (with_reducible refine Below.drew ?_) | (with_reducible refine below_drewN ?_ _) | (with_reducible refine Below.setCell ?_ ?_ _) | (with_reducible refine Below.trans ?_ (Below.mono (by assumption) ?_)) | (with_reducible exact Nat.le_refl _) | omega | (simp; omega) | (simp; done))))).more (by (first | omega | (simp; done) | (simp; omega))))).mono ?_
        rw [HE.out]
        rintro e w1 ⟨rfl, hb1⟩
        have hW1 : Below (w.heap.size + 1 + 1) ((w.alloc (.cells #[.slice A1 qs.length c1, .slice A2 cs.length c2] 25)).alloc (.cells #[.slice none 0 0, .slice none 0 0] 25)) w1 := hb1.mono (by simp)
        have hB1 : Below w.heap.size w w1 := by (repeat' (first | (with_reducible exact Below.refl _ _) | (with_reducible refine Below.alloc ?_ ?_ _) | (with_reducible refine Below.drew ?_) | (with_reducible refine below_drewN ?_ _) | (with_reducible refine Below.setCell ?_ ?_ _) | (with_reducible refine Below.trans ?_ (Below.mono (by assumption) ?_)) | (with_reducible exact Nat.le_refl _) | omega | (simp; omega) | (simp; done)))
        have tb : Two w.heap.size (.slice A1 qs.length c1) (.slice A2 cs.length c2) w1 := Two.below (W := ((w.alloc (.cells #[.slice A1 qs.length c1, .slice A2 cs.length c2] 25)).alloc (.cells #[.slice none 0 0, .slice none 0 0] 25))) ⟨by simp; omega, by simp [go_sem], by simp [go_sem]⟩ hb1
        have tr : Two (w.heap.size + 1) (.slice none 0 0) (.slice none 0 0) w1 := Two.below (W := ((w.alloc (.cells #[.slice A1 qs.length c1, .slice A2 cs.length c2] 25)).alloc (.cells #[.slice none 0 0, .slice none 0 0] 25))) ⟨by simp, by simp [go_sem], by simp [go_sem]⟩ hb1
        have FB : Hid (w1.frozen? ⟨w.heap.size, 1, none⟩ = false) := (hW1.frozen (p := ⟨w.heap.size, 1, none⟩) (by show w.heap.size < _; omega)).trans (by simp [go_sem])
        have f0 : w1.frozen? ⟨w.heap.size + 1, 0, none⟩ = false := (hW1.frozen (p := ⟨w.heap.size + 1, 0, none⟩) (by show w.heap.size + 1 < _; omega)).trans (by simp [go_sem])
        have f1 : w1.frozen? ⟨w.heap.size + 1, 1, none⟩ = false := (hW1.frozen (p := ⟨w.heap.size + 1, 1, none⟩) (by show w.heap.size + 1 < _; omega)).trans (by simp [go_sem])
        have q1 := tb.c1
        have hl := tb.lt
        have r0 := tr.c0
        have r1 := tr.c1
        have rl := tr.lt
        clear hW1 hb1
        go_wp2_with fail
        obtain ⟨t0, t1⟩ := two_cells r0 r1 (.slice none 0 0) (.slice none 0 0)
        have hB5 := below_two hB1 (show w.heap.size ≤ w.heap.size + 1 by omega) (.slice none 0 0) (.slice none 0 0)
        generalize ((w1.setCell ⟨w.heap.size + 1, 0, none⟩ (.slice none 0 0)).setCell ⟨w.heap.size + 1, 1, none⟩ (.slice none 0 0)) = w5 at *
        refine bodyPost_ret (v := .tuple #[.agg #[.slice none 0 0, .slice none 0 0], .int .i64 2]) (by simp [results, Tryd.results39, go_sem, t0, t1]) rfl ⟨_, _, by rw [HR.out], by rw [HR.out]; exact ints_nil _ _, by rw [HR.out]; exact cons_nil _ _, hB5⟩
      · have hlen := (planE_len hE).2.2
        obtain ⟨i, rfl⟩ : ∃ i : Nat, x = i := ⟨x.toNat, by omega⟩
        have HR : Hid (woutR qs cs i = (qs, delL cs i, 0)) := by show _ = _; rw [woutR, if_neg (by simp [hE]), if_neg (by omega), Int.toNat_natCast]
        have hi : i < cs.length := by omega
        have hx' : (0 : Int) ≤ i := by omega
        have hx3 : (i : Int) < cs.length := by omega
        clear hE hx hx2
        have hq0 := hq
        have hc0 := hc
        obtain ⟨A1, c1, rfl, hc1, hm1, _⟩ := hq
        obtain ⟨A2, c2, rfl, hc2, hm2, hA2⟩ := hc
        unfold maxLen at hm2
        clear hA2
        go_enter Tryd.func39, Tryd.ntmps39
        go_wp2_with fail
        refine (rpcheck_any _ _ qs cs _ ((hq0.below (by (repeat' (first | (with_reducible exact Below.refl _ _) | (with_reducible refine Below.alloc ?_ ?_ _) | (with_reducible refine Below.drew ?_) | (with_reducible refine below_drewN ?_ _) | (with_reducible refine Below.setCell ?_ ?_ _) | (with_reducible refine Below.trans ?_ (Below.mono (by assumption) ?_)) | (with_reducible exact Nat.le_refl _) | omega | (simp; omega) | (simp; done))))).more (by (first | omega | (simp; done) | (simp; omega)))) ((hc0.below (by (repeat' (first | (with_reducible exact Below.refl _ _) | (with_reducible refine Below.alloc ?_ ?_ _) | (with_reducible refine Below.drew ?_) | (with_reducible refine below_drewN ?_ _) | (with_reducible refine Below.setCell ?_ ?_ _) | (with_reducible refine Below.trans ?_ (Below.mono (by assumption) ?_)) | (with_reducible exact Nat.le_refl _) | omega | (simp; omega) | (simp; done))))).more (by (first | omega | (simp; done) | (simp; omega))))).mono ?_
        rw [HE.out]
        rintro e w1 ⟨rfl, hb1⟩
        have hW1 : Below (w.heap.size + 1 + 1) ((w.alloc (.cells #[.slice A1 qs.length c1, .slice A2 cs.length c2] 25)).alloc (.cells #[.slice none 0 0, .slice none 0 0] 25)) w1 := hb1.mono (by simp)
        have hB1 : Below w.heap.size w w1 := by (repeat' (first | (with_reducible exact Below.refl _ _) | (with_reducible refine Below.alloc ?_ ?_ _) | (with_reducible refine Below.drew ?_) | (with_reducible refine below_drewN ?_ _) | (with_reducible refine Below.setCell ?_ ?_ _) | (with_reducible refine Below.trans ?_ (Below.mono (by assumption) ?_)) | (with_reducible exact Nat.le_refl _) | omega | (simp; omega) | (simp; done)))
        have tb : Two w.heap.size (.slice A1 qs.length c1) (.slice A2 cs.length c2) w1 := Two.below (W := ((w.alloc (.cells #[.slice A1 qs.length c1, .slice A2 cs.length c2] 25)).alloc (.cells #[.slice none 0 0, .slice none 0 0] 25))) ⟨by simp; omega, by simp [go_sem], by simp [go_sem]⟩ hb1
        have hbk : w1.heap[w.heap.size + 1]? = some (.cells #[.slice none 0 0, .slice none 0 0] 25 (0, 0)) := (hW1.block _ (by omega)).trans (heap_last _ _ _ (by simp))
        have hcW := (hc0.below hB1).more hB1.size
        have hqW := (hq0.below hB1).more hB1.size
        have q0 := tb.c0
        have q1 := tb.c1
        have hl := tb.lt
        have hic : (i : Int) ≤ c2 := by omega
        have hic2 : (i : Int) + 1 ≤ cs.length := by omega
        have hw1 : IntKind.i64.wrap ((i : Int) + 1) = i + 1 := IntWalk.i64_in _ (by omega)
        have hw0 : (0 : Int) ≤ (i : Int) + 1 := by omega
        have hwn : ((i : Int) + 1).toNat = i + 1 := by omega
        have HT : (cs.take i).length = i := by rw [List.length_take]; omega
        have HD : (cs.drop (i + 1)).length = cs.length - (i + 1) := by rw [List.length_drop]
        have HTh := Lib.hid HT
        have HDh := Lib.hid HD
        have Hdel : Hid (cs.take i ++ cs.drop (i + 1) = delL cs i) := rfl
        clear HT HD hW1 hb1
        go_wp2_with fail
        refine wp_region_held_drew (S := fun w' => w'.cell? ⟨w.heap.size, 0, none⟩ = some (.slice A1 qs.length c1) ∧ w'.cell? ⟨w.heap.size, 1, none⟩ = some (.slice A2 cs.length c2)) (by kernel_rfl) ⟨q0, q1⟩ (fun hHeld => ?_)
        (refine wpAnyH_take (i := 0) (v := ?_) rfl (by kernel_rfl) (by kernel_rfl) (by kernel_rfl) (fun _ _ _ h => h) (Or.inl ⟨by kernel_rfl, fun w0 hSw => ?_⟩) hHeld ?_; rotate_left; (focus ((try dsimp only at hSw); simp only [List.getElem_toArray, List.getElem_cons_zero]; (first | (go_simp; done) | (go_simp; with_reducible rfl)))); (try simp only [List.getElem_toArray, List.getElem_cons_zero, Act.put, List.setIfInBounds_toArray, List.set_cons_zero, List.set_cons_succ]))
        (refine wpAnyH_take (i := 1) (v := ?_) rfl (by kernel_rfl) (by kernel_rfl) (by kernel_rfl) (fun _ _ _ h => h) (Or.inl ⟨by kernel_rfl, fun w0 hSw => ?_⟩) hHeld ?_; rotate_left; (focus ((try dsimp only at hSw); simp only [List.getElem_toArray, List.getElem_cons_zero, List.getElem_cons_succ]; (first | (go_simp; done) | (go_simp; with_reducible rfl)))); (try simp only [List.getElem_toArray, List.getElem_cons_zero, List.getElem_cons_succ, Act.put, List.setIfInBounds_toArray, List.set_cons_zero, List.set_cons_succ]))
        (refine wpAnyH_take (i := 3) (v := ?_) rfl (by kernel_rfl) (by kernel_rfl) (by kernel_rfl) (fun _ _ _ h => h) (Or.inl ⟨by kernel_rfl, fun w0 hSw => ?_⟩) hHeld ?_; rotate_left; (focus ((try dsimp only at hSw); simp only [List.getElem_toArray, List.getElem_cons_zero, List.getElem_cons_succ]; (first | (go_simp; done) | (go_simp; with_reducible rfl)))); (try simp only [List.getElem_toArray, List.getElem_cons_zero, List.getElem_cons_succ, Act.put, List.setIfInBounds_toArray, List.set_cons_zero, List.set_cons_succ]))
        (refine wpAnyH_take (i := 4) (v := ?_) rfl (by kernel_rfl) (by kernel_rfl) (by kernel_rfl) (fun _ _ _ h => h) (Or.inl ⟨by kernel_rfl, fun w0 hSw => ?_⟩) hHeld ?_; rotate_left; (focus ((try dsimp only at hSw); simp only [List.getElem_toArray, List.getElem_cons_zero, List.getElem_cons_succ]; (first | (go_simp; done) | (go_simp; with_reducible rfl)))); (try simp only [List.getElem_toArray, List.getElem_cons_zero, List.getElem_cons_succ, Act.put, List.setIfInBounds_toArray, List.set_cons_zero, List.set_cons_succ]))
        (refine wpAnyH_take (i := 5) (v := ?_) rfl (by kernel_rfl) (by kernel_rfl) (by kernel_rfl) (fun _ _ _ h => h) (Or.inl ⟨by kernel_rfl, fun w0 hSw => ?_⟩) hHeld ?_; rotate_left; (focus ((try dsimp only at hSw); simp only [List.getElem_toArray, List.getElem_cons_zero, List.getElem_cons_succ]; (first | (go_simp; done) | (go_simp; with_reducible rfl)))); (try simp only [List.getElem_toArray, List.getElem_cons_zero, List.getElem_cons_succ, Act.put, List.setIfInBounds_toArray, List.set_cons_zero, List.set_cons_succ]))
        (refine wpAnyH_take (i := 6) (v := ?_) rfl (by kernel_rfl) (by kernel_rfl) (by kernel_rfl) (fun _ _ _ h => h) (Or.inl ⟨by kernel_rfl, fun w0 hSw => ?_⟩) hHeld ?_; rotate_left; (focus ((try dsimp only at hSw); simp only [List.getElem_toArray, List.getElem_cons_zero, List.getElem_cons_succ]; (first | (go_simp; done) | (go_simp; with_reducible rfl)))); (try simp only [List.getElem_toArray, List.getElem_cons_zero, List.getElem_cons_succ, Act.put, List.setIfInBounds_toArray, List.set_cons_zero, List.set_cons_succ]))
        (refine wpAnyH_take (i := 8) (v := ?_) rfl (by kernel_rfl) (by kernel_rfl) (by kernel_rfl) (fun _ _ _ h => h) (Or.inl ⟨by kernel_rfl, fun w0 hSw => ?_⟩) hHeld ?_; rotate_left; (focus ((try dsimp only at hSw); simp only [List.getElem_toArray, List.getElem_cons_zero, List.getElem_cons_succ]; (first | (go_simp; done) | (go_simp; with_reducible rfl)))); (try simp only [List.getElem_toArray, List.getElem_cons_zero, List.getElem_cons_succ, Act.put, List.setIfInBounds_toArray, List.set_cons_zero, List.set_cons_succ]))
        (refine wpAnyH_take (i := 9) (v := ?_) rfl (by kernel_rfl) (by kernel_rfl) (by kernel_rfl) (fun _ _ _ h => h) (Or.inl ⟨by kernel_rfl, fun w0 hSw => ?_⟩) hHeld ?_; rotate_left; (focus ((try dsimp only at hSw); simp only [List.getElem_toArray, List.getElem_cons_zero, List.getElem_cons_succ]; (first | (go_simp; done) | (go_simp; with_reducible rfl)))); (try simp only [List.getElem_toArray, List.getElem_cons_zero, List.getElem_cons_succ, Act.put, List.setIfInBounds_toArray, List.set_cons_zero, List.set_cons_succ]))
        (refine wpAnyH_take (i := 10) (v := ?_) rfl (by kernel_rfl) (by kernel_rfl) (by kernel_rfl) (fun _ _ _ h => h) (Or.inl ⟨by kernel_rfl, fun w0 hSw => ?_⟩) hHeld ?_; rotate_left; (focus ((try dsimp only at hSw); simp only [List.getElem_toArray, List.getElem_cons_zero, List.getElem_cons_succ]; (first | (go_simp; done) | (go_simp; with_reducible rfl)))); (try simp only [List.getElem_toArray, List.getElem_cons_zero, List.getElem_cons_succ, Act.put, List.setIfInBounds_toArray, List.set_cons_zero, List.set_cons_succ]))
        (refine wpAnyH_take (i := 11) (v := ?_) rfl (by kernel_rfl) (by kernel_rfl) (by kernel_rfl) (fun _ _ _ h => h) (Or.inl ⟨by kernel_rfl, fun w0 hSw => ?_⟩) hHeld ?_; rotate_left; (focus ((try dsimp only at hSw); simp only [List.getElem_toArray, List.getElem_cons_zero, List.getElem_cons_succ]; (first | (go_simp; done) | (go_simp; with_reducible rfl)))); (try simp only [List.getElem_toArray, List.getElem_cons_zero, List.getElem_cons_succ, Act.put, List.setIfInBounds_toArray, List.set_cons_zero, List.set_cons_succ]))
        (refine wpAnyH_take (i := 12) (v := ?_) rfl (by kernel_rfl) (by kernel_rfl) (by kernel_rfl) (fun _ _ _ h => h) (Or.inl ⟨by kernel_rfl, fun w0 hSw => ?_⟩) hHeld ?_; rotate_left; (focus ((try dsimp only at hSw); simp only [List.getElem_toArray, List.getElem_cons_zero, List.getElem_cons_succ]; (first | (go_simp; done) | (go_simp; with_reducible rfl)))); (try simp only [List.getElem_toArray, List.getElem_cons_zero, List.getElem_cons_succ, Act.put, List.setIfInBounds_toArray, List.set_cons_zero, List.set_cons_succ]))
        clear hw1 hw0 hwn
        refine wpAnyH_ready (rs := [2]) (by kernel_rfl) (by simp) ?_
        refine AllReadyH.cons rfl (fun K hK => ?_) AllReadyH.nil
        simp only [List.getElem_toArray, List.getElem_cons_zero, List.getElem_cons_succ]
        go_simp
        have hd2 : Below w1.heap.size w1 (w1.drew.alloc (.cells #[] 40)) := (Below.drew (Below.refl _ _)).alloc (Nat.le_refl _) _
        have ho2 := World.ownsRow_lit (e := 40) (size := 7) (base := w1.heap.size) w1.drew #[] 0 (by simp) (by simp [maxLen]) rfl
        refine hK.out _ _ ⟨(hd2.cell (p := ⟨w.heap.size, 0, none⟩) hl).trans q0, (hd2.cell (p := ⟨w.heap.size, 1, none⟩) hl).trans q1⟩ (fun _ => ?_)
        clear hK K
        (try simp only [List.getElem_toArray, List.getElem_cons_zero, List.getElem_cons_succ, Act.put, List.setIfInBounds_toArray, List.set_cons_zero, List.set_cons_succ])
        refine wpAnyH_ready (rs := [7]) (by kernel_rfl) (by simp) ?_
        refine AllReadyH.cons rfl (fun K hK => ?_) AllReadyH.nil
        simp only [List.getElem_toArray, List.getElem_cons_zero, List.getElem_cons_succ]
        rw [if_pos (by simp [Region.wanted])]
        refine wp_append_con (.tmp 22) (.tmp 26) rfl (w1.drew.alloc (.cells #[] 40)) w1.heap.size (.slice (some ⟨w1.heap.size, 0, none⟩) 0 0) [] (cs.take i) (by kernel_rfl) ho2 A2 c2 (by rw [HTh.out]; kernel_rfl) (consAt_take hcW hd2 (by omega)) (by rw [HTh.out]; simp; omega) (by simp) ?_
        intro v3 w3 ho3 hg3 _
        have hd3 : Below w1.heap.size w1 w3 := Below.grown hd2 hg3 (by simp) (fun j e => (ho2.lt j e).1)
        rw [List.nil_append] at ho3
        obtain ⟨A3, c3, rfl⟩ := own_shape ho3
        clear ho2 hg3 hd2
        refine hK.out _ _ ⟨(hd3.cell (p := ⟨w.heap.size, 0, none⟩) hl).trans q0, (hd3.cell (p := ⟨w.heap.size, 1, none⟩) hl).trans q1⟩ (fun _ => ?_)
        clear hK K
        (try simp only [Act.put, List.setIfInBounds_toArray, List.set_cons_zero, List.set_cons_succ])
        refine wpAnyH_ready (rs := [13]) (by kernel_rfl) (by simp) ?_
        refine AllReadyH.cons rfl (fun K hK => ?_) AllReadyH.nil
        simp only [List.getElem_toArray, List.getElem_cons_zero, List.getElem_cons_succ]
        rw [if_pos (by simp [Region.wanted])]
        refine wp_append_con (.tmp 27) (.tmp 32) rfl w3 w1.heap.size (.slice A3 (cs.take i).length c3) (cs.take i) (cs.drop (i + 1)) (by kernel_rfl) ho3 _ (c2 - (i + 1)) (by rw [HDh.out]; kernel_rfl) (consAt_drop hcW hd3) (by rw [HTh.out, HDh.out]; omega) hd3.size ?_
        intro v4 w4 ho4 hg4 _
        have hd4 : Below w1.heap.size w1 w4 := Below.grown hd3 hg4 hd3.size (fun j e => (ho3.lt j e).1)
        rw [Hdel.out] at ho4
        obtain ⟨A4, c4, rfl⟩ := own_shape ho4
        clear hg4 ho3
        refine hK.out _ _ ⟨(hd4.cell (p := ⟨w.heap.size, 0, none⟩) hl).trans q0, (hd4.cell (p := ⟨w.heap.size, 1, none⟩) hl).trans q1⟩ (fun hHeld => ?_)
        clear hK K
        (try simp only [Act.put, List.setIfInBounds_toArray, List.set_cons_zero, List.set_cons_succ])
        (refine wpAnyH_take (i := 14) (v := ?_) rfl (by kernel_rfl) (by kernel_rfl) (by kernel_rfl) (fun _ _ _ h => h) (Or.inl ⟨by kernel_rfl, fun w0 hSw => ?_⟩) hHeld ?_; rotate_left; (focus ((try dsimp only at hSw); simp only [List.getElem_toArray, List.getElem_cons_zero, List.getElem_cons_succ]; (first | (go_simp; done) | (go_simp; with_reducible rfl)))); (try simp only [List.getElem_toArray, List.getElem_cons_zero, List.getElem_cons_succ, Act.put, List.setIfInBounds_toArray, List.set_cons_zero, List.set_cons_succ]))
        have hb4 := (hd4.block (w.heap.size + 1) (blk_lt hbk)).trans hbk
        have z0 := cell_blk hb4 0
        have z1 := cell_blk hb4 1
        have f0 := frozen_blk hb4 0
        have f1 := frozen_blk hb4 1
        simp only [List.getElem?_toArray, List.getElem?_cons_zero, List.getElem?_cons_succ] at z0 z1
        refine wpAnyH_ready (rs := [15]) (by kernel_rfl) (by simp) ?_
        refine AllReadyH.cons rfl (fun K hK => ?_) AllReadyH.nil
        simp only [List.getElem_toArray, List.getElem_cons_zero, List.getElem_cons_succ]
        go_simp
        obtain ⟨⟨t0, t1⟩, hiP, hcP⟩ := put_plan hb4 ((hqW.below hd4).more hd4.size) (cons_of_own ho4)
        have hB5 := below_two (hB1.trans (hd4.mono hB1.size)) (show w.heap.size ≤ w.heap.size + 1 by omega) (.slice A1 qs.length c1) (.slice A4 (delL cs i).length c4)
        refine hK.out _ _ (by simpa [go_sem] using hHeld) (fun hHeld => ?_)
        clear hK K
        (try simp only [List.getElem_toArray, List.getElem_cons_zero, List.getElem_cons_succ, Act.put, List.setIfInBounds_toArray, List.set_cons_zero, List.set_cons_succ])
        (refine wpAnyH_take (i := 16) (v := ?_) rfl (by kernel_rfl) (by kernel_rfl) (by kernel_rfl) (fun _ _ _ h => h) (Or.inl ⟨by kernel_rfl, fun w0 hSw => ?_⟩) hHeld ?_; rotate_left; (focus ((try dsimp only at hSw); simp only [List.getElem_toArray, List.getElem_cons_zero, List.getElem_cons_succ]; (first | (go_simp; done) | (go_simp; with_reducible rfl)))); (try simp only [List.getElem_toArray, List.getElem_cons_zero, List.getElem_cons_succ, Act.put, List.setIfInBounds_toArray, List.set_cons_zero, List.set_cons_succ]))
        refine wpAnyH_done (by kernel_rfl) ?_ _
        clear z0 z1 f0 f1 hHeld
        generalize ((w4.setCell ⟨w.heap.size + 1, 0, none⟩ (.slice A1 qs.length c1)).setCell ⟨w.heap.size + 1, 1, none⟩ (.slice A4 (delL cs i).length c4)) = w5 at *
        go_wp2_with fail
        all_goals refine bodyPost_ret (v := .tuple #[.agg #[.slice A1 qs.length c1, .slice A4 (delL cs i).length c4], .int .i64 0]) (by simp [results, Tryd.results39, go_sem, t0, t1]) rfl ⟨_, _, by rw [HR.out], by rw [HR.out]; exact hiP, by rw [HR.out]; exact hcP, hB5⟩
  · have HR : Hid (woutR qs cs x = ([], [], 1)) := by show _ = _; rw [woutR, if_pos hE]
    have hEb : (planE qs cs != 0) = true := by simpa using hE
    clear hE
    have hq0 := hq
    have hc0 := hc
    obtain ⟨A1, c1, rfl, hc1, hm1, _⟩ := hq
    obtain ⟨A2, c2, rfl, hc2, hm2, hA2⟩ := hc
    unfold maxLen at hm2
    clear hA2
    go_enter Tryd.func39, Tryd.ntmps39
    go_wp2_with fail
    refine (rpcheck_any _ _ qs cs _ ((hq0.below (by (repeat' (first | (with_reducible exact Below.refl _ _) | (with_reducible refine Below.alloc ?_ ?_ _) | (with_reducible refine Below.drew ?_) | (with_reducible refine below_drewN ?_ _) | (with_reducible refine Below.setCell ?_ ?_ _) | (with_reducible refine Below.trans ?_ (Below.mono (by assumption) ?_)) | (with_reducible exact Nat.le_refl _) | omega | (simp; omega) | (simp; done))))).more (by (first | omega | (simp; done) | (simp; omega)))) ((hc0.below (by (repeat' (first | (with_reducible exact Below.refl _ _) | (with_reducible refine Below.alloc ?_ ?_ _) | (with_reducible refine Below.drew ?_) | (with_reducible refine below_drewN ?_ _) | (with_reducible refine Below.setCell ?_ ?_ _) | (with_reducible refine Below.trans ?_ (Below.mono (by assumption) ?_)) | (with_reducible exact Nat.le_refl _) | omega | (simp; omega) | (simp; done))))).more (by (first | omega | (simp; done) | (simp; omega))))).mono ?_
    rintro e w1 ⟨rfl, hb1⟩
    have hW1 : Below (w.heap.size + 1 + 1) ((w.alloc (.cells #[.slice A1 qs.length c1, .slice A2 cs.length c2] 25)).alloc (.cells #[.slice none 0 0, .slice none 0 0] 25)) w1 := hb1.mono (by simp)
    have hB1 : Below w.heap.size w w1 := by (repeat' (first | (with_reducible exact Below.refl _ _) | (with_reducible refine Below.alloc ?_ ?_ _) | (with_reducible refine Below.drew ?_) | (with_reducible refine below_drewN ?_ _) | (with_reducible refine Below.setCell ?_ ?_ _) | (with_reducible refine Below.trans ?_ (Below.mono (by assumption) ?_)) | (with_reducible exact Nat.le_refl _) | omega | (simp; omega) | (simp; done)))
    have tb : Two w.heap.size (.slice A1 qs.length c1) (.slice A2 cs.length c2) w1 := Two.below (W := ((w.alloc (.cells #[.slice A1 qs.length c1, .slice A2 cs.length c2] 25)).alloc (.cells #[.slice none 0 0, .slice none 0 0] 25))) ⟨by simp; omega, by simp [go_sem], by simp [go_sem]⟩ hb1
    have tr : Two (w.heap.size + 1) (.slice none 0 0) (.slice none 0 0) w1 := Two.below (W := ((w.alloc (.cells #[.slice A1 qs.length c1, .slice A2 cs.length c2] 25)).alloc (.cells #[.slice none 0 0, .slice none 0 0] 25))) ⟨by simp, by simp [go_sem], by simp [go_sem]⟩ hb1
    have FB : Hid (w1.frozen? ⟨w.heap.size, 1, none⟩ = false) := (hW1.frozen (p := ⟨w.heap.size, 1, none⟩) (by show w.heap.size < _; omega)).trans (by simp [go_sem])
    have f0 : w1.frozen? ⟨w.heap.size + 1, 0, none⟩ = false := (hW1.frozen (p := ⟨w.heap.size + 1, 0, none⟩) (by show w.heap.size + 1 < _; omega)).trans (by simp [go_sem])
    have f1 : w1.frozen? ⟨w.heap.size + 1, 1, none⟩ = false := (hW1.frozen (p := ⟨w.heap.size + 1, 1, none⟩) (by show w.heap.size + 1 < _; omega)).trans (by simp [go_sem])
    have q1 := tb.c1
    have hl := tb.lt
    have r0 := tr.c0
    have r1 := tr.c1
    have rl := tr.lt
    clear hW1 hb1
    go_wp2_with fail
    obtain ⟨t0, t1⟩ := two_cells r0 r1 (.slice none 0 0) (.slice none 0 0)
    have hB5 := below_two hB1 (show w.heap.size ≤ w.heap.size + 1 by omega) (.slice none 0 0) (.slice none 0 0)
    generalize ((w1.setCell ⟨w.heap.size + 1, 0, none⟩ (.slice none 0 0)).setCell ⟨w.heap.size + 1, 1, none⟩ (.slice none 0 0)) = w5 at *
    refine bodyPost_ret (v := .tuple #[.agg #[.slice none 0 0, .slice none 0 0], .int .i64 1]) (by simp [results, Tryd.results39, go_sem, t0, t1]) rfl ⟨_, _, by rw [HR.out], by rw [HR.out]; exact ints_nil _ _, by rw [HR.out]; exact cons_nil _ _, hB5⟩
end Go.Proofs.YtgnlanfpholdaaaDoor

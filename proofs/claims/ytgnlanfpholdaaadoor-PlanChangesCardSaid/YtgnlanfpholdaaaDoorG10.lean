/- Without. -/
import Derived.Test.YtgnlanfpholdaaaDoorG9
namespace Go.Proofs.YtgnlanfpholdaaaDoor
open Go.RowKit
/-- what Without answers -/
def woutR (qs : List Int) (cs : List Con) (x : Int) : List Int × List Con × Int :=
  if planE qs cs ≠ 0 then ([], [], 1) else if x < 0 ∨ (cs.length : Int) ≤ x then ([], [], 2) else (qs, delL cs x.toNat, 0)
theorem cons_one {W : World} {B g n cap m k : Nat} {cs : List Con} (h : Cons W B (.slice (some ⟨g, 0, none⟩) n cap) cs) (hne : g ≠ m) (x : Value) : Cons (W.setCell ⟨m, k, none⟩ x) B (.slice (some ⟨g, 0, none⟩) n cap) cs := by
  obtain ⟨A, c, e, h1, h2, h3⟩ := h
  refine ⟨A, c, e, h1, h2, fun hp => ?_⟩
  obtain ⟨b, o, e1, h4, h5⟩ := h3 hp
  subst e1
  cases e
  exact ⟨g, 0, rfl, h4, fun j hj => conAt_of fun i hi => (World.cell?_setCell_other _ _ _ _ (by simp [])).trans (conAt_get (h5 j hj) i hi)⟩
theorem wout_world {w w1 w3 : World} {n g m cap : Nat} {qv cv : Value} {cs : List Con} (h : Two w.heap.size qv cv w1) (hr : Two n (.slice none 0 0) (.slice none 0 0) w1) (f0 : w1.frozen? ⟨n, 0, none⟩ = false) (f1 : w1.frozen? ⟨n, 1, none⟩ = false) (hne : n ≠ w.heap.size) (hg : g ≠ w.heap.size) (hb : Below w.heap.size w w1) (h3 : Below w1.heap.size w1 w3) (ho : Cons w3 w3.heap.size (.slice (some ⟨g, 0, none⟩) m cap) cs) :
    WI w (w3.setCell ⟨w.heap.size, 1, none⟩ (.slice (some ⟨g, 0, none⟩) m cap)) n qv (.slice (some ⟨g, 0, none⟩) m cap) cs := by
  have t3 := h.below h3
  have r3 := hr.below h3
  refine ⟨⟨by simpa using t3.lt, (World.cell?_setCell_other _ _ _ _ (by simp)).trans t3.c0, World.cell?_setCell_same _ _ _ t3.c1⟩, ⟨by simpa using r3.lt, (World.cell?_setCell_other _ _ _ _ (by simp [])).trans r3.c0, (World.cell?_setCell_other _ _ _ _ (by simp [])).trans r3.c1⟩, ?_, ?_, ?_, ?_⟩
  · rw [World.frozen?_setCell]; exact (h3.frozen (p := ⟨n, 0, none⟩) hr.lt).trans f0
  · rw [World.frozen?_setCell]; exact (h3.frozen (p := ⟨n, 1, none⟩) hr.lt).trans f1
  · exact (hb.trans (h3.mono hb.size)).setCell (p := ⟨w.heap.size, 1, none⟩) (Nat.le_refl _) _
  · have := cons_one (k := 1) ho hg (.slice (some ⟨g, 0, none⟩) m cap)
    rwa [show (w3.setCell ⟨w.heap.size, 1, none⟩ (.slice (some ⟨g, 0, none⟩) m cap)).heap.size = w3.heap.size by simp]
set_option maxHeartbeats 4000000 in
theorem wout_any (qv cv : Value) (qs : List Int) (cs : List Con) (x : Int) (w : World) (hq : Ints w w.heap.size qv qs) (hc : Cons w w.heap.size cv cs) : Calls Tryd.prog 38 #[.agg #[qv, cv], .int .i64 x] w (PlanPost (woutR qs cs x) w) := by
  by_cases hE : planE qs cs = 0
  · have HE := Lib.hid hE
    by_cases hx : x < 0
    · have HR : Hid (woutR qs cs x = ([], [], 2)) := by show _ = _; rw [woutR, if_neg (by simp [hE]), if_pos (.inl hx)]
      clear hE
      have hq0 := hq
      have hc0 := hc
      obtain ⟨A1, c1, rfl, hc1, hm1, _⟩ := hq
      obtain ⟨A2, c2, rfl, hc2, hm2, hA2⟩ := hc
      unfold maxLen at hm2
      clear hA2
      go_enter Tryd.func38, Tryd.ntmps38
      go_wp2_with fail
      refine (pcheck_any _ _ qs cs _ ((hq0.below (by (repeat' (first | (with_reducible exact Below.refl _ _) | (with_reducible refine Below.alloc ?_ ?_ _) | (with_reducible refine Below.drew ?_) | (with_reducible refine below_drewN ?_ _) | (with_reducible refine Below.setCell ?_ ?_ _) | (with_reducible refine Below.trans ?_ (Below.mono (by assumption) ?_)) | (with_reducible exact Nat.le_refl _) | omega | (simp; omega) | (simp; done))))).more (by (first | omega | (simp; done) | (simp; omega)))) ((hc0.below (by (repeat' (first | (with_reducible exact Below.refl _ _) | (with_reducible refine Below.alloc ?_ ?_ _) | (with_reducible refine Below.drew ?_) | (with_reducible refine below_drewN ?_ _) | (with_reducible refine Below.setCell ?_ ?_ _) | (with_reducible refine Below.trans ?_ (Below.mono (by assumption) ?_)) | (with_reducible exact Nat.le_refl _) | omega | (simp; omega) | (simp; done))))).more (by (first | omega | (simp; done) | (simp; omega))))).mono ?_
      rw [HE.out]
      rintro e w1 ⟨rfl, hb1⟩
      have hW1 : Below (w.heap.size + 1 + 1) ((w.alloc (.cells #[.slice A1 qs.length c1, .slice A2 cs.length c2] 25)).alloc (.cells #[.slice none 0 0, .slice none 0 0] 25)) w1 := hb1.mono (by simp)
      have hB1 : Below w.heap.size w w1 := by (repeat' (first | (with_reducible exact Below.refl _ _) | (with_reducible refine Below.alloc ?_ ?_ _) | (with_reducible refine Below.drew ?_) | (with_reducible refine below_drewN ?_ _) | (with_reducible refine Below.setCell ?_ ?_ _) | (with_reducible refine Below.trans ?_ (Below.mono (by assumption) ?_)) | (with_reducible exact Nat.le_refl _) | omega | (simp; omega) | (simp; done)))
      have tb : Two w.heap.size (.slice A1 qs.length c1) (.slice A2 cs.length c2) w1 := Two.below (W := ((w.alloc (.cells #[.slice A1 qs.length c1, .slice A2 cs.length c2] 25)).alloc (.cells #[.slice none 0 0, .slice none 0 0] 25))) ⟨by simp; omega, by simp [go_sem], by simp [go_sem]⟩ hb1
      have tr : Two (w.heap.size + 1) (.slice none 0 0) (.slice none 0 0) w1 := Two.below (W := ((w.alloc (.cells #[.slice A1 qs.length c1, .slice A2 cs.length c2] 25)).alloc (.cells #[.slice none 0 0, .slice none 0 0] 25))) ⟨by simp, by simp [go_sem], by simp [go_sem]⟩ hb1
      have FB : Hid (w1.frozen? ⟨w.heap.size, 1, none⟩ = false) := (hW1.frozen (p := ⟨w.heap.size, 1, none⟩) (by show w.heap.size < _; omega)).trans (by simp [go_sem])
      have f0 : w1.frozen? ⟨w.heap.size + 1, 0, none⟩ = false := (hW1.frozen (p := ⟨w.heap.size + 1, 0, none⟩) (by show w.heap.size + 1 < _; omega)).trans (by simp [go_sem])
      have f1 : w1.frozen? ⟨w.heap.size + 1, 1, none⟩ = false := (hW1.frozen (p := ⟨w.heap.size + 1, 1, none⟩) (by show w.heap.size + 1 < _; omega)).trans (by simp [go_sem])
      have q1 := tb.c1
      have hl := tb.lt
      have r0 := tr.c0
      have r1 := tr.c1
      have rl := tr.lt
      clear hW1 hb1
      go_wp2_with fail
      obtain ⟨t0, t1⟩ := two_cells r0 r1 (.slice none 0 0) (.slice none 0 0)
      have hB5 := below_two hB1 (show w.heap.size ≤ w.heap.size + 1 by omega) (.slice none 0 0) (.slice none 0 0)
      generalize ((w1.setCell ⟨w.heap.size + 1, 0, none⟩ (.slice none 0 0)).setCell ⟨w.heap.size + 1, 1, none⟩ (.slice none 0 0)) = w5 at *
      refine bodyPost_ret (v := .tuple #[.agg #[.slice none 0 0, .slice none 0 0], .int .i64 2]) (by simp [results, Tryd.results38, go_sem, t0, t1]) rfl ⟨_, _, by rw [HR.out], by rw [HR.out]; exact ints_nil _ _, by rw [HR.out]; exact cons_nil _ _, hB5⟩
    · by_cases hx2 : (cs.length : Int) ≤ x
      · have HR : Hid (woutR qs cs x = ([], [], 2)) := by show _ = _; rw [woutR, if_neg (by simp [hE]), if_pos (.inr hx2)]
        have hx' : 0 ≤ x := by omega
        clear hE
        have hq0 := hq
        have hc0 := hc
        obtain ⟨A1, c1, rfl, hc1, hm1, _⟩ := hq
        obtain ⟨A2, c2, rfl, hc2, hm2, hA2⟩ := hc
        unfold maxLen at hm2
        clear hA2
        go_enter Tryd.func38, Tryd.ntmps38
        go_wp2_with fail
        refine (pcheck_any _ _ qs cs _ ((hq0.below (by (repeat' (first | (with_reducible exact Below.refl _ _) | (with_reducible refine Below.alloc ?_ ?_ _) | (with_reducible refine Below.drew ?_) | (with_reducible refine below_drewN ?_ _) | (with_reducible refine Below.setCell ?_ ?_ _) | (with_reducible refine Below.trans ?_ (Below.mono (by assumption) ?_)) | (with_reducible exact Nat.le_refl _) | omega | (simp; omega) | (simp; done))))).more (by (first | omega | (simp; done) | (simp; omega)))) ((hc0.below (by (repeat' (first | (with_reducible exact Below.refl _ _) | (with_reducible refine Below.alloc ?_ ?_ _) | (with_reducible refine Below.drew ?_) | (with_reducible refine below_drewN ?_ _) | (with_reducible refine Below.setCell ?_ ?_ _) | (with_reducible refine Below.trans ?_ (Below.mono (by assumption) ?_)) | (with_reducible exact Nat.le_refl _) | omega | (simp; omega) | (simp; done))))).more (by (first | omega | (simp; done) | (simp; omega))))).mono ?_
        rw [HE.out]
        rintro e w1 ⟨rfl, hb1⟩
        have hW1 : Below (w.heap.size + 1 + 1) ((w.alloc (.cells #[.slice A1 qs.length c1, .slice A2 cs.length c2] 25)).alloc (.cells #[.slice none 0 0, .slice none 0 0] 25)) w1 := hb1.mono (by simp)
        have hB1 : Below w.heap.size w w1 := by (repeat' (first | (with_reducible exact Below.refl _ _) | (with_reducible refine Below.alloc ?_ ?_ _) | (with_reducible refine Below.drew ?_) | (with_reducible refine below_drewN ?_ _) | (with_reducible refine Below.setCell ?_ ?_ _) | (with_reducible refine Below.trans ?_ (Below.mono (by assumption) ?_)) | (with_reducible exact Nat.le_refl _) | omega | (simp; omega) | (simp; done)))
        have tb : Two w.heap.size (.slice A1 qs.length c1) (.slice A2 cs.length c2) w1 := Two.below (W := ((w.alloc (.cells #[.slice A1 qs.length c1, .slice A2 cs.length c2] 25)).alloc (.cells #[.slice none 0 0, .slice none 0 0] 25))) ⟨by simp; omega, by simp [go_sem], by simp [go_sem]⟩ hb1
        have tr : Two (w.heap.size + 1) (.slice none 0 0) (.slice none 0 0) w1 := Two.below (W := ((w.alloc (.cells #[.slice A1 qs.length c1, .slice A2 cs.length c2] 25)).alloc (.cells #[.slice none 0 0, .slice none 0 0] 25))) ⟨by simp, by simp [go_sem], by simp [go_sem]⟩ hb1
        have FB : Hid (w1.frozen? ⟨w.heap.size, 1, none⟩ = false) := (hW1.frozen (p := ⟨w.heap.size, 1, none⟩) (by show w.heap.size < _; omega)).trans (by simp [go_sem])
        have f0 : w1.frozen? ⟨w.heap.size + 1, 0, none⟩ = false := (hW1.frozen (p := ⟨w.heap.size + 1, 0, none⟩) (by show w.heap.size + 1 < _; omega)).trans (by simp [go_sem])
        have f1 : w1.frozen? ⟨w.heap.size + 1, 1, none⟩ = false := (hW1.frozen (p := ⟨w.heap.size + 1, 1, none⟩) (by show w.heap.size + 1 < _; omega)).trans (by simp [go_sem])
        have q1 := tb.c1
        have hl := tb.lt
        have r0 := tr.c0
        have r1 := tr.c1
        have rl := tr.lt
        clear hW1 hb1
        go_wp2_with fail
        obtain ⟨t0, t1⟩ := two_cells r0 r1 (.slice none 0 0) (.slice none 0 0)
        have hB5 := below_two hB1 (show w.heap.size ≤ w.heap.size + 1 by omega) (.slice none 0 0) (.slice none 0 0)
        generalize ((w1.setCell ⟨w.heap.size + 1, 0, none⟩ (.slice none 0 0)).setCell ⟨w.heap.size + 1, 1, none⟩ (.slice none 0 0)) = w5 at *
        refine bodyPost_ret (v := .tuple #[.agg #[.slice none 0 0, .slice none 0 0], .int .i64 2]) (by simp [results, Tryd.results38, go_sem, t0, t1]) rfl ⟨_, _, by rw [HR.out], by rw [HR.out]; exact ints_nil _ _, by rw [HR.out]; exact cons_nil _ _, hB5⟩
      · have hlen := (planE_len hE).2.2
        obtain ⟨i, rfl⟩ : ∃ i : Nat, x = i := ⟨x.toNat, by omega⟩
        have HR : Hid (woutR qs cs i = (qs, delL cs i, 0)) := by show _ = _; rw [woutR, if_neg (by simp [hE]), if_neg (by omega), Int.toNat_natCast]
        have hi : i < cs.length := by omega
        have hx' : (0 : Int) ≤ i := by omega
        have hx3 : (i : Int) < cs.length := by omega
        clear hE hx hx2
        have hq0 := hq
        have hc0 := hc
        obtain ⟨A1, c1, rfl, hc1, hm1, _⟩ := hq
        obtain ⟨A2, c2, rfl, hc2, hm2, hA2⟩ := hc
        unfold maxLen at hm2
        clear hA2
        go_enter Tryd.func38, Tryd.ntmps38
        go_wp2_with fail
        refine (pcheck_any _ _ qs cs _ ((hq0.below (by (repeat' (first | (with_reducible exact Below.refl _ _) | (with_reducible refine Below.alloc ?_ ?_ _) | (with_reducible refine Below.drew ?_) | (with_reducible refine below_drewN ?_ _) | (with_reducible refine Below.setCell ?_ ?_ _) | (with_reducible refine Below.trans ?_ (Below.mono (by assumption) ?_)) | (with_reducible exact Nat.le_refl _) | omega | (simp; omega) | (simp; done))))).more (by (first | omega | (simp; done) | (simp; omega)))) ((hc0.below (by (repeat' (first | (with_reducible exact Below.refl _ _) | (with_reducible refine Below.alloc ?_ ?_ _) | (with_reducible refine Below.drew ?_) | (with_reducible refine below_drewN ?_ _) | (with_reducible refine Below.setCell ?_ ?_ _) | (with_reducible refine Below.trans ?_ (Below.mono (by assumption) ?_)) | (with_reducible exact Nat.le_refl _) | omega | (simp; omega) | (simp; done))))).more (by (first | omega | (simp; done) | (simp; omega))))).mono ?_
        rw [HE.out]
        rintro e w1 ⟨rfl, hb1⟩
        have hW1 : Below (w.heap.size + 1 + 1) ((w.alloc (.cells #[.slice A1 qs.length c1, .slice A2 cs.length c2] 25)).alloc (.cells #[.slice none 0 0, .slice none 0 0] 25)) w1 := hb1.mono (by simp)
        have hB1 : Below w.heap.size w w1 := by (repeat' (first | (with_reducible exact Below.refl _ _) | (with_reducible refine Below.alloc ?_ ?_ _) | (with_reducible refine Below.drew ?_) | (with_reducible refine below_drewN ?_ _) | (with_reducible refine Below.setCell ?_ ?_ _) | (with_reducible refine Below.trans ?_ (Below.mono (by assumption) ?_)) | (with_reducible exact Nat.le_refl _) | omega | (simp; omega) | (simp; done)))
        have tb : Two w.heap.size (.slice A1 qs.length c1) (.slice A2 cs.length c2) w1 := Two.below (W := ((w.alloc (.cells #[.slice A1 qs.length c1, .slice A2 cs.length c2] 25)).alloc (.cells #[.slice none 0 0, .slice none 0 0] 25))) ⟨by simp; omega, by simp [go_sem], by simp [go_sem]⟩ hb1
        have tr : Two (w.heap.size + 1) (.slice none 0 0) (.slice none 0 0) w1 := Two.below (W := ((w.alloc (.cells #[.slice A1 qs.length c1, .slice A2 cs.length c2] 25)).alloc (.cells #[.slice none 0 0, .slice none 0 0] 25))) ⟨by simp, by simp [go_sem], by simp [go_sem]⟩ hb1
        have FB : Hid (w1.frozen? ⟨w.heap.size, 1, none⟩ = false) := (hW1.frozen (p := ⟨w.heap.size, 1, none⟩) (by show w.heap.size < _; omega)).trans (by simp [go_sem])
        have f0 : w1.frozen? ⟨w.heap.size + 1, 0, none⟩ = false := (hW1.frozen (p := ⟨w.heap.size + 1, 0, none⟩) (by show w.heap.size + 1 < _; omega)).trans (by simp [go_sem])
        have f1 : w1.frozen? ⟨w.heap.size + 1, 1, none⟩ = false := (hW1.frozen (p := ⟨w.heap.size + 1, 1, none⟩) (by show w.heap.size + 1 < _; omega)).trans (by simp [go_sem])
        have q1 := tb.c1
        have hl := tb.lt
        have r0 := tr.c0
        have r1 := tr.c1
        have rl := tr.lt
        clear hW1 hb1
        have hcW := (hc0.below hB1).more hB1.size
        go_wp2_with fail
        refine (clone_any _ cs w1 w1.heap.size hcW (by omega)).mono ?_
        rintro e w2 ⟨v2, rfl, ho2, hb2⟩
        have hcon2 := cons_of_own ho2
        rcases ho2.2 with ⟨_, h0⟩ | ⟨g, cap, cur, rfl, hg, hgb, hn, hm, _, _⟩
        · omega
        obtain ⟨A', c', e', _, _, hA'⟩ := hcon2
        obtain ⟨b', o', rfl, _, hcell⟩ := hA' (by omega)
        cases e'
        have HCELL : Hid (∀ j, j < cs.length → ConAt w2 g (j * 7) (cs.getD j Con.zero)) := fun j hj => by have := hcell j hj; rwa [Nat.zero_add] at this
        have HFZ : Hid (∀ k, w2.frozen? ⟨g, k, none⟩ = false) := fun k => frozen_blk hgb k
        have hgl := blk_lt hgb
        have tb2 := tb.below hb2
        have tr2 := tr.below hb2
        clear q1 hl hcell hA' hgb
        go_wp2_with fail
        refine (del_any g cs.length cap i (i + 1) cs w2 rfl hn hm hi rfl HCELL.out HFZ.out).mono ?_
        rintro e w3 ⟨rfl, hc3, hb3⟩
        have h13 : Below w1.heap.size w1 w3 := hb2.trans (hb3.mono hg)
        have hcon3 : Cons w3 w3.heap.size (.slice (some ⟨g, 0, none⟩) (cs.length - 1) cap) (delL cs i) := ⟨_, cap, by rw [delL_len hi], by rw [delL_len hi]; omega, hm, fun _ => ⟨g, 0, rfl, Nat.lt_of_lt_of_le hgl hb3.size, fun j hj => by rw [delL_len hi] at hj; rw [Nat.zero_add]; exact hc3 j hj⟩⟩
        have k3 := (h13.cell (p := ⟨w.heap.size, 1, none⟩) tb.lt).trans tb.c1
        have kf : w3.frozen? ⟨w.heap.size, 1, none⟩ = false := (h13.frozen (p := ⟨w.heap.size, 1, none⟩) tb.lt).trans FB.out
        have hgw : g ≠ w.heap.size := by have := tb.lt; omega
        have hgr : g ≠ w.heap.size + 1 := by have := tr.lt; omega
        have hWI := wout_world tb tr f0 f1 (by omega) hgw hB1 h13 hcon3
        have tb3 := tb.below h13
        have q0 := tb3.c0
        have hl := tb3.lt
        have tr3 := tr.below h13
        have s0 := tr3.c0
        have s1 := tr3.c1
        have rl3 := tr3.lt
        have g0 : w3.frozen? ⟨w.heap.size + 1, 0, none⟩ = false := (h13.frozen (p := ⟨w.heap.size + 1, 0, none⟩) tr.lt).trans f0
        have g1 : w3.frozen? ⟨w.heap.size + 1, 1, none⟩ = false := (h13.frozen (p := ⟨w.heap.size + 1, 1, none⟩) tr.lt).trans f1
        clear hcon3 hc3 ho2 hb2 hb3 tb2 tr2 r0 r1 rl f0 f1
        go_wp2_with fail
        have u0 := hWI.res.c0
        have u1 := hWI.res.c1
        have hB8 := hWI.bel
        obtain ⟨t0, t1⟩ := two_cells u0 u1 (.slice A1 qs.length c1) (.slice (some ⟨g, 0, none⟩) (cs.length - 1) cap)
        have hB9 := below_two hB8 (show w.heap.size ≤ w.heap.size + 1 by omega) (.slice A1 qs.length c1) (.slice (some ⟨g, 0, none⟩) (cs.length - 1) cap)
        have hcn := cons_two hWI.con hgr (.slice A1 qs.length c1) (.slice (some ⟨g, 0, none⟩) (cs.length - 1) cap)
        have hsz8 : (((w3.setCell ⟨w.heap.size, 1, none⟩ (.slice (some ⟨g, 0, none⟩) (cs.length - 1) cap)).setCell ⟨w.heap.size + 1, 0, none⟩ (.slice A1 qs.length c1)).setCell ⟨w.heap.size + 1, 1, none⟩ (.slice (some ⟨g, 0, none⟩) (cs.length - 1) cap)).heap.size = (w3.setCell ⟨w.heap.size, 1, none⟩ (.slice (some ⟨g, 0, none⟩) (cs.length - 1) cap)).heap.size := by simp
        rw [← hsz8] at hcn
        generalize (((w3.setCell ⟨w.heap.size, 1, none⟩ (.slice (some ⟨g, 0, none⟩) (cs.length - 1) cap)).setCell ⟨w.heap.size + 1, 0, none⟩ (.slice A1 qs.length c1)).setCell ⟨w.heap.size + 1, 1, none⟩ (.slice (some ⟨g, 0, none⟩) (cs.length - 1) cap)) = w9 at *
        refine bodyPost_ret (v := .tuple #[.agg #[.slice A1 qs.length c1, .slice (some ⟨g, 0, none⟩) (cs.length - 1) cap], .int .i64 0]) (by simp [results, Tryd.results38, go_sem, t0, t1]) rfl ⟨_, _, by rw [HR.out], by rw [HR.out]; exact (hq0.below hB9).more hB9.size, by rw [HR.out]; exact hcn, hB9⟩
  · have HR : Hid (woutR qs cs x = ([], [], 1)) := by show _ = _; rw [woutR, if_pos hE]
    have hEb : (planE qs cs != 0) = true := by simpa using hE
    clear hE
    have hq0 := hq
    have hc0 := hc
    obtain ⟨A1, c1, rfl, hc1, hm1, _⟩ := hq
    obtain ⟨A2, c2, rfl, hc2, hm2, hA2⟩ := hc
    unfold maxLen at hm2
    clear hA2
    go_enter Tryd.func38, Tryd.ntmps38
    go_wp2_with fail
    refine (pcheck_any _ _ qs cs _ ((hq0.below (by (repeat' (first | (with_reducible exact Below.refl _ _) | (with_reducible refine Below.alloc ?_ ?_ _) | (with_reducible refine Below.drew ?_) | (with_reducible refine below_drewN ?_ _) | (with_reducible refine Below.setCell ?_ ?_ _) | (with_reducible refine Below.trans ?_ (Below.mono (by assumption) ?_)) | (with_reducible exact Nat.le_refl _) | omega | (simp; omega) | (simp; done))))).more (by (first | omega | (simp; done) | (simp; omega)))) ((hc0.below (by (repeat' (first | (with_reducible exact Below.refl _ _) | (with_reducible refine Below.alloc ?_ ?_ _) | (with_reducible refine Below.drew ?_) | (with_reducible refine below_drewN ?_ _) | (with_reducible refine Below.setCell ?_ ?_ _) | (with_reducible refine Below.trans ?_ (Below.mono (by assumption) ?_)) | (with_reducible exact Nat.le_refl _) | omega | (simp; omega) | (simp; done))))).more (by (first | omega | (simp; done) | (simp; omega))))).mono ?_
    rintro e w1 ⟨rfl, hb1⟩
    have hW1 : Below (w.heap.size + 1 + 1) ((w.alloc (.cells #[.slice A1 qs.length c1, .slice A2 cs.length c2] 25)).alloc (.cells #[.slice none 0 0, .slice none 0 0] 25)) w1 := hb1.mono (by simp)
    have hB1 : Below w.heap.size w w1 := by (repeat' (first | (with_reducible exact Below.refl _ _) | (with_reducible refine Below.alloc ?_ ?_ _) | (with_reducible refine Below.drew ?_) | (with_reducible refine below_drewN ?_ _) | (with_reducible refine Below.setCell ?_ ?_ _) | (with_reducible refine Below.trans ?_ (Below.mono (by assumption) ?_)) | (with_reducible exact Nat.le_refl _) | omega | (simp; omega) | (simp; done)))
    have tb : Two w.heap.size (.slice A1 qs.length c1) (.slice A2 cs.length c2) w1 := Two.below (W := ((w.alloc (.cells #[.slice A1 qs.length c1, .slice A2 cs.length c2] 25)).alloc (.cells #[.slice none 0 0, .slice none 0 0] 25))) ⟨by simp; omega, by simp [go_sem], by simp [go_sem]⟩ hb1
    have tr : Two (w.heap.size + 1) (.slice none 0 0) (.slice none 0 0) w1 := Two.below (W := ((w.alloc (.cells #[.slice A1 qs.length c1, .slice A2 cs.length c2] 25)).alloc (.cells #[.slice none 0 0, .slice none 0 0] 25))) ⟨by simp, by simp [go_sem], by simp [go_sem]⟩ hb1
    have FB : Hid (w1.frozen? ⟨w.heap.size, 1, none⟩ = false) := (hW1.frozen (p := ⟨w.heap.size, 1, none⟩) (by show w.heap.size < _; omega)).trans (by simp [go_sem])
    have f0 : w1.frozen? ⟨w.heap.size + 1, 0, none⟩ = false := (hW1.frozen (p := ⟨w.heap.size + 1, 0, none⟩) (by show w.heap.size + 1 < _; omega)).trans (by simp [go_sem])
    have f1 : w1.frozen? ⟨w.heap.size + 1, 1, none⟩ = false := (hW1.frozen (p := ⟨w.heap.size + 1, 1, none⟩) (by show w.heap.size + 1 < _; omega)).trans (by simp [go_sem])
    have q1 := tb.c1
    have hl := tb.lt
    have r0 := tr.c0
    have r1 := tr.c1
    have rl := tr.lt
    clear hW1 hb1
    go_wp2_with fail
    obtain ⟨t0, t1⟩ := two_cells r0 r1 (.slice none 0 0) (.slice none 0 0)
    have hB5 := below_two hB1 (show w.heap.size ≤ w.heap.size + 1 by omega) (.slice none 0 0) (.slice none 0 0)
    generalize ((w1.setCell ⟨w.heap.size + 1, 0, none⟩ (.slice none 0 0)).setCell ⟨w.heap.size + 1, 1, none⟩ (.slice none 0 0)) = w5 at *
    refine bodyPost_ret (v := .tuple #[.agg #[.slice none 0 0, .slice none 0 0], .int .i64 1]) (by simp [results, Tryd.results38, go_sem, t0, t1]) rfl ⟨_, _, by rw [HR.out], by rw [HR.out]; exact ints_nil _ _, by rw [HR.out]; exact cons_nil _ _, hB5⟩
end Go.Proofs.YtgnlanfpholdaaaDoor

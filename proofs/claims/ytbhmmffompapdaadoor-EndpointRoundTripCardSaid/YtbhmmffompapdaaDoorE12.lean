/- Of: the caller of the iterator. -/
import Derived.Test.YtbhmmffompapdaaDoorE11
namespace Go.Proofs.YtbhmmffompapdaaDoor
open Go.RowKit Go.Shelf
attribute [local go_sem] Oper.semAt_some
theorem gkp_t {n0 nb : Nat} {A B C : World} (h : GKp n0 nb A B) (k : GKp n0 nb B C) : GKp n0 nb A C := ⟨h.1.trans k.1, k.2.trans h.2⟩
theorem gkp_b {n0 nb : Nat} {w : World} (hn : n0 ≤ w.heap.size) (hb : nb < w.heap.size) (W : World) (l : Nat) (o o' : Obj) (hl : w.heap.size ≤ l) (h : W.heap[l]? = some o) (h1 : o.isCells = false) (h2 : o.isWalk = false) : GKp n0 nb W (W.putObj l o') :=
  ⟨belowK_b hn W l o o' hl h h1 h2, (grownBy_putObj' W l o').block nb (by have := (Array.getElem?_eq_some_iff.1 h).1; omega) (fun e => by cases e; omega)⟩
def epOf (x : Int) (pre : List Nat) : List (Int × Int) := (1, x) :: pre.map fun i : Nat => ((2 : Int), (i : Int))
theorem epOf_snoc (x : Int) (pre : List Nat) (i : Nat) : epOf x (pre ++ [i]) = epOf x pre ++ [(2, (i : Int))] := by simp [epOf]
theorem epOf_len (x : Int) (pre : List Nat) : (epOf x pre).length = pre.length + 1 := by simp [epOf]
theorem ep_hit {w1 : World} {n0 : Nat} {v' : Value} {x : Int} {pre : List Nat} {i : Nat}
    (ho : w1.ownsRow n0 23 2 v' ((epOf x pre).length + 1) (epCells (epOf x pre) ++ [.int .i64 2, .int .i64 (i : Int)])) : w1.ownsRow n0 23 2 v' (epOf x (pre ++ [i])).length (epCells (epOf x (pre ++ [i]))) := by
  rw [epOf_snoc, epCells_snoc, List.length_append]
  exact ho
set_option maxRecDepth 100000 in
set_option maxHeartbeats 2000000 in
theorem of_ok_in (v : Value) (gs : List (List Int)) (x : Int) (w : World) (hg : Grps w w.heap.size v gs) (h : ofE gs x = 0) : CallsIn Fence.wide 3 Tryd.prog 14 #[v, .int .i64 x] w (OfPost gs x w) := by
  obtain ⟨h1, h2, h3⟩ := ofE_ok h
  have HL : Hid (ofL gs x = ofG gs x gs.length) := by show _ = _; rw [ofL, if_neg (by simp [h])]
  have hl8 := groupsE_len h1
  have HE := Lib.hid h
  have H1 := Lib.hid h1
  clear h h1
  have hg2 := hg
  obtain ⟨A, c, rfl, hc, hm, hA⟩ := hg2
  unfold maxLen at hm
  clear hA
  obtain ⟨i0, hi, hz0, hz1, hz2⟩ := info_parts info23
  have HI : Hid ((Tryd.prog.info? 23 = some i0) ∧ i0.zero = some (.agg #[.int .i64 0, .int .i64 0]) ∧ i0.size = 2 ∧ i0.bytes = 16) := ⟨hi, hz0, hz1, hz2⟩
  clear hi hz0 hz1 hz2
  refine callsIn_of_wp_marks Tryd.func14 rfl trivial ?_ rfl
  simp only [Tryd.ntmps14, List.size_toArray, List.length_cons, List.length_nil, Nat.reduceAdd, Nat.reduceSub, Array.replicate_succ, Array.replicate_zero, List.push_toArray, List.append_toArray, List.nil_append, List.cons_append]
  gi_wp2
  refine ⟨trivial, ?_⟩
  refine (callsIn_wide.2 (groups_any _ gs _ w.heap.size hg)).mono ?_
  rw [H1.out]
  rintro e w1 ⟨rfl, rfl⟩
  gi_wp2
  refine ⟨trivial, ?_⟩
  refine (callsIn_wide.2 (isNode_any _ _)).mono ?_
  rintro e w1 ⟨rfl, rfl⟩
  gi_wp2
  refine ⟨trivial, ?_⟩
  refine (gof_in _ _ _ _ _ _).mono ?_
  rintro e w1 ⟨rfl, rfl⟩
  gi_wp2
  have bO := (((Boxed.new (w.alloc (.cells #[.int .i64 1, .int .i64 x] 23)) 34 (.slice (some ⟨w.heap.size, 0, none⟩) 1 1)).alloc (.cells #[.slice A gs.length c] 29)).alloc (.cells #[.int .i64 x] 3))
  have bG := ((Boxed.new ((w.alloc (.cells #[.int .i64 1, .int .i64 x] 23)).alloc (.cells #[.slice (some ⟨w.heap.size, 0, none⟩) 1 1] 34)) 29 (.slice A gs.length c)).alloc (.cells #[.int .i64 x] 3))
  have bN := Boxed.new (((w.alloc (.cells #[.int .i64 1, .int .i64 x] 23)).alloc (.cells #[.slice (some ⟨w.heap.size, 0, none⟩) 1 1] 34)).alloc (.cells #[.slice A gs.length c] 29)) 3 (.int .i64 x)
  have hown0 := (((World.ownsRow_lit (e := 23) (size := 2) (base := w.heap.size) w #[.int .i64 1, .int .i64 x] 1 (Nat.le_refl _) (by simp [maxLen]) rfl).alloc (.cells #[.slice (some ⟨w.heap.size, 0, none⟩) 1 1] 34)).alloc (.cells #[.slice A gs.length c] 29)).alloc (.cells #[.int .i64 x] 3)
  have hB0 : Below w.heap.size w ((((w.alloc (.cells #[.int .i64 1, .int .i64 x] 23)).alloc (.cells #[.slice (some ⟨w.heap.size, 0, none⟩) 1 1] 34)).alloc (.cells #[.slice A gs.length c] 29)).alloc (.cells #[.int .i64 x] 3)) := by (repeat' (first | (with_reducible exact Below.refl _ _) | (with_reducible refine Below.alloc ?_ ?_ _) | (with_reducible refine Below.drew ?_) | (with_reducible refine below_drewN ?_ _) | (with_reducible refine Below.setCell ?_ ?_ _) | (with_reducible refine Below.trans ?_ (Below.mono (by assumption) ?_)) | (with_reducible exact Nat.le_refl _) | omega | (simp; omega) | (simp; done)))
  have hsz : ((((w.alloc (.cells #[.int .i64 1, .int .i64 x] 23)).alloc (.cells #[.slice (some ⟨w.heap.size, 0, none⟩) 1 1] 34)).alloc (.cells #[.slice A gs.length c] 29)).alloc (.cells #[.int .i64 x] 3)).heap.size = w.heap.size + 4 := by simp
  simp only [World.size_alloc] at bO bG bN
  generalize ((((w.alloc (.cells #[.int .i64 1, .int .i64 x] 23)).alloc (.cells #[.slice (some ⟨w.heap.size, 0, none⟩) 1 1] 34)).alloc (.cells #[.slice A gs.length c] 29)).alloc (.cells #[.int .i64 x] 3)) = W0 at *
  refine wpIn_rangeFunc_ownG (F := Fence.wide) rfl (by omega) (gf := 43) (lb := #[.pointer (some ⟨w.heap.size + 1 + 1, 0, none⟩), .pointer (some ⟨w.heap.size + 1 + 1 + 1, 0, none⟩)]) rfl trivial (enters_of Tryd.func43 (by kernel_rfl) rfl)
    (it_stops 2 (by omega) (w.heap.size + 1 + 1) (w.heap.size + 1 + 1 + 1) w.heap.size A c gs x W0 (by omega) (by omega) (by omega) bG.cell bN (hg.below hB0)) gkp_t (gkp_b (by omega) (by omega)) (Below.refl _ _) (fun _ => rfl)
    (fun pre W => (∃ v, Boxed W (w.heap.size + 1) 34 v ∧ W.ownsRow w.heap.size 23 2 v (epOf x pre).length (epCells (epOf x pre)) ∧ True) ∧ Boxed W (w.heap.size + 1 + 1 + 1) 3 (.int .i64 x) ∧ Below w.heap.size w W)
    (fun _ _ _ => False)
    (OwnFrom.and (Own.from (holdsRow_own w.heap.size (w.heap.size + 1) 34 23 2 (fun pre => (epOf x pre).length) (fun pre => epCells (epOf x pre)) (fun _ _ => True)) _) (OwnFrom.and (Own.from (boxed_own _ _ _) _) (ownFrom_below (Nat.le_refl _) (by omega))))
    (fun _ _ _ _ _ hs _ _ => hs)
    ⟨⟨_, bO, hown0, trivial⟩, bN, hB0⟩
    (fun i => { tmps := #[.slice A gs.length c, .int .i64 x, undef, undef, .slice none 0 0, .int .i64 0, .pointer (some ⟨w.heap.size + 1, 0, none⟩), .int .i64 (i : Int), .slice A gs.length c, .int .i64 0, .bool false, .int .i64 x, .bool true, .bool false, .int .i64 x, .agg #[.int .i64 1, .int .i64 x], .slice (some ⟨w.heap.size, 0, none⟩) 1 1, .slice A gs.length c, .int .i64 x, .func (.func 43) #[] #[.pointer (some ⟨w.heap.size + 1 + 1, 0, none⟩), .pointer (some ⟨w.heap.size + 1 + 1 + 1, 0, none⟩)], .int .i64 (i : Int), undef, undef, undef, undef, undef, undef], defers := [] }) ?assign ?body ?done ?stop
  case assign =>
    intro l i W K hK
    gi_wp2
    exact hK
  case body =>
    rintro l pre i W ⟨⟨v, hv, hrow, _⟩, hN, hB⟩ hlt
    have hc1 := hv.cell
    have hpl := epOf_len x pre
    have HPL : Hid ((epOf x pre).length = pre.length + 1) := hpl
    have hpl2 : (epOf x pre).length ≤ 9 := by omega
    clear hpl
    gi_wp2_with (gi_at_builtin; refine wpListIn_append_own _ rfl _ _ 34 rfl w.heap.size 23 i0 (.agg #[.int .i64 0, .int .i64 0]) 2 16 Tryd.underlying34 HI.out.1 HI.out.2.1 HI.out.2.2.1 HI.out.2.2.2 rfl (by decide) _ _ _ rfl (hrow.alloc _) ⟨W.heap.size, 0, none⟩ 1 1 [.int .i64 2, .int .i64 (i : Int)] rfl rfl (cell_two_new _ _ _ _) (by simp [Value.oneCell']) (by unfold maxLen; omega) (by omega) (by have := hB.size; simp; omega) ?_; intro v' w1 hown' hgrow _; obtain ⟨g', cap', rfl⟩ := ownsRow_succ hown'; obtain ⟨hv1, hv2, hr2, hk2, hb2⟩ := hv.appended (by decide) hrow hB.size (by omega) hown' hgrow; have hc2 := hv1.cell; have hf2 := hv1.frozen)
    have hN1 : Boxed w1 (w.heap.size + 1 + 1 + 1) 3 (.int .i64 x) := (hN.alloc _).kept hgrow (hN.not_row (by decide) hrow)
    have hN2 := hN1.kept (grownBy_setCell' w1 (w.heap.size + 1) (.slice (some ⟨g', 0, none⟩) ((epOf x pre).length + 1) cap')) (by simp; omega)
    exact ⟨hk2.from _, ⟨hb2, Eq.trans hN2 (Eq.symm hN)⟩, ⟨⟨_, hv2, ep_hit hr2⟩, hN2, hB.trans hb2⟩⟩
  case done =>
    rintro D ys W hD rfl ⟨⟨v, hv, hrow, _⟩, hN, hB⟩ hK
    have hc1 := hv.cell
    gi_wp2
    refine ⟨by simp, .inl ⟨_, _, rfl, run_takeDeferred hK, ?_⟩⟩
    refine ⟨_, results_tmp2 rfl _ _ _, v, by rw [HE.out]; rfl, ?_, hB.trans (belowK_b (w := w) (Nat.le_refl _) W D _ _ (by omega) hK rfl rfl)⟩
    rw [HL.out]
    exact eps_of_own (ownsRow_putObj hrow _ hK rfl)
  case stop =>
    rintro D cc pre W _ _ h _
    exact h.elim
theorem of_bad (v : Value) (gs : List (List Int)) (x : Int) (w : World) (hg : Grps w w.heap.size v gs) (h : ofE gs x ≠ 0) : Calls Tryd.prog 14 #[v, .int .i64 x] w (OfPost gs x w) := by
  have HL : Hid (ofL gs x = []) := by show _ = _; rw [ofL, if_pos h]
  by_cases h1 : groupsE gs = 0
  · have h2 : x < 0 ∨ 16 ≤ x := by
      by_cases hh : x < 0 ∨ 16 ≤ x
      · exact hh
      · exact absurd (by simp only [ofE, h1, hh, if_false, ne_eq, not_true_eq_false]) h
    have HE : Hid (ofE gs x = 2) := by show _ = _; simp [ofE, h1, h2]
    have H1 := Lib.hid h1
    have h4 : (decide (0 ≤ x) && decide (x < 16)) = false := by simp; omega
    clear h h1
    go_enter Tryd.func14, Tryd.ntmps14
    go_wp2_with fail
    refine (groups_any _ gs _ w.heap.size hg).mono ?_
    rw [H1.out]
    rintro e w1 ⟨rfl, rfl⟩
    go_wp2_with fail
    refine (isNode_any _ _).mono ?_
    rw [h4]
    rintro e w1 ⟨rfl, rfl⟩
    go_wp2_with fail
    go_ret2
    exact ⟨_, by rw [HE.out]; rfl, by rw [HL.out]; exact eps_nil _ _, by (repeat' (first | (with_reducible exact Below.refl _ _) | (with_reducible refine Below.alloc ?_ ?_ _) | (with_reducible refine Below.drew ?_) | (with_reducible refine below_drewN ?_ _) | (with_reducible refine Below.setCell ?_ ?_ _) | (with_reducible refine Below.trans ?_ (Below.mono (by assumption) ?_)) | (with_reducible exact Nat.le_refl _) | omega | (simp; omega) | (simp; done)))⟩
  · have HE : Hid (ofE gs x = 1) := by show _ = _; simp [ofE, h1]
    have h5 : (groupsE gs != 0) = true := by simpa using h1
    clear h h1
    go_enter Tryd.func14, Tryd.ntmps14
    go_wp2_with fail
    refine (groups_any _ gs _ w.heap.size hg).mono ?_
    rintro e w1 ⟨rfl, rfl⟩
    go_wp2_with fail
    go_ret2
    exact ⟨_, by rw [HE.out]; rfl, by rw [HL.out]; exact eps_nil _ _, by (repeat' (first | (with_reducible exact Below.refl _ _) | (with_reducible refine Below.alloc ?_ ?_ _) | (with_reducible refine Below.drew ?_) | (with_reducible refine below_drewN ?_ _) | (with_reducible refine Below.setCell ?_ ?_ _) | (with_reducible refine Below.trans ?_ (Below.mono (by assumption) ?_)) | (with_reducible exact Nat.le_refl _) | omega | (simp; omega) | (simp; done)))⟩
theorem of_any (v : Value) (gs : List (List Int)) (x : Int) (w : World) (hg : Grps w w.heap.size v gs) : Calls Tryd.prog 14 #[v, .int .i64 x] w (OfPost gs x w) := by
  by_cases h : ofE gs x = 0
  · exact callsIn_wide.1 (of_ok_in v gs x w hg h)
  · exact of_bad v gs x w hg h
theorem rof_any (v : Value) (gs : List (List Int)) (x : Int) (w : World) (hg : Grps w w.heap.size v gs) : Calls Tryd.prog 19 #[v, .int .i64 x] w (OfPost gs x w) := by
  by_cases h : ofE gs x = 0
  · exact rof_ok v gs x w hg h
  · exact rof_bad v gs x w hg h
end Go.Proofs.YtbhmmffompapdaaDoor

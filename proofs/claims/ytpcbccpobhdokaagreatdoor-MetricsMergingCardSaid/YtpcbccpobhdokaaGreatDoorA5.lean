/- A row of metrics that a call owns, sorted; a value of one of them replaced. -/
import Derived.Test.YtpcbccpobhdokaaGreatDoorS6
import Derived.Test.YtpcbccpobhdokaaGreatDoorP2
import Derived.Test.YtpcbccpobhdokaaGreatDoorA2
set_option linter.unusedSimpArgs false
set_option linter.unusedVariables false
set_option linter.all false
namespace Go.Proofs.YtpcbccpobhdokaaGreatDoor
open Go.Shelf Go.RowKit Go.Lib Go.Sort
instance : Inhabited Met := ⟨mz⟩
theorem cmp_laysM (blk off size : Nat) (w : World) : CmpLays Tryz.prog 25 #[] metVals 4 cfM blk off size w := by
  intro m os dk _ x y
  refine (compare_any x.n y.n x.i y.i x.a y.a x.b y.b _).mono ?_
  rintro e w' ⟨rfl, q, os', rfl⟩
  exact ⟨rfl, q, os', rfl⟩
theorem flatM (l : List Met) : (flatK metVals 4 l.toArray).toList = metCells l := by
  have key : ∀ l : List Met, (List.range (l.length * 4)).map (fun t => (metVals l.toArray[t / 4]!)[t % 4]!) = l.flatMap metVals := by
    intro l
    induction l with
    | nil => rfl
    | cons x l ih =>
      rw [List.flatMap_cons, ← ih, show (x :: l).length * 4 = 4 + l.length * 4 by simp only [List.length_cons]; omega, List.range_add, List.map_append, List.map_map]
      congr 1
      apply List.map_congr_left
      intro t ht
      simp only [Function.comp]
      rw [show (4 + t) / 4 = t / 4 + 1 by omega, show (4 + t) % 4 = t % 4 by omega]
      simp
  have := key l
  unfold flatK metCells
  rw [← this]
  simp
theorem holds_own {w : World} {base g n cap : Nat} {l : List Met} (h : w.ownsRow base 37 4 (.slice (some ⟨g, 0, none⟩) n cap) l.length (metCells l)) : HoldsK metVals 4 w g 0 l.toArray := by
  intro j hj
  rw [size_flatK] at hj
  have hv : (metCells l)[j]? = some (flatK metVals 4 l.toArray)[j]! := by
    rw [← flatM, getElem!_pos _ j (by simpa using hj)]; simp
  refine ⟨?_, ?_⟩
  · have := h.cells (g := g) rfl j _ hv
    rwa [addr_add] at this
  · rcases h.2 with ⟨e, _⟩ | ⟨g', cap', cur, e, _, hg, _⟩
    · cases e
    · cases e
      simp [World.frozen?, hg]
theorem metAt_holds {w : World} {g : Nat} {d : Array Met} (h : HoldsK metVals 4 w g 0 d) (j : Nat) (hj : j < d.size) : MetAt w g (0 + j * 4) d[j]! := by
  have go : ∀ k (hk : k < 4), w.cell? ⟨g, 0 + (j * 4 + k), none⟩ = some ((metVals d[j]!)[k]!) := fun k hk => by
    have hb : j * 4 + k < d.size * 4 := by omega
    have := (h (j * 4 + k) (by rw [size_flatK]; exact hb)).1
    rw [get_flatK _ _ _ _ hb, show (j * 4 + k) / 4 = j by omega, show (j * 4 + k) % 4 = k by omega] at this
    exact this
  refine ⟨?_, ?_, ?_, ?_⟩
  · exact go 0 (by omega)
  · have := go 1 (by omega); rwa [← Nat.add_assoc] at this
  · have := go 2 (by omega); rwa [← Nat.add_assoc] at this
  · have := go 3 (by omega); rwa [← Nat.add_assoc] at this
theorem below_swk {w0 w' : World} {blk off base : Nat} {d : Array Met} (h : SWK metVals 4 w0 blk off d w') (hb : base ≤ blk) (hz : base ≤ w0.heap.size) : Below base w0 w' := by
  obtain ⟨m, os, rfl⟩ := h
  unfold sortWorldK putRowK putRow mapBlock grow Sort.ahead
  refine ⟨rfl, rfl, rfl, by simp, fun k hk => ?_⟩
  have h1 : k < w0.heap.size := by omega
  simp [Array.getElem?_append, h1, Array.getElem_modify, show ¬ blk = k by omega]
theorem ins_none (p : Option Addr) (cap : Nat) (fv : Value) (w : World) : Calls Tryz.prog 93 #[.slice p 0 cap, .int .i64 0, .int .i64 0, fv] w fun e w' => e = .returned (.tuple #[]) ∧ w' = w := by
  go_enter Tryz.func93, Tryz.ntmps93
  go_wp2_with fail
  refine wp_loop_rounds 1 ?_
  rw [rounds_succ]
  go_wp2_with fail
  go_end0
  exact ⟨rfl, rfl⟩
set_option maxHeartbeats 4000000 in
theorem stable_none (p : Option Addr) (cap : Nat) (fv : Value) (w : World) : Calls Tryz.prog 57 #[.slice p 0 cap, .int .i64 0, fv] w fun e w' => e = .returned (.tuple #[]) ∧ w' = w := by
  have hi := Lib.hid (fun W => ins_none p cap fv W)
  go_enter Tryz.func57, Tryz.ntmps57
  go_wp2_with fail
  refine wp_loop_rounds 1 ?_
  rw [rounds_succ]
  go_wp2_with fail
  refine (hi.out _).mono ?_
  rintro e w1 ⟨rfl, rfl⟩
  go_wp2_with fail
  refine wp_loop_rounds 1 ?_
  rw [rounds_succ]
  go_wp2_with fail
  go_end0
  exact ⟨rfl, rfl⟩
set_option maxHeartbeats 4000000 in
theorem sortStable_none (p : Option Addr) (cap : Nat) (fv : Value) (w : World) : Calls Tryz.prog 24 #[.slice p 0 cap, fv] w fun e w' => e = .returned (.tuple #[]) ∧ w' = w := by
  have hi := Lib.hid (fun W => stable_none p cap fv W)
  go_enter Tryz.func24, Tryz.ntmps24
  go_wp2_with fail
  refine (hi.out _).mono ?_
  rintro e w1 ⟨rfl, rfl⟩
  go_wp2_with fail
  go_end0
  exact ⟨rfl, rfl⟩
/-- slices.SortStableFunc on a row of the call's own -/
theorem sortM_any (base : Nat) (V : Value) (l : List Met) (w : World) (ho : w.ownsRow base 37 4 V l.length (metCells l)) (hl : l.length < 1000000000) (hz : base ≤ w.heap.size) :
    Calls Tryz.prog 24 #[V, .func (.func 25) #[] #[]] w fun e w' => e = .returned (.tuple #[]) ∧ ∃ S : List Met, S.Perm l ∧ S.Pairwise (fun x y => ¬ ltN y x) ∧ Mets w' w'.heap.size V S ∧ Below base w w' := by
  rcases ho.2 with ⟨rfl, h0⟩ | ⟨g, cap, cur, rfl, hb, hg, hn, hm, hs, ht⟩
  · obtain rfl : l = [] := List.eq_nil_of_length_eq_zero h0
    refine (sortStable_none none 0 _ w).mono ?_
    rintro e w' ⟨rfl, rfl⟩
    exact ⟨rfl, [], List.Perm.refl _, List.Pairwise.nil, mets_nil _ _, Below.refl _ _⟩
  · have hH := holds_own ho
    have hg' : g < w.heap.size := (Array.getElem?_eq_some_iff.1 hg).1
    have R : RowK metVals 4 w g 0 l.toArray := ⟨fun _ => rfl, fun x v hv => by simp [metVals] at hv; rcases hv with rfl | rfl | rfl | rfl <;> rfl, hH, hg'⟩
    refine (sortStable_any 4 Tryz.isAgg37 Tryz.sizeOf37 metVals cfM cfM_swo 25 #[] (enters_of Tryz.func25 (by kernel_rfl) rfl) g 0 cap l.length l.toArray w R (cmp_laysM g 0 _ w) (by simp) hl).mono ?_
    rintro e w' ⟨rfl, d', S, hp, hso⟩
    have hds : d'.size = l.length := by have := hp.1; simpa using this
    have hH' := S.holds hg' hH (by simpa using hds)
    refine ⟨rfl, d'.toList, ?_, ?_, ?_, below_swk S hb hz⟩
    · have h3 := hp.2.2
      have e1 : d'.extract 0 l.length = d' := by rw [← hds]; simp
      have e2 : l.toArray.extract 0 l.length = l.toArray := by simp
      rw [e1, e2] at h3
      simpa using h3
    · rw [List.pairwise_iff_getElem]
      intro i j hi hj hij
      have h4 := hso i j (Nat.zero_le _) hij (by simpa [hds] using hj)
      have e1 : d'[i]! = d'.toList[i] := by rw [getElem!_pos _ i (by simpa using hi)]; simp
      have e2 : d'[j]! = d'.toList[j] := by rw [getElem!_pos _ j (by simpa using hj)]; simp
      rw [e1, e2] at h4
      simp only [ltOf, decide_eq_false_iff_not, cf_lt] at h4
      exact h4
    · refine ⟨some ⟨g, 0, none⟩, cap, by simp [hds], by simpa [hds] using hn, hm, fun _ => ⟨g, 0, rfl, S.lt hg', fun j hj => ?_⟩⟩
      rw [Array.length_toList] at hj
      have := metAt_holds hH' j hj
      have e1 : d'.toList.getD j mz = d'[j]! := by rw [getElem!_pos _ j hj]; simp [List.getD, hj]
      rw [e1]
      exact this
/-- a cell of an own row replaced -/
theorem own_put {w : World} {base g n cap j : Nat} {e : TypeId} {size : Nat} {xs : List Value} {m : Nat} (h : w.ownsRow base e size (.slice (some ⟨g, 0, none⟩) n cap) m xs) (u : Value) : (w.setCell ⟨g, j, none⟩ u).ownsRow base e size (.slice (some ⟨g, 0, none⟩) n cap) m (xs.set j u) := by
  obtain ⟨h1, h2⟩ := h
  refine ⟨by rw [List.length_set]; exact h1, ?_⟩
  rcases h2 with ⟨e, _⟩ | ⟨g', cap', cur, e, hb, hg, hn, hm, hs, ht⟩
  · cases e
  · cases e
    refine .inr ⟨g, cap, cur.setIfInBounds j u, rfl, hb, ?_, hn, hm, by simpa using hs, ?_⟩
    · rw [setCell_eq]
      simp [mapBlock, Array.getElem?_modify, hg, onCells]
    · rw [Array.toList_setIfInBounds, ← ht, List.take_set]
end Go.Proofs.YtpcbccpobhdokaaGreatDoor

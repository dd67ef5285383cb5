/- A row of metrics that a call owns, sorted; a value of one of them replaced. -/
import Derived.Test.YtpcbccpobhdokaaGreatDoorS6
import Derived.Test.YtpcbccpobhdokaaGreatDoorP1
import Derived.Test.YtpcbccpobhdokaaGreatDoorA1
import Derived.Test.YtpcbccpobhdokaaGreatDoorE6
set_option linter.unusedSimpArgs false
set_option linter.unusedVariables false
set_option linter.all false
namespace Go.Proofs.YtpcbccpobhdokaaGreatDoor
open Go.Shelf Go.RowKit Go.Lib Go.Sort
instance : Inhabited Met := ⟨mz⟩
theorem cmp_laysM (blk off size : Nat) (w : World) : CmpLays Tryz.prog 25 #[] metVals 4 cfM blk off size w := by
  intro m os dk _ x y
  refine (compare_any x.n y.n x.i y.i x.a y.a x.b y.b _).mono ?_
  rintro e w' ⟨rfl, q, os', rfl⟩
  exact ⟨rfl, q, os', rfl⟩
theorem flatM (l : List Met) : (flatK metVals 4 l.toArray).toList = metCells l := by
  have key : ∀ l : List Met, (List.range (l.length * 4)).map (fun t => (metVals l.toArray[t / 4]!)[t % 4]!) = l.flatMap metVals := by
    intro l
    induction l with
    | nil => rfl
    | cons x l ih =>
      rw [List.flatMap_cons, ← ih, show (x :: l).length * 4 = 4 + l.length * 4 by simp only [List.length_cons]; omega, List.range_add, List.map_append, List.map_map]
      congr 1
      apply List.map_congr_left
      intro t ht
      simp only [Function.comp]
      rw [show (4 + t) / 4 = t / 4 + 1 by omega, show (4 + t) % 4 = t % 4 by omega]
      simp
  have := key l
  unfold flatK metCells
  rw [← this]
  simp
theorem holds_own {w : World} {base g n cap : Nat} {l : List Met} (h : w.ownsRow base 37 4 (.slice (some ⟨g, 0, none⟩) n cap) l.length (metCells l)) : HoldsK metVals 4 w g 0 l.toArray := by
  intro j hj
  rw [size_flatK] at hj
  have hv : (metCells l)[j]? = some (flatK metVals 4 l.toArray)[j]! := by
    rw [← flatM, getElem!_pos _ j (by simpa using hj)]; simp
  refine ⟨?_, ?_⟩
  · have := h.cells (g := g) rfl j _ hv
    rwa [addr_add] at this
  · rcases h.2 with ⟨e, _⟩ | ⟨g', cap', cur, e, _, hg, _⟩
    · cases e
    · cases e
      simp [World.frozen?, hg]
theorem metAt_holds {w : World} {g : Nat} {d : Array Met} (h : HoldsK metVals 4 w g 0 d) (j : Nat) (hj : j < d.size) : MetAt w g (0 + j * 4) d[j]! := by
  have go : ∀ k (hk : k < 4), w.cell? ⟨g, 0 + (j * 4 + k), none⟩ = some ((metVals d[j]!)[k]!) := fun k hk => by
    have hb : j * 4 + k < d.size * 4 := by omega
    have := (h (j * 4 + k) (by rw [size_flatK]; exact hb)).1
    rw [get_flatK _ _ _ _ hb, show (j * 4 + k) / 4 = j by omega, show (j * 4 + k) % 4 = k by omega] at this
    exact this
  refine ⟨?_, ?_, ?_, ?_⟩
  · exact go 0 (by omega)
  · have := go 1 (by omega); rwa [← Nat.add_assoc] at this
  · have := go 2 (by omega); rwa [← Nat.add_assoc] at this
  · have := go 3 (by omega); rwa [← Nat.add_assoc] at this
theorem below_swk {w0 w' : World} {blk off base : Nat} {d : Array Met} (h : SWK metVals 4 w0 blk off d w') (hb : base ≤ blk) (hz : base ≤ w0.heap.size) : Below base w0 w' := by
  obtain ⟨m, os, rfl⟩ := h
  unfold sortWorldK putRowK putRow mapBlock grow Sort.ahead
  refine ⟨rfl, rfl, rfl, by simp, fun k hk => ?_⟩
  have h1 : k < w0.heap.size := by omega
  simp [Array.getElem?_append, h1, Array.getElem_modify, show ¬ blk = k by omega]
theorem ins_none (p : Option Addr) (cap : Nat) (fv : Value) (w : World) : Calls Tryz.prog 93 #[.slice p 0 cap, .int .i64 0, .int .i64 0, fv] w fun e w' => e = .returned (.tuple #[]) ∧ w' = w := by
  go_enter Tryz.func93, Tryz.ntmps93
  go_wp2_with fail
  refine wp_loop_rounds 1 ?_
  rw [rounds_succ]
  go_wp2_with fail
  go_end0
  exact ⟨rfl, rfl⟩
set_option maxHeartbeats 4000000 in
theorem stable_none (p : Option Addr) (cap : Nat) (fv : Value) (w : World) : Calls Tryz.prog 57 #[.slice p 0 cap, .int .i64 0, fv] w fun e w' => e = .returned (.tuple #[]) ∧ w' = w := by
  have hi := Lib.hid (fun W => ins_none p cap fv W)
  go_enter Tryz.func57, Tryz.ntmps57
  go_wp2_with fail
  refine wp_loop_rounds 1 ?_
  rw [rounds_succ]
  go_wp2_with fail
  refine (hi.out _).mono ?_
  rintro e w1 ⟨rfl, rfl⟩
  go_wp2_with fail
  refine wp_loop_rounds 1 ?_
  rw [rounds_succ]
  go_wp2_with fail
  go_end0
  exact ⟨rfl, rfl⟩
set_option maxHeartbeats 4000000 in
theorem sortStable_none (p : Option Addr) (cap : Nat) (fv : Value) (w : World) : Calls Tryz.prog 24 #[.slice p 0 cap, fv] w fun e w' => e = .returned (.tuple #[]) ∧ w' = w := by
  have hi := Lib.hid (fun W => stable_none p cap fv W)
  go_enter Tryz.func24, Tryz.ntmps24
  go_wp2_with fail
  refine (hi.out _).mono ?_
  rintro e w1 ⟨rfl, rfl⟩
  go_wp2_with fail
  go_end0
  exact ⟨rfl, rfl⟩
theorem sortM_any (base : Nat) (V : Value) (l : List Met) (w : World) (ho : w.ownsRow base 37 4 V l.length (metCells l)) (hl : l.length < 1000000000) (hz : base ≤ w.heap.size) :
    Calls Tryz.prog 24 #[V, .func (.func 25) #[] #[]] w fun e w' => e = .returned (.tuple #[]) ∧ ∃ S : List Met, S.Perm l ∧ S.Pairwise (fun x y => ¬ ltN y x) ∧ Mets w' w'.heap.size V S ∧ Below base w w' := by
  rcases ho.2 with ⟨rfl, h0⟩ | ⟨g, cap, cur, rfl, hb, hg, hn, hm, hs, ht⟩
  · obtain rfl : l = [] := List.eq_nil_of_length_eq_zero h0
    refine (sortStable_none none 0 _ w).mono ?_
    rintro e w' ⟨rfl, rfl⟩
    exact ⟨rfl, [], List.Perm.refl _, List.Pairwise.nil, mets_nil _ _, Below.refl _ _⟩
  · have hH := holds_own ho
    have hg' : g < w.heap.size := (Array.getElem?_eq_some_iff.1 hg).1
    have R : RowK metVals 4 w g 0 l.toArray := ⟨fun _ => rfl, fun x v hv => by simp [metVals] at hv; rcases hv with rfl | rfl | rfl | rfl <;> rfl, hH, hg'⟩
    refine (sortStable_any 4 Tryz.isAgg37 Tryz.sizeOf37 metVals cfM cfM_swo 25 #[] (enters_of Tryz.func25 (by kernel_rfl) rfl) g 0 cap l.length l.toArray w R (cmp_laysM g 0 _ w) (by simp) hl).mono ?_
    rintro e w' ⟨rfl, d', S, hp, hso⟩
    have hds : d'.size = l.length := by have := hp.1; simpa using this
    have hH' := S.holds hg' hH (by simpa using hds)
    refine ⟨rfl, d'.toList, ?_, ?_, ?_, below_swk S hb hz⟩
    · have h3 := hp.2.2
      have e1 : d'.extract 0 l.length = d' := by rw [← hds]; simp
      have e2 : l.toArray.extract 0 l.length = l.toArray := by simp
      rw [e1, e2] at h3
      simpa using h3
    · rw [List.pairwise_iff_getElem]
      intro i j hi hj hij
      have h4 := hso i j (Nat.zero_le _) hij (by simpa [hds] using hj)
      have e1 : d'[i]! = d'.toList[i] := by rw [getElem!_pos _ i (by simpa using hi)]; simp
      have e2 : d'[j]! = d'.toList[j] := by rw [getElem!_pos _ j (by simpa using hj)]; simp
      rw [e1, e2] at h4
      simp only [ltOf, decide_eq_false_iff_not, cf_lt] at h4
      exact h4
    · refine ⟨some ⟨g, 0, none⟩, cap, by simp [hds], by simpa [hds] using hn, hm, fun _ => ⟨g, 0, rfl, S.lt hg', fun j hj => ?_⟩⟩
      rw [Array.length_toList] at hj
      have := metAt_holds hH' j hj
      have e1 : d'.toList.getD j mz = d'[j]! := by rw [getElem!_pos _ j hj]; simp [List.getD, hj]
      rw [e1]
      exact this
theorem own_put {w : World} {base g n cap j : Nat} {e : TypeId} {size : Nat} {xs : List Value} {m : Nat} (h : w.ownsRow base e size (.slice (some ⟨g, 0, none⟩) n cap) m xs) (u : Value) : (w.setCell ⟨g, j, none⟩ u).ownsRow base e size (.slice (some ⟨g, 0, none⟩) n cap) m (xs.set j u) := by
  obtain ⟨h1, h2⟩ := h
  refine ⟨by rw [List.length_set]; exact h1, ?_⟩
  rcases h2 with ⟨e, _⟩ | ⟨g', cap', cur, e, hb, hg, hn, hm, hs, ht⟩
  · cases e
  · cases e
    refine .inr ⟨g, cap, cur.setIfInBounds j u, rfl, hb, ?_, hn, hm, by simpa using hs, ?_⟩
    · rw [setCell_eq]
      simp [mapBlock, Array.getElem?_modify, hg, onCells]
    · rw [Array.toList_setIfInBounds, ← ht, List.take_set]
end Go.Proofs.YtpcbccpobhdokaaGreatDoor
namespace Go.Proofs.YtpcbccpobhdokaaGreatDoor
open Go.RowKit
def mergeE (a b : List Met) : Int := if chkE a ≠ 0 ∨ chkE b ≠ 0 then 1 else match mrg a b with
  | none => 5
  | some l => if l.length > 1000 then 4 else 0
def mergeL (a b : List Met) : List Met := if mergeE a b = 0 then (mrg a b).getD [] else []
def MergePost (a b : List Met) (w : World) (e : Ending) (w' : World) : Prop := ∃ V, e = .returned (.tuple #[V, .int .i64 (mergeE a b)]) ∧ Mets w' w'.heap.size V (mergeL a b) ∧ Below w.heap.size w w'
set_option maxHeartbeats 4000000 in
theorem merge_bad (a b : List Met) (V U : Value) (w : World) (ha : Mets w w.heap.size V a) (hb : Mets w w.heap.size U b) (hE : chkE a ≠ 0 ∨ chkE b ≠ 0) : Calls Tryz.prog 8 #[V, U] w (MergePost a b w) := by
  have e1 : mergeE a b = 1 := by rw [mergeE, if_pos hE]
  have e2 : mergeL a b = [] := by rw [mergeL, e1]; rfl
  unfold MergePost
  rw [e1, e2]
  clear e1 e2
  have HA := Lib.hid (check_any a V w ha)
  have HB := Lib.hid (fun (W : World) (h : Mets W W.heap.size U b) => check_any b U W h)
  have HM := Lib.hid hb
  generalize chkE a = ea at *
  generalize chkE b = eb at *
  clear ha hb
  by_cases h1 : ea = 0
  · subst h1
    have h2 : ¬ eb = 0 := by rcases hE with h | h; exact absurd rfl h; exact h
    clear hE
    go_enter Tryz.func8, Tryz.ntmps8
    go_wp2_with fail
    refine HA.out.mono ?_
    rintro e w1 ⟨rfl, hb1⟩
    have HBC := Lib.hid (HB.out w1 (HM.out.base hb1 hb1.size))
    go_wp2_with fail
    refine HBC.out.mono ?_
    rintro e w2 ⟨rfl, hb2⟩
    go_wp2_with fail
    refine bodyPost_ret (by (simp [results, Tryz.results8, go_sem, *]; try rfl)) rfl ?_
    exact ⟨_, rfl, mets_nil _ _, hb1.trans (hb2.mono hb1.size)⟩
  · clear hE
    go_enter Tryz.func8, Tryz.ntmps8
    go_wp2_with fail
    refine HA.out.mono ?_
    rintro e w1 ⟨rfl, hb1⟩
    go_wp2_with fail
    refine bodyPost_ret (by (simp [results, Tryz.results8, go_sem, *]; try rfl)) rfl ?_
    exact ⟨_, rfl, mets_nil _ _, hb1⟩
theorem chkL_asc : ∀ (l : List Met) (p : Option Met), chkL p l = 0 → Asc l ∧ ∀ y, p = some y → ∀ x ∈ l, ltN y x := by
  intro l
  induction l with
  | nil => intro p _; exact ⟨List.Pairwise.nil, fun _ _ x hx => absurd hx (by simp)⟩
  | cons x l ih =>
    intro p h
    rw [chkL] at h
    by_cases hm : metE p x = 0
    · rw [if_pos hm] at h
      obtain ⟨h1, h2⟩ := ih (some x) h
      refine ⟨List.pairwise_cons.2 ⟨h2 x rfl, h1⟩, fun y hy z hz => ?_⟩
      subst hy
      have hyx : ltN y x := by
        rw [← cf_lt]
        unfold metE at hm
        split at hm
        · cases hm
        · split at hm
          · cases hm
          · split at hm
            · rename_i h3; exact absurd hm h3
            · dsimp only at hm
              split at hm
              · cases hm
              · show cmpM y.n x.n y.i x.i < 0
                omega
      rcases List.mem_cons.1 hz with rfl | hz
      · exact hyx
      · exact ltN_trans hyx (h2 x rfl z hz)
    · rw [if_neg hm] at h
      exact absurd h hm
theorem chk_asc {l : List Met} (h : chkE l = 0) : Asc l := by
  unfold chkE at h
  split at h
  · cases h
  · exact (chkL_asc l none h).1
theorem lowR_ok {neg : Bool} {n d : Nat} (hd : 1 ≤ d) {x y : Int} (h : lowR neg n d = some (x, y)) : ratE x y = 0 := by
  unfold lowR at h
  split at h
  · cases h
  · rename_i hb
    have hg : 0 < Nat.gcd n d := Nat.gcd_pos_of_pos_right n hd
    have h1 : 1 ≤ d / Nat.gcd n d := Nat.div_pos (Nat.le_of_dvd hd (Nat.gcd_dvd_right n d)) hg
    have h2 : Nat.gcd (n / Nat.gcd n d) (d / Nat.gcd n d) = 1 := by rw [Nat.gcd_div (Nat.gcd_dvd_left n d) (Nat.gcd_dvd_right n d), Nat.div_self hg]
    generalize n / Nat.gcd n d = N at *
    generalize d / Nat.gcd n d = D at *
    injection h with h
    injection h with hx hy
    subst hx hy
    unfold ratE
    cases neg with
    | false => simp only [Bool.false_eq_true, if_false, Int.natAbs_natCast]; rw [if_neg (by omega), if_pos h2]
    | true => simp only [if_true, Int.natAbs_neg, Int.natAbs_natCast]; rw [if_neg (by omega), if_pos h2]
theorem addR_ok {a b c d x y : Int} (h1 : ratE a b = 0) (h2 : ratE c d = 0) (h : addR a b c d = some (x, y)) : ratE x y = 0 := by
  obtain ⟨_, _, p1, p2, _⟩ := ratE_ok h1
  obtain ⟨_, _, q1, q2, _⟩ := ratE_ok h2
  have := den_bound p1 p2 q1 q2
  exact lowR_ok (by omega) h
def contM (acc rest : List Met) : Option (List Met) := match acc.getLast? with
  | none => combL rest
  | some p => (comb p rest).map (acc.dropLast ++ ·)
theorem contM_nil (rest : List Met) : contM [] rest = combL rest := rfl
theorem contM_snoc (pre : List Met) (p : Met) (rest : List Met) : contM (pre ++ [p]) rest = (comb p rest).map (pre ++ ·) := by
  simp [contM]
theorem contM_first (x : Met) (rest : List Met) : contM [] (x :: rest) = contM [x] rest := by
  rw [contM_nil, show [x] = [] ++ [x] from rfl, contM_snoc]
  simp [combL]
theorem contM_next (pre : List Met) (p x : Met) (rest : List Met) (h : cfM p x ≠ 0) : contM (pre ++ [p]) (x :: rest) = contM (pre ++ [p] ++ [x]) rest := by
  rw [contM_snoc, contM_snoc, comb, if_neg h, Option.map_map]
  congr 1
  funext l
  simp
theorem contM_add (pre : List Met) (p x z : Met) (rest : List Met) (h : cfM p x = 0) (hz : addM p x = some z) : contM (pre ++ [p]) (x :: rest) = contM (pre ++ [z]) rest := by
  rw [contM_snoc, contM_snoc, comb, if_pos h, hz]
  rfl
theorem contM_bad (pre : List Met) (p x : Met) (rest : List Met) (h : cfM p x = 0) (hz : addM p x = none) : contM (pre ++ [p]) (x :: rest) = none := by
  rw [contM_snoc, comb, if_pos h, hz]
  rfl
theorem contM_end (acc : List Met) : contM acc [] = some acc := by
  rcases List.eq_nil_or_concat acc with rfl | ⟨pre, p, rfl⟩
  · rfl
  · rw [List.concat_eq_append, contM_snoc]; rfl
theorem own_slice {w : World} {base : Nat} {v : Value} {n : Nat} {xs : List Value} (h : w.ownsRow base 37 4 v n xs) : ∃ A c, v = .slice A n c := by
  rcases h.2 with ⟨rfl, h0⟩ | ⟨g, cap, cur, rfl, _⟩
  · exact ⟨none, 0, by rw [h0]⟩
  · exact ⟨_, _, rfl⟩
theorem own_last {w : World} {base n c : Nat} {A : Option Addr} {l : List Met} (h : w.ownsRow base 37 4 (.slice A n c) l.length (metCells l)) (hl : 0 < l.length) : ∃ g, A = some ⟨g, 0, none⟩ ∧ base ≤ g ∧ g < w.heap.size ∧ (∀ o, w.frozen? ⟨g, o, none⟩ = false) ∧ ∀ j, j < l.length → MetAt w g (0 + j * 4) (l.getD j mz) := by
  obtain ⟨A', c', e, _, _, h3⟩ := mets_of_own h
  rcases h.2 with ⟨e2, h0⟩ | ⟨g, cap, cur, e2, hb, hg, _⟩
  · omega
  · injection e2 with e3 e4 e5
    subst e3
    injection e with e6 _ _
    subst e6
    obtain ⟨B, o, e7, hB, hc⟩ := h3 hl
    injection e7 with e7
    injection e7 with e8 e9 _
    subst e8 e9
    exact ⟨g, rfl, hb, hB, fun o => by simp [World.frozen?, hg], hc⟩
theorem cal {w : World} {a : Addr} {v : Value} {o : Obj} (h : w.cell? a = some v) : (w.alloc o).cell? a = some v := ca h
theorem metCells_set (pre : List Met) (p : Met) (vx vy : Int) : ((metCells (pre ++ [p])).set (pre.length * 4 + 2) (.int .i64 vx)).set (pre.length * 4 + 3) (.int .i64 vy) = metCells (pre ++ [{ p with a := vx, b := vy }]) := by
  rw [metCells_snoc, metCells_snoc, List.set_append_right _ _ (by rw [metCells_len]; omega), List.set_append_right _ _ (by rw [metCells_len]; omega), metCells_len]
  congr 1
  rw [show pre.length * 4 + 2 - pre.length * 4 = 2 by omega, show pre.length * 4 + 3 - pre.length * 4 = 3 by omega]
  rfl
theorem own_put_two {w : World} {base g n c : Nat} {pre : List Met} {p : Met} {vx vy : Int} {m : Nat} (hm : pre.length = m) {acc : List Met} (ha : acc = pre ++ [p]) (h : w.ownsRow base 37 4 (.slice (some ⟨g, 0, none⟩) n c) acc.length (metCells acc)) :
    ((w.setCell ⟨g, m * 4 + 2, none⟩ (.int .i64 vx)).setCell ⟨g, m * 4 + 2 + 1, none⟩ (.int .i64 vy)).ownsRow base 37 4 (.slice (some ⟨g, 0, none⟩) n c) (pre ++ [{ p with a := vx, b := vy }]).length (metCells (pre ++ [{ p with a := vx, b := vy }])) := by
  have := own_put (own_put h (j := m * 4 + 2) (.int .i64 vx)) (j := m * 4 + 2 + 1) (.int .i64 vy)
  subst hm ha
  rw [show pre.length * 4 + 2 + 1 = pre.length * 4 + 3 from rfl] at this ⊢
  rw [metCells_set] at this
  rw [List.length_append] at this ⊢
  exact this
theorem two_other {W : World} {n b o : Nat} (h : b ≠ n) {v : Value} (hv : W.cell? ⟨b, o, none⟩ = some v) (x y : Value) : ((W.setCell ⟨n, 0, none⟩ x).setCell ⟨n, 1, none⟩ y).cell? ⟨b, o, none⟩ = some v := by
  rw [World.cell?_setCell_other _ _ _ _ (fun e => h (congrArg Addr.block e).symm), World.cell?_setCell_other _ _ _ _ (fun e => h (congrArg Addr.block e).symm)]
  exact hv
end Go.Proofs.YtpcbccpobhdokaaGreatDoor

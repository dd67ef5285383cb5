/- metrics.Merge. -/
import Derived.Test.YtpcbccpobhdokaaGreatDoorA5
import Derived.Test.YtpcbccpobhdokaaGreatDoorE6
set_option linter.unusedSimpArgs false
set_option linter.unusedVariables false
set_option linter.all false
namespace Go.Proofs.YtpcbccpobhdokaaGreatDoor
open Go.RowKit
/-- what Merge answers -/
def mergeE (a b : List Met) : Int := if chkE a ≠ 0 ∨ chkE b ≠ 0 then 1 else match mrg a b with
  | none => 5
  | some l => if l.length > 1000 then 4 else 0
def mergeL (a b : List Met) : List Met := if mergeE a b = 0 then (mrg a b).getD [] else []
def MergePost (a b : List Met) (w : World) (e : Ending) (w' : World) : Prop := ∃ V, e = .returned (.tuple #[V, .int .i64 (mergeE a b)]) ∧ Mets w' w'.heap.size V (mergeL a b) ∧ Below w.heap.size w w'
set_option maxHeartbeats 4000000 in
theorem merge_bad (a b : List Met) (V U : Value) (w : World) (ha : Mets w w.heap.size V a) (hb : Mets w w.heap.size U b) (hE : chkE a ≠ 0 ∨ chkE b ≠ 0) : Calls Tryz.prog 8 #[V, U] w (MergePost a b w) := by
  have e1 : mergeE a b = 1 := by rw [mergeE, if_pos hE]
  have e2 : mergeL a b = [] := by rw [mergeL, e1]; rfl
  unfold MergePost
  rw [e1, e2]
  clear e1 e2
  have HA := Lib.hid (check_any a V w ha)
  have HB := Lib.hid (fun (W : World) (h : Mets W W.heap.size U b) => check_any b U W h)
  have HM := Lib.hid hb
  generalize chkE a = ea at *
  generalize chkE b = eb at *
  clear ha hb
  by_cases h1 : ea = 0
  · subst h1
    have h2 : ¬ eb = 0 := by rcases hE with h | h; exact absurd rfl h; exact h
    clear hE
    go_enter Tryz.func8, Tryz.ntmps8
    go_wp2_with fail
    refine HA.out.mono ?_
    rintro e w1 ⟨rfl, hb1⟩
    have HBC := Lib.hid (HB.out w1 (HM.out.base hb1 hb1.size))
    go_wp2_with fail
    refine HBC.out.mono ?_
    rintro e w2 ⟨rfl, hb2⟩
    go_wp2_with fail
    refine bodyPost_ret (by (simp [results, Tryz.results8, go_sem, *]; try rfl)) rfl ?_
    exact ⟨_, rfl, mets_nil _ _, hb1.trans (hb2.mono hb1.size)⟩
  · clear hE
    go_enter Tryz.func8, Tryz.ntmps8
    go_wp2_with fail
    refine HA.out.mono ?_
    rintro e w1 ⟨rfl, hb1⟩
    go_wp2_with fail
    refine bodyPost_ret (by (simp [results, Tryz.results8, go_sem, *]; try rfl)) rfl ?_
    exact ⟨_, rfl, mets_nil _ _, hb1⟩
theorem chkL_asc : ∀ (l : List Met) (p : Option Met), chkL p l = 0 → Asc l ∧ ∀ y, p = some y → ∀ x ∈ l, ltN y x := by
  intro l
  induction l with
  | nil => intro p _; exact ⟨List.Pairwise.nil, fun _ _ x hx => absurd hx (by simp)⟩
  | cons x l ih =>
    intro p h
    rw [chkL] at h
    by_cases hm : metE p x = 0
    · rw [if_pos hm] at h
      obtain ⟨h1, h2⟩ := ih (some x) h
      refine ⟨List.pairwise_cons.2 ⟨h2 x rfl, h1⟩, fun y hy z hz => ?_⟩
      subst hy
      have hyx : ltN y x := by
        rw [← cf_lt]
        unfold metE at hm
        split at hm
        · cases hm
        · split at hm
          · cases hm
          · split at hm
            · rename_i h3; exact absurd hm h3
            · dsimp only at hm
              split at hm
              · cases hm
              · show cmpM y.n x.n y.i x.i < 0
                omega
      rcases List.mem_cons.1 hz with rfl | hz
      · exact hyx
      · exact ltN_trans hyx (h2 x rfl z hz)
    · rw [if_neg hm] at h
      exact absurd h hm
theorem chk_asc {l : List Met} (h : chkE l = 0) : Asc l := by
  unfold chkE at h
  split at h
  · cases h
  · exact (chkL_asc l none h).1
theorem lowR_ok {neg : Bool} {n d : Nat} (hd : 1 ≤ d) {x y : Int} (h : lowR neg n d = some (x, y)) : ratE x y = 0 := by
  unfold lowR at h
  split at h
  · cases h
  · rename_i hb
    have hg : 0 < Nat.gcd n d := Nat.gcd_pos_of_pos_right n hd
    have h1 : 1 ≤ d / Nat.gcd n d := Nat.div_pos (Nat.le_of_dvd hd (Nat.gcd_dvd_right n d)) hg
    have h2 : Nat.gcd (n / Nat.gcd n d) (d / Nat.gcd n d) = 1 := by rw [Nat.gcd_div (Nat.gcd_dvd_left n d) (Nat.gcd_dvd_right n d), Nat.div_self hg]
    generalize n / Nat.gcd n d = N at *
    generalize d / Nat.gcd n d = D at *
    injection h with h
    injection h with hx hy
    subst hx hy
    unfold ratE
    cases neg with
    | false => simp only [Bool.false_eq_true, if_false, Int.natAbs_natCast]; rw [if_neg (by omega), if_pos h2]
    | true => simp only [if_true, Int.natAbs_neg, Int.natAbs_natCast]; rw [if_neg (by omega), if_pos h2]
theorem addR_ok {a b c d x y : Int} (h1 : ratE a b = 0) (h2 : ratE c d = 0) (h : addR a b c d = some (x, y)) : ratE x y = 0 := by
  obtain ⟨_, _, p1, p2, _⟩ := ratE_ok h1
  obtain ⟨_, _, q1, q2, _⟩ := ratE_ok h2
  have := den_bound p1 p2 q1 q2
  exact lowR_ok (by omega) h
/-- what the list so far and the rest give -/
def contM (acc rest : List Met) : Option (List Met) := match acc.getLast? with
  | none => combL rest
  | some p => (comb p rest).map (acc.dropLast ++ ·)
theorem contM_nil (rest : List Met) : contM [] rest = combL rest := rfl
theorem contM_snoc (pre : List Met) (p : Met) (rest : List Met) : contM (pre ++ [p]) rest = (comb p rest).map (pre ++ ·) := by
  simp [contM]
theorem contM_first (x : Met) (rest : List Met) : contM [] (x :: rest) = contM [x] rest := by
  rw [contM_nil, show [x] = [] ++ [x] from rfl, contM_snoc]
  simp [combL]
theorem contM_next (pre : List Met) (p x : Met) (rest : List Met) (h : cfM p x ≠ 0) : contM (pre ++ [p]) (x :: rest) = contM (pre ++ [p] ++ [x]) rest := by
  rw [contM_snoc, contM_snoc, comb, if_neg h, Option.map_map]
  congr 1
  funext l
  simp
theorem contM_add (pre : List Met) (p x z : Met) (rest : List Met) (h : cfM p x = 0) (hz : addM p x = some z) : contM (pre ++ [p]) (x :: rest) = contM (pre ++ [z]) rest := by
  rw [contM_snoc, contM_snoc, comb, if_pos h, hz]
  rfl
theorem contM_bad (pre : List Met) (p x : Met) (rest : List Met) (h : cfM p x = 0) (hz : addM p x = none) : contM (pre ++ [p]) (x :: rest) = none := by
  rw [contM_snoc, comb, if_pos h, hz]
  rfl
theorem contM_end (acc : List Met) : contM acc [] = some acc := by
  rcases List.eq_nil_or_concat acc with rfl | ⟨pre, p, rfl⟩
  · rfl
  · rw [List.concat_eq_append, contM_snoc]; rfl
theorem own_slice {w : World} {base : Nat} {v : Value} {n : Nat} {xs : List Value} (h : w.ownsRow base 37 4 v n xs) : ∃ A c, v = .slice A n c := by
  rcases h.2 with ⟨rfl, h0⟩ | ⟨g, cap, cur, rfl, _⟩
  · exact ⟨none, 0, by rw [h0]⟩
  · exact ⟨_, _, rfl⟩
theorem own_last {w : World} {base n c : Nat} {A : Option Addr} {l : List Met} (h : w.ownsRow base 37 4 (.slice A n c) l.length (metCells l)) (hl : 0 < l.length) : ∃ g, A = some ⟨g, 0, none⟩ ∧ base ≤ g ∧ g < w.heap.size ∧ (∀ o, w.frozen? ⟨g, o, none⟩ = false) ∧ ∀ j, j < l.length → MetAt w g (0 + j * 4) (l.getD j mz) := by
  obtain ⟨A', c', e, _, _, h3⟩ := mets_of_own h
  rcases h.2 with ⟨e2, h0⟩ | ⟨g, cap, cur, e2, hb, hg, _⟩
  · omega
  · injection e2 with e3 e4 e5
    subst e3
    injection e with e6 _ _
    subst e6
    obtain ⟨B, o, e7, hB, hc⟩ := h3 hl
    injection e7 with e7
    injection e7 with e8 e9 _
    subst e8 e9
    exact ⟨g, rfl, hb, hB, fun o => by simp [World.frozen?, hg], hc⟩
theorem cal {w : World} {a : Addr} {v : Value} {o : Obj} (h : w.cell? a = some v) : (w.alloc o).cell? a = some v := ca h
theorem metCells_set (pre : List Met) (p : Met) (vx vy : Int) : ((metCells (pre ++ [p])).set (pre.length * 4 + 2) (.int .i64 vx)).set (pre.length * 4 + 3) (.int .i64 vy) = metCells (pre ++ [{ p with a := vx, b := vy }]) := by
  rw [metCells_snoc, metCells_snoc, List.set_append_right _ _ (by rw [metCells_len]; omega), List.set_append_right _ _ (by rw [metCells_len]; omega), metCells_len]
  congr 1
  rw [show pre.length * 4 + 2 - pre.length * 4 = 2 by omega, show pre.length * 4 + 3 - pre.length * 4 = 3 by omega]
  rfl
theorem own_put_two {w : World} {base g n c : Nat} {pre : List Met} {p : Met} {vx vy : Int} {m : Nat} (hm : pre.length = m) {acc : List Met} (ha : acc = pre ++ [p]) (h : w.ownsRow base 37 4 (.slice (some ⟨g, 0, none⟩) n c) acc.length (metCells acc)) :
    ((w.setCell ⟨g, m * 4 + 2, none⟩ (.int .i64 vx)).setCell ⟨g, m * 4 + 2 + 1, none⟩ (.int .i64 vy)).ownsRow base 37 4 (.slice (some ⟨g, 0, none⟩) n c) (pre ++ [{ p with a := vx, b := vy }]).length (metCells (pre ++ [{ p with a := vx, b := vy }])) := by
  have := own_put (own_put h (j := m * 4 + 2) (.int .i64 vx)) (j := m * 4 + 2 + 1) (.int .i64 vy)
  subst hm ha
  rw [show pre.length * 4 + 2 + 1 = pre.length * 4 + 3 from rfl] at this ⊢
  rw [metCells_set] at this
  rw [List.length_append] at this ⊢
  exact this
theorem two_other {W : World} {n b o : Nat} (h : b ≠ n) {v : Value} (hv : W.cell? ⟨b, o, none⟩ = some v) (x y : Value) : ((W.setCell ⟨n, 0, none⟩ x).setCell ⟨n, 1, none⟩ y).cell? ⟨b, o, none⟩ = some v := by
  rw [World.cell?_setCell_other _ _ _ _ (fun e => h (congrArg Addr.block e).symm), World.cell?_setCell_other _ _ _ _ (fun e => h (congrArg Addr.block e).symm)]
  exact hv
end Go.Proofs.YtpcbccpobhdokaaGreatDoor

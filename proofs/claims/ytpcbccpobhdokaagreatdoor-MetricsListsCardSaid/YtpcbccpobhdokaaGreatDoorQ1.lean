/- The plain law: to merge with one more is one step. -/
import Derived.Test.YtpcbccpobhdokaaGreatDoorP1
import Derived.Test.YtpcbccpobhdokaaGreatDoorB1
import Derived.Test.YtpcbccpobhdokaaGreatDoorA8
set_option linter.unusedSimpArgs false
set_option linter.unusedVariables false
set_option linter.all false
namespace Go.Proofs.YtpcbccpobhdokaaGreatDoor
def stepM : List Met → Met → Option (List Met)
  | [], y => some [y]
  | x :: a, y => if cfM x y < 0 then (stepM a y).map (x :: ·) else if cfM x y = 0 then (addM x y).map (· :: a) else some (y :: x :: a)
theorem stepM_lt {x y : Met} {a : List Met} (h : ltN x y) : stepM (x :: a) y = (stepM a y).map (x :: ·) := by
  rw [stepM, if_pos (cf_lt.2 h)]
theorem stepM_all : ∀ (b : List Met) (y : Met), (∀ u ∈ b, ltN u y) → stepM b y = some (b ++ [y])
  | [], _, _ => rfl
  | x :: b, y, h => by
    rw [stepM_lt (h x (by simp)), stepM_all b y (fun u hu => h u (by simp [hu]))]
    rfl
theorem step_map {y x : Met} (h : ltN x y) : ∀ o : Option (List Met), (o.bind (stepM · y)).map (x :: ·) = (o.map (x :: ·)).bind (stepM · y)
  | none => rfl
  | some l => by
    show (stepM l y).map (x :: ·) = stepM (x :: l) y
    rw [stepM_lt h]
theorem mrg_step : ∀ (n : Nat) (a b : List Met) (y : Met), a.length + b.length = n → (∀ u ∈ b, ltN u y) → mrg a (b ++ [y]) = (mrg a b).bind (stepM · y) := by
  intro n
  induction n using Nat.strongRecOn with
  | ind n ih =>
    intro a b y hn hb
    cases a with
    | nil =>
      rw [mrg, mrg]
      exact (stepM_all b y hb).symm
    | cons x a =>
      cases b with
      | nil =>
        have h1 := ih (a.length + 0) (by simp at hn; omega) a [] y rfl (by simp)
        rw [mrg_nil_right] at h1
        rw [mrg_nil_right (x :: a)]
        show mrg (x :: a) [y] = stepM (x :: a) y
        have h2 : mrg a [y] = stepM a y := h1
        rw [mrg, stepM, h2]
        by_cases c1 : cfM x y < 0
        · rw [if_pos c1, if_pos c1]
        · rw [if_neg c1, if_neg c1]
          by_cases c2 : cfM x y = 0
          · rw [if_pos c2, if_pos c2]
            cases addM x y with
            | none => rfl
            | some z =>
              show (mrg a []).map (z :: ·) = some (z :: a)
              rw [mrg_nil_right]; rfl
          · rw [if_neg c2, if_neg c2, mrg_nil_right]; rfl
      | cons z b =>
        have hz := hb z (by simp)
        have hbb : ∀ u ∈ b, ltN u y := fun u hu => hb u (by simp [hu])
        simp only [List.length_cons] at hn
        show mrg (x :: a) (z :: (b ++ [y])) = _
        rw [mrg, mrg]
        by_cases c1 : cfM x z < 0
        · rw [if_pos c1, if_pos c1]
          have h1 := ih (a.length + (b.length + 1)) (by omega) a (z :: b) y rfl hb
          have h2 : mrg a (z :: (b ++ [y])) = (mrg a (z :: b)).bind (stepM · y) := h1
          rw [h2, step_map (ltN_trans (cf_lt.1 c1) hz)]
        · rw [if_neg c1, if_neg c1]
          by_cases c2 : cfM x z = 0
          · rw [if_pos c2, if_pos c2]
            cases ha : addM x z with
            | none => rfl
            | some w =>
              have hw : ltN w y := sk_ltN ((addM_sk ha).trans (cf_eq.1 c2)) hz
              show (mrg a (b ++ [y])).map (w :: ·) = ((mrg a b).map (w :: ·)).bind (stepM · y)
              rw [ih (a.length + b.length) (by omega) a b y rfl hbb, step_map hw]
          · rw [if_neg c2, if_neg c2, ih (a.length + 1 + b.length) (by omega) (x :: a) b y rfl hbb, step_map hz]
end Go.Proofs.YtpcbccpobhdokaaGreatDoor
namespace Go.Proofs.YtpcbccpobhdokaaGreatDoor
def setL : List Met → Met → Option (List Met × Bool)
  | [], _ => some ([], false)
  | x :: a, y => if hitM y.n y.i x = true then (addM x y).bind fun z => (setL a y).map fun p => (z :: p.1, true) else (setL a y).map fun p => (x :: p.1, p.2)
def posL : List Met → Met → Nat
  | [], _ => 0
  | x :: a, y => if lessB x y = true then posL a y + 1 else 0
def insL (l : List Met) (y : Met) : List Met := (l.take (posL l y) ++ [y]) ++ l.drop (posL l y)
def refS (l : List Met) (y : Met) : Option (List Met) := (setL l y).map fun p => if p.2 = true then p.1 else insL p.1 y
theorem hit_iff (x y : Met) : hitM y.n y.i x = true ↔ skM x y := by
  unfold hitM skM
  simp
theorem setL_none : ∀ (l : List Met) (y : Met), (∀ u ∈ l, ¬ skM u y) → setL l y = some (l, false)
  | [], _, _ => rfl
  | x :: a, y, h => by
    rw [setL, if_neg (fun h2 => h x (by simp) ((hit_iff x y).1 h2)), setL_none a y (fun u hu => h u (by simp [hu]))]
    rfl
theorem posL_le : ∀ (l : List Met) (y : Met), posL l y ≤ l.length
  | [], _ => Nat.le_refl _
  | x :: a, y => by
    rw [posL]
    have := posL_le a y
    split
    · simp only [List.length_cons]; omega
    · exact Nat.zero_le _
theorem insL_lt {x y : Met} {a : List Met} (h : ltN x y) : insL (x :: a) y = x :: insL a y := by
  unfold insL
  rw [posL, if_pos ((lessB_iff x y).2 h)]
  rfl
theorem insL_ge {x y : Met} {a : List Met} (h : ¬ ltN x y) : insL (x :: a) y = y :: x :: a := by
  unfold insL
  rw [posL, if_neg (fun h2 => h ((lessB_iff x y).1 h2))]
  rfl
theorem refS_step : ∀ (l : List Met) (y : Met), Asc l → refS l y = stepM l y
  | [], y, _ => rfl
  | x :: a, y, h => by
    have hx : ∀ u ∈ a, ltN x u := fun u hu => (List.pairwise_cons.1 h).1 u hu
    have ih := refS_step a y (List.pairwise_cons.1 h).2
    unfold refS at ih ⊢
    rw [stepM]
    rcases cf_cases x y with ⟨c, hc⟩ | ⟨c, hc⟩ | ⟨c, hc⟩
    · rw [if_pos c, setL, if_neg (fun h2 => sk_not ((hit_iff x y).1 h2) hc), ← ih]
      cases setL a y with
      | none => rfl
      | some p =>
        obtain ⟨p1, p2⟩ := p
        cases p2 with
        | true => rfl
        | false => exact congrArg some (insL_lt hc)
    · rw [if_neg (by omega), if_pos c, setL, if_pos ((hit_iff x y).2 hc), setL_none a y (fun u hu h2 => sk_not (hc.trans h2.symm) (hx u hu))]
      cases addM x y with
      | none => rfl
      | some z => rfl
    · have hn : ∀ u ∈ x :: a, ¬ skM u y := by
        intro u hu h2
        rcases List.mem_cons.1 hu with rfl | hu
        · exact sk_not h2.symm hc
        · exact sk_not h2.symm (ltN_trans hc (hx u hu))
      rw [if_neg (by omega), if_neg (by omega), setL_none (x :: a) y hn]
      exact congrArg some (insL_ge (ltN_asymm hc))
def refM : List Met → List Met → Option (List Met)
  | l, [] => some l
  | l, y :: b => (refS l y).bind fun m => refM m b
theorem refM_snoc : ∀ (b l : List Met) (y : Met), refM l (b ++ [y]) = (refM l b).bind (refS · y)
  | [], l, y => by
    show (refS l y).bind (fun m => some m) = refS l y
    cases refS l y <;> rfl
  | z :: b, l, y => by
    show (refS l z).bind (fun m => refM m (b ++ [y])) = ((refS l z).bind fun m => refM m b).bind (refS · y)
    cases refS l z with
    | none => rfl
    | some m => exact refM_snoc b m y
end Go.Proofs.YtpcbccpobhdokaaGreatDoor
namespace Go.Proofs.YtpcbccpobhdokaaGreatDoor
theorem stepM_asc : ∀ (l m : List Met) (y : Met), Asc l → stepM l y = some m → Asc m ∧ ∀ p, ltN p y → (∀ u ∈ l, ltN p u) → ∀ u ∈ m, ltN p u
  | [], m, y, _, hm => by
    obtain rfl := Option.some.inj hm
    exact ⟨List.pairwise_singleton _ _, fun p hp _ u hu => by
      rw [List.mem_singleton] at hu
      exact hu ▸ hp⟩
  | x :: a, m, y, h, hm => by
    have hx := List.pairwise_cons.1 h
    rw [stepM] at hm
    rcases cf_cases x y with ⟨c, hc⟩ | ⟨c, hc⟩ | ⟨c, hc⟩
    · rw [if_pos c, Option.map_eq_some_iff] at hm
      obtain ⟨t, ht, rfl⟩ := hm
      obtain ⟨i1, i2⟩ := stepM_asc a t y hx.2 ht
      refine ⟨List.pairwise_cons.2 ⟨i2 x hc hx.1, i1⟩, fun p hp hl u hu => ?_⟩
      rcases List.mem_cons.1 hu with rfl | hu
      · exact hl _ (by simp)
      · exact i2 p hp (fun v hv => hl v (by simp [hv])) u hu
    · rw [if_neg (by omega), if_pos c, Option.map_eq_some_iff] at hm
      obtain ⟨z, hz, rfl⟩ := hm
      have hk := addM_sk hz
      refine ⟨List.pairwise_cons.2 ⟨fun u hu => sk_ltN hk (hx.1 u hu), hx.2⟩, fun p _ hl u hu => ?_⟩
      rcases List.mem_cons.1 hu with rfl | hu
      · exact ltN_sk (hl x (by simp)) hk.symm
      · exact hl u (by simp [hu])
    · rw [if_neg (by omega), if_neg (by omega)] at hm
      obtain rfl := Option.some.inj hm
      refine ⟨List.pairwise_cons.2 ⟨fun u hu => ?_, h⟩, fun p hp hl u hu => ?_⟩
      · rcases List.mem_cons.1 hu with rfl | hu
        · exact hc
        · exact ltN_trans hc (hx.1 u hu)
      · rcases List.mem_cons.1 hu with rfl | hu
        · exact hp
        · exact hl u hu
theorem refM_take {b : List Met} {k : Nat} (h : k < b.length) (l : List Met) : refM l (b.take (k + 1)) = (refM l (b.take k)).bind (refS · (b.getD k mz)) := by
  have e : b.take (k + 1) = b.take k ++ [b.getD k mz] := by
    rw [List.take_succ_eq_append_getElem h, List.getD_eq_getElem?_getD, List.getElem?_eq_getElem h]
    rfl
  rw [e, refM_snoc]
theorem refM_none {b : List Met} : ∀ (k : Nat) (l : List Met), refM l (b.take k) = none → refM l b = none := by
  induction b with
  | nil => intro k l h; cases k <;> exact h
  | cons y b ih =>
    intro k l h
    cases k with
    | zero => cases h
    | succ k =>
      rw [List.take_succ_cons, refM] at h
      rw [refM]
      cases hs : refS l y with
      | none => rfl
      | some m =>
        rw [hs] at h
        exact ih k m h
theorem pre_asc : ∀ (b : List Met) (y : Met), Asc (b ++ [y]) → Asc b ∧ ∀ u ∈ b, ltN u y := fun b y h => by
  obtain ⟨h1, _, h3⟩ := List.pairwise_append.1 h
  exact ⟨h1, fun u hu => h3 u hu y (by simp)⟩
theorem refM_mrg (a : List Met) (ha : Asc a) : ∀ (n : Nat) (b : List Met), b.length = n → Asc b → refM a b = mrg a b ∧ ∀ l, mrg a b = some l → Asc l
  | 0, b, hn, _ => by
    obtain rfl := List.length_eq_zero_iff.1 hn
    rw [mrg_nil_right]
    exact ⟨rfl, fun l h => Option.some.inj h ▸ ha⟩
  | n + 1, b, hn, hb => by
    have hne : b ≠ [] := fun h => by rw [h] at hn; cases hn
    have e : b = b.dropLast ++ [b.getLast hne] := (List.dropLast_concat_getLast hne).symm
    have hlen : b.dropLast.length = n := by rw [List.length_dropLast]; omega
    generalize b.getLast hne = y at e
    generalize b.dropLast = t at e hlen
    subst e
    obtain ⟨h1, h2⟩ := pre_asc t y hb
    obtain ⟨i1, i2⟩ := refM_mrg a ha n t hlen h1
    rw [refM_snoc, i1, mrg_step _ a t y rfl h2]
    cases hm : mrg a t with
    | none => exact ⟨rfl, fun l h => by cases h⟩
    | some l =>
      have hl := i2 l hm
      exact ⟨refS_step l y hl, fun m h => (stepM_asc l m y hl h).1⟩
end Go.Proofs.YtpcbccpobhdokaaGreatDoor
namespace Go.Proofs.YtpcbccpobhdokaaGreatDoor
def Inner (l : List Met) (y : Met) (k : Nat) (p : List Met) (f : Bool) : Prop := p.length = k ∧ setL l y = (setL (l.drop k) y).map fun q => (p ++ q.1, f || q.2)
theorem inner_start (l : List Met) (y : Met) : Inner l y 0 [] false := by
  refine ⟨rfl, ?_⟩
  rw [List.drop_zero]
  cases setL l y with
  | none => rfl
  | some q => simp
theorem inner_skip {l : List Met} {y : Met} {k : Nat} {p : List Met} {f : Bool} (hk : k < l.length) (h : Inner l y k p f) (hn : hitM y.n y.i (l.getD k mz) = false) : Inner l y (k + 1) (p ++ [l.getD k mz]) f := by
  obtain ⟨h1, h2⟩ := h
  refine ⟨by simp [h1], ?_⟩
  rw [h2, drop_get l k hk, setL, if_neg (by rw [hn]; simp), Option.map_map]
  congr 1
  funext q
  simp
theorem inner_hit {l : List Met} {y z : Met} {k : Nat} {p : List Met} {f : Bool} (hk : k < l.length) (h : Inner l y k p f) (hn : hitM y.n y.i (l.getD k mz) = true) (hz : addM (l.getD k mz) y = some z) : Inner l y (k + 1) (p ++ [z]) true := by
  obtain ⟨h1, h2⟩ := h
  refine ⟨by simp [h1], ?_⟩
  rw [h2, drop_get l k hk, setL, if_pos hn, hz]
  show ((setL (l.drop (k + 1)) y).map _).map _ = _
  rw [Option.map_map]
  congr 1
  funext q
  simp
theorem inner_bad {l : List Met} {y : Met} {k : Nat} {p : List Met} {f : Bool} (hk : k < l.length) (h : Inner l y k p f) (hn : hitM y.n y.i (l.getD k mz) = true) (hz : addM (l.getD k mz) y = none) : refS l y = none := by
  obtain ⟨h1, h2⟩ := h
  rw [refS, h2, drop_get l k hk, setL, if_pos hn, hz]
  rfl
theorem inner_end {l : List Met} {y : Met} {p : List Met} {f : Bool} (h : Inner l y l.length p f) : refS l y = some (if f = true then p else insL p y) := by
  obtain ⟨h1, h2⟩ := h
  rw [List.drop_length] at h2
  rw [refS, h2]
  show some (if (f || false) = true then p ++ [] else insL (p ++ []) y) = _
  rw [Bool.or_false, List.append_nil]
theorem addM_ok {x y z : Met} (h1 : ratE x.a x.b = 0) (h2 : ratE y.a y.b = 0) (h : addM x y = some z) : ratE z.a z.b = 0 := by
  unfold addM at h
  rw [Option.map_eq_some_iff] at h
  obtain ⟨r, hr, rfl⟩ := h
  exact addR_ok h1 h2 hr
theorem insL_mem {l : List Met} {y x : Met} (h : x ∈ insL l y) : x ∈ l ∨ x = y := by
  unfold insL at h
  rcases List.mem_append.1 h with h | h
  · rcases List.mem_append.1 h with h | h
    · exact .inl (List.mem_of_mem_take h)
    · exact .inr (List.mem_singleton.1 h)
  · exact .inl (List.mem_of_mem_drop h)
theorem insL_len (l : List Met) (y : Met) : (insL l y).length = l.length + 1 := by
  unfold insL
  have := posL_le l y
  simp only [List.length_append, List.length_take, List.length_drop, List.length_cons, List.length_nil]
  omega
theorem posL_step {l : List Met} {y : Met} {k : Nat} (hk : k < l.length) (h : posL l y = k + posL (l.drop k) y) (hl : lessB (l.getD k mz) y = true) : posL l y = (k + 1) + posL (l.drop (k + 1)) y := by
  rw [h, drop_get l k hk, posL, if_pos hl]
  omega
theorem posL_stop {l : List Met} {y : Met} {k : Nat} (hk : k < l.length) (h : posL l y = k + posL (l.drop k) y) (hl : lessB (l.getD k mz) y = false) : posL l y = k := by
  rw [h, drop_get l k hk, posL, if_neg (by rw [hl]; simp)]
  rfl
theorem posL_last {l : List Met} {y : Met} (h : posL l y = l.length + posL (l.drop l.length) y) : posL l y = l.length := by
  rw [h, List.drop_length]
  rfl
theorem metCells_set2 (pre : List Met) (p : Met) (rest : List Met) (vx vy : Int) : ((metCells (pre ++ p :: rest)).set (pre.length * 4 + 2) (.int .i64 vx)).set (pre.length * 4 + 3) (.int .i64 vy) = metCells (pre ++ (⟨p.n, p.i, vx, vy⟩ : Met) :: rest) := by
  have e : ∀ (q : Met), metCells (pre ++ q :: rest) = metCells pre ++ (metVals q ++ metCells rest) := fun q => by simp [metCells]
  rw [e, e, List.set_append_right _ _ (by rw [metCells_len]; omega), List.set_append_right _ _ (by rw [metCells_len]; omega), metCells_len]
  congr 1
  rw [show pre.length * 4 + 2 - pre.length * 4 = 2 by omega, show pre.length * 4 + 3 - pre.length * 4 = 3 by omega]
  rfl
theorem own_put_mid {w : World} {base g n c : Nat} {pre rest : List Met} {p : Met} {vx vy : Int} {m : Nat} (hm : pre.length = m) (h : w.ownsRow base 37 4 (.slice (some ⟨g, 0, none⟩) n c) n (metCells (pre ++ p :: rest))) :
    ((w.setCell ⟨g, m * 4 + 2, none⟩ (.int .i64 vx)).setCell ⟨g, m * 4 + 2 + 1, none⟩ (.int .i64 vy)).ownsRow base 37 4 (.slice (some ⟨g, 0, none⟩) n c) n (metCells (pre ++ (⟨p.n, p.i, vx, vy⟩ : Met) :: rest)) := by
  have := own_put (own_put h (j := m * 4 + 2) (.int .i64 vx)) (j := m * 4 + 2 + 1) (.int .i64 vy)
  subst hm
  rw [show pre.length * 4 + 2 + 1 = pre.length * 4 + 3 from rfl] at this ⊢
  rw [metCells_set2] at this
  exact this
end Go.Proofs.YtpcbccpobhdokaaGreatDoor

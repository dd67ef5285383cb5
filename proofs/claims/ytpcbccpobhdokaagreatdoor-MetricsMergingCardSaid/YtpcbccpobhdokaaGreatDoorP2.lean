/- Plain: how two lists of metrics are merged. -/
import Derived.Test.YtpcbccpobhdokaaGreatDoorE7
import Derived.Test.YtpcbccpobhdokaaGreatDoorA3
import Derived.Sort.LotA
import Derived.Shelf.SlSortCmp.Insertion
set_option linter.unusedSimpArgs false
set_option linter.unusedVariables false
set_option linter.all false
namespace Go.Proofs.YtpcbccpobhdokaaGreatDoor
open Go.Sort Go.Shelf
/-- metrics by name, then index -/
def cfM (x y : Met) : Int := cmpM x.n y.n x.i y.i
def ltN (x y : Met) : Prop := x.n.toList < y.n.toList ∨ (x.n.toList = y.n.toList ∧ x.i < y.i)
def skM (x y : Met) : Prop := x.n.toList = y.n.toList ∧ x.i = y.i
theorem bl_eq : ∀ (x y : List UInt8), Op.bytesLess x y = decide (x < y)
  | [], [] => by simp [Op.bytesLess]
  | _ :: _, [] => by simp [Op.bytesLess]
  | [], _ :: _ => by simp [Op.bytesLess]
  | a :: x, b :: y => by
    rw [Op.bytesLess, bl_eq x y]
    simp only [List.cons_lt_cons_iff]
    by_cases h1 : a < b <;> by_cases h2 : a = b <;> by_cases h3 : x < y <;> simp [h1, h2, h3]
theorem str_irrefl (x : List UInt8) : ¬ x < x := List.lt_irrefl x
theorem str_trans {x y z : List UInt8} (h1 : x < y) (h2 : y < z) : x < z := by
  have := swo_ltStr.trans x y z (by simpa [ltStr] using h1) (by simpa [ltStr] using h2)
  simpa [ltStr] using this
theorem str_tri (x y : List UInt8) : x < y ∨ x = y ∨ y < x := by
  by_cases h1 : x < y
  · exact .inl h1
  · by_cases h2 : y < x
    · exact .inr (.inr h2)
    · exact .inr (.inl (List.le_antisymm (List.not_lt.1 h2) (List.not_lt.1 h1)))
theorem ltN_irrefl (x : Met) : ¬ ltN x x := fun h => by
  rcases h with h | ⟨_, h⟩
  · exact str_irrefl _ h
  · omega
theorem ltN_trans {x y z : Met} (h1 : ltN x y) (h2 : ltN y z) : ltN x z := by
  rcases h1 with h1 | ⟨e1, h1⟩ <;> rcases h2 with h2 | ⟨e2, h2⟩
  · exact .inl (str_trans h1 h2)
  · exact .inl (e2 ▸ h1)
  · exact .inl (e1 ▸ h2)
  · exact .inr ⟨e1.trans e2, by omega⟩
theorem ltN_asymm {x y : Met} (h1 : ltN x y) : ¬ ltN y x := fun h2 => ltN_irrefl x (ltN_trans h1 h2)
theorem ltN_sk {x y z : Met} (h1 : ltN x y) (h2 : skM y z) : ltN x z := by
  rcases h1 with h1 | ⟨e1, h1⟩
  · exact .inl (h2.1 ▸ h1)
  · exact .inr ⟨e1.trans h2.1, by have := h2.2; omega⟩
theorem sk_ltN {x y z : Met} (h1 : skM x y) (h2 : ltN y z) : ltN x z := by
  rcases h2 with h2 | ⟨e2, h2⟩
  · exact .inl (h1.1 ▸ h2)
  · exact .inr ⟨h1.1.trans e2, by have := h1.2; omega⟩
theorem skM.symm {x y : Met} (h : skM x y) : skM y x := ⟨h.1.symm, h.2.symm⟩
theorem skM.trans {x y z : Met} (h : skM x y) (h' : skM y z) : skM x z := ⟨h.1.trans h'.1, h.2.trans h'.2⟩
theorem sk_not {x y : Met} (h : skM x y) : ¬ ltN x y := fun h2 => ltN_irrefl y (sk_ltN h.symm h2)
theorem cf_cases (x y : Met) : (cfM x y < 0 ∧ ltN x y) ∨ (cfM x y = 0 ∧ skM x y) ∨ (0 < cfM x y ∧ ltN y x) := by
  unfold cfM cmpM orI cmpS cmpI ltN skM
  rw [bl_eq]
  rcases str_tri x.n.toList y.n.toList with h | h | h
  · left; simp [h]
  · rw [h]
    have : ¬ y.n.toList < y.n.toList := str_irrefl _
    rcases Int.lt_trichotomy x.i y.i with h1 | h1 | h1
    · left; simp [this, h1]
    · right; left; simp [this, h1]
    · right; right; simp [this, h1, show ¬ x.i < y.i by omega]
  · right; right
    have h1 : ¬ x.n.toList < y.n.toList := fun h2 => str_irrefl _ (str_trans h h2)
    have h2 : ¬ x.n.toList = y.n.toList := fun h2 => str_irrefl _ (h2 ▸ h)
    simp [h, h1, h2]
theorem cf_lt {x y : Met} : cfM x y < 0 ↔ ltN x y := by
  rcases cf_cases x y with ⟨h, h'⟩ | ⟨h, h'⟩ | ⟨h, h'⟩
  · exact ⟨fun _ => h', fun _ => h⟩
  · exact ⟨fun _ => by omega, fun h2 => absurd h2 (sk_not h')⟩
  · exact ⟨fun _ => by omega, fun h2 => absurd h2 (ltN_asymm h')⟩
theorem cf_eq {x y : Met} : cfM x y = 0 ↔ skM x y := by
  rcases cf_cases x y with ⟨h, h'⟩ | ⟨h, h'⟩ | ⟨h, h'⟩
  · exact ⟨fun _ => by omega, fun h2 => absurd h' (sk_not h2)⟩
  · exact ⟨fun _ => h', fun _ => h⟩
  · exact ⟨fun _ => by omega, fun h2 => absurd h' (sk_not h2.symm)⟩
theorem ltN_cases (x y : Met) : ltN x y ∨ skM x y ∨ ltN y x := by
  rcases cf_cases x y with ⟨_, h⟩ | ⟨_, h⟩ | ⟨_, h⟩
  · exact .inl h
  · exact .inr (.inl h)
  · exact .inr (.inr h)
theorem cfM_swo : SWO (ltOf cfM) where
  irrefl x := by simp only [ltOf, decide_eq_false_iff_not, cf_lt]; exact ltN_irrefl x
  trans x y z h1 h2 := by
    simp only [ltOf, decide_eq_true_eq, cf_lt] at *
    exact ltN_trans h1 h2
  ntrans x y z h1 h2 := by
    simp only [ltOf, decide_eq_false_iff_not, cf_lt] at *
    intro h3
    rcases ltN_cases x y with h | h | h
    · exact h1 h
    · exact h2 (sk_ltN h.symm h3)
    · exact h2 (ltN_trans h h3)
/-- two metrics of one name and index -/
def addM (x y : Met) : Option Met := (addR x.a x.b y.a y.b).map fun r => { x with a := r.1, b := r.2 }
theorem addR_comm (a b c d : Int) : addR a b c d = addR c d a b := by
  unfold addR
  rw [Int.add_comm (a * d), Int.mul_comm b d]
theorem addM_comm {x y : Met} (h : skM x y) : addM x y = addM y x := by
  unfold addM
  rw [addR_comm]
  have e1 : x.n = y.n := (ba_list _ _).1 h.1
  obtain ⟨_, hi⟩ := h
  cases x; cases y
  simp only at e1 hi
  subst e1 hi
  rfl
theorem addM_sk {x y z : Met} (h : addM x y = some z) : skM z x := by
  unfold addM at h
  rw [Option.map_eq_some_iff] at h
  obtain ⟨r, _, rfl⟩ := h
  exact ⟨rfl, rfl⟩
/-- what stands behind p is joined to it -/
def comb : Met → List Met → Option (List Met)
  | p, [] => some [p]
  | p, y :: l => if cfM p y = 0 then (addM p y).bind fun z => comb z l else (comb y l).map (p :: ·)
def combL : List Met → Option (List Met)
  | [] => some []
  | p :: l => comb p l
def Asc (l : List Met) : Prop := l.Pairwise ltN
def mrg : List Met → List Met → Option (List Met)
  | [], b => some b
  | x :: a, [] => some (x :: a)
  | x :: a, y :: b => if cfM x y < 0 then (mrg a (y :: b)).map (x :: ·) else if cfM x y = 0 then (addM x y).bind (fun z => (mrg a b).map (z :: ·)) else (mrg (x :: a) b).map (y :: ·)
termination_by a b => a.length + b.length
theorem comb_lt {p : Met} {l : List Met} (h : ∀ u ∈ l, ltN p u) : comb p l = (combL l).map (p :: ·) := by
  cases l with
  | nil => rfl
  | cons u t =>
    rw [comb, if_neg (fun h2 => sk_not (cf_eq.1 h2) (h u (by simp)))]
    rfl
theorem mrg_nil_right (a : List Met) : mrg a [] = some a := by cases a <;> simp [mrg]
/-- whatever the order among equals, what is sorted is joined alike -/
theorem comb_mrg : ∀ (n : Nat) (s a b : List Met), s.length = n → Asc a → Asc b → s.Perm (a ++ b) → s.Pairwise (fun x y => ¬ ltN y x) → combL s = mrg a b := by
  intro n
  induction n using Nat.strongRecOn with
  | _ n ih =>
    intro s a b hn ha hb hp hs
    cases s with
    | nil =>
      have h0 := hp.length_eq
      simp only [List.length_nil, List.length_append] at h0
      obtain rfl : a = [] := List.eq_nil_of_length_eq_zero (by omega)
      obtain rfl : b = [] := List.eq_nil_of_length_eq_zero (by omega)
      simp [combL, mrg]
    | cons z s =>
      rw [List.pairwise_cons] at hs
      obtain ⟨hz, hs⟩ := hs
      simp only [List.length_cons] at hn
      have hzm : z ∈ a ++ b := hp.subset (by simp)
      -- z is the least
      have least : ∀ u ∈ a ++ b, ¬ ltN u z := fun u hu => by
        have := hp.symm.subset hu
        rcases List.mem_cons.1 this with rfl | h
        · exact ltN_irrefl _
        · exact hz u h
      have headB : ∀ y b', b = y :: b' → z ∈ b → z = y := fun y b' e h2 => by
        subst e
        rcases List.mem_cons.1 h2 with h | h
        · exact h
        · exact absurd ((List.pairwise_cons.1 hb).1 z h) (least y (by simp))
      have headA : ∀ x a', a = x :: a' → z ∈ a → z = x := fun x a' e h2 => by
        subst e
        rcases List.mem_cons.1 h2 with h | h
        · exact h
        · exact absurd ((List.pairwise_cons.1 ha).1 z h) (least x (by simp))
      match a, b, ha, hb, hp, hzm, least, headA, headB with
      | [], [], _, _, _, hzm, _, _, _ => simp at hzm
      | [], y :: b', _, hb, hp, hzm, least, _, headB =>
        obtain rfl := headB y b' rfl (by simpa using hzm)
        have hp' : s.Perm ([] ++ b') := (List.perm_cons z).1 hp
        have hb' := List.pairwise_cons.1 hb
        have hu : ∀ u ∈ s, ltN z u := fun u hu => hb'.1 u (by simpa using hp'.subset hu)
        show comb z s = _
        rw [comb_lt hu, ih s.length (by omega) s [] b' rfl List.Pairwise.nil hb'.2 hp' hs]
        simp [mrg]
      | x :: a', [], ha, _, hp, hzm, least, headA, _ =>
        obtain rfl := headA x a' rfl (by simpa using hzm)
        have hp' : s.Perm (a' ++ []) := (List.perm_cons z).1 hp
        have ha' := List.pairwise_cons.1 ha
        have hu : ∀ u ∈ s, ltN z u := fun u hu => ha'.1 u (by simpa using hp'.subset hu)
        show comb z s = _
        rw [comb_lt hu, ih s.length (by omega) s a' [] rfl ha'.2 List.Pairwise.nil hp' hs]
        rw [mrg_nil_right, mrg_nil_right]; rfl
      | x :: a', y :: b', ha, hb, hp, hzm, least, headA, headB =>
        have ha' := List.pairwise_cons.1 ha
        have hb' := List.pairwise_cons.1 hb
        have hpy : (x :: a' ++ y :: b').Perm (y :: (x :: a' ++ b')) := List.perm_middle
        rcases cf_cases x y with ⟨hc, hl⟩ | ⟨hc, hl⟩ | ⟨hc, hl⟩
        · have hzx : z = x := by
            rcases List.mem_append.1 hzm with h | h
            · exact headA x a' rfl h
            · have e := headB y b' rfl h
              subst e
              exact absurd hl (least x (by simp))
          subst hzx
          have hp' : s.Perm (a' ++ y :: b') := (List.perm_cons z).1 hp
          have hu : ∀ u ∈ s, ltN z u := fun u hu => by
            rcases List.mem_append.1 (hp'.subset hu) with h | h
            · exact ha'.1 u h
            · rcases List.mem_cons.1 h with rfl | h
              · exact hl
              · exact ltN_trans hl (hb'.1 u h)
          show comb z s = _
          rw [comb_lt hu, ih s.length (by omega) s a' (y :: b') rfl ha'.2 hb hp' hs]
          rw [mrg, if_pos hc]
        · have hrest : ∀ u ∈ a' ++ b', ltN x u := fun u hu => by
            rcases List.mem_append.1 hu with h | h
            · exact ha'.1 u h
            · exact sk_ltN hl (hb'.1 u h)
          rw [mrg, if_neg (by omega), if_pos hc]
          -- the other one of the two comes next
          have next : ∀ (p q : Met), skM p q → (∀ u ∈ a' ++ b', ltN p u) → s.Perm (q :: (a' ++ b')) → z = p → combL (z :: s) = (addM p q).bind fun w => (mrg a' b').map (w :: ·) := by
            intro p q hpq hpu hperm hzp
            subst hzp
            cases s with
            | nil => exact absurd hperm.length_eq (by simp)
            | cons v t =>
              have hv := List.pairwise_cons.1 hs
              have hvq : v = q := by
                have hm : v ∈ q :: (a' ++ b') := hperm.subset (by simp)
                rcases List.mem_cons.1 hm with h | h
                · exact h
                · have hq : q ∈ v :: t := hperm.symm.subset (by simp)
                  rcases List.mem_cons.1 hq with h2 | h2
                  · exact h2.symm
                  · exact absurd (sk_ltN hpq.symm (hpu v h)) (hv.1 q h2)
              subst hvq
              have hp2 : t.Perm (a' ++ b') := List.Perm.cons_inv hperm
              show comb z (v :: t) = _
              rw [comb, if_pos (cf_eq.2 hpq)]
              cases hadd : addM z v with
              | none => rfl
              | some w =>
                show comb w t = (mrg a' b').map (w :: ·)
                rw [comb_lt (fun u hu => sk_ltN (addM_sk hadd) (hpu u (hp2.subset hu)))]
                rw [ih t.length (by simp at hn; omega) t a' b' rfl ha'.2 hb'.2 hp2 hv.2]
          rcases List.mem_append.1 hzm with h | h
          · have hzx := headA x a' rfl h
            refine next x y hl hrest ?_ hzx
            subst hzx
            have h1 : (z :: s).Perm (z :: (a' ++ y :: b')) := by simpa using hp
            exact (List.Perm.cons_inv h1).trans List.perm_middle
          · have hzy := headB y b' rfl h
            rw [addM_comm hl]
            refine next y x hl.symm (fun u hu => sk_ltN hl.symm (hrest u hu)) ?_ hzy
            subst hzy
            have h1 : (z :: s).Perm (z :: (x :: (a' ++ b'))) := hp.trans (by simpa using hpy)
            exact List.Perm.cons_inv h1
        · have hzy : z = y := by
            rcases List.mem_append.1 hzm with h | h
            · have e := headA x a' rfl h
              subst e
              exact absurd hl (least y (by simp))
            · exact headB y b' rfl h
          subst hzy
          have hp' : s.Perm (x :: a' ++ b') := List.Perm.cons_inv (hp.trans hpy)
          have hu : ∀ u ∈ s, ltN z u := fun u hu => by
            rcases List.mem_append.1 (hp'.subset hu) with h | h
            · rcases List.mem_cons.1 h with rfl | h
              · exact hl
              · exact ltN_trans hl (ha'.1 u h)
            · exact hb'.1 u h
          show comb z s = _
          rw [comb_lt hu, ih s.length (by omega) s (x :: a') b' rfl ha hb'.2 hp' hs]
          rw [mrg, if_neg (by omega), if_neg (by omega)]
end Go.Proofs.YtpcbccpobhdokaaGreatDoor

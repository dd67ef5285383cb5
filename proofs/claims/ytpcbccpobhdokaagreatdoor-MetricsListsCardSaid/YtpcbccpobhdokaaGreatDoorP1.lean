/- Plain: how two lists of metrics are merged. -/
import Derived.Test.YtpcbccpobhdokaaGreatDoorE7
import Derived.Test.YtpcbccpobhdokaaGreatDoorA3
import Derived.Sort.LotA
import Derived.Shelf.SlSortCmp.Insertion
import Derived.Lib.DecodeN
import Derived.Lib.Itoa
set_option linter.unusedSimpArgs false
set_option linter.unusedVariables false
set_option linter.all false
namespace Go.Proofs.YtpcbccpobhdokaaGreatDoor
open Go.Sort Go.Shelf
def cfM (x y : Met) : Int := cmpM x.n y.n x.i y.i
def ltN (x y : Met) : Prop := x.n.toList < y.n.toList ∨ (x.n.toList = y.n.toList ∧ x.i < y.i)
def skM (x y : Met) : Prop := x.n.toList = y.n.toList ∧ x.i = y.i
theorem bl_eq : ∀ (x y : List UInt8), Op.bytesLess x y = decide (x < y)
  | [], [] => by simp [Op.bytesLess]
  | _ :: _, [] => by simp [Op.bytesLess]
  | [], _ :: _ => by simp [Op.bytesLess]
  | a :: x, b :: y => by
    rw [Op.bytesLess, bl_eq x y]
    simp only [List.cons_lt_cons_iff]
    by_cases h1 : a < b <;> by_cases h2 : a = b <;> by_cases h3 : x < y <;> simp [h1, h2, h3]
theorem str_irrefl (x : List UInt8) : ¬ x < x := List.lt_irrefl x
theorem str_trans {x y z : List UInt8} (h1 : x < y) (h2 : y < z) : x < z := by
  have := swo_ltStr.trans x y z (by simpa [ltStr] using h1) (by simpa [ltStr] using h2)
  simpa [ltStr] using this
theorem str_tri (x y : List UInt8) : x < y ∨ x = y ∨ y < x := by
  by_cases h1 : x < y
  · exact .inl h1
  · by_cases h2 : y < x
    · exact .inr (.inr h2)
    · exact .inr (.inl (List.le_antisymm (List.not_lt.1 h2) (List.not_lt.1 h1)))
theorem ltN_irrefl (x : Met) : ¬ ltN x x := fun h => by
  rcases h with h | ⟨_, h⟩
  · exact str_irrefl _ h
  · omega
theorem ltN_trans {x y z : Met} (h1 : ltN x y) (h2 : ltN y z) : ltN x z := by
  rcases h1 with h1 | ⟨e1, h1⟩ <;> rcases h2 with h2 | ⟨e2, h2⟩
  · exact .inl (str_trans h1 h2)
  · exact .inl (e2 ▸ h1)
  · exact .inl (e1 ▸ h2)
  · exact .inr ⟨e1.trans e2, by omega⟩
theorem ltN_asymm {x y : Met} (h1 : ltN x y) : ¬ ltN y x := fun h2 => ltN_irrefl x (ltN_trans h1 h2)
theorem ltN_sk {x y z : Met} (h1 : ltN x y) (h2 : skM y z) : ltN x z := by
  rcases h1 with h1 | ⟨e1, h1⟩
  · exact .inl (h2.1 ▸ h1)
  · exact .inr ⟨e1.trans h2.1, by have := h2.2; omega⟩
theorem sk_ltN {x y z : Met} (h1 : skM x y) (h2 : ltN y z) : ltN x z := by
  rcases h2 with h2 | ⟨e2, h2⟩
  · exact .inl (h1.1 ▸ h2)
  · exact .inr ⟨h1.1.trans e2, by have := h1.2; omega⟩
theorem skM.symm {x y : Met} (h : skM x y) : skM y x := ⟨h.1.symm, h.2.symm⟩
theorem skM.trans {x y z : Met} (h : skM x y) (h' : skM y z) : skM x z := ⟨h.1.trans h'.1, h.2.trans h'.2⟩
theorem sk_not {x y : Met} (h : skM x y) : ¬ ltN x y := fun h2 => ltN_irrefl y (sk_ltN h.symm h2)
theorem cf_cases (x y : Met) : (cfM x y < 0 ∧ ltN x y) ∨ (cfM x y = 0 ∧ skM x y) ∨ (0 < cfM x y ∧ ltN y x) := by
  unfold cfM cmpM orI cmpS cmpI ltN skM
  rw [bl_eq]
  rcases str_tri x.n.toList y.n.toList with h | h | h
  · left; simp [h]
  · rw [h]
    have : ¬ y.n.toList < y.n.toList := str_irrefl _
    rcases Int.lt_trichotomy x.i y.i with h1 | h1 | h1
    · left; simp [this, h1]
    · right; left; simp [this, h1]
    · right; right; simp [this, h1, show ¬ x.i < y.i by omega]
  · right; right
    have h1 : ¬ x.n.toList < y.n.toList := fun h2 => str_irrefl _ (str_trans h h2)
    have h2 : ¬ x.n.toList = y.n.toList := fun h2 => str_irrefl _ (h2 ▸ h)
    simp [h, h1, h2]
theorem cf_lt {x y : Met} : cfM x y < 0 ↔ ltN x y := by
  rcases cf_cases x y with ⟨h, h'⟩ | ⟨h, h'⟩ | ⟨h, h'⟩
  · exact ⟨fun _ => h', fun _ => h⟩
  · exact ⟨fun _ => by omega, fun h2 => absurd h2 (sk_not h')⟩
  · exact ⟨fun _ => by omega, fun h2 => absurd h2 (ltN_asymm h')⟩
theorem cf_eq {x y : Met} : cfM x y = 0 ↔ skM x y := by
  rcases cf_cases x y with ⟨h, h'⟩ | ⟨h, h'⟩ | ⟨h, h'⟩
  · exact ⟨fun _ => by omega, fun h2 => absurd h' (sk_not h2)⟩
  · exact ⟨fun _ => h', fun _ => h⟩
  · exact ⟨fun _ => by omega, fun h2 => absurd h' (sk_not h2.symm)⟩
theorem ltN_cases (x y : Met) : ltN x y ∨ skM x y ∨ ltN y x := by
  rcases cf_cases x y with ⟨_, h⟩ | ⟨_, h⟩ | ⟨_, h⟩
  · exact .inl h
  · exact .inr (.inl h)
  · exact .inr (.inr h)
theorem cfM_swo : SWO (ltOf cfM) where
  irrefl x := by simp only [ltOf, decide_eq_false_iff_not, cf_lt]; exact ltN_irrefl x
  trans x y z h1 h2 := by
    simp only [ltOf, decide_eq_true_eq, cf_lt] at *
    exact ltN_trans h1 h2
  ntrans x y z h1 h2 := by
    simp only [ltOf, decide_eq_false_iff_not, cf_lt] at *
    intro h3
    rcases ltN_cases x y with h | h | h
    · exact h1 h
    · exact h2 (sk_ltN h.symm h3)
    · exact h2 (ltN_trans h h3)
def addM (x y : Met) : Option Met := (addR x.a x.b y.a y.b).map fun r => { x with a := r.1, b := r.2 }
theorem addR_comm (a b c d : Int) : addR a b c d = addR c d a b := by
  unfold addR
  rw [Int.add_comm (a * d), Int.mul_comm b d]
theorem addM_comm {x y : Met} (h : skM x y) : addM x y = addM y x := by
  unfold addM
  rw [addR_comm]
  have e1 : x.n = y.n := (ba_list _ _).1 h.1
  obtain ⟨_, hi⟩ := h
  cases x; cases y
  simp only at e1 hi
  subst e1 hi
  rfl
theorem addM_sk {x y z : Met} (h : addM x y = some z) : skM z x := by
  unfold addM at h
  rw [Option.map_eq_some_iff] at h
  obtain ⟨r, _, rfl⟩ := h
  exact ⟨rfl, rfl⟩
def comb : Met → List Met → Option (List Met)
  | p, [] => some [p]
  | p, y :: l => if cfM p y = 0 then (addM p y).bind fun z => comb z l else (comb y l).map (p :: ·)
def combL : List Met → Option (List Met)
  | [] => some []
  | p :: l => comb p l
def Asc (l : List Met) : Prop := l.Pairwise ltN
def mrg : List Met → List Met → Option (List Met)
  | [], b => some b
  | x :: a, [] => some (x :: a)
  | x :: a, y :: b => if cfM x y < 0 then (mrg a (y :: b)).map (x :: ·) else if cfM x y = 0 then (addM x y).bind (fun z => (mrg a b).map (z :: ·)) else (mrg (x :: a) b).map (y :: ·)
termination_by a b => a.length + b.length
theorem comb_lt {p : Met} {l : List Met} (h : ∀ u ∈ l, ltN p u) : comb p l = (combL l).map (p :: ·) := by
  cases l with
  | nil => rfl
  | cons u t =>
    rw [comb, if_neg (fun h2 => sk_not (cf_eq.1 h2) (h u (by simp)))]
    rfl
theorem mrg_nil_right (a : List Met) : mrg a [] = some a := by cases a <;> simp [mrg]
theorem comb_mrg : ∀ (n : Nat) (s a b : List Met), s.length = n → Asc a → Asc b → s.Perm (a ++ b) → s.Pairwise (fun x y => ¬ ltN y x) → combL s = mrg a b := by
  intro n
  induction n using Nat.strongRecOn with
  | _ n ih =>
    intro s a b hn ha hb hp hs
    cases s with
    | nil =>
      have h0 := hp.length_eq
      simp only [List.length_nil, List.length_append] at h0
      obtain rfl : a = [] := List.eq_nil_of_length_eq_zero (by omega)
      obtain rfl : b = [] := List.eq_nil_of_length_eq_zero (by omega)
      simp [combL, mrg]
    | cons z s =>
      rw [List.pairwise_cons] at hs
      obtain ⟨hz, hs⟩ := hs
      simp only [List.length_cons] at hn
      have hzm : z ∈ a ++ b := hp.subset (by simp)
      have least : ∀ u ∈ a ++ b, ¬ ltN u z := fun u hu => by
        have := hp.symm.subset hu
        rcases List.mem_cons.1 this with rfl | h
        · exact ltN_irrefl _
        · exact hz u h
      have headB : ∀ y b', b = y :: b' → z ∈ b → z = y := fun y b' e h2 => by
        subst e
        rcases List.mem_cons.1 h2 with h | h
        · exact h
        · exact absurd ((List.pairwise_cons.1 hb).1 z h) (least y (by simp))
      have headA : ∀ x a', a = x :: a' → z ∈ a → z = x := fun x a' e h2 => by
        subst e
        rcases List.mem_cons.1 h2 with h | h
        · exact h
        · exact absurd ((List.pairwise_cons.1 ha).1 z h) (least x (by simp))
      match a, b, ha, hb, hp, hzm, least, headA, headB with
      | [], [], _, _, _, hzm, _, _, _ => simp at hzm
      | [], y :: b', _, hb, hp, hzm, least, _, headB =>
        obtain rfl := headB y b' rfl (by simpa using hzm)
        have hp' : s.Perm ([] ++ b') := (List.perm_cons z).1 hp
        have hb' := List.pairwise_cons.1 hb
        have hu : ∀ u ∈ s, ltN z u := fun u hu => hb'.1 u (by simpa using hp'.subset hu)
        show comb z s = _
        rw [comb_lt hu, ih s.length (by omega) s [] b' rfl List.Pairwise.nil hb'.2 hp' hs]
        simp [mrg]
      | x :: a', [], ha, _, hp, hzm, least, headA, _ =>
        obtain rfl := headA x a' rfl (by simpa using hzm)
        have hp' : s.Perm (a' ++ []) := (List.perm_cons z).1 hp
        have ha' := List.pairwise_cons.1 ha
        have hu : ∀ u ∈ s, ltN z u := fun u hu => ha'.1 u (by simpa using hp'.subset hu)
        show comb z s = _
        rw [comb_lt hu, ih s.length (by omega) s a' [] rfl ha'.2 List.Pairwise.nil hp' hs]
        rw [mrg_nil_right, mrg_nil_right]; rfl
      | x :: a', y :: b', ha, hb, hp, hzm, least, headA, headB =>
        have ha' := List.pairwise_cons.1 ha
        have hb' := List.pairwise_cons.1 hb
        have hpy : (x :: a' ++ y :: b').Perm (y :: (x :: a' ++ b')) := List.perm_middle
        rcases cf_cases x y with ⟨hc, hl⟩ | ⟨hc, hl⟩ | ⟨hc, hl⟩
        · have hzx : z = x := by
            rcases List.mem_append.1 hzm with h | h
            · exact headA x a' rfl h
            · have e := headB y b' rfl h
              subst e
              exact absurd hl (least x (by simp))
          subst hzx
          have hp' : s.Perm (a' ++ y :: b') := (List.perm_cons z).1 hp
          have hu : ∀ u ∈ s, ltN z u := fun u hu => by
            rcases List.mem_append.1 (hp'.subset hu) with h | h
            · exact ha'.1 u h
            · rcases List.mem_cons.1 h with rfl | h
              · exact hl
              · exact ltN_trans hl (hb'.1 u h)
          show comb z s = _
          rw [comb_lt hu, ih s.length (by omega) s a' (y :: b') rfl ha'.2 hb hp' hs]
          rw [mrg, if_pos hc]
        · have hrest : ∀ u ∈ a' ++ b', ltN x u := fun u hu => by
            rcases List.mem_append.1 hu with h | h
            · exact ha'.1 u h
            · exact sk_ltN hl (hb'.1 u h)
          rw [mrg, if_neg (by omega), if_pos hc]
          have next : ∀ (p q : Met), skM p q → (∀ u ∈ a' ++ b', ltN p u) → s.Perm (q :: (a' ++ b')) → z = p → combL (z :: s) = (addM p q).bind fun w => (mrg a' b').map (w :: ·) := by
            intro p q hpq hpu hperm hzp
            subst hzp
            cases s with
            | nil => exact absurd hperm.length_eq (by simp)
            | cons v t =>
              have hv := List.pairwise_cons.1 hs
              have hvq : v = q := by
                have hm : v ∈ q :: (a' ++ b') := hperm.subset (by simp)
                rcases List.mem_cons.1 hm with h | h
                · exact h
                · have hq : q ∈ v :: t := hperm.symm.subset (by simp)
                  rcases List.mem_cons.1 hq with h2 | h2
                  · exact h2.symm
                  · exact absurd (sk_ltN hpq.symm (hpu v h)) (hv.1 q h2)
              subst hvq
              have hp2 : t.Perm (a' ++ b') := List.Perm.cons_inv hperm
              show comb z (v :: t) = _
              rw [comb, if_pos (cf_eq.2 hpq)]
              cases hadd : addM z v with
              | none => rfl
              | some w =>
                show comb w t = (mrg a' b').map (w :: ·)
                rw [comb_lt (fun u hu => sk_ltN (addM_sk hadd) (hpu u (hp2.subset hu)))]
                rw [ih t.length (by simp at hn; omega) t a' b' rfl ha'.2 hb'.2 hp2 hv.2]
          rcases List.mem_append.1 hzm with h | h
          · have hzx := headA x a' rfl h
            refine next x y hl hrest ?_ hzx
            subst hzx
            have h1 : (z :: s).Perm (z :: (a' ++ y :: b')) := by simpa using hp
            exact (List.Perm.cons_inv h1).trans List.perm_middle
          · have hzy := headB y b' rfl h
            rw [addM_comm hl]
            refine next y x hl.symm (fun u hu => sk_ltN hl.symm (hrest u hu)) ?_ hzy
            subst hzy
            have h1 : (z :: s).Perm (z :: (x :: (a' ++ b'))) := hp.trans (by simpa using hpy)
            exact List.Perm.cons_inv h1
        · have hzy : z = y := by
            rcases List.mem_append.1 hzm with h | h
            · have e := headA x a' rfl h
              subst e
              exact absurd hl (least y (by simp))
            · exact headB y b' rfl h
          subst hzy
          have hp' : s.Perm (x :: a' ++ b') := List.Perm.cons_inv (hp.trans hpy)
          have hu : ∀ u ∈ s, ltN z u := fun u hu => by
            rcases List.mem_append.1 (hp'.subset hu) with h | h
            · rcases List.mem_cons.1 h with rfl | h
              · exact hl
              · exact ltN_trans hl (ha'.1 u h)
            · exact hb'.1 u h
          show comb z s = _
          rw [comb_lt hu, ih s.length (by omega) s (x :: a') b' rfl ha hb'.2 hp' hs]
          rw [mrg, if_neg (by omega), if_neg (by omega)]
end Go.Proofs.YtpcbccpobhdokaaGreatDoor
namespace Go.Proofs.YtpcbccpobhdokaaGreatDoor
theorem decode_big (s : ByteArray) (i : Nat) : if (s.get! i).toNat < 128 then Utf8.decode s i = ((s.get! i).toNat, 1) else 128 ≤ (Utf8.decode s i).1 := by
  rw [Lib.decode_at]
  generalize (s.get! i).toNat = b0
  unfold Lib.decodeN
  by_cases h : b0 < 128
  · rw [if_pos h, if_pos h]
  · rw [if_neg h, if_neg h]
    repeat' split
    all_goals simp only
    all_goals omega
def lowB (b : UInt8) : Prop := 97 ≤ b.toNat ∧ b.toNat ≤ 122
theorem idx_from (s : ByteArray) : ∀ (f pos : Nat), s.size ≤ pos + f → (Lib.idxFuncFrom offR true s f pos < 0 ↔ ∀ j, pos ≤ j → j < s.size → lowB (s.get! j))
  | 0, pos, h => by
    rw [Lib.idxFuncFrom]
    exact ⟨fun _ j h1 h2 => by omega, fun _ => by omega⟩
  | f + 1, pos, h => by
    rw [Lib.idxFuncFrom]
    by_cases hp : pos < s.size
    · rw [if_pos hp]
      have hd := decode_big s pos
      by_cases hb : (s.get! pos).toNat < 128
      · rw [if_pos hb] at hd
        rw [hd]
        by_cases hl : lowB (s.get! pos)
        · have ho : ¬ offR (s.get! pos).toNat = true := by
            have := hl.1; have := hl.2
            simp [offR]; omega
          rw [if_neg ho, idx_from s f (pos + 1) (by omega)]
          constructor
          · intro hh j h1 h2
            by_cases e : j = pos
            · rw [e]; exact hl
            · exact hh j (by omega) h2
          · intro hh j h1 h2
            exact hh j (by omega) h2
        · have ho : offR (s.get! pos).toNat = true := by
            unfold lowB at hl
            simp [offR]; omega
          rw [if_pos ho]
          constructor
          · intro hh; omega
          · intro hh; exact absurd (hh pos (Nat.le_refl _) hp) hl
      · rw [if_neg hb] at hd
        have ho : offR (Utf8.decode s pos).1 = true := by simp [offR]; omega
        rw [if_pos ho]
        constructor
        · intro hh; omega
        · intro hh
          have := (hh pos (Nat.le_refl _) hp).2
          omega
    · rw [if_neg hp]
      exact ⟨fun _ j h1 h2 => by omega, fun _ => by omega⟩
theorem get_mem (s : ByteArray) (b : UInt8) : b ∈ s.data.toList ↔ ∃ j, j < s.size ∧ s.get! j = b := by
  rw [List.mem_iff_getElem]
  constructor
  · rintro ⟨j, hj, rfl⟩
    have hj2 : j < s.data.size := by simpa using hj
    refine ⟨j, hj2, ?_⟩
    show s.data[j]! = _
    rw [getElem!_pos s.data j hj2]; simp
  · rintro ⟨j, hj, rfl⟩
    have hj2 : j < s.data.size := hj
    refine ⟨j, by simpa using hj2, ?_⟩
    show _ = s.data[j]!
    rw [getElem!_pos s.data j hj2]; simp
theorem idx_low (s : ByteArray) : Lib.idxFunc offR true s < 0 ↔ ∀ b ∈ s.data.toList, lowB b := by
  rw [Lib.idxFunc, idx_from s s.size 0 (by omega)]
  constructor
  · intro h b hb
    obtain ⟨j, h1, rfl⟩ := (get_mem s b).1 hb
    exact h j (Nat.zero_le _) h1
  · intro h j _ hj
    exact h _ ((get_mem s _).2 ⟨j, hj, rfl⟩)
theorem name_iff (s : ByteArray) : nameB s = true ↔ 1 ≤ s.size ∧ s.size ≤ 24 ∧ ∀ b ∈ s.data.toList, lowB b := by
  rw [← idx_low]
  simp only [nameB, Bool.and_eq_true, decide_eq_true_eq, and_assoc]
/-! ### numbers -/
theorem digits_all (u : Nat) : ∀ x ∈ Lib.decDigits u, 48 ≤ x.toNat ∧ x.toNat ≤ 57 := by
  induction u using Nat.strongRecOn with
  | _ u ih =>
    have hd : ∀ m : Nat, (UInt8.ofNat (48 + m % 10)).toNat = 48 + m % 10 := fun m => by simp; omega
    by_cases h : u < 10
    · rw [Lib.decDigits_one h]
      intro x hx
      have := hd u
      rw [Nat.mod_eq_of_lt h] at this
      rw [List.mem_singleton.1 hx, this]; omega
    · rw [Lib.decDigits, dif_neg h]
      intro x hx
      rcases List.mem_append.1 hx with hx | hx
      · exact ih (u / 10) (by omega) x hx
      · have := hd u
        rw [List.mem_singleton.1 hx, this]; omega
def valD (l : List UInt8) : Nat := l.foldl (fun n b => n * 10 + (b.toNat - 48)) 0
theorem val_digits (u : Nat) : valD (Lib.decDigits u) = u := by
  induction u using Nat.strongRecOn with
  | _ u ih =>
    have hd : ∀ m : Nat, (UInt8.ofNat (48 + m % 10)).toNat = 48 + m % 10 := fun m => by simp; omega
    by_cases h : u < 10
    · rw [Lib.decDigits_one h]
      have := hd u
      rw [Nat.mod_eq_of_lt h] at this
      simp only [valD, List.foldl_cons, List.foldl_nil, this]; omega
    · rw [Lib.decDigits, dif_neg h]
      have h1 := ih (u / 10) (by omega)
      unfold valD at h1 ⊢
      rw [List.foldl_append, h1]
      simp only [List.foldl_cons, List.foldl_nil, hd u]; omega
theorem itoa_cases (n : Int) : (0 ≤ n ∧ Lib.itoa n = Lib.decDigits n.natAbs) ∨ (n < 0 ∧ Lib.itoa n = 45 :: Lib.decDigits n.natAbs) := by
  by_cases h : 0 ≤ n
  · refine .inl ⟨h, ?_⟩
    obtain ⟨u, rfl⟩ := Int.eq_ofNat_of_zero_le h
    rw [Lib.itoa_nonneg]; simp
  · refine .inr ⟨by omega, ?_⟩
    obtain ⟨u, rfl⟩ : ∃ u : Nat, n = -(u : Int) := ⟨n.natAbs, by omega⟩
    rw [Lib.itoa_neg u (by omega)]; simp
theorem itoa_bytes (n : Int) : ∀ x ∈ Lib.itoa n, x = 45 ∨ (48 ≤ x.toNat ∧ x.toNat ≤ 57) := by
  intro x hx
  rcases itoa_cases n with ⟨_, h⟩ | ⟨_, h⟩
  · rw [h] at hx; exact .inr (digits_all _ x hx)
  · rw [h] at hx
    rcases List.mem_cons.1 hx with rfl | hx
    · exact .inl rfl
    · exact .inr (digits_all _ x hx)
theorem itoa_inj {n m : Int} (h : Lib.itoa n = Lib.itoa m) : n = m := by
  have no : ∀ u, ∀ l, Lib.decDigits u ≠ 45 :: l := fun u l e => by
    have := digits_all u 45 (by rw [e]; simp)
    simp at this
  rcases itoa_cases n with ⟨h1, e1⟩ | ⟨h1, e1⟩ <;> rcases itoa_cases m with ⟨h2, e2⟩ | ⟨h2, e2⟩
  · rw [e1, e2] at h
    have := congrArg valD h
    rw [val_digits, val_digits] at this; omega
  · rw [e1, e2] at h; exact absurd h (no _ _)
  · rw [e1, e2] at h; exact absurd h.symm (no _ _)
  · rw [e1, e2] at h
    have := congrArg valD (List.cons.inj h).2
    rw [val_digits, val_digits] at this; omega
/-! ### texts -/
theorem cut_eq {c : UInt8} : ∀ {u u' s s' : List UInt8}, c ∉ u → c ∉ u' → u ++ c :: s = u' ++ c :: s' → u = u' ∧ s = s'
  | [], [], _, _, _, _, h => ⟨rfl, (List.cons.inj h).2⟩
  | [], y :: _, _, _, _, h', h => absurd (by rw [(List.cons.inj h).1]; simp) h'
  | x :: _, [], _, _, h', _, h => absurd (by rw [← (List.cons.inj h).1]; simp) h'
  | x :: u, y :: u', s, s', h1, h2, h => by
    obtain ⟨e1, e2⟩ := List.cons.inj h
    obtain ⟨e3, e4⟩ := cut_eq (fun hm => h1 (List.mem_cons_of_mem _ hm)) (fun hm => h2 (List.mem_cons_of_mem _ hm)) e2
    exact ⟨by rw [e1, e3], e4⟩
theorem cut_no {c : UInt8} {u v w : List UInt8} (h1 : c ∉ v) (h : u ++ c :: w = v) : False := h1 (by rw [← h]; simp)
def ratL (a b : Int) : List UInt8 := if b = 1 then Lib.itoa a else Lib.itoa a ++ 47 :: Lib.itoa b
theorem ratS_list (a b : Int) : (ratS a b).data.toList = ratL a b := by
  unfold ratS ratL itoaS
  split
  · rfl
  · simp [ByteArray.data_append]
theorem itoa_no (n : Int) (c : UInt8) (h : c = 10 ∨ c = 32 ∨ c = 47) : c ∉ Lib.itoa n := fun hm => by
  rcases itoa_bytes n c hm with e | e
  · subst e; simp at h
  · rcases h with rfl | rfl | rfl <;> simp at e
theorem ratL_no (a b : Int) (c : UInt8) (h : c = 10 ∨ c = 32) : c ∉ ratL a b := by
  have h3 : c = 10 ∨ c = 32 ∨ c = 47 := by rcases h with h | h <;> simp [h]
  unfold ratL
  split
  · exact itoa_no a c h3
  · intro hm
    rcases List.mem_append.1 hm with hm | hm
    · exact itoa_no a c h3 hm
    · rcases List.mem_cons.1 hm with e | hm
      · subst e; simp at h
      · exact itoa_no b c h3 hm
theorem ratL_inj {a b a' b' : Int} (h : ratL a b = ratL a' b') : a = a' ∧ b = b' := by
  unfold ratL at h
  by_cases h1 : b = 1 <;> by_cases h2 : b' = 1
  · rw [if_pos h1, if_pos h2] at h
    exact ⟨itoa_inj h, by rw [h1, h2]⟩
  · rw [if_pos h1, if_neg h2] at h
    exact (cut_no (itoa_no a 47 (by simp)) h.symm).elim
  · rw [if_neg h1, if_pos h2] at h
    exact (cut_no (itoa_no a' 47 (by simp)) h).elim
  · rw [if_neg h1, if_neg h2] at h
    obtain ⟨e1, e2⟩ := cut_eq (itoa_no a 47 (by simp)) (itoa_no a' 47 (by simp)) h
    exact ⟨itoa_inj e1, itoa_inj e2⟩
theorem lineL_eq (x : Met) : lineL x = x.n.data.toList ++ 32 :: (Lib.itoa x.i ++ 32 :: (ratL x.a x.b ++ [10])) := by
  unfold lineL lineB
  rw [← ratS_list]
  simp [ByteArray.data_append, itoaS]
theorem name_no {x : Met} (h : MOk x) (c : UInt8) (hc : c = 10 ∨ c = 32) : c ∉ x.n.data.toList := fun hm => by
  have := ((name_iff _).1 h.1).2.2 c hm
  unfold lowB at this
  rcases hc with rfl | rfl <;> simp at this
theorem cat_inj : ∀ {l m : List Met}, (∀ x ∈ l, MOk x) → (∀ x ∈ m, MOk x) → catL l = catL m → l = m
  | [], [], _, _, _ => rfl
  | [], y :: m, _, _, h => by
    have := congrArg List.length h
    simp [catL, lineL_eq] at this
  | x :: l, [], _, _, h => by
    have := congrArg List.length h
    simp [catL, lineL_eq] at this
  | x :: l, y :: m, h1, h2, h => by
    have e : ∀ (z : Met) (t : List Met), catL (z :: t) = z.n.data.toList ++ 32 :: (Lib.itoa z.i ++ 32 :: (ratL z.a z.b ++ 10 :: catL t)) := fun z t => by
      show lineL z ++ catL t = _
      rw [lineL_eq]; simp
    rw [e, e] at h
    obtain ⟨n1, h⟩ := cut_eq (name_no (h1 x (by simp)) 32 (by simp)) (name_no (h2 y (by simp)) 32 (by simp)) h
    obtain ⟨n2, h⟩ := cut_eq (itoa_no _ 32 (by simp)) (itoa_no _ 32 (by simp)) h
    obtain ⟨n3, h⟩ := cut_eq (ratL_no _ _ 10 (by simp)) (ratL_no _ _ 10 (by simp)) h
    obtain ⟨e3, e4⟩ := ratL_inj n3
    have e1 : x.n = y.n := by
      cases hx : x.n; cases hy : y.n
      rw [hx, hy] at n1
      simpa using n1
    have exy : x = y := (Met.ext_iff' x y).2 ⟨e1, itoa_inj n2, e3, e4⟩
    rw [exy, cat_inj (fun z hz => h1 z (List.mem_cons_of_mem _ hz)) (fun z hz => h2 z (List.mem_cons_of_mem _ hz)) h]
theorem cat_count : ∀ {l : List Met}, (∀ x ∈ l, MOk x) → (catL l).count 10 = l.length
  | [], _ => rfl
  | x :: l, h => by
    show (lineL x ++ catL l).count 10 = _
    rw [List.count_append, cat_count (fun z hz => h z (List.mem_cons_of_mem _ hz)), lineL_eq]
    simp only [List.count_append, List.count_cons, List.count_nil]
    rw [List.count_eq_zero.2 (name_no (h x (by simp)) 10 (by simp)), List.count_eq_zero.2 (itoa_no x.i 10 (by simp)), List.count_eq_zero.2 (ratL_no x.a x.b 10 (by simp))]
    simp
    omega
theorem chk_all {l : List Met} (h : chkE l = 0) : ∀ x ∈ l, MOk x := fun x hx => by
  obtain ⟨k, hk, rfl⟩ := List.mem_iff_getElem.1 hx
  have := metE_ok (chk_get h hk)
  rwa [show l.getD k mz = l[k] by simp [List.getD, hk]] at this
theorem cat_size {l : List Met} (h : chkE l = 0) : (catL l).length ≤ 91000 := by
  have h1 : ∀ m : List Met, (∀ x ∈ m, MOk x) → (catL m).length ≤ 91 * m.length := by
    intro m
    induction m with
    | nil => intro _; simp [catL]
    | cons x t ih =>
      intro hm
      have := ih (fun z hz => hm z (List.mem_cons_of_mem _ hz))
      have h2 := (hm x (by simp)).bounds.2.2.2
      show (lineL x ++ catL t).length ≤ _
      rw [List.length_append, List.length_cons]; omega
  have := h1 l (chk_all h)
  have := chk_len h
  omega
end Go.Proofs.YtpcbccpobhdokaaGreatDoor

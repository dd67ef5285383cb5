/- Plain: what Merge does to the values; it does not matter in which order. -/
import Derived.Test.YtpcbccpobhdokaaGreatDoorA8
import Derived.Test.YtpcbccpobhdokaaGreatDoorP1
set_option linter.unusedSimpArgs false
set_option linter.unusedVariables false
set_option linter.all false
namespace Go.Proofs.YtpcbccpobhdokaaGreatDoor
theorem mrg_comm : ∀ (n : Nat) (a b : List Met), a.length + b.length = n → mrg a b = mrg b a := by
  intro n
  induction n using Nat.strongRecOn with
  | _ n ih =>
    intro a b hn
    match a, b with
    | [], b => rw [mrg_nil_right]; simp [mrg]
    | x :: a, [] => rw [mrg_nil_right]; simp [mrg]
    | x :: a, y :: b =>
      simp only [List.length_cons] at hn
      rcases cf_cases x y with ⟨hc, hl⟩ | ⟨hc, hl⟩ | ⟨hc, hl⟩
      · have h1 : ¬ cfM y x < 0 := fun h => ltN_asymm hl (cf_lt.1 h)
        have h2 : ¬ cfM y x = 0 := fun h => sk_not (cf_eq.1 h).symm hl
        rw [mrg, if_pos hc, mrg, if_neg h1, if_neg h2, ih _ (by simp only [List.length_cons]; omega) a (y :: b) rfl]
      · have h1 : ¬ cfM y x < 0 := fun h => sk_not hl.symm (cf_lt.1 h)
        have h2 : cfM y x = 0 := cf_eq.2 hl.symm
        rw [mrg, if_neg (by omega), if_pos hc, mrg, if_neg h1, if_pos h2, addM_comm hl, ih _ (by omega) a b rfl]
      · have h1 : cfM y x < 0 := cf_lt.2 hl
        rw [mrg, if_neg (by omega), if_neg (by omega), mrg, if_pos h1, ih _ (by simp only [List.length_cons]; omega) (x :: a) b rfl]
/-- what is known of a merged list -/
structure MInfo (a b l : List Met) : Prop where
  len : l.length ≤ a.length + b.length
  low : ∀ p, (∀ u ∈ a, ltN p u) → (∀ u ∈ b, ltN p u) → ∀ u ∈ l, ltN p u
  asc : Asc l
  ok : (∀ u ∈ a, MOk u) → (∀ u ∈ b, MOk u) → ∀ u ∈ l, MOk u
/-- how the values are joined -/
def Jn (A B L : Option (Int × Int)) : Prop := match A, B with
  | some p, some q => ∃ s, addR p.1 p.2 q.1 q.2 = some s ∧ L = some s
  | some p, none => L = some p
  | none, y => L = y
theorem hit_iff (n : ByteArray) (i : Int) (x : Met) : hitM n i x = true ↔ x.n.toList = n.toList ∧ x.i = i := by
  simp [hitM]
theorem hit_sk {x y : Met} (h : skM x y) (n : ByteArray) (i : Int) : hitM n i x = hitM n i y := by
  have : hitM n i x = true ↔ hitM n i y = true := by rw [hit_iff, hit_iff, h.1, h.2]
  cases h1 : hitM n i x <;> cases h2 : hitM n i y <;> simp_all
theorem find_none_of {l : List Met} {n : ByteArray} {i : Int} {x : Met} (hx : hitM n i x = true) (h : ∀ u ∈ l, ltN x u) : findV l n i = none := by
  unfold findV
  rw [Option.map_eq_none_iff, List.find?_eq_none]
  intro u hu h2
  have e : skM x u := by
    rw [hit_iff] at hx h2
    exact ⟨hx.1.trans h2.1.symm, hx.2.trans h2.2.symm⟩
  exact sk_not e (h u hu)
theorem find_cons (x : Met) (l : List Met) (n : ByteArray) (i : Int) : findV (x :: l) n i = if hitM n i x = true then some (x.a, x.b) else findV l n i := by
  unfold findV
  by_cases h : hitM n i x = true
  · rw [if_pos h, List.find?_cons_of_pos h]; rfl
  · rw [if_neg h, List.find?_cons_of_neg h]
theorem jn_none (Y : Option (Int × Int)) : Jn none Y Y := rfl
theorem jn_right (X : Option (Int × Int)) : Jn X none X := by cases X <;> rfl
theorem add_vals {x y z : Met} (h : addM x y = some z) : addR x.a x.b y.a y.b = some (z.a, z.b) := by
  unfold addM at h
  rw [Option.map_eq_some_iff] at h
  obtain ⟨r, h1, rfl⟩ := h
  exact h1
theorem add_mok {x y z : Met} (h : addM x y = some z) (hx : MOk x) (hy : MOk y) : MOk z := by
  have h1 := add_vals h
  have h2 := addR_ok hx.2.2.2 hy.2.2.2 h1
  unfold addM at h
  rw [Option.map_eq_some_iff] at h
  obtain ⟨r, _, rfl⟩ := h
  exact ⟨hx.1, hx.2.1, hx.2.2.1, h2⟩
theorem mrg_info : ∀ (n : Nat) (a b l : List Met), a.length + b.length = n → Asc a → Asc b → mrg a b = some l → MInfo a b l ∧ ∀ k i, Jn (findV a k i) (findV b k i) (findV l k i) := by
  intro n
  induction n using Nat.strongRecOn with
  | _ n ih =>
    intro a b l hn ha hb h
    match a, b, ha, hb with
    | [], b, _, hb =>
      rw [mrg] at h
      obtain rfl := Option.some.inj h
      exact ⟨⟨by simp, fun p _ h2 => h2, hb, fun _ h2 => h2⟩, fun k i => jn_none _⟩
    | x :: a, [], ha, _ =>
      rw [mrg_nil_right] at h
      obtain rfl := Option.some.inj h
      exact ⟨⟨by simp, fun p h1 _ => h1, ha, fun h1 _ => h1⟩, fun k i => jn_right _⟩
    | x :: a, y :: b, ha, hb =>
      simp only [List.length_cons] at hn
      have ha' := List.pairwise_cons.1 ha
      have hb' := List.pairwise_cons.1 hb
      rw [mrg] at h
      rcases cf_cases x y with ⟨hc, hl⟩ | ⟨hc, hl⟩ | ⟨hc, hl⟩
      · rw [if_pos hc, Option.map_eq_some_iff] at h
        obtain ⟨t, ht, rfl⟩ := h
        obtain ⟨I, J⟩ := ih _ (by simp only [List.length_cons]; omega) a (y :: b) t rfl ha'.2 hb ht
        have hyx : ∀ u ∈ y :: b, ltN x u := fun u hu => by
          rcases List.mem_cons.1 hu with rfl | hu
          · exact hl
          · exact ltN_trans hl (hb'.1 u hu)
        refine ⟨⟨by have := I.len; simp only [List.length_cons] at *; omega, fun p h1 h2 u hu => ?_, List.pairwise_cons.2 ⟨I.low x ha'.1 hyx, I.asc⟩, fun h1 h2 u hu => ?_⟩, fun k i => ?_⟩
        · rcases List.mem_cons.1 hu with rfl | hu
          · exact h1 _ (by simp)
          · exact I.low p (fun v hv => h1 v (by simp [hv])) h2 u hu
        · rcases List.mem_cons.1 hu with rfl | hu
          · exact h1 _ (by simp)
          · exact I.ok (fun v hv => h1 v (by simp [hv])) h2 u hu
        · rw [find_cons x a, find_cons x t]
          by_cases hh : hitM k i x = true
          · rw [if_pos hh, if_pos hh, find_none_of hh hyx]; rfl
          · rw [if_neg hh, if_neg hh]; exact J k i
      · rw [if_neg (by omega), if_pos hc, Option.bind_eq_some_iff] at h
        obtain ⟨z, hz, h⟩ := h
        rw [Option.map_eq_some_iff] at h
        obtain ⟨t, ht, rfl⟩ := h
        obtain ⟨I, J⟩ := ih _ (by omega) a b t rfl ha'.2 hb'.2 ht
        have hzx := addM_sk hz
        refine ⟨⟨by have := I.len; simp only [List.length_cons] at *; omega, fun p h1 h2 u hu => ?_, List.pairwise_cons.2 ⟨I.low z (fun u hu => sk_ltN hzx (ha'.1 u hu)) (fun u hu => sk_ltN (hzx.trans hl) (hb'.1 u hu)), I.asc⟩, fun h1 h2 u hu => ?_⟩, fun k i => ?_⟩
        · rcases List.mem_cons.1 hu with rfl | hu
          · exact ltN_sk (h1 x (by simp)) hzx.symm
          · exact I.low p (fun v hv => h1 v (by simp [hv])) (fun v hv => h2 v (by simp [hv])) u hu
        · rcases List.mem_cons.1 hu with rfl | hu
          · exact add_mok hz (h1 x (by simp)) (h2 y (by simp))
          · exact I.ok (fun v hv => h1 v (by simp [hv])) (fun v hv => h2 v (by simp [hv])) u hu
        · rw [find_cons x a, find_cons y b, find_cons z t, hit_sk hzx k i, ← hit_sk hl k i]
          by_cases hh : hitM k i x = true
          · rw [if_pos hh, if_pos hh, if_pos hh]; exact ⟨_, add_vals hz, rfl⟩
          · rw [if_neg hh, if_neg hh, if_neg hh]; exact J k i
      · rw [if_neg (by omega), if_neg (by omega), Option.map_eq_some_iff] at h
        obtain ⟨t, ht, rfl⟩ := h
        obtain ⟨I, J⟩ := ih _ (by simp only [List.length_cons]; omega) (x :: a) b t rfl ha hb'.2 ht
        have hxy : ∀ u ∈ x :: a, ltN y u := fun u hu => by
          rcases List.mem_cons.1 hu with rfl | hu
          · exact hl
          · exact ltN_trans hl (ha'.1 u hu)
        refine ⟨⟨by have := I.len; simp only [List.length_cons] at *; omega, fun p h1 h2 u hu => ?_, List.pairwise_cons.2 ⟨I.low y hxy hb'.1, I.asc⟩, fun h1 h2 u hu => ?_⟩, fun k i => ?_⟩
        · rcases List.mem_cons.1 hu with rfl | hu
          · exact h2 _ (by simp)
          · exact I.low p h1 (fun v hv => h2 v (by simp [hv])) u hu
        · rcases List.mem_cons.1 hu with rfl | hu
          · exact h2 _ (by simp)
          · exact I.ok h1 (fun v hv => h2 v (by simp [hv])) u hu
        · rw [find_cons y b, find_cons y t]
          by_cases hh : hitM k i y = true
          · rw [if_pos hh, if_pos hh, find_none_of hh hxy]; rfl
          · rw [if_neg hh, if_neg hh]; exact J k i
theorem find_ext : ∀ (l m : List Met), Asc l → Asc m → (∀ k i, findV l k i = findV m k i) → l = m
  | [], [], _, _, _ => rfl
  | [], y :: m, _, _, h => by
    have := h y.n y.i
    rw [find_cons, if_pos ((hit_iff _ _ _).2 ⟨rfl, rfl⟩)] at this
    cases this
  | x :: l, [], _, _, h => by
    have := h x.n x.i
    rw [find_cons, if_pos ((hit_iff _ _ _).2 ⟨rfl, rfl⟩)] at this
    cases this
  | x :: l, y :: m, hl, hm, h => by
    have hl' := List.pairwise_cons.1 hl
    have hm' := List.pairwise_cons.1 hm
    have hxx : hitM x.n x.i x = true := (hit_iff _ _ _).2 ⟨rfl, rfl⟩
    have hyy : hitM y.n y.i y = true := (hit_iff _ _ _).2 ⟨rfl, rfl⟩
    have hk : skM x y := by
      rcases ltN_cases x y with h1 | h1 | h1
      · have h2 := h x.n x.i
        rw [find_cons, if_pos hxx, find_none_of hxx (fun u hu => by
          rcases List.mem_cons.1 hu with rfl | hu
          · exact h1
          · exact ltN_trans h1 (hm'.1 u hu))] at h2
        cases h2
      · exact h1
      · have h2 := h y.n y.i
        rw [find_cons y m, if_pos hyy, find_none_of hyy (fun u hu => by
          rcases List.mem_cons.1 hu with rfl | hu
          · exact h1
          · exact ltN_trans h1 (hl'.1 u hu))] at h2
        cases h2
    have hxy : x = y := by
      have h2 := h x.n x.i
      rw [find_cons, if_pos hxx, find_cons, ← hit_sk hk, if_pos hxx] at h2
      injection h2 with h2
      injection h2 with h3 h4
      exact (Met.ext_iff' x y).2 ⟨(ba_list _ _).1 hk.1, hk.2, h3, h4⟩
    subst hxy
    congr 1
    refine find_ext l m hl'.2 hm'.2 (fun k i => ?_)
    have h2 := h k i
    rw [find_cons, find_cons] at h2
    by_cases hh : hitM k i x = true
    · rw [find_none_of hh hl'.1, find_none_of hh hm'.1]
    · rwa [if_neg hh, if_neg hh] at h2
end Go.Proofs.YtpcbccpobhdokaaGreatDoor

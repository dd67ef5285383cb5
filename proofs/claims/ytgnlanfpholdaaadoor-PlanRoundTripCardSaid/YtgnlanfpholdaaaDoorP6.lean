/- What a line is, in plain words: its words and numbers; what can be read is the text of what was read. -/
import Derived.Test.YtgnlanfpholdaaaDoorF16
import Derived.Test.YtgnlanfpholdaaaDoorP5
import Derived.Lib.AtoiTie
namespace Go.Proofs.YtgnlanfpholdaaaDoor
open Go.RowKit
theorem index_one (c : UInt8) : ∀ a : List UInt8, c ∉ a → (∀ b, Lib.index (a ++ c :: b) [c] = a.length) ∧ Lib.index a [c] = -1
  | [], _ => ⟨fun b => by simp [Lib.index], by simp [Lib.index]⟩
  | x :: t, h => by
    obtain ⟨h1, h2⟩ := index_one c t (fun hc => h (by simp [hc]))
    have hx : (c == x) = false := beq_eq_false_iff_ne.2 fun e => h (by simp [e])
    constructor
    · intro b
      have h1' := h1 b
      show Lib.index (x :: (t ++ c :: b)) [c] = _
      rw [Lib.index, h1']
      have e : ((t.length : Int) == -1) = false := beq_eq_false_iff_ne.2 (by omega)
      simp [List.isPrefixOf, hx, e]
    · rw [Lib.index, h2]
      simp [List.isPrefixOf, hx]
theorem cut_hit {a b : List UInt8} (h : (10 : UInt8) ∉ a) : Lib.cut (a ++ 10 :: b) [10] = (a, b, true) := by
  have e := (index_one 10 a h).1 b
  unfold Lib.cut
  rw [if_pos (by omega), e]
  simp
theorem cut_miss {a : List UInt8} (h : (10 : UInt8) ∉ a) : Lib.cut a [10] = (a, [], false) := by
  have e := (index_one 10 a h).2
  unfold Lib.cut
  rw [if_neg (by omega)]
theorem mem_split {c : UInt8} : ∀ {s : List UInt8}, c ∈ s → ∃ a b, s = a ++ c :: b ∧ c ∉ a
  | x :: t, h => by
    by_cases hx : c = x
    · exact ⟨[], t, by simp [hx], by simp⟩
    · obtain ⟨a, b, e, hn⟩ := mem_split (s := t) (by simpa [hx] using h)
      exact ⟨x :: a, b, by rw [e]; rfl, by simp [hx, hn]⟩
theorem ba_ext {s : ByteArray} {l : List UInt8} (h : s.data.toList = l) : s = ⟨l.toArray⟩ := by
  subst h; rfl
theorem wordsOf_hit {a b : List UInt8} (h : (32 : UInt8) ∉ a) : wordsOf ⟨(a ++ 32 :: b).toArray⟩ = ⟨a.toArray⟩ :: wordsOf ⟨b.toArray⟩ := by
  have e : Lib.indexB ⟨(a ++ 32 :: b).toArray⟩ ⟨#[32]⟩ = (a.length : Int) := (index_one 32 a h).1 b
  have hc := Lib.countB_hit ⟨(a ++ 32 :: b).toArray⟩ ⟨#[32]⟩ a.length (by decide) e
  have e1 : (ByteArray.mk (a ++ 32 :: b).toArray).extract (a.length + (ByteArray.mk #[32]).size) (ByteArray.mk (a ++ 32 :: b).toArray).size = ⟨b.toArray⟩ := by
    refine ba_ext ?_
    rw [Lib.extract_to_end]
    show (a ++ 32 :: b).toArray.toList.drop (a.length + 1) = b
    simp
  have e2 : (ByteArray.mk (a ++ 32 :: b).toArray).extract 0 (a.length + 0) = ⟨a.toArray⟩ := by
    refine ba_ext ?_
    rw [Lib.extract_data]
    show ((a ++ 32 :: b).toArray.toList.drop 0).take (a.length + 0 - 0) = a
    simp
  rw [e1] at hc
  unfold wordsOf
  rw [hc, Nat.add_comm 1, Lib.splitB_hit _ _ _ _ _ e, e1, e2]
theorem wordsOf_miss {a : List UInt8} (h : (32 : UInt8) ∉ a) : wordsOf ⟨a.toArray⟩ = [⟨a.toArray⟩] := by
  have e : Lib.indexB ⟨a.toArray⟩ ⟨#[32]⟩ = -1 := (index_one 32 a h).2
  unfold wordsOf
  exact Lib.splitB_miss _ _ _ _ e
/-- words with spaces between -/
def joinW (x : ByteArray) (t : List ByteArray) : List UInt8 := x.data.toList ++ t.flatMap fun y => 32 :: y.data.toList
theorem wordsOf_join (x : ByteArray) (t : List ByteArray) (hx : (32 : UInt8) ∉ x.data.toList) (ht : ∀ y ∈ t, (32 : UInt8) ∉ y.data.toList) : wordsOf ⟨(joinW x t).toArray⟩ = x :: t := by
  induction t generalizing x with
  | nil =>
    have e : joinW x [] = x.data.toList := by simp [joinW]
    rw [e, wordsOf_miss hx]
  | cons y t ih =>
    have e : joinW x (y :: t) = x.data.toList ++ 32 :: joinW y t := by simp [joinW]
    rw [e, wordsOf_hit hx, ih y (ht y (by simp)) (fun z hz => ht z (by simp [hz]))]
theorem join_wordsOf : ∀ (n : Nat) (s : List UInt8), s.length ≤ n → ∃ x t, wordsOf ⟨s.toArray⟩ = x :: t ∧ s = joinW x t
  | n, s, hn => by
    by_cases h : (32 : UInt8) ∈ s
    · obtain ⟨a, b, rfl, ha⟩ := mem_split h
      match n, hn with
      | 0, hn => simp at hn
      | n + 1, hn =>
        obtain ⟨x, t, e1, e2⟩ := join_wordsOf n b (by simp at hn; omega)
        exact ⟨⟨a.toArray⟩, x :: t, by rw [wordsOf_hit ha, e1], by rw [e2]; simp [joinW]⟩
    · exact ⟨⟨s.toArray⟩, [], wordsOf_miss h, by simp [joinW]⟩
theorem digit_val (m : Nat) : Lib.digitVal (UInt8.ofNat (48 + m % 10)) = some (m % 10) := by
  have h : m % 10 < 10 := Nat.mod_lt _ (by decide)
  have e : (UInt8.ofNat (48 + m % 10)).toNat = 48 + m % 10 := by simp; omega
  unfold Lib.digitVal
  rw [e, if_pos (by omega)]
  congr 1; omega
theorem decFrom_snoc (l : List UInt8) : ∀ (acc n d : Nat) (b : UInt8), Lib.decFrom acc l = some n → Lib.digitVal b = some d → Lib.decFrom acc (l ++ [b]) = some (n * 10 + d) := by
  induction l with
  | nil => intro acc n d b h hb; simp [Lib.decFrom] at h; subst h; simp [Lib.decFrom, hb]
  | cons x t ih =>
    intro acc n d b h hb
    show Lib.decFrom acc (x :: (t ++ [b])) = _
    simp only [Lib.decFrom] at h ⊢
    cases hx : Lib.digitVal x with
    | none => rw [hx] at h; cases h
    | some v => rw [hx] at h; exact ih _ _ _ _ h hb
theorem decFrom_digits (u : Nat) : Lib.decFrom 0 (Lib.decDigits u) = some u := by
  induction u using Nat.strongRecOn with
  | _ u ih =>
    by_cases h : u < 10
    · rw [Lib.decDigits_one h]
      have := digit_val u
      rw [Nat.mod_eq_of_lt h] at this
      unfold Lib.decFrom
      rw [this]
      simp [Lib.decFrom]
    · rw [Lib.decDigits, dif_neg h]
      have := decFrom_snoc _ 0 _ _ _ (ih (u / 10) (by omega)) (digit_val u)
      rw [this]; congr 1; omega
theorem digits_ne (u : Nat) : ∃ c r, Lib.decDigits u = c :: r ∧ ∀ x ∈ Lib.decDigits u, 48 ≤ x.toNat ∧ x.toNat ≤ 57 := by
  have hall : ∀ x ∈ Lib.decDigits u, 48 ≤ x.toNat ∧ x.toNat ≤ 57 := by
    induction u using Nat.strongRecOn with
    | _ u ih =>
      have hd : ∀ m : Nat, (UInt8.ofNat (48 + m % 10)).toNat = 48 + m % 10 := fun m => by simp; omega
      by_cases h : u < 10
      · rw [Lib.decDigits_one h]
        intro x hx
        have := hd u
        rw [Nat.mod_eq_of_lt h] at this
        rw [List.mem_singleton.1 hx, this]; omega
      · rw [Lib.decDigits, dif_neg h]
        intro x hx
        rcases List.mem_append.1 hx with hx | hx
        · exact ih (u / 10) (by omega) x hx
        · have := hd u
          rw [List.mem_singleton.1 hx, this]; omega
  cases he : Lib.decDigits u with
  | nil =>
    have h1 := Lib.decDigits_length u
    have h2 := Lib.nDigits_pos u
    rw [he] at h1; simp at h1; omega
  | cons c r => exact ⟨c, r, rfl, by rw [← he]; exact hall⟩
theorem nDigits_le : ∀ (k u : Nat), u < 10 ^ (k + 1) → Lib.nDigits u ≤ k + 1
  | 0, u, h => by rw [Lib.nDigits_small (by simpa using h)]; exact Nat.le_refl _
  | k + 1, u, h => by
    by_cases hu : u < 10
    · rw [Lib.nDigits_small hu]; omega
    · rw [Lib.nDigits_big hu]
      have := nDigits_le k (u / 10) (by rw [Nat.pow_succ] at h; omega)
      omega
theorem atoi_digits {u : Nat} (hu : u ≤ 1099511627776) : Lib.atoiAll (Lib.decDigits u) = .ok (u : Int) := by
  have hl : (Lib.decDigits u).length ≤ 18 := by
    rw [Lib.decDigits_length]
    exact nDigits_le 17 u (by have e : (10 : Nat) ^ (17 + 1) = 1000000000000000000 := by decide
                              omega)
  obtain ⟨c, r, e, hd⟩ := digits_ne u
  have hc := hd c (by rw [e]; simp)
  rw [Lib.atoiAll_short _ hl]
  have hf := decFrom_digits u
  rw [e] at hf ⊢
  have h45 : (c == 45) = false := by
    simp only [beq_eq_false_iff_ne]; rintro rfl
    have : (45 : UInt8).toNat = 45 := rfl
    omega
  have h43 : (c == 43) = false := by
    simp only [beq_eq_false_iff_ne]; rintro rfl
    have : (43 : UInt8).toNat = 43 := rfl
    omega
  have hn : Lib.decNat (c :: r) = some u := by unfold Lib.decNat; simpa using hf
  unfold Lib.atoi
  simp only [h45, h43, hn]
  rfl
theorem numOf_iff {l : List UInt8} {v : Int} : numOf l = some v ↔ 0 ≤ v ∧ v ≤ 1099511627776 ∧ l = Lib.itoa v := by
  constructor
  · intro h
    unfold numOf at h
    split at h
    · split at h
      · rename_i hc; cases h; exact ⟨hc.1, hc.2.1, hc.2.2.symm⟩
      · cases h
    · cases h
  · rintro ⟨h0, h1, rfl⟩
    obtain ⟨u, rfl⟩ := Int.eq_ofNat_of_zero_le h0
    have e := atoi_digits (u := u) (by omega)
    rw [← Lib.itoa_nonneg] at e
    unfold numOf
    rw [e]
    exact if_pos ⟨h0, h1, rfl⟩
theorem itoa_bytes {v : Int} (h0 : 0 ≤ v) : ∀ x ∈ Lib.itoa v, 48 ≤ x.toNat ∧ x.toNat ≤ 57 := by
  obtain ⟨u, rfl⟩ := Int.eq_ofNat_of_zero_le h0
  rw [Lib.itoa_nonneg]
  exact (digits_ne u).choose_spec.choose_spec.2
theorem not_space {l : List UInt8} (h : ∀ x ∈ l, 48 ≤ x.toNat ∧ x.toNat ≤ 57) : (32 : UInt8) ∉ l ∧ (10 : UInt8) ∉ l := by
  constructor
  · intro hc
    have := h 32 hc
    have e : (32 : UInt8).toNat = 32 := rfl
    omega
  · intro hc
    have := h 10 hc
    have e : (10 : UInt8).toNat = 10 := rfl
    omega
/-- numbers that a text can hold -/
def InR (ns : List Int) : Prop := ∀ n ∈ ns, 0 ≤ n ∧ n ≤ 1099511627776
theorem numsOf_iff : ∀ {ws : List ByteArray} {ns : List Int}, numsOf ws = some ns ↔ InR ns ∧ ws = ns.map itoaS
  | [], ns => by
    constructor
    · intro h; cases h; exact ⟨fun n hn => (by simp at hn), rfl⟩
    · rintro ⟨_, h⟩; cases ns with
      | nil => rfl
      | cons a t => simp at h
  | x :: t, ns => by
    constructor
    · intro h
      unfold numsOf at h
      split at h
      · rename_i v m hv hm
        cases h
        obtain ⟨h0, h1, e⟩ := numOf_iff.1 hv
        obtain ⟨h2, e2⟩ := numsOf_iff.1 hm
        refine ⟨fun n hn => ?_, ?_⟩
        · rcases List.mem_cons.1 hn with rfl | hn
          · exact ⟨h0, h1⟩
          · exact h2 n hn
        · rw [List.map_cons, ← e2]; congr 1; exact ba_ext e
      · cases h
    · rintro ⟨h1, h2⟩
      cases ns with
      | nil => simp at h2
      | cons a m =>
        rw [List.map_cons] at h2
        injection h2 with h2 h3
        have ha := h1 a (by simp)
        have e1 : numOf x.data.toList = some a := by rw [h2]; exact numOf_iff.2 ⟨ha.1, ha.2, by simp [itoaS]⟩
        have e2 : numsOf t = some m := numsOf_iff.2 ⟨fun n hn => h1 n (by simp [hn]), h3⟩
        unfold numsOf
        rw [e1, e2]
/-- a word and all numbers -/
def lnA (word : List UInt8) (ns : List Int) : List UInt8 := word ++ ns.flatMap fun n => 32 :: Lib.itoa n
theorem lnL_take (word : List UInt8) (ns : List Int) : ∀ k, k ≤ ns.length → lnL word ns k = lnA word (ns.take k)
  | 0, _ => by simp [lnL, lnA]
  | k + 1, h => by
    have e : ns.take (k + 1) = ns.take k ++ [ns.getD k 0] := by rw [List.take_succ_eq_append_getElem (by omega)]; simp [List.getD, show k < ns.length from h]
    rw [lnL, lnL_take word ns k (by omega), e]
    simp [lnA, List.flatMap_append]
theorem lnL_all (word : List UInt8) (ns : List Int) : lnL word ns ns.length = lnA word ns := by rw [lnL_take word ns _ (Nat.le_refl _), List.take_length]
theorem lineL_all (word : List UInt8) (ns : List Int) : lineL word ns = lnA word ns ++ [10] := by rw [lineL, lnL_all]
theorem lnA_join (word : List UInt8) (ns : List Int) : lnA word ns = joinW ⟨word.toArray⟩ (ns.map itoaS) := by
  unfold lnA joinW itoaS
  rw [List.flatMap_map]
theorem lnA_words {word : List UInt8} (hw : (32 : UInt8) ∉ word) {ns : List Int} (h : InR ns) : wordsOf ⟨(lnA word ns).toArray⟩ = ⟨word.toArray⟩ :: ns.map itoaS := by
  rw [lnA_join]
  refine wordsOf_join _ _ (by simpa using hw) fun y hy => ?_
  obtain ⟨n, hn, rfl⟩ := List.mem_map.1 hy
  simpa [itoaS] using (not_space (itoa_bytes (h n hn).1)).1
theorem lnA_ended {word : List UInt8} (hw : (10 : UInt8) ∉ word) {ns : List Int} (h : InR ns) : (10 : UInt8) ∉ lnA word ns := by
  unfold lnA
  intro hc
  rcases List.mem_append.1 hc with hc | hc
  · exact hw hc
  · obtain ⟨n, hn, hc⟩ := List.mem_flatMap.1 hc
    rcases List.mem_cons.1 hc with hc | hc
    · cases hc
    · exact (not_space (itoa_bytes (h n hn).1)).2 hc
/-- the n numbers of a line that begins with a word -/
def lineOf (word : List UInt8) (n : Nat) (s : ByteArray) : Option (List Int) :=
  match wordsOf s with
  | [] => none
  | x :: t => if x.data.toList = word ∧ t.length = n then numsOf t else none
theorem lineOf_iff {word : List UInt8} (hw : (32 : UInt8) ∉ word) {n : Nat} {s : ByteArray} {ns : List Int} : lineOf word n s = some ns ↔ ns.length = n ∧ InR ns ∧ s = ⟨(lnA word ns).toArray⟩ := by
  obtain ⟨x, t, e1, e2⟩ := join_wordsOf s.data.toList.length s.data.toList (Nat.le_refl _)
  have es : s = ⟨s.data.toList.toArray⟩ := rfl
  rw [← es] at e1
  constructor
  · intro h
    unfold lineOf at h
    rw [e1] at h
    simp only at h
    split at h
    · rename_i hc
      obtain ⟨h1, h2⟩ := numsOf_iff.1 h
      refine ⟨by rw [← hc.2, h2, List.length_map], h1, ?_⟩
      rw [lnA_join, ← h2]
      refine ba_ext ?_
      rw [e2, ba_ext hc.1]
    · cases h
  · rintro ⟨h1, h2, rfl⟩
    unfold lineOf
    rw [lnA_words hw h2]
    simp only
    rw [if_pos ⟨by simp, by simpa using h1⟩]
    exact numsOf_iff.2 ⟨h2, rfl⟩
theorem conOf_eq {ns : List Int} {c : Con} (h : conOf ns = some c) : ns = conNums c := by
  unfold conOf at h
  split at h
  · cases h; rfl
  · cases h
theorem conOf_nums (c : Con) : conOf (conNums c) = some c := rfl
theorem readL_eq (Q : List Int) (C : List Con) (s : ByteArray) : readL Q C s = match lineOf nodeW 2 s with
    | some ns => if ns.getD 0 0 = Q.length ∧ C = [] then some (Q ++ [ns.getD 1 0], C) else none
    | none => match lineOf conW 7 s with
      | some ns => (conOf ns).map fun c => (Q, C ++ [c])
      | none => none := by
  unfold readL
  cases hw : wordsOf s with
  | nil =>
    have E1 : lineOf nodeW 2 s = none := by unfold lineOf; rw [hw]
    have E2 : lineOf conW 7 s = none := by unfold lineOf; rw [hw]
    rw [E1, E2]
  | cons x t =>
    have E1 : lineOf nodeW 2 s = if x.data.toList = nodeW ∧ t.length = 2 then numsOf t else none := by unfold lineOf; rw [hw]
    have E2 : lineOf conW 7 s = if x.data.toList = conW ∧ t.length = 7 then numsOf t else none := by unfold lineOf; rw [hw]
    rw [E1, E2]
    simp only
    by_cases h1 : x.data.toList = nodeW
    · have h2 : ¬ x.data.toList = conW := by rw [h1]; decide
      have E3 : (if x.data.toList = conW ∧ t.length = 7 then numsOf t else none) = none := if_neg fun h => h2 h.1
      rw [if_pos (show x.data.toList = [110, 111, 100, 101] from h1), E3]
      by_cases h3 : t.length = 2
      · rw [if_pos ⟨h1, h3⟩]
        cases hn : numsOf t with
        | none => rfl
        | some ns =>
          have hl := numsOf_len hn
          rw [h3] at hl
          match ns, hl with
          | [a, q], _ => rfl
      · rw [if_neg (fun h => h3 h.2)]
        cases hn : numsOf t with
        | none => rfl
        | some ns =>
          have hl := numsOf_len hn
          match ns, hl with
          | [a, q], hl => exact absurd hl.symm h3
          | [], _ => rfl
          | [_], _ => rfl
          | _ :: _ :: _ :: _, _ => rfl
    · have E3 : (if x.data.toList = nodeW ∧ t.length = 2 then numsOf t else none) = none := if_neg fun h => h1 h.1
      rw [if_neg (show ¬ x.data.toList = [110, 111, 100, 101] from h1), E3]
      by_cases h2 : x.data.toList = conW
      · rw [if_pos (show x.data.toList = [99, 111, 110, 116, 97, 99, 116] from h2)]
        by_cases h3 : t.length = 7
        · rw [if_pos ⟨h2, h3⟩]
          cases hn : numsOf t with
          | none => rfl
          | some ns => simp only [Option.bind_some]; cases conOf ns <;> rfl
        · rw [if_neg (fun h => h3 h.2)]
          cases hn : numsOf t with
          | none => rfl
          | some ns =>
            have hl := numsOf_len hn
            have hc : conOf ns = none := by
              cases hc : conOf ns with
              | none => rfl
              | some c => rw [conOf_eq hc] at hl; exact absurd hl.symm h3
            simp only [Option.bind_some, hc]
      · rw [if_neg (show ¬ x.data.toList = [99, 111, 110, 116, 97, 99, 116] from h2), if_neg (fun h => h2 h.1)]
end Go.Proofs.YtgnlanfpholdaaaDoor

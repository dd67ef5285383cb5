/- Plain: words and numbers of lines. -/
import Derived.Lib.IndexMore
import Derived.Lib.SplitLaws
import Derived.Lib.ItoaNum
import Derived.Lib.AtoiTie
import Derived.Lib.ItoaLen
import Derived.Lib.Hide
namespace Go.Proofs.YtmcgddlblhinlaaGreatDoor
def numOf (l : List UInt8) : Option Int := match Lib.atoiAll l with
  | .ok v => if 0 ≤ v ∧ v ≤ 1099511627776 ∧ Lib.itoa v = l then some v else none
  | _ => none
def numsOf : List ByteArray → Option (List Int)
  | [] => some []
  | x :: t => match numOf x.data.toList, numsOf t with
    | some v, some l => some (v :: l)
    | _, _ => none
theorem numsOf_len : ∀ {ws : List ByteArray} {l : List Int}, numsOf ws = some l → l.length = ws.length
  | [], l, h => by cases h; rfl
  | x :: t, l, h => by
    unfold numsOf at h
    split at h
    · rename_i v m _ hm
      cases h
      simp [numsOf_len hm]
    · cases h
def itoaS (n : Int) : ByteArray := ⟨(Lib.itoa n).toArray⟩
theorem index_one (c : UInt8) : ∀ a : List UInt8, c ∉ a → (∀ b, Lib.index (a ++ c :: b) [c] = a.length) ∧ Lib.index a [c] = -1
  | [], _ => ⟨fun b => by simp [Lib.index], by simp [Lib.index]⟩
  | x :: t, h => by
    obtain ⟨h1, h2⟩ := index_one c t (fun hc => h (by simp [hc]))
    have hx : (c == x) = false := beq_eq_false_iff_ne.2 fun e => h (by simp [e])
    constructor
    · intro b
      have h1' := h1 b
      show Lib.index (x :: (t ++ c :: b)) [c] = _
      rw [Lib.index, h1']
      have e : ((t.length : Int) == -1) = false := beq_eq_false_iff_ne.2 (by omega)
      simp [List.isPrefixOf, hx, e]
    · rw [Lib.index, h2]
      simp [List.isPrefixOf, hx]
theorem cut_hit {c : UInt8} {a b : List UInt8} (h : c ∉ a) : Lib.cut (a ++ c :: b) [c] = (a, b, true) := by
  have e := (index_one c a h).1 b
  unfold Lib.cut
  rw [if_pos (by omega), e]
  simp
theorem cut_miss {c : UInt8} {a : List UInt8} (h : c ∉ a) : Lib.cut a [c] = (a, [], false) := by
  have e := (index_one c a h).2
  unfold Lib.cut
  rw [if_neg (by omega)]
theorem mem_split {c : UInt8} : ∀ {s : List UInt8}, c ∈ s → ∃ a b, s = a ++ c :: b ∧ c ∉ a
  | x :: t, h => by
    by_cases hx : c = x
    · exact ⟨[], t, by simp [hx], by simp⟩
    · obtain ⟨a, b, e, hn⟩ := mem_split (s := t) (by simpa [hx] using h)
      exact ⟨x :: a, b, by rw [e]; rfl, by simp [hx, hn]⟩
theorem bs_ext {s : ByteArray} {l : List UInt8} (h : s.data.toList = l) : s = ⟨l.toArray⟩ := by
  subst h; rfl
/-- words with spaces between -/
def joinW (x : ByteArray) (t : List ByteArray) : List UInt8 := x.data.toList ++ t.flatMap fun y => 32 :: y.data.toList
theorem digit_val (m : Nat) : Lib.digitVal (UInt8.ofNat (48 + m % 10)) = some (m % 10) := by
  have h : m % 10 < 10 := Nat.mod_lt _ (by decide)
  have e : (UInt8.ofNat (48 + m % 10)).toNat = 48 + m % 10 := by simp; omega
  unfold Lib.digitVal
  rw [e, if_pos (by omega)]
  congr 1; omega
theorem decFrom_snoc (l : List UInt8) : ∀ (acc n d : Nat) (b : UInt8), Lib.decFrom acc l = some n → Lib.digitVal b = some d → Lib.decFrom acc (l ++ [b]) = some (n * 10 + d) := by
  induction l with
  | nil => intro acc n d b h hb; simp [Lib.decFrom] at h; subst h; simp [Lib.decFrom, hb]
  | cons x t ih =>
    intro acc n d b h hb
    show Lib.decFrom acc (x :: (t ++ [b])) = _
    simp only [Lib.decFrom] at h ⊢
    cases hx : Lib.digitVal x with
    | none => rw [hx] at h; cases h
    | some v => rw [hx] at h; exact ih _ _ _ _ h hb
theorem decFrom_digits (u : Nat) : Lib.decFrom 0 (Lib.decDigits u) = some u := by
  induction u using Nat.strongRecOn with
  | _ u ih =>
    by_cases h : u < 10
    · rw [Lib.decDigits_one h]
      have := digit_val u
      rw [Nat.mod_eq_of_lt h] at this
      unfold Lib.decFrom
      rw [this]
      simp [Lib.decFrom]
    · rw [Lib.decDigits, dif_neg h]
      have := decFrom_snoc _ 0 _ _ _ (ih (u / 10) (by omega)) (digit_val u)
      rw [this]; congr 1; omega
theorem digits_ne (u : Nat) : ∃ c r, Lib.decDigits u = c :: r ∧ ∀ x ∈ Lib.decDigits u, 48 ≤ x.toNat ∧ x.toNat ≤ 57 := by
  have hall : ∀ x ∈ Lib.decDigits u, 48 ≤ x.toNat ∧ x.toNat ≤ 57 := by
    induction u using Nat.strongRecOn with
    | _ u ih =>
      have hd : ∀ m : Nat, (UInt8.ofNat (48 + m % 10)).toNat = 48 + m % 10 := fun m => by simp; omega
      by_cases h : u < 10
      · rw [Lib.decDigits_one h]
        intro x hx
        have := hd u
        rw [Nat.mod_eq_of_lt h] at this
        rw [List.mem_singleton.1 hx, this]; omega
      · rw [Lib.decDigits, dif_neg h]
        intro x hx
        rcases List.mem_append.1 hx with hx | hx
        · exact ih (u / 10) (by omega) x hx
        · have := hd u
          rw [List.mem_singleton.1 hx, this]; omega
  cases he : Lib.decDigits u with
  | nil =>
    have h1 := Lib.decDigits_length u
    have h2 := Lib.nDigits_pos u
    rw [he] at h1; simp at h1; omega
  | cons c r => exact ⟨c, r, rfl, by rw [← he]; exact hall⟩
theorem nDigits_le : ∀ (k u : Nat), u < 10 ^ (k + 1) → Lib.nDigits u ≤ k + 1
  | 0, u, h => by rw [Lib.nDigits_small (by simpa using h)]; exact Nat.le_refl _
  | k + 1, u, h => by
    by_cases hu : u < 10
    · rw [Lib.nDigits_small hu]; omega
    · rw [Lib.nDigits_big hu]
      have := nDigits_le k (u / 10) (by rw [Nat.pow_succ] at h; omega)
      omega
theorem atoi_digits {u : Nat} (hu : u ≤ 1099511627776) : Lib.atoiAll (Lib.decDigits u) = .ok (u : Int) := by
  have hl : (Lib.decDigits u).length ≤ 18 := by
    rw [Lib.decDigits_length]
    exact nDigits_le 17 u (by have e : (10 : Nat) ^ (17 + 1) = 1000000000000000000 := by decide
                              omega)
  obtain ⟨c, r, e, hd⟩ := digits_ne u
  have hc := hd c (by rw [e]; simp)
  rw [Lib.atoiAll_short _ hl]
  have hf := decFrom_digits u
  rw [e] at hf ⊢
  have h45 : (c == 45) = false := by
    simp only [beq_eq_false_iff_ne]; rintro rfl
    have : (45 : UInt8).toNat = 45 := rfl
    omega
  have h43 : (c == 43) = false := by
    simp only [beq_eq_false_iff_ne]; rintro rfl
    have : (43 : UInt8).toNat = 43 := rfl
    omega
  have hn : Lib.decNat (c :: r) = some u := by unfold Lib.decNat; simpa using hf
  unfold Lib.atoi
  simp only [h45, h43, hn]
  rfl
theorem numOf_iff {l : List UInt8} {v : Int} : numOf l = some v ↔ 0 ≤ v ∧ v ≤ 1099511627776 ∧ l = Lib.itoa v := by
  constructor
  · intro h
    unfold numOf at h
    split at h
    · split at h
      · rename_i hc; cases h; exact ⟨hc.1, hc.2.1, hc.2.2.symm⟩
      · cases h
    · cases h
  · rintro ⟨h0, h1, rfl⟩
    obtain ⟨u, rfl⟩ := Int.eq_ofNat_of_zero_le h0
    have e := atoi_digits (u := u) (by omega)
    rw [← Lib.itoa_nonneg] at e
    unfold numOf
    rw [e]
    exact if_pos ⟨h0, h1, rfl⟩
theorem itoa_bytes {v : Int} (h0 : 0 ≤ v) : ∀ x ∈ Lib.itoa v, 48 ≤ x.toNat ∧ x.toNat ≤ 57 := by
  obtain ⟨u, rfl⟩ := Int.eq_ofNat_of_zero_le h0
  rw [Lib.itoa_nonneg]
  exact (digits_ne u).choose_spec.choose_spec.2
theorem not_space {l : List UInt8} (h : ∀ x ∈ l, 48 ≤ x.toNat ∧ x.toNat ≤ 57) : (32 : UInt8) ∉ l ∧ (10 : UInt8) ∉ l := by
  constructor
  · intro hc
    have := h 32 hc
    have e : (32 : UInt8).toNat = 32 := rfl
    omega
  · intro hc
    have := h 10 hc
    have e : (10 : UInt8).toNat = 10 := rfl
    omega
/-- numbers that a text can hold -/
def InR (ns : List Int) : Prop := ∀ n ∈ ns, 0 ≤ n ∧ n ≤ 1099511627776
theorem numsOf_iff : ∀ {ws : List ByteArray} {ns : List Int}, numsOf ws = some ns ↔ InR ns ∧ ws = ns.map itoaS
  | [], ns => by
    constructor
    · intro h; cases h; exact ⟨fun n hn => (by simp at hn), rfl⟩
    · rintro ⟨_, h⟩; cases ns with
      | nil => rfl
      | cons a t => simp at h
  | x :: t, ns => by
    constructor
    · intro h
      unfold numsOf at h
      split at h
      · rename_i v m hv hm
        cases h
        obtain ⟨h0, h1, e⟩ := numOf_iff.1 hv
        obtain ⟨h2, e2⟩ := numsOf_iff.1 hm
        refine ⟨fun n hn => ?_, ?_⟩
        · rcases List.mem_cons.1 hn with rfl | hn
          · exact ⟨h0, h1⟩
          · exact h2 n hn
        · rw [List.map_cons, ← e2]; congr 1; exact bs_ext e
      · cases h
    · rintro ⟨h1, h2⟩
      cases ns with
      | nil => simp at h2
      | cons a m =>
        rw [List.map_cons] at h2
        injection h2 with h2 h3
        have ha := h1 a (by simp)
        have e1 : numOf x.data.toList = some a := by rw [h2]; exact numOf_iff.2 ⟨ha.1, ha.2, by simp [itoaS]⟩
        have e2 : numsOf t = some m := numsOf_iff.2 ⟨fun n hn => h1 n (by simp [hn]), h3⟩
        unfold numsOf
        rw [e1, e2]
theorem joinW_cons (x y : ByteArray) (t : List ByteArray) : joinW x (y :: t) = x.data.toList ++ 32 :: joinW y t := by simp [joinW]
theorem joinW_nil (x : ByteArray) : joinW x [] = x.data.toList := by simp [joinW]
theorem joinW_len (x : ByteArray) (t : List ByteArray) : t.length ≤ (joinW x t).length := by
  induction t generalizing x with
  | nil => simp
  | cons y t ih => rw [joinW_cons]; have := ih y; simp; omega
/-- pieces of a text, cut at the first k spaces -/
def wsK (k : Nat) (s : ByteArray) : List ByteArray := Lib.splitB ⟨#[32]⟩ 0 k s
theorem wsK_hit (k : Nat) {a b : List UInt8} (h : (32 : UInt8) ∉ a) : wsK (k + 1) ⟨(a ++ 32 :: b).toArray⟩ = ⟨a.toArray⟩ :: wsK k ⟨b.toArray⟩ := by
  have e : Lib.indexB ⟨(a ++ 32 :: b).toArray⟩ ⟨#[32]⟩ = (a.length : Int) := (index_one 32 a h).1 b
  have e1 : (ByteArray.mk (a ++ 32 :: b).toArray).extract (a.length + (ByteArray.mk #[32]).size) (ByteArray.mk (a ++ 32 :: b).toArray).size = ⟨b.toArray⟩ := by
    refine bs_ext ?_
    rw [Lib.extract_to_end]
    show (a ++ 32 :: b).toArray.toList.drop (a.length + 1) = b
    simp
  have e2 : (ByteArray.mk (a ++ 32 :: b).toArray).extract 0 (a.length + 0) = ⟨a.toArray⟩ := by
    refine bs_ext ?_
    rw [Lib.extract_data]
    show ((a ++ 32 :: b).toArray.toList.drop 0).take (a.length + 0 - 0) = a
    simp
  unfold wsK
  rw [Lib.splitB_hit _ _ _ _ _ e, e1, e2]
theorem wsK_miss (k : Nat) {a : List UInt8} (h : (32 : UInt8) ∉ a) : wsK k ⟨a.toArray⟩ = [⟨a.toArray⟩] := by
  have e : Lib.indexB ⟨a.toArray⟩ ⟨#[32]⟩ = -1 := (index_one 32 a h).2
  unfold wsK
  exact Lib.splitB_miss _ _ _ _ e
theorem wsK_zero (s : ByteArray) : wsK 0 s = [s] := rfl
/-- the last of some words, and whether it may hold spaces -/
def lastOk (k : Nat) : List ByteArray → Prop
  | [] => True
  | [y] => k = 1 ∨ (32 : UInt8) ∉ y.data.toList
  | y :: t => (32 : UInt8) ∉ y.data.toList ∧ lastOk (k - 1) t
theorem wsK_join : ∀ (t : List ByteArray) (k : Nat) (x : ByteArray), (32 : UInt8) ∉ x.data.toList → t.length ≤ k → lastOk k t → wsK k ⟨(joinW x t).toArray⟩ = x :: t
  | [], k, x, hx, _, _ => by rw [joinW_nil, wsK_miss k hx]
  | [y], k, x, hx, hk, hl => by
    match k, hk with
    | k + 1, _ =>
      rw [joinW_cons, wsK_hit k hx, joinW_nil]
      rcases hl with h | h
      · obtain rfl : k = 0 := by omega
        rfl
      · rw [wsK_miss k h]
  | y :: z :: t, k, x, hx, hk, hl => by
    match k, hk with
    | k + 1, hk =>
      rw [joinW_cons, wsK_hit k hx, wsK_join (z :: t) k y hl.1 (by simpa using hk) (by simpa using hl.2)]
theorem wsK_got : ∀ (k : Nat) (s : List UInt8), ∃ x t, wsK k ⟨s.toArray⟩ = x :: t ∧ s = joinW x t ∧ t.length ≤ k ∧ (0 < k → x.data.toList = (Lib.cut s [32]).1)
  | 0, s => ⟨⟨s.toArray⟩, [], rfl, by rw [joinW_nil], Nat.le_refl _, fun h => absurd h (by omega)⟩
  | k + 1, s => by
    by_cases h : (32 : UInt8) ∈ s
    · obtain ⟨a, b, rfl, ha⟩ := mem_split h
      obtain ⟨x, t, e1, e2, e3, _⟩ := wsK_got k b
      exact ⟨⟨a.toArray⟩, x :: t, by rw [wsK_hit k ha, e1], by rw [joinW_cons, ← e2], by simpa using e3, fun _ => by rw [cut_hit ha]⟩
    · exact ⟨⟨s.toArray⟩, [], by rw [wsK_miss _ h], by rw [joinW_nil], by simp, fun _ => by rw [cut_miss h]⟩
theorem cut_joinW {x : ByteArray} {t : List ByteArray} (hx : (32 : UInt8) ∉ x.data.toList) : (Lib.cut (joinW x t) [32]).1 = x.data.toList := by
  cases t with
  | nil => rw [joinW_nil, cut_miss hx]
  | cons y t => rw [joinW_cons, cut_hit hx]
theorem lastOk_nums (k : Nat) (ns : List Int) (h : InR ns) : lastOk k (ns.map itoaS) := by
  have hs : ∀ n ∈ ns, (32 : UInt8) ∉ (itoaS n).data.toList := fun n hn => by simpa [itoaS] using (not_space (itoa_bytes (h n hn).1)).1
  induction ns generalizing k with
  | nil => trivial
  | cons n ns ih =>
    cases ns with
    | nil => exact .inr (hs n (by simp))
    | cons m ns => exact ⟨hs n (by simp), ih (k - 1) (fun x hx => h x (by simp [hx])) (fun x hx => hs x (by simp [hx]))⟩
theorem lastOk_snoc (ns : List Int) (h : InR ns) (y : ByteArray) : lastOk (ns.length + 1) (ns.map itoaS ++ [y]) := by
  have hs : ∀ n ∈ ns, (32 : UInt8) ∉ (itoaS n).data.toList := fun n hn => by simpa [itoaS] using (not_space (itoa_bytes (h n hn).1)).1
  induction ns with
  | nil => exact .inl rfl
  | cons n ns ih =>
    have h2 := ih (fun x hx => h x (by simp [hx])) (fun x hx => hs x (by simp [hx]))
    cases ns with
    | nil => exact ⟨hs n (by simp), h2⟩
    | cons m ns => exact ⟨hs n (by simp), h2⟩
end Go.Proofs.YtmcgddlblhinlaaGreatDoor

/- The words of an entry's text; what a line can be. -/
import Derived.Test.YtekpnphfdoplfaaDoorB3
import Derived.Lib.AtoiTie
import Derived.Shelf.Strings.FieldsAny
namespace Go.Proofs.YtekpnphfdoplfaaDoor
open Go.RowKit
theorem digits_ne (u : Nat) : ∃ c r, Lib.decDigits u = c :: r ∧ ∀ x ∈ Lib.decDigits u, 48 ≤ x.toNat ∧ x.toNat ≤ 57 := by
  have hall : ∀ x ∈ Lib.decDigits u, 48 ≤ x.toNat ∧ x.toNat ≤ 57 := by
    induction u using Nat.strongRecOn with
    | _ u ih =>
      have hd : ∀ m : Nat, (UInt8.ofNat (48 + m % 10)).toNat = 48 + m % 10 := fun m => by simp; omega
      by_cases h : u < 10
      · rw [Lib.decDigits_one h]
        intro x hx
        have := hd u
        rw [Nat.mod_eq_of_lt h] at this
        rw [List.mem_singleton.1 hx, this]; omega
      · rw [Lib.decDigits, dif_neg h]
        intro x hx
        rcases List.mem_append.1 hx with hx | hx
        · exact ih (u / 10) (by omega) x hx
        · have := hd u
          rw [List.mem_singleton.1 hx, this]; omega
  cases he : Lib.decDigits u with
  | nil =>
    have h1 := Lib.decDigits_length u
    have h2 := Lib.nDigits_pos u
    rw [he] at h1; simp at h1; omega
  | cons c r => exact ⟨c, r, rfl, by rw [← he]; exact hall⟩
theorem itoa_bytes {v : Int} (h0 : 0 ≤ v) : ∀ x ∈ Lib.itoa v, 48 ≤ x.toNat ∧ x.toNat ≤ 57 := by
  obtain ⟨u, rfl⟩ := Int.eq_ofNat_of_zero_le h0
  rw [Lib.itoa_nonneg]
  exact (digits_ne u).choose_spec.choose_spec.2
theorem itoa_ne {v : Int} (h0 : 0 ≤ v) : Lib.itoa v ≠ [] := by
  obtain ⟨u, rfl⟩ := Int.eq_ofNat_of_zero_le h0
  rw [Lib.itoa_nonneg]
  obtain ⟨c, r, e, _⟩ := digits_ne u
  rw [e]; simp
theorem digit_nat (m : Nat) : (UInt8.ofNat (48 + m % 10)).toNat = 48 + m % 10 := by simp; omega
theorem parse_snoc : ∀ (l : List UInt8) (acc n d : Nat) (b : UInt8), Lib.parseUint10 acc l = .ok n → b.toNat = 48 + d → d < 10 → n < 1844674407370955161 → Lib.parseUint10 acc (l ++ [b]) = .ok (n * 10 + d)
  | [], acc, n, d, b, h, hb, hd, hn => by
    simp only [Lib.parseUint10] at h
    cases h
    show Lib.parseUint10 acc [b] = _
    rw [Lib.parseUint10, if_pos (by omega), if_neg (by omega), if_neg (by omega), Lib.parseUint10, hb]
    congr 1; omega
  | x :: t, acc, n, d, b, h, hb, hd, hn => by
    show Lib.parseUint10 acc (x :: (t ++ [b])) = _
    simp only [Lib.parseUint10] at h ⊢
    split at h
    · rename_i h1
      rw [if_pos h1]
      split at h
      · cases h
      · rename_i h2
        rw [if_neg h2]
        split at h
        · cases h
        · rename_i h3
          rw [if_neg h3]
          exact parse_snoc t _ n d b h hb hd hn
    · cases h
theorem parse_digits (u : Nat) (hu : u < 9223372036854775808) : Lib.parseUint10 0 (Lib.decDigits u) = .ok u := by
  induction u using Nat.strongRecOn with
  | _ u ih =>
    by_cases h : u < 10
    · rw [Lib.decDigits_one h]
      have := digit_nat u
      rw [Nat.mod_eq_of_lt h] at this
      rw [Lib.parseUint10, if_pos (by omega), if_neg (by omega), if_neg (by omega), Lib.parseUint10, this]
      congr 1; omega
    · rw [Lib.decDigits, dif_neg h]
      rw [parse_snoc _ 0 (u / 10) (u % 10) _ (ih (u / 10) (by omega) (by omega)) (digit_nat u) (by omega) (by omega)]
      congr 1; omega
theorem atoi_itoa {v : Int} (h0 : 0 ≤ v) (h1 : v ≤ 1152921504606846976) : Lib.atoiAll (Lib.itoa v) = .ok v := by
  obtain ⟨u, rfl⟩ := Int.eq_ofNat_of_zero_le h0
  rw [Lib.itoa_nonneg]
  obtain ⟨c, r, e, hd⟩ := digits_ne u
  have hc := hd c (by rw [e]; simp)
  have hp := parse_digits u (by omega)
  rw [e] at hp ⊢
  unfold Lib.atoiAll
  simp only
  rw [if_neg (by omega), Lib.parseMag, if_neg (by simp), hp]
  simp only
  rw [if_neg (by omega), if_neg (by omega), if_neg (by omega)]
/-- no white space, and not empty -/
def okW (l : List UInt8) : Prop := l ≠ [] ∧ ∀ b ∈ l, Lib.isSp b = false ∧ b.toNat < 128
theorem okW_itoa {v : Int} (h0 : 0 ≤ v) : okW (Lib.itoa v) := by
  refine ⟨itoa_ne h0, fun b hb => ?_⟩
  have := itoa_bytes h0 b hb
  refine ⟨?_, by omega⟩
  have hb2 : ∀ n : UInt8, n.toNat < 48 → (b == n) = false := fun n hn => by
    simp only [beq_eq_false_iff_ne]; rintro rfl; omega
  simp [Lib.isSp, hb2 9 (by decide), hb2 10 (by decide), hb2 11 (by decide), hb2 12 (by decide), hb2 13 (by decide), hb2 32 (by decide)]
theorem okW_of (l : List UInt8) (h : (!l.isEmpty && l.all fun b => !Lib.isSp b && decide (b.toNat < 128)) = true) : okW l := by
  simp only [Bool.and_eq_true, Bool.not_eq_true', List.all_eq_true, decide_eq_true_eq] at h
  exact ⟨by rintro rfl; simp at h, fun b hb => by simpa using h.2 b hb⟩
theorem okW_word {k : Int} (h1 : 1 ≤ k) (h2 : k ≤ 17) : okW (wordL k) := by
  rcases kinds_cases h1 h2 with rfl | rfl | rfl | rfl | rfl | rfl | rfl | rfl | rfl | rfl | rfl | rfl | rfl | rfl | rfl | rfl | rfl <;> exact okW_of _ (by decide)
theorem go_word : ∀ (l cur rest : List UInt8), (∀ b ∈ l, Lib.isSp b = false) → Lib.fieldsGo cur (l ++ rest) = Lib.fieldsGo (cur ++ l) rest
  | [], cur, rest, _ => by simp
  | b :: t, cur, rest, h => by
    rw [List.cons_append, Lib.fieldsGo_more _ _ _ (h b (by simp)), go_word t _ rest (fun x hx => h x (by simp [hx]))]
    simp
theorem fields_join : ∀ (ws : List (List UInt8)), (∀ l ∈ ws, okW l) → Lib.fieldsGo [] (Lib.join ws [32] ++ [10]) = ws
  | [], _ => by simp [Lib.join_nil, Lib.fieldsGo, Lib.isSp]
  | a :: r, h => by
    have ha := h a (by simp)
    have hr := fields_join r (fun l hl => h l (by simp [hl]))
    rw [Lib.join_cons]
    have go : ∀ r : List (List UInt8), (∀ l ∈ r, okW l) → ∀ cur, cur ≠ [] → Lib.fieldsGo cur (Lib.joinTail [32] r ++ [10]) = cur :: r := by
      intro r
      induction r with
      | nil =>
        intro _ cur hc
        show Lib.fieldsGo cur [10] = _
        rw [Lib.fieldsGo_end cur 10 [] (by decide) hc]
        rfl
      | cons b t ih =>
        intro hh cur hc
        have hb := hh b (by simp)
        have e : Lib.joinTail [32] (b :: t) ++ [10] = 32 :: (b ++ (Lib.joinTail [32] t ++ [10])) := by simp [Lib.joinTail]
        rw [e, Lib.fieldsGo_end cur 32 _ (by decide) hc, go_word b [] _ (fun x hx => (hb.2 x hx).1), List.nil_append, ih (fun l hl => hh l (by simp [hl])) b hb.1]
    rw [List.append_assoc, go_word a [] _ (fun x hx => (ha.2 x hx).1), List.nil_append]
    exact go r (fun l hl => h l (by simp [hl])) a ha.1
theorem okW_words {z : Ent} (h : entE z = 0) : ∀ l ∈ wordsL z, okW l := by
  have hk := entE_ok h
  intro l hl
  rw [← wdsK_all] at hl
  simp only [wdsK, List.mem_cons, List.mem_flatMap] at hl
  rcases hl with rfl | rfl | ⟨f, hf, hm⟩
  · exact okW_itoa hk.2.2.1
  · exact okW_word hk.1 hk.2.1
  · have hf' := List.mem_of_mem_take hf
    unfold fwL at hm
    split at hm
    · rename_i hh
      have := fldL_ok h f hf' hh
      simp only [List.mem_cons, List.not_mem_nil, or_false] at hm
      rcases hm with rfl | rfl
      · simp only [fldL, List.mem_cons, List.not_mem_nil, or_false] at hf'
        rcases hf' with rfl | rfl | rfl | rfl
        · exact okW_of nodeW (by decide)
        · exact okW_of ticketW (by decide)
        · exact okW_of contactW (by decide)
        · exact okW_of valueW (by decide)
      · exact okW_itoa this.1
    · simp at hm
theorem join_mem : ∀ (ws : List (List UInt8)) (b : UInt8), b ∈ Lib.join ws [32] → b = 32 ∨ ∃ l ∈ ws, b ∈ l
  | [], b, h => by simp [Lib.join_nil] at h
  | a :: r, b, h => by
    rw [Lib.join_cons] at h
    rcases List.mem_append.1 h with h | h
    · exact .inr ⟨a, by simp, h⟩
    · simp only [Lib.joinTail, List.mem_flatten, List.mem_map] at h
      obtain ⟨l, ⟨c, hc, rfl⟩, hb⟩ := h
      simp only [List.cons_append, List.nil_append, List.mem_cons] at hb
      rcases hb with rfl | hb
      · exact .inl rfl
      · exact .inr ⟨c, by simp [hc], hb⟩
/-- the words of a text are the entry's words -/
theorem fields_text {z : Ent} (h : entE z = 0) : Lib.fieldsD (textL z) = wordsL z := by
  rw [Lib.fieldsD_ascii]
  · exact fields_join _ (okW_words h)
  · intro b hb
    unfold textL at hb
    rcases List.mem_append.1 hb with hb | hb
    · rcases join_mem _ _ hb with rfl | ⟨l, hl, hb⟩
      · decide
      · exact ((okW_words h l hl).2 b hb).2
    · simp only [List.mem_singleton] at hb; subst hb; decide
def getO (z : Ent) (o : Nat) : Int := if o = 0 then z.t else if o = 1 then z.k else if o = 2 then z.n else if o = 3 then z.j else if o = 4 then z.c else z.v
def setO (z : Ent) (o : Nat) (x : Int) : Ent := if o = 0 then { z with t := x } else if o = 2 then { z with n := x } else if o = 3 then { z with j := x } else if o = 4 then { z with c := x } else if o = 5 then { z with v := x } else z
/-- where the numbers of an entry of kind k lie -/
def offs (k : Int) : List Nat := 0 :: ((if hasN k = true then [2] else []) ++ ((if hasJ k = true then [3] else []) ++ ((if hasC k = true then [4] else []) ++ (if hasV k = true then [5] else []))))
def base (k : Int) : Ent := ⟨0, k, -1, -1, -1, -1⟩
def mix (z : Ent) (i : Nat) : Ent := ((offs z.k).take i).foldl (fun y o => setO y o (getO z o)) (base z.k)
theorem mix_succ (z : Ent) (i : Nat) (h : i < (offs z.k).length) : mix z (i + 1) = setO (mix z i) ((offs z.k).getD i 0) (getO z ((offs z.k).getD i 0)) := by
  unfold mix
  rw [take_get (offs z.k) 0 i h, List.foldl_append]
  rfl
theorem mix_all {z : Ent} (h : entE z = 0) : mix z (offs z.k).length = z := by
  obtain ⟨_, _, _, _, h1, h2, h3, h4⟩ := entE_ok h
  obtain ⟨t, k, n, j, c, v⟩ := z
  dsimp only at h1 h2 h3 h4 ⊢
  unfold mix
  rw [List.take_length]
  dsimp only
  unfold offs
  cases e1 : hasN k <;> cases e2 : hasJ k <;> cases e3 : hasC k <;> cases e4 : hasV k
  all_goals
    rw [e1] at h1; rw [e2] at h2; rw [e3] at h3; rw [e4] at h4
    simp [fldB] at h1 h2 h3 h4
    simp [setO, getO, base, h1, h2, h3, h4]
theorem offs_len (k : Int) : 1 ≤ (offs k).length ∧ (offs k).length ≤ 5 := by
  unfold offs
  cases hasN k <;> cases hasJ k <;> cases hasC k <;> cases hasV k <;> simp
theorem offs_mem (k : Int) : ∀ o ∈ offs k, o = 0 ∨ o = 2 ∨ o = 3 ∨ o = 4 ∨ o = 5 := by
  intro o ho
  unfold offs at ho
  cases h1 : hasN k <;> cases h2 : hasJ k <;> cases h3 : hasC k <;> cases h4 : hasV k <;> simp [h1, h2, h3, h4] at ho <;> omega
theorem words_eq (z : Ent) : wordsL z = Lib.itoa z.t :: wordL z.k :: ((if hasN z.k = true then [nodeW, Lib.itoa z.n] else []) ++ ((if hasJ z.k = true then [ticketW, Lib.itoa z.j] else []) ++ ((if hasC z.k = true then [contactW, Lib.itoa z.c] else []) ++ (if hasV z.k = true then [valueW, Lib.itoa z.v] else [])))) := by
  simp [wordsL, fldL]
theorem words_len (z : Ent) : (wordsL z).length = 2 * (offs z.k).length := by
  rw [words_eq]; unfold offs
  cases hasN z.k <;> cases hasJ z.k <;> cases hasC z.k <;> cases hasV z.k <;> simp
/-- which word the number i is -/
def widx (i : Nat) : Nat := if i = 0 then 0 else 2 * i + 1
theorem words_at (z : Ent) (i : Nat) (h : i < (offs z.k).length) : (wordsL z).getD (widx i) [] = Lib.itoa (getO z ((offs z.k).getD i 0)) := by
  have h5 := (offs_len z.k).2
  have hi : i = 0 ∨ i = 1 ∨ i = 2 ∨ i = 3 ∨ i = 4 := by omega
  rw [words_eq]
  unfold offs at h ⊢
  cases e1 : hasN z.k <;> cases e2 : hasJ z.k <;> cases e3 : hasC z.k <;> cases e4 : hasV z.k
  all_goals
    simp [e1, e2, e3, e4] at h
    rcases hi with rfl | rfl | rfl | rfl | rfl
    all_goals first
      | omega
      | (simp (config := { decide := true }) only [*, widx, getO, List.cons_append, List.nil_append, List.getD_cons_zero, List.getD_cons_succ, if_pos, if_neg])
      | (simp [*, widx, getO])
/-- the table's word of a place -/
def frmW (k : Nat) : List UInt8 := wordL (k : Int)
theorem find_word {k : Int} (h1 : 1 ≤ k) (h2 : k ≤ 17) : findI (fun w => w == wordL k) ((List.range 18).map frmW) 0 = k := by
  rcases kinds_cases h1 h2 with rfl | rfl | rfl | rfl | rfl | rfl | rfl | rfl | rfl | rfl | rfl | rfl | rfl | rfl | rfl | rfl | rfl <;> decide
theorem find_le (p : List UInt8 → Bool) : ∀ (l : List (List UInt8)) (k : Nat), findI p l k ≤ k + l.length - 1 ∨ findI p l k = -1
  | [], k => .inr rfl
  | a :: t, k => by
    rw [findI]
    split
    · left; simp; omega
    · rcases find_le p t (k + 1) with h | h
      · left; simp at h ⊢; omega
      · exact .inr h
end Go.Proofs.YtekpnphfdoplfaaDoor

/- Plain: how the reference reads a line. -/
import Derived.Test.YtekpnphfdoplfaaDoorP1
namespace Go.Proofs.YtekpnphfdoplfaaDoor
open Go.RowKit
/-- digits read on -/
def numA : Nat → List UInt8 → Int
  | n, [] => if 1152921504606846976 < n then -1 else n
  | n, c :: r => if c.toNat < 48 ∨ 57 < c.toNat ∨ 115292150460684697 < n then -1 else numA (10 * n + (c.toNat - 48)) r
/-- a number, or -1 -/
def numI (s : List UInt8) : Int := if s.length = 0 ∨ 19 < s.length ∨ (s.head? = some 48 ∧ 1 < s.length) then -1 else numA 0 s
theorem numA_digits (u : Nat) : u ≤ 1152921504606846976 → ∀ rest, numA 0 (Lib.decDigits u ++ rest) = numA u rest := by
  induction u using Nat.strongRecOn with
  | _ u ih =>
    intro hu rest
    by_cases h : u < 10
    · have hd := digit_nat u
      rw [Nat.mod_eq_of_lt h] at hd
      rw [Lib.decDigits_one h, List.singleton_append, numA, if_neg (by omega), hd]
      congr 1; omega
    · have hd := digit_nat u
      rw [Lib.decDigits, dif_neg h, List.append_assoc, ih (u / 10) (by omega) (by omega), List.singleton_append, numA, if_neg (by omega), hd]
      congr 1; omega
theorem head_digits (u : Nat) : 1 ≤ u → (Lib.decDigits u).head? ≠ some 48 := by
  induction u using Nat.strongRecOn with
  | _ u ih =>
    intro hu
    by_cases h : u < 10
    · have hd := digit_nat u
      rw [Nat.mod_eq_of_lt h] at hd
      rw [Lib.decDigits_one h]
      intro hc
      have : UInt8.ofNat (48 + u) = 48 := by simpa using hc
      rw [this] at hd
      simp at hd; omega
    · have h1 := ih (u / 10) (by omega) (by omega)
      obtain ⟨c, r, e, _⟩ := digits_ne (u / 10)
      rw [Lib.decDigits, dif_neg h, e]
      rw [e] at h1
      simpa using h1
theorem nDig_le : ∀ (k u : Nat), u < 10 ^ (k + 1) → Lib.nDigits u ≤ k + 1
  | 0, u, h => by rw [Lib.nDigits_small (by simpa using h)]; omega
  | k + 1, u, h => by
    by_cases hu : u < 10
    · rw [Lib.nDigits_small hu]; omega
    · rw [Lib.nDigits_big hu]
      have := nDig_le k (u / 10) (by rw [Nat.pow_succ] at h; omega)
      omega
theorem numI_itoa {v : Int} (h0 : 0 ≤ v) (h1 : v ≤ 1152921504606846976) : numI (Lib.itoa v) = v := by
  obtain ⟨u, rfl⟩ := Int.eq_ofNat_of_zero_le h0
  have hu : u ≤ 1152921504606846976 := by omega
  rw [Lib.itoa_nonneg]
  have hlen : (Lib.decDigits u).length ≤ 19 := by
    rw [Lib.decDigits_length]
    exact nDig_le 18 u (by omega)
  have hpos : (Lib.decDigits u).length ≠ 0 := by
    obtain ⟨c, r, e, _⟩ := digits_ne u
    rw [e]; simp
  have hz : ¬ ((Lib.decDigits u).head? = some 48 ∧ 1 < (Lib.decDigits u).length) := by
    rintro ⟨h2, h3⟩
    by_cases h : u = 0
    · subst h; rw [Lib.decDigits_one (by omega)] at h3; simp at h3
    · exact head_digits u (by omega) h2
  rw [numI, if_neg (fun h => h.elim hpos (fun h => h.elim (fun h => by omega) hz))]
  have := numA_digits u hu []
  rw [List.append_nil] at this
  rw [this, numA, if_neg (by omega)]
/-- the pieces between the spaces -/
def splitA : List UInt8 → List UInt8 → List (List UInt8)
  | cur, [] => [cur]
  | cur, c :: r => if c = 32 then cur :: splitA [] r else splitA (cur ++ [c]) r
def splitL (s : List UInt8) : List (List UInt8) := splitA [] s
theorem splitA_word : ∀ (w cur rest : List UInt8), (32 : UInt8) ∉ w → splitA cur (w ++ rest) = splitA (cur ++ w) rest
  | [], cur, rest, _ => by simp
  | c :: r, cur, rest, h => by
    rw [List.cons_append, splitA, if_neg (by intro e; exact h (by simp [e])), splitA_word r (cur ++ [c]) rest (fun hm => h (by simp [hm]))]
    simp
theorem splitL_join : ∀ (ws : List (List UInt8)), ws ≠ [] → (∀ w ∈ ws, (32 : UInt8) ∉ w) → splitL (Lib.join ws [32]) = ws
  | [], h, _ => absurd rfl h
  | [w], _, h => by
    have := splitA_word w [] [] (h w (by simp))
    rw [List.append_nil] at this
    rw [Lib.join_one, splitL, this]; simp [splitA]
  | w :: x :: t, _, h => by
    have ih := splitL_join (x :: t) (by simp) (fun y hy => h y (by simp [hy]))
    have e : Lib.join (w :: x :: t) [32] = w ++ 32 :: Lib.join (x :: t) [32] := by simp [Lib.join, List.intercalate, List.intersperse]
    rw [e, splitL, splitA_word w [] _ (h w (by simp)), splitA, if_pos rfl, ← splitL, ih]
    simp
/-- the kind with a word -/
def kindA (w : List UInt8) : Nat → Int
  | 0 => 0
  | k + 1 => if wordL ((k : Int) + 1) = w then (k : Int) + 1 else kindA w k
def kindI (w : List UInt8) : Int := kindA w 17
theorem kindI_word {k : Int} (h1 : 1 ≤ k) (h2 : k ≤ 17) : kindI (wordL k) = k := by
  rcases (show k = 1 ∨ k = 2 ∨ k = 3 ∨ k = 4 ∨ k = 5 ∨ k = 6 ∨ k = 7 ∨ k = 8 ∨ k = 9 ∨ k = 10 ∨ k = 11 ∨ k = 12 ∨ k = 13 ∨ k = 14 ∨ k = 15 ∨ k = 16 ∨ k = 17 by omega) with rfl | rfl | rfl | rfl | rfl | rfl | rfl | rfl | rfl | rfl | rfl | rfl | rfl | rfl | rfl | rfl | rfl <;> kernel_rfl
/-- a field put -/
def setF (x : Ent) (w : List UInt8) (n : Int) : Ent := ⟨x.t, x.k, if w = nodeW then n else x.n, if w = ticketW then n else x.j, if w = contactW then n else x.c, if w = valueW then n else x.v⟩
def pairsF : Ent → List (List UInt8) → Ent
  | x, w :: y :: r => pairsF (setF x w (numI y)) r
  | x, _ => x
/-- what the pieces say -/
def xR (l : List (List UInt8)) : Ent := pairsF ⟨numI (l.getD 0 []), kindI (l.getD 1 []), -1, -1, -1, -1⟩ (l.drop 2)
theorem fldB_has {n most : Int} (h : fldB n true most = true) : 0 ≤ n ∧ n ≤ most := by simp [fldB] at h; omega
theorem fldB_not {n most : Int} (h : fldB n false most = true) : n = -1 := by simp [fldB] at h; omega
theorem xR_words {z : Ent} (h : entE z = 0) : xR (wordsL z) = z := by
  obtain ⟨hk1, hk2, ht1, ht2, h3, h4, h5, h6⟩ := entE_ok h
  rw [words_eq]
  simp only [xR, List.getD_cons_zero, List.getD_cons_succ, List.drop_succ_cons, List.drop_zero, numI_itoa ht1 (by omega), kindI_word hk1 hk2]
  obtain ⟨t, k, n, j, c, v⟩ := z
  dsimp only at *
  cases hN : hasN k <;> cases hJ : hasJ k <;> cases hC : hasC k <;> cases hV : hasV k <;> rw [hN] at h3 <;> rw [hJ] at h4 <;> rw [hC] at h5 <;> rw [hV] at h6 <;>
    (first | (obtain ⟨a3, b3⟩ := fldB_has h3; replace b3 : n ≤ 1152921504606846976 := by omega) | (have a3 := fldB_not h3)) <;> (first | (obtain ⟨a4, b4⟩ := fldB_has h4) | (have a4 := fldB_not h4)) <;> (first | (obtain ⟨a5, b5⟩ := fldB_has h5; replace b5 : c ≤ 1152921504606846976 := by omega) | (have a5 := fldB_not h5)) <;> (first | (obtain ⟨a6, b6⟩ := fldB_has h6) | (have a6 := fldB_not h6)) <;>
    simp [pairsF, setF, nodeW, ticketW, contactW, valueW, numI_itoa, *]
end Go.Proofs.YtekpnphfdoplfaaDoor

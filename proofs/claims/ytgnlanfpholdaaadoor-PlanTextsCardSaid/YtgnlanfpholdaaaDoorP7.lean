/- How the reference scans a line: a number, all numbers; what it scans is what the line says. -/
import Derived.Test.YtgnlanfpholdaaaDoorP6
namespace Go.Proofs.YtgnlanfpholdaaaDoor
open Go.RowKit
def isDig (b : UInt8) : Bool := decide (48 ≤ b.toNat ∧ b.toNat ≤ 57)
/-- the number behind a space, and what stands behind it -/
def numR (r : List UInt8) : Option (Nat × List UInt8) :=
  match r with
  | [] => none
  | c :: t => if c = 32 then
      match Lib.decNat (t.takeWhile isDig) with
      | some u => if ((t.takeWhile isDig).length = 1 ∨ t.head? ≠ some 48) ∧ u ≤ 1099511627776 then some (u, t.dropWhile isDig) else none
      | none => none
    else none
/-- n numbers, and nothing else -/
def scanN : Nat → List UInt8 → Option (List Int)
  | 0, r => if r = [] then some [] else none
  | n + 1, r => match numR r with
    | some (u, t) => (scanN n t).map fun ns => (u : Int) :: ns
    | none => none
theorem dig_digit (b : UInt8) : isDig b = true ↔ Lib.digitVal b = some (b.toNat - 48) ∧ 48 ≤ b.toNat ∧ b.toNat ≤ 57 := by
  unfold isDig Lib.digitVal
  constructor
  · intro h; have := of_decide_eq_true h; exact ⟨if_pos this, this⟩
  · intro h; exact decide_eq_true h.2
theorem decFrom_append (l m : List UInt8) (acc : Nat) : Lib.decFrom acc (l ++ m) = (Lib.decFrom acc l).bind fun n => Lib.decFrom n m := by
  induction l generalizing acc with
  | nil => rfl
  | cons x t ih =>
    show Lib.decFrom acc (x :: (t ++ m)) = _
    simp only [Lib.decFrom]
    cases Lib.digitVal x with
    | none => rfl
    | some d => exact ih _
theorem decFrom_ge : ∀ (l : List UInt8) (acc n : Nat), Lib.decFrom acc l = some n → acc ≤ n
  | [], acc, n, h => by simp [Lib.decFrom] at h; omega
  | x :: t, acc, n, h => by
    simp only [Lib.decFrom] at h
    cases hx : Lib.digitVal x with
    | none => rw [hx] at h; cases h
    | some d => rw [hx] at h; have := decFrom_ge t _ _ h; omega
theorem decFrom_dig : ∀ (l : List UInt8) (acc : Nat), (∀ x ∈ l, isDig x = true) → ∃ n, Lib.decFrom acc l = some n
  | [], acc, _ => ⟨acc, rfl⟩
  | x :: t, acc, h => by
    simp only [Lib.decFrom]
    rw [((dig_digit x).1 (h x (by simp))).1]
    exact decFrom_dig t _ fun y hy => h y (by simp [hy])
/-- digits without a needless zero are the text of their value -/
theorem digits_canon : ∀ (k : Nat) (ds : List UInt8) (u : Nat), ds.length = k + 1 → (∀ x ∈ ds, isDig x = true) → Lib.decFrom 0 ds = some u → (ds.length = 1 ∨ ds.head? ≠ some 48) → Lib.decDigits u = ds
  | 0, ds, u, hl, hd, hu, _ => by
    match ds, hl with
    | [d], _ =>
      have h := (dig_digit d).1 (hd d (by simp))
      simp only [Lib.decFrom, h.1] at hu
      injection hu with hu
      rw [Lib.decDigits_one (by omega)]
      congr 1
      apply UInt8.toNat_inj.1
      simp; omega
  | k + 1, ds, u, hl, hd, hu, hc => by
    have hne : ds ≠ [] := by intro e; rw [e] at hl; simp at hl
    obtain ⟨ini, d, rfl⟩ : ∃ ini d, ds = ini ++ [d] := ⟨ds.dropLast, ds.getLast hne, (List.dropLast_concat_getLast hne).symm⟩
    have hil : ini.length = k + 1 := by simpa using hl
    have hdd := (dig_digit d).1 (hd d (by simp))
    rw [decFrom_append] at hu
    obtain ⟨m, hm⟩ := decFrom_dig ini 0 fun x hx => hd x (by simp [hx])
    rw [hm] at hu
    simp only [Option.bind_some, Lib.decFrom, hdd.1] at hu
    injection hu with hu
    have hhead : ini.head? ≠ some 48 := by
      rcases hc with hc | hc
      · simp only [List.length_append, List.length_singleton] at hc; omega
      · match ini, hil with
        | x :: t, _ => simpa using hc
    have ih := digits_canon k ini m hil (fun x hx => hd x (by simp [hx])) hm (.inr hhead)
    have hm1 : 1 ≤ m := by
      rcases Nat.eq_zero_or_pos m with h0 | h0
      · rw [h0, Lib.decDigits_one (by omega)] at ih
        rw [← ih] at hhead
        exact absurd rfl hhead
      · exact h0
    have e1 : u / 10 = m := by omega
    have e2 : UInt8.ofNat (48 + u % 10) = d := by
      apply UInt8.toNat_inj.1
      simp; omega
    rw [Lib.decDigits, dif_neg (by omega), e1, ih, e2]
theorem takeWhile_all (p : UInt8 → Bool) : ∀ (l : List UInt8), ∀ x ∈ l.takeWhile p, p x = true
  | [], x, h => by simp at h
  | c :: t, x, h => by
    rw [List.takeWhile_cons] at h
    split at h
    · rename_i hc
      rcases List.mem_cons.1 h with rfl | h
      · exact hc
      · exact takeWhile_all p t x h
    · simp at h
theorem pow_nDigits (u : Nat) (h : 1 ≤ u) : 10 ^ (Lib.nDigits u - 1) ≤ u := by
  induction u using Nat.strongRecOn with
  | _ u ih =>
    by_cases hu : u < 10
    · rw [Lib.nDigits_small hu]; simpa using h
    · have h1 := ih (u / 10) (by omega) (by omega)
      have h2 := Lib.nDigits_pos (u / 10)
      rw [Lib.nDigits_big hu, show Lib.nDigits (u / 10) + 1 - 1 = (Lib.nDigits (u / 10) - 1) + 1 by omega, Nat.pow_succ]
      omega
theorem numR_some {r t : List UInt8} {u : Nat} (h : numR r = some (u, t)) : u ≤ 1099511627776 ∧ r = 32 :: Lib.decDigits u ++ t := by
  unfold numR at h
  match r, h with
  | c :: l, h =>
    simp only at h
    split at h
    · rename_i hc
      split at h
      · rename_i v hv
        split at h
        · rename_i hk
          cases h
          refine ⟨hk.2, ?_⟩
          have hd : ∀ x ∈ l.takeWhile isDig, isDig x = true := takeWhile_all isDig l
          have hne : l.takeWhile isDig ≠ [] := by intro e; rw [e] at hv; simp [Lib.decNat] at hv
          have hv' : Lib.decFrom 0 (l.takeWhile isDig) = some u := by
            unfold Lib.decNat at hv
            split at hv
            · cases hv
            · exact hv
          have hh : (l.takeWhile isDig).length = 1 ∨ (l.takeWhile isDig).head? ≠ some 48 := by
            rcases hk.1 with h1 | h1
            · exact .inl h1
            · refine .inr ?_
              match l, hne, h1 with
              | x :: s, hne, h1 =>
                rw [List.takeWhile_cons] at hne ⊢
                split at hne
                · rename_i hx; rw [if_pos hx]; simpa using h1
                · exact absurd rfl hne
          obtain ⟨k, hk2⟩ : ∃ k, (l.takeWhile isDig).length = k + 1 := ⟨(l.takeWhile isDig).length - 1, by have := List.length_pos_iff.2 hne; omega⟩
          rw [digits_canon k _ u hk2 hd hv' hh, hc, List.cons_append, List.takeWhile_append_dropWhile]
        · cases h
      · cases h
    · cases h
theorem take_digits {l t : List UInt8} (h : ∀ x ∈ l, isDig x = true) (ht : t = [] ∨ ∃ c s, t = c :: s ∧ isDig c = false) : (l ++ t).takeWhile isDig = l ∧ (l ++ t).dropWhile isDig = t := by
  induction l with
  | nil =>
    rcases ht with rfl | ⟨c, s, rfl, hc⟩
    · simp
    · simp [hc]
  | cons x l ih =>
    obtain ⟨h1, h2⟩ := ih (fun y hy => h y (by simp [hy]))
    have hx := h x (by simp)
    simp [hx, h1, h2]
theorem numR_ok {u : Nat} {t : List UInt8} (hu : u ≤ 1099511627776) (ht : t = [] ∨ ∃ c s, t = c :: s ∧ isDig c = false) : numR (32 :: (Lib.decDigits u ++ t)) = some (u, t) := by
  obtain ⟨c, r, e, hall⟩ := digits_ne u
  have hd : ∀ x ∈ Lib.decDigits u, isDig x = true := fun x hx => decide_eq_true (hall x hx)
  obtain ⟨h1, h2⟩ := take_digits hd ht
  have hv : Lib.decNat (Lib.decDigits u) = some u := by
    have := decFrom_digits u
    unfold Lib.decNat
    rw [e] at this ⊢
    simpa using this
  have hh : (Lib.decDigits u).length = 1 ∨ (Lib.decDigits u ++ t).head? ≠ some 48 := by
    by_cases h10 : u < 10
    · exact .inl (by rw [Lib.decDigits_one h10]; rfl)
    · refine .inr fun h => ?_
      rw [e] at h
      simp only [List.cons_append, List.head?_cons, Option.some.injEq] at h
      subst h
      have hl := Lib.decDigits_length u
      -- a numeral of more than one digit begins with no zero
      have hz : Lib.decFrom 0 r = some u := by
        have := decFrom_digits u
        rw [e] at this
        simpa [Lib.decFrom, Lib.digitVal] using this
      have hlt := Lib.decFrom_lt r 0 u hz
      rw [e] at hl
      have hb : 10 ^ r.length ≤ u := by
        have := pow_nDigits u (by omega)
        rw [← hl] at this
        simpa using this
      omega
  unfold numR
  simp only [if_true, h1, h2, hv]
  rw [if_pos ⟨hh, hu⟩]
theorem scanN_iff : ∀ (n : Nat) (r : List UInt8) (ns : List Int), scanN n r = some ns ↔ ns.length = n ∧ InR ns ∧ r = ns.flatMap fun m => 32 :: Lib.itoa m
  | 0, r, ns => by
    unfold scanN
    constructor
    · intro h
      split at h
      · rename_i hr; cases h; exact ⟨rfl, fun n hn => (by simp at hn), by rw [hr]; rfl⟩
      · cases h
    · rintro ⟨h1, _, h3⟩
      obtain rfl := List.eq_nil_of_length_eq_zero h1
      rw [if_pos (by simpa using h3)]
  | n + 1, r, ns => by
    unfold scanN
    constructor
    · intro h
      split at h
      · rename_i u t hn
        obtain ⟨hu, e⟩ := numR_some hn
        cases hs : scanN n t with
        | none => rw [hs] at h; cases h
        | some ms =>
          rw [hs] at h
          cases h
          obtain ⟨h1, h2, h3⟩ := (scanN_iff n t ms).1 hs
          refine ⟨by simp [h1], fun m hm => ?_, ?_⟩
          · rcases List.mem_cons.1 hm with rfl | hm
            · omega
            · exact h2 m hm
          · rw [e, h3, List.flatMap_cons, Lib.itoa_nonneg]
      · cases h
    · rintro ⟨h1, h2, h3⟩
      match ns, h1 with
      | m :: ms, h1 =>
        obtain ⟨u, rfl⟩ := Int.eq_ofNat_of_zero_le (h2 m (by simp)).1
        have hu := (h2 (u : Int) (by simp)).2
        rw [List.flatMap_cons, Lib.itoa_nonneg, List.cons_append] at h3
        have ht : (ms.flatMap fun m => 32 :: Lib.itoa m) = [] ∨ ∃ c s, (ms.flatMap fun m => 32 :: Lib.itoa m) = c :: s ∧ isDig c = false := by
          cases ms with
          | nil => exact .inl rfl
          | cons a b => exact .inr ⟨32, _, by rw [List.flatMap_cons, List.cons_append], by decide⟩
        rw [h3, numR_ok (by omega) ht]
        simp only
        rw [(scanN_iff n _ ms).2 ⟨by simpa using h1, fun m hm => h2 m (by simp [hm]), rfl⟩]
        rfl
theorem lineOf_scan {word : List UInt8} (hw : (32 : UInt8) ∉ word) (n : Nat) (r : List UInt8) : lineOf word n ⟨(word ++ r).toArray⟩ = scanN n r := by
  cases h : scanN n r with
  | some ns =>
    obtain ⟨h1, h2, h3⟩ := (scanN_iff n r ns).1 h
    exact (lineOf_iff hw).2 ⟨h1, h2, by rw [lnA, ← h3]⟩
  | none =>
    cases h2 : lineOf word n ⟨(word ++ r).toArray⟩ with
    | none => rfl
    | some ns =>
      obtain ⟨g1, g2, g3⟩ := (lineOf_iff hw).1 h2
      have e : word ++ r = word ++ ns.flatMap fun m => 32 :: Lib.itoa m := by
        have := congrArg (fun b : ByteArray => b.data.toList) g3
        simpa [lnA] using this
      rw [(scanN_iff n r ns).2 ⟨g1, g2, List.append_cancel_left e⟩] at h
      cases h
theorem lineOf_other {word : List UInt8} (hw : (32 : UInt8) ∉ word) (n : Nat) (s : ByteArray) (h : ¬ ∃ r, s.data.toList = word ++ r) : lineOf word n s = none := by
  cases h2 : lineOf word n s with
  | none => rfl
  | some ns =>
    obtain ⟨_, _, g3⟩ := (lineOf_iff hw).1 h2
    exact absurd ⟨_, by rw [g3]; simp [lnA]; rfl⟩ h
end Go.Proofs.YtgnlanfpholdaaaDoor

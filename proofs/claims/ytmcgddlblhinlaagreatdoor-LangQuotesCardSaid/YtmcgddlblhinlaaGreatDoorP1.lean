/- Plain: quoted texts. -/
import Derived.Lib.IndexMore
import Derived.Lib.Hide
namespace Go.Proofs.YtmcgddlblhinlaaGreatDoor
def digs : List UInt8 := [48, 49, 50, 51, 52, 53, 54, 55, 56, 57, 97, 98, 99, 100, 101, 102]
def hexD (n : Nat) : UInt8 := digs.getD n 0
/-- a byte that is its own text -/
def okP (c : UInt8) : Bool := decide (32 ≤ c.toNat ∧ c.toNat ≤ 126 ∧ c ≠ 34 ∧ c ≠ 92)
/-- the text of a byte -/
def qb (c : UInt8) : List UInt8 := if okP c = true then [c] else if c = 34 ∨ c = 92 then [92, c] else [92, 120, hexD (c.toNat / 16), hexD (c.toNat % 16)]
def qsL (s : List UInt8) : List UInt8 := s.flatMap qb
/-- the quoted text -/
def quoteL (s : List UInt8) : List UInt8 := 34 :: (qsL s ++ [34])
/-- the byte at the beginning of a text, and the size of its text -/
def codeL : List UInt8 → UInt8 × Nat
  | [] => (0, 0)
  | a :: r => if okP a = true then (a, 1) else if a ≠ 92 then (0, 0) else
    match r with
    | [] => (0, 0)
    | b :: r2 => if b = 34 ∨ b = 92 then (b, 2) else if b ≠ 120 then (0, 0) else
      match r2 with
      | h :: l :: _ => if 0 ≤ Lib.indexByte digs h ∧ 0 ≤ Lib.indexByte digs l then (UInt8.ofNat (16 * (Lib.indexByte digs h).toNat + (Lib.indexByte digs l).toNat), 4) else (0, 0)
      | _ => (0, 0)
theorem hex_idx : ∀ n, n < 16 → Lib.indexByte digs (hexD n) = n := by decide
theorem okP_92 : okP 92 = false := by decide
theorem okP_34 : okP 34 = false := by decide
theorem qb_pos (c : UInt8) : 0 < (qb c).length := by
  unfold qb; split
  · simp
  · split <;> simp
theorem qb_le (c : UInt8) : (qb c).length ≤ 4 := by
  unfold qb; split
  · simp
  · split <;> simp
theorem codeL_qb (c : UInt8) (r : List UInt8) : codeL (qb c ++ r) = (c, (qb c).length) := by
  unfold qb
  by_cases h : okP c = true
  · rw [if_pos h]; simp [codeL, h]
  · rw [if_neg h]
    by_cases h2 : c = 34 ∨ c = 92
    · rw [if_pos h2]; simp [codeL, okP_92, h2]
    · rw [if_neg h2]
      have hc := c.toNat_lt
      have h3 := hex_idx (c.toNat / 16) (by omega)
      have h4 := hex_idx (c.toNat % 16) (by omega)
      have e : UInt8.ofNat (16 * (c.toNat / 16) + c.toNat % 16) = c := by
        rw [show 16 * (c.toNat / 16) + c.toNat % 16 = c.toNat by omega]; simp
      have q1 : ¬ (92 : UInt8) ≠ 92 := by simp
      have q2 : ¬ ((120 : UInt8) = 34 ∨ (120 : UInt8) = 92) := by simp
      have q3 : ¬ (120 : UInt8) ≠ 120 := by simp
      show codeL (92 :: 120 :: hexD (c.toNat / 16) :: hexD (c.toNat % 16) :: r) = _
      rw [codeL, if_neg (by rw [okP_92]; simp), if_neg q1]
      rw [if_neg q2, if_neg q3, h3, h4, if_pos ⟨by omega, by omega⟩, Int.toNat_natCast, Int.toNat_natCast, e]
      rfl
theorem codeL_cons (a : UInt8) (r : List UInt8) : codeL (a :: r) = if okP a = true then (a, 1) else if a ≠ 92 then (0, 0) else
    match r with
    | [] => (0, 0)
    | b :: r2 => if b = 34 ∨ b = 92 then (b, 2) else if b ≠ 120 then (0, 0) else
      match r2 with
      | h :: l :: _ => if 0 ≤ Lib.indexByte digs h ∧ 0 ≤ Lib.indexByte digs l then (UInt8.ofNat (16 * (Lib.indexByte digs h).toNat + (Lib.indexByte digs l).toNat), 4) else (0, 0)
      | _ => (0, 0) := rfl
theorem codeL_le (s : List UInt8) : (codeL s).2 ≤ s.length := by
  match s with
  | [] => simp [codeL]
  | a :: r =>
    rw [codeL_cons]
    split
    · simp
    · split
      · simp
      · match r with
        | [] => simp
        | b :: r2 =>
          dsimp only
          split
          · simp
          · split
            · simp
            · match r2 with
              | [] => simp
              | [x] => simp
              | h :: l :: r3 =>
                dsimp only
                split <;> simp
theorem qsL_cons (c : UInt8) (v : List UInt8) : qsL (c :: v) = qb c ++ qsL v := by simp [qsL]
theorem qsL_app (a b : List UInt8) : qsL (a ++ b) = qsL a ++ qsL b := by simp [qsL]
theorem qsL_nil {v : List UInt8} (h : qsL v = []) : v = [] := by
  match v, h with
  | [], _ => rfl
  | c :: t, h =>
    rw [qsL_cons] at h
    have := qb_pos c
    have h2 := congrArg List.length h
    rw [List.length_append] at h2
    simp at h2; simp [h2.1] at this
theorem qsL_len (v : List UInt8) : v.length ≤ (qsL v).length ∧ (qsL v).length ≤ 4 * v.length := by
  induction v with
  | nil => simp [qsL]
  | cons c t ih =>
    have h1 := qb_pos c
    have h2 := qb_le c
    rw [qsL_cons, List.length_append, List.length_cons]; omega
theorem quoteL_len (v : List UInt8) : (quoteL v).length = (qsL v).length + 2 := by simp [quoteL]
/-- the bytes of a text -/
theorem qb_range (c : UInt8) : ∀ b ∈ qb c, 32 ≤ b.toNat ∧ b.toNat ≤ 126 := by
  have hh : ∀ n, n < 16 → 32 ≤ (hexD n).toNat ∧ (hexD n).toNat ≤ 126 := by decide
  have hc := c.toNat_lt
  intro b hb
  unfold qb at hb
  split at hb
  · rename_i h
    simp only [List.mem_singleton] at hb; subst hb
    unfold okP at h
    have := of_decide_eq_true h
    exact ⟨this.1, this.2.1⟩
  · split at hb
    · rename_i h2
      simp only [List.mem_cons, List.not_mem_nil, or_false] at hb
      rcases hb with rfl | rfl
      · decide
      · rcases h2 with rfl | rfl <;> decide
    · simp only [List.mem_cons, List.not_mem_nil, or_false] at hb
      rcases hb with rfl | rfl | rfl | rfl
      · decide
      · decide
      · exact hh _ (by omega)
      · exact hh _ (by omega)
theorem quote_range (s : List UInt8) : ∀ b ∈ quoteL s, 32 ≤ b.toNat ∧ b.toNat ≤ 126 := by
  intro b hb
  simp only [quoteL, List.mem_cons, List.mem_append, qsL, List.mem_flatMap, List.not_mem_nil, or_false] at hb
  rcases hb with rfl | ⟨c, _, hb⟩ | rfl
  · decide
  · exact qb_range c b hb
  · decide
/-- t is the quoted text of u, which is not too long -/
def IsU (t u : List UInt8) : Prop := quoteL u = t ∧ u.length ≤ 4096
/-- the reading under way: out is read, rest is left -/
def UI (t out rest : List UInt8) : Prop := ∀ u, IsU t u → ∃ v, u = out ++ v ∧ rest = qsL v
theorem UI.start {t : List UInt8} : UI t [] ((t.drop 1).take (t.length - 2)) := by
  rintro u ⟨rfl, _⟩
  refine ⟨u, rfl, ?_⟩
  rw [quoteL_len]
  simp [quoteL]
theorem UI.head {t out rest : List UInt8} (h : UI t out rest) (hr : rest ≠ []) {u : List UInt8} (hu : IsU t u) : ∃ c v, u = out ++ c :: v ∧ rest = qb c ++ qsL v ∧ codeL rest = (c, (qb c).length) := by
  obtain ⟨v, rfl, rfl⟩ := h u hu
  match v with
  | [] => exact absurd rfl hr
  | c :: v => exact ⟨c, v, rfl, qsL_cons c v, by rw [qsL_cons, codeL_qb]⟩
theorem UI.next {t out rest : List UInt8} (h : UI t out rest) (hr : rest ≠ []) : UI t (out ++ [(codeL rest).1]) (rest.drop (codeL rest).2) := by
  intro u hu
  obtain ⟨c, v, e1, e2, e3⟩ := h.head hr hu
  refine ⟨v, by rw [e3]; simp [e1], ?_⟩
  rw [e3, e2]; simp
theorem UI.none {t out rest : List UInt8} (h : UI t out rest) (hr : rest ≠ []) (h0 : (codeL rest).2 = 0) : ∀ u, ¬ IsU t u := by
  intro u hu
  obtain ⟨c, v, e1, e2, e3⟩ := h.head hr hu
  have := qb_pos c
  rw [e3] at h0; simp only at h0; omega
theorem UI.full {t out rest : List UInt8} (h : UI t out rest) (hr : rest ≠ []) (h0 : out.length = 4096) : ∀ u, ¬ IsU t u := by
  intro u hu
  obtain ⟨c, v, e1, e2, e3⟩ := h.head hr hu
  have := hu.2
  rw [e1, List.length_append, List.length_cons] at this; omega
theorem UI.done {t out : List UInt8} (h : UI t out []) : ∀ u, IsU t u → u = out := by
  intro u hu
  obtain ⟨v, e1, e2⟩ := h u hu
  rw [qsL_nil e2.symm, List.append_nil] at e1; exact e1
theorem IsU.ends {t u : List UInt8} (h : IsU t u) : 2 ≤ t.length ∧ t[0]? = some 34 ∧ t[t.length - 1]? = some 34 := by
  obtain ⟨rfl, _⟩ := h
  rw [quoteL_len]
  refine ⟨by omega, by simp [quoteL], ?_⟩
  rw [show (qsL u).length + 2 - 1 = (qsL u).length + 1 by omega]
  simp [quoteL]
theorem quoteL_inj {u v : List UInt8} (h : quoteL u = quoteL v) : u = v := by
  have hq : qsL u = qsL v := by
    unfold quoteL at h
    exact List.append_cancel_right (List.cons.inj h).2
  clear h
  induction u generalizing v with
  | nil => exact (qsL_nil hq.symm).symm
  | cons c t ih =>
    match v with
    | [] => exact qsL_nil hq
    | d :: v =>
      rw [qsL_cons, qsL_cons] at hq
      have h1 := codeL_qb c (qsL t)
      rw [hq, codeL_qb] at h1
      obtain ⟨rfl, _⟩ := Prod.mk.inj h1
      rw [ih (List.append_cancel_left hq)]
open Classical in
/-- what Unquote answers -/
noncomputable def unqR (t : List UInt8) : List UInt8 × Int := if h : ∃ u, IsU t u then (h.choose, 0) else ([], 3)
theorem unqR_some {t u : List UInt8} (h : IsU t u) : unqR t = (u, 0) := by
  have hx : ∃ u, IsU t u := ⟨u, h⟩
  unfold unqR
  rw [dif_pos hx, quoteL_inj (hx.choose_spec.1.trans h.1.symm)]
theorem unqR_none {t : List UInt8} (h : ∀ u, ¬ IsU t u) : unqR t = ([], 3) := by
  unfold unqR
  rw [dif_neg (fun hx => h _ hx.choose_spec)]
theorem unqR_cases (t : List UInt8) : (∃ u, IsU t u ∧ unqR t = (u, 0)) ∨ ((∀ u, ¬ IsU t u) ∧ unqR t = ([], 3)) := by
  by_cases hx : ∃ u, IsU t u
  · obtain ⟨u, hu⟩ := hx
    exact .inl ⟨u, hu, unqR_some hu⟩
  · have h : ∀ u, ¬ IsU t u := fun u hu => hx ⟨u, hu⟩
    exact .inr ⟨h, unqR_none h⟩
/-- the reference's reading under way, at place i -/
def UJ (t out : List UInt8) (i : Nat) : Prop := ∀ u, IsU t u → ∃ v, u = out ++ v ∧ t.drop i = qsL v ++ [34]
theorem UJ.start {t : List UInt8} : UJ t [] 1 := by
  rintro u ⟨rfl, _⟩
  exact ⟨u, rfl, by simp [quoteL]⟩
theorem UJ.head {t out : List UInt8} {i : Nat} (h : UJ t out i) (hi : i < t.length) (hq : t[i] ≠ 34) {u : List UInt8} (hu : IsU t u) : ∃ c v, u = out ++ c :: v ∧ t.drop i = qb c ++ (qsL v ++ [34]) := by
  obtain ⟨v, rfl, e⟩ := h u hu
  match v with
  | [] =>
    exfalso
    rw [List.drop_eq_getElem_cons hi] at e
    exact hq (List.cons.inj e).1
  | c :: v => exact ⟨c, v, rfl, by rw [e, qsL_cons, List.append_assoc]⟩
theorem UJ.step {t out : List UInt8} {i n : Nat} {c : UInt8} (h : UJ t out i) (hi : i < t.length) (hq : t[i] ≠ 34) (hc : codeL (t.drop i) = (c, n)) : UJ t (out ++ [c]) (i + n) := by
  intro u hu
  obtain ⟨c', v, e1, e2⟩ := h.head hi hq hu
  rw [e2, codeL_qb] at hc
  obtain ⟨rfl, rfl⟩ := Prod.mk.inj hc
  refine ⟨v, by simp [e1], ?_⟩
  rw [← List.drop_drop, e2]; simp
theorem UJ.none {t out : List UInt8} {i : Nat} (h : UJ t out i) (hi : i < t.length) (hq : t[i] ≠ 34) (h0 : (codeL (t.drop i)).2 = 0) : ∀ u, ¬ IsU t u := by
  intro u hu
  obtain ⟨c', v, e1, e2⟩ := h.head hi hq hu
  have := qb_pos c'
  rw [e2, codeL_qb] at h0; simp only at h0; omega
/-- a byte that is not its own text, nor a backslash: no quoted text has it there -/
theorem UJ.odd {t out : List UInt8} {i : Nat} (h : UJ t out i) (hi : i < t.length) (hq : t[i] ≠ 34) (hb : t[i] ≠ 92) : UJ t (out ++ [t[i]]) (i + 1) := by
  intro u hu
  obtain ⟨c', v, e1, e2⟩ := h.head hi hq hu
  have e3 := e2
  rw [List.drop_eq_getElem_cons hi] at e3
  have hq1 : qb c' = [c'] := by
    unfold qb at e3 ⊢
    split
    · rfl
    · rename_i h2
      rw [if_neg h2] at e3
      split at e3
      · exact absurd (List.cons.inj e3).1 hb
      · exact absurd (List.cons.inj e3).1 hb
  rw [hq1] at e3 e2
  have e4 := (List.cons.inj e3).1
  rw [e4]
  refine ⟨v, by simp [e1], ?_⟩
  rw [← List.drop_drop, e2]; simp
theorem UJ.done {t out : List UInt8} {i : Nat} (h : UJ t out i) (hi : ∀ hi : i < t.length, t[i] = 34) : ∀ u, IsU t u → u = out := by
  intro u hu
  obtain ⟨v, e1, e2⟩ := h u hu
  match v with
  | [] => rw [e1, List.append_nil]
  | c :: v =>
    exfalso
    have hl := congrArg List.length e2
    rw [List.length_drop, qsL_cons] at hl
    simp only [List.length_append] at hl
    have hlt : i < t.length := by have := qb_pos c; omega
    have h34 := hi hlt
    rw [List.drop_eq_getElem_cons hlt, h34, qsL_cons] at e2
    unfold qb at e2
    split at e2
    · rename_i h2
      have := (List.cons.inj e2).1
      rw [← this] at h2
      rw [okP_34] at h2; cases h2
    · split at e2
      · have := (List.cons.inj e2).1; cases this
      · have := (List.cons.inj e2).1; cases this
end Go.Proofs.YtmcgddlblhinlaaGreatDoor

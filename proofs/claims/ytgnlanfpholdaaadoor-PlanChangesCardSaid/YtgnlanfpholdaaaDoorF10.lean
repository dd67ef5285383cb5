/- What read reads, in plain words. -/
import Derived.Test.YtgnlanfpholdaaaDoorF9
import Derived.Lib.SplitLaws
namespace Go.Proofs.YtgnlanfpholdaaaDoor
open Go.RowKit
/-- the words of a line -/
def wordsOf (s : ByteArray) : List ByteArray := Lib.splitB ⟨#[32]⟩ 0 (Lib.countB s ⟨#[32]⟩) s
theorem words_len (s : ByteArray) : (wordsOf s).length = Lib.countB s ⟨#[32]⟩ + 1 := Lib.splitB_all _ (by decide) 0 _ s rfl
theorem splitB_size (sep : ByteArray) : ∀ (k : Nat) (s x : ByteArray), x ∈ Lib.splitB sep 0 k s → x.size ≤ s.size
  | 0, s, x, h => by simp only [Lib.splitB, List.mem_singleton] at h; rw [h]; exact Nat.le_refl _
  | k + 1, s, x, h => by
    unfold Lib.splitB at h
    split at h
    · simp only [List.mem_singleton] at h; rw [h]; exact Nat.le_refl _
    · rcases List.mem_cons.1 h with rfl | h
      · rw [ByteArray.size_extract]; omega
      · have := splitB_size sep k _ x h
        rw [ByteArray.size_extract] at this; omega
theorem words_size {s x : ByteArray} (h : x ∈ wordsOf s) : x.size ≤ s.size := splitB_size _ _ _ _ h
def numsOf : List ByteArray → Option (List Int)
  | [] => some []
  | x :: t => match numOf x.data.toList, numsOf t with
    | some v, some l => some (v :: l)
    | _, _ => none
theorem numsOf_len : ∀ {ws : List ByteArray} {l : List Int}, numsOf ws = some l → l.length = ws.length
  | [], l, h => by cases h; rfl
  | x :: t, l, h => by
    unfold numsOf at h
    split at h
    · rename_i v m _ hm
      cases h
      simp [numsOf_len hm]
    · cases h
theorem numsOf_get : ∀ {ws : List ByteArray} {l : List Int} {k : Nat} {x : ByteArray}, numsOf ws = some l → ws[k]? = some x → numOf x.data.toList ≠ none
  | [], _, _, _, _, hk => by simp at hk
  | y :: t, l, k, x, h, hk => by
    unfold numsOf at h
    split at h
    · rename_i v m hv hm
      cases k with
      | zero => simp only [List.getElem?_cons_zero, Option.some.injEq] at hk; rw [← hk, hv]; simp
      | succ k => exact numsOf_get hm (by simpa using hk)
    · cases h
theorem numsOf_snoc : ∀ {ws : List ByteArray} {l : List Int} {x : ByteArray} {v : Int}, numsOf ws = some l → numOf x.data.toList = some v → numsOf (ws ++ [x]) = some (l ++ [v])
  | [], l, x, v, h, hv => by cases h; simp [numsOf, hv]
  | y :: t, l, x, v, h, hv => by
    unfold numsOf at h
    split at h
    · rename_i u m hu hm
      cases h
      have := numsOf_snoc hm hv
      simp [numsOf, hu, this]
    · cases h
/-- what a reader of ws has got behind k calls -/
structure Got (ws : List ByteArray) (k : Nat) (vs : List Int) (rest : List ByteArray) (bad : Bool) : Prop where
  good : bad = false → k ≤ ws.length ∧ numsOf (ws.take k) = some vs ∧ rest = ws.drop k
  fell : bad = true → ∀ l, numsOf ws = some l → l.length < k
  sub : ∀ x ∈ rest, x ∈ ws
  len : vs.length = k
theorem Got.start (ws : List ByteArray) : Got ws 0 [] ws false := ⟨fun _ => ⟨Nat.zero_le _, rfl, rfl⟩, (fun h => by cases h), fun _ h => h, rfl⟩
theorem Got.step {ws : List ByteArray} {k : Nat} {vs : List Int} {rest : List ByteArray} {bad bad' : Bool} {r : Int} (g : Got ws k vs rest bad)
    (h1 : bad = true → bad' = true) (h2 : rest = [] → bad' = true) (h3 : ∀ x t, rest = x :: t → bad = false → (numOf x.data.toList = none → bad' = true) ∧ ∀ v, numOf x.data.toList = some v → r = v ∧ bad' = false) :
    Got ws (k + 1) (vs ++ [r]) (if bad then rest else rest.tail) bad' := by
  refine ⟨fun hb => ?_, fun hb l hl => ?_, fun x hx => ?_, by simp [g.len]⟩
  · have b0 : bad = false := by cases bad with | false => rfl | true => rw [h1 rfl] at hb; cases hb
    obtain ⟨e1, e2, e3⟩ := g.good b0
    cases hr : rest with
    | nil => rw [h2 hr] at hb; cases hb
    | cons x t =>
      obtain ⟨n1, n2⟩ := h3 x t hr b0
      cases hv : numOf x.data.toList with
      | none => rw [n1 hv] at hb; cases hb
      | some v =>
        obtain ⟨rfl, _⟩ := n2 v hv
        have hd : ws.drop k = x :: t := e3.symm.trans hr
        have hk : ws[k]? = some x := by have := congrArg (·[0]?) hd; simpa using this
        have hlt : k < ws.length := by
          rcases Nat.lt_or_ge k ws.length with h | h
          · exact h
          · rw [List.getElem?_eq_none h] at hk; cases hk
        refine ⟨hlt, ?_, ?_⟩
        · rw [List.take_add_one, hk]
          exact numsOf_snoc e2 hv
        · rw [b0]
          simp only [Bool.false_eq_true, if_false, List.tail_cons]
          rw [← List.drop_drop, hd]; rfl
  · cases hbad : bad with
    | true => have := g.fell hbad l hl; omega
    | false =>
      obtain ⟨e1, e2, e3⟩ := g.good hbad
      have hn := numsOf_len hl
      rcases Nat.lt_or_ge l.length (k + 1) with h | h
      · exact h
      · exfalso
        have hlt : k < ws.length := by omega
        have hd : ws.drop k = ws[k] :: ws.drop (k + 1) := List.drop_eq_getElem_cons hlt
        obtain ⟨n1, n2⟩ := h3 _ _ (e3.trans hd) hbad
        cases hv : numOf (ws[k]).data.toList with
        | none => exact numsOf_get hl (List.getElem?_eq_getElem hlt) hv
        | some v => rw [(n2 v hv).2] at hb; cases hb
  · cases hbad : bad with
    | true => rw [hbad] at hx; exact g.sub x (by simpa using hx)
    | false => rw [hbad] at hx; exact g.sub x (List.mem_of_mem_tail (by simpa using hx))
/-- all read, and nothing left -/
theorem Got.whole {ws : List ByteArray} {k : Nat} {vs : List Int} {rest : List ByteArray} {bad : Bool} (g : Got ws k vs rest bad) (hb : bad = false) (hr : rest = []) : numsOf ws = some vs := by
  obtain ⟨e1, e2, e3⟩ := g.good hb
  have : ws.length ≤ k := by
    have := congrArg List.length (e3.symm.trans hr)
    simp at this; omega
  rwa [List.take_of_length_le this] at e2
theorem Got.not {ws : List ByteArray} {k : Nat} {vs : List Int} {rest : List ByteArray} {bad : Bool} (g : Got ws k vs rest bad) (h : bad = true ∨ rest ≠ []) : ∀ l, numsOf ws = some l → l.length ≠ k := by
  intro l hl
  cases hbad : bad with
  | true => have := g.fell hbad l hl; omega
  | false =>
    obtain ⟨e1, e2, e3⟩ := g.good hbad
    have hn := numsOf_len hl
    rcases h with h | h
    · rw [hbad] at h; cases h
    · intro e
      apply h
      rw [e3, List.drop_eq_nil_iff]; omega
def conOf : List Int → Option Con
  | [a, b, s, e, r, g, l] => some ⟨a, b, s, e, r, g, l⟩
  | _ => none
/-- a line added to a plan -/
def readL (Q : List Int) (C : List Con) (s : ByteArray) : Option (List Int × List Con) :=
  match wordsOf s with
  | [] => none
  | x :: t =>
    if x.data.toList = [110, 111, 100, 101] then
      match numsOf t with
      | some [a, q] => if a = Q.length ∧ C = [] then some (Q ++ [q], C) else none
      | _ => none
    else if x.data.toList = [99, 111, 110, 116, 97, 99, 116] then
      match (numsOf t).bind conOf with
      | some c => some (Q, C ++ [c])
      | none => none
    else none
theorem split_any (s : ByteArray) (hs : s.size ≤ 8192) (w : World) (hG : Glob w) : Calls Tryd.prog 68 #[.string s, .string ⟨#[32]⟩] w fun e w' => e = .returned (.slice (some ⟨w.heap.size, 0, none⟩) (wordsOf s).length (wordsOf s).length) ∧ w' = w.alloc (.cells ((wordsOf s).map Value.string).toArray 9) := by
  obtain ⟨h0, ⟨m, h1⟩, _⟩ := hG
  refine (Tryd.strings_Split s ⟨#[32]⟩ m w (by omega) h1 (by decide)).mono ?_
  rintro e w' ⟨rfl, rfl⟩
  rw [words_len]
  exact ⟨rfl, rfl⟩
end Go.Proofs.YtgnlanfpholdaaaDoor

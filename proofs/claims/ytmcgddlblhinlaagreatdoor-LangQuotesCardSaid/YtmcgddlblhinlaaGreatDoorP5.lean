/- Plain: a mission's text is parsed, and what is parsed is a mission's text. -/
import Derived.Test.YtmcgddlblhinlaaGreatDoorP4
namespace Go.Proofs.YtmcgddlblhinlaaGreatDoor
theorem joinW_mem {c : UInt8} (hc : c ≠ 32) {w : ByteArray} {t : List ByteArray} (hw : c ∉ w.data.toList) (ht : ∀ y ∈ t, c ∉ y.data.toList) : c ∉ joinW w t := by
  intro h
  rw [joinW, List.mem_append] at h
  rcases h with h | h
  · exact hw h
  · obtain ⟨y, hy, h⟩ := List.mem_flatMap.1 h
    rcases List.mem_cons.1 h with h | h
    · exact hc h
    · exact ht y hy h
theorem num_nl {n : Int} (h : 0 ≤ n) : (10 : UInt8) ∉ (itoaS n).data.toList := by simpa [itoaS] using (not_space (itoa_bytes h)).2
theorem quote_nl (s : ByteArray) : (10 : UInt8) ∉ (quoteS s).data.toList := by
  intro h
  have := quote_range s.data.toList 10 (by simpa [quoteS] using h)
  revert this; decide
theorem word_nonl : ∀ k, (10 : UInt8) ∉ (wordK k).data.toList := by
  intro k
  match k with
  | 0 => decide
  | 1 => decide
  | 2 => decide
  | 3 => decide
  | 4 => decide
  | 5 => decide
  | 6 => decide
  | 7 => decide
  | k + 8 => show (10 : UInt8) ∉ []; simp
theorem text_nl {x : Item} (h : x.ok) : (10 : UInt8) ∉ x.text := by
  have hn : ∀ l : List Int, InR l → ∀ y ∈ l.map itoaS, (10 : UInt8) ∉ y.data.toList := fun l hl y hy => by
    obtain ⟨n, hm, rfl⟩ := List.mem_map.1 hy
    exact num_nl (hl n hm).1
  unfold Item.text
  refine joinW_mem (by decide) ?_ ?_
  · exact word_nonl _
  · cases x with
    | node i q => exact hn _ h
    | con c => exact hn _ h
    | ord x =>
      intro y hy
      rcases List.mem_append.1 hy with hy | hy
      · exact hn _ h.1 y hy
      · rw [List.mem_singleton.1 hy]; exact quote_nl _
    | blk b =>
      intro y hy
      rcases List.mem_append.1 hy with hy | hy
      · exact hn _ h.1 y hy
      · rw [List.mem_singleton.1 hy]; exact quote_nl _
    | flt f =>
      intro y hy
      rcases List.mem_append.1 hy with hy | hy
      · exact hn _ h.1 y hy
      · rw [List.mem_singleton.1 hy]
        unfold untS
        split
        · decide
        · rename_i hu; exact num_nl (h.2.resolve_left hu f.u (by simp)).1
    | otg o => exact hn _ h
    | bnd => intro y hy; simp [Item.rest] at hy
theorem text_ne (x : Item) : x.text ≠ [] := by
  unfold Item.text joinW
  cases x <;> simp [Item.kind, wordK, nodeS, conS, ordS, blkS, fltS, otgS, bndS]
def numT : Int → List Item → List (Int × ByteArray)
  | _, [] => []
  | n, x :: t => (n, ⟨x.text.toArray⟩) :: numT (n + 1) t
theorem linesT_items : ∀ (xs : List Item) (f : Nat) (n : Int), (∀ x ∈ xs, x.ok) → (linesL xs).length ≤ f → linesT f n (linesL xs) = numT n xs
  | [], f, n, _, _ => by rw [show linesL [] = [] from rfl, linesT_nil]; rfl
  | x :: t, f, n, h, hf => by
    have e : linesL (x :: t) = x.text ++ 10 :: linesL t := by simp [linesL, lineI]
    rw [e] at hf ⊢
    have hl : 1 ≤ (x.text ++ 10 :: linesL t).length := by rw [List.length_append, List.length_cons]; omega
    obtain ⟨f', rfl⟩ : ∃ f', f = f' + 1 := ⟨f - 1, by omega⟩
    have hc := cut_hit (b := linesL t) (text_nl (h x (by simp)))
    rw [linesT_succ, if_neg (by simp), lineOf, hc]
    simp only [if_true, numT]
    rw [linesT_items t f' (n + 1) (fun y hy => h y (by simp [hy])) (by simp at hf; omega)]
def runI : St → List Item → Option St
  | st, [] => some st
  | st, x :: t => if fitI st x = true then runI (st.app x) t else none
theorem runI_append : ∀ (a b : List Item) (st : St), runI st (a ++ b) = (runI st a).bind fun s => runI s b
  | [], _, _ => rfl
  | x :: t, b, st => by
    rw [List.cons_append, runI, runI]
    split
    · exact runI_append t b _
    · rfl
theorem scan_run : ∀ (xs : List Item) (st st' : St) (n : Int), (∀ x ∈ xs, x.ok) → runI st xs = some st' → scanM st (numT n xs) = .ok st'
  | [], st, st', n, _, h => by cases h; rfl
  | x :: t, st, st', n, ho, h => by
    rw [runI] at h
    split at h
    · rename_i hf
      rw [numT, scanM, readS_some (x := x) ⟨ho x (by simp), by simp⟩ hf]
      exact scan_run t _ _ _ (fun y hy => ho y (by simp [hy])) h
    · cases h
theorem run_nodes : ∀ (l : List Int) (i : Nat) (st : St), st.m.q.length = i → rankK st.k ≤ 1 → ∃ k, rankK k ≤ 1 ∧ runI st (nodeItems i l) = some ⟨{ st.m with q := st.m.q ++ l }, k⟩
  | [], i, st, _, hr => ⟨st.k, hr, by simp [nodeItems, runI]⟩
  | q :: t, i, st, hi, hr => by
    obtain ⟨k, h1, h2⟩ := run_nodes t (i + 1) (st.app (.node i q)) (by simp [St.app, addI, hi]) (by show rankK 1 ≤ 1; decide)
    refine ⟨k, h1, ?_⟩
    rw [nodeItems, runI, if_pos (by simp [fitI, hi, hr]), h2]
    simp [St.app, addI]
theorem run_cons : ∀ (l : List Con) (st : St), rankK st.k ≤ 2 → ∃ k, rankK k ≤ 2 ∧ runI st (l.map .con) = some ⟨{ st.m with cs := st.m.cs ++ l }, k⟩
  | [], st, hr => ⟨st.k, hr, by simp [runI]⟩
  | q :: t, st, hr => by
    obtain ⟨k, h1, h2⟩ := run_cons t (st.app (.con q)) (by show rankK 2 ≤ 2; decide)
    refine ⟨k, h1, ?_⟩
    rw [List.map_cons, runI, if_pos (by simp [fitI, hr]), h2]
    simp [St.app, addI]
theorem run_flts : ∀ (l : List Flt) (st : St), rankK st.k ≤ 4 → ∃ k, rankK k ≤ 4 ∧ runI st (l.map .flt) = some ⟨{ st.m with fs := st.m.fs ++ l }, k⟩
  | [], st, hr => ⟨st.k, hr, by simp [runI]⟩
  | q :: t, st, hr => by
    obtain ⟨k, h1, h2⟩ := run_flts t (st.app (.flt q)) (by show rankK 5 ≤ 4; decide)
    refine ⟨k, h1, ?_⟩
    rw [List.map_cons, runI, if_pos (by simp [fitI, hr]), h2]
    simp [St.app, addI]
theorem run_otgs : ∀ (l : List Otg) (st : St), rankK st.k ≤ 5 → ∃ k, rankK k ≤ 5 ∧ runI st (l.map .otg) = some ⟨{ st.m with xs := st.m.xs ++ l }, k⟩
  | [], st, hr => ⟨st.k, hr, by simp [runI]⟩
  | q :: t, st, hr => by
    obtain ⟨k, h1, h2⟩ := run_otgs t (st.app (.otg q)) (by show rankK 6 ≤ 5; decide)
    refine ⟨k, h1, ?_⟩
    rw [List.map_cons, runI, if_pos (by simp [fitI, hr]), h2]
    simp [St.app, addI]
theorem addBlk_snoc (pre : List Bun) (y : Bun) (b : Blk) : addBlk (pre ++ [y]) b = pre ++ [{ y with bl := y.bl ++ [b] }] := by
  have e : (pre ++ [y]).getD ((pre ++ [y]).length - 1) Bun.zero = y := by simp [List.getD]
  unfold addBlk
  rw [e]
  simp
theorem run_blks : ∀ (l : List Blk) (st : St) (pre : List Bun) (y : Bun), st.m.os = pre ++ [y] → (st.k = 3 ∨ st.k = 4) → ∃ k, (k = 3 ∨ k = 4) ∧ runI st (l.map .blk) = some ⟨{ st.m with os := pre ++ [{ y with bl := y.bl ++ l }] }, k⟩
  | [], st, pre, y, he, hr => ⟨st.k, hr, by simp [runI, ← he]⟩
  | b :: t, st, pre, y, he, hr => by
    obtain ⟨k, h1, h2⟩ := run_blks t (st.app (.blk b)) pre { y with bl := y.bl ++ [b] } (by simp [St.app, addI, he, addBlk_snoc]) (.inr rfl)
    refine ⟨k, h1, ?_⟩
    rw [List.map_cons, runI, if_pos (by simp [fitI, hr]), h2]
    simp [St.app, addI]
theorem run_ords : ∀ (l : List Bun) (st : St), rankK st.k ≤ 3 → ∃ k, rankK k ≤ 3 ∧ runI st (l.flatMap ordItems) = some ⟨{ st.m with os := st.m.os ++ l }, k⟩
  | [], st, hr => ⟨st.k, hr, by simp [runI]⟩
  | x :: t, st, hr => by
    obtain ⟨k1, h1, h2⟩ := run_blks x.bl (st.app (.ord { x with bl := [] })) st.m.os { x with bl := [] } rfl (.inl rfl)
    obtain ⟨k, h3, h4⟩ := run_ords t ⟨{ st.m with os := st.m.os ++ [x] }, k1⟩ (by rcases h1 with rfl | rfl; exact (by decide : rankK 3 ≤ 3); exact (by decide : rankK 4 ≤ 3))
    refine ⟨k, h3, ?_⟩
    rw [List.flatMap_cons, runI_append, ordItems, runI, if_pos (by simp [fitI, hr]), h2]
    simp only [Option.bind_some]
    have e : (⟨{ (st.app (.ord { x with bl := [] })).m with os := st.m.os ++ [{ ({ x with bl := [] } : Bun) with bl := ({ x with bl := [] } : Bun).bl ++ x.bl }] }, k1⟩ : St) = ⟨{ st.m with os := st.m.os ++ [x] }, k1⟩ := by
      simp [St.app, addI]
    rw [e, h4]
    simp
theorem run_items (m : Mis) : ∃ k, runI St.zero (itemsM m) = some ⟨m, k⟩ := by
  obtain ⟨k1, r1, e1⟩ := run_nodes m.q 0 St.zero rfl (by decide)
  obtain ⟨k2, r2, e2⟩ := run_cons m.cs ⟨{ Mis.zero with q := m.q }, k1⟩ (by show rankK k1 ≤ 2; omega)
  obtain ⟨k3, r3, e3⟩ := run_ords m.os ⟨{ Mis.zero with q := m.q, cs := m.cs }, k2⟩ (by show rankK k2 ≤ 3; omega)
  obtain ⟨k4, r4, e4⟩ := run_flts m.fs ⟨{ Mis.zero with q := m.q, cs := m.cs, os := m.os }, k3⟩ (by show rankK k3 ≤ 4; omega)
  obtain ⟨k5, r5, e5⟩ := run_otgs m.xs ⟨{ Mis.zero with q := m.q, cs := m.cs, os := m.os, fs := m.fs }, k4⟩ (by show rankK k4 ≤ 5; omega)
  simp only [St.zero, Mis.zero, List.nil_append] at e1 e2 e3 e4 e5
  have key : runI St.zero (nodeItems 0 m.q ++ m.cs.map .con ++ m.os.flatMap ordItems ++ m.fs.map .flt ++ m.xs.map .otg) = some ⟨{ m with bd := false }, k5⟩ := by
    simp only [runI_append, St.zero, Mis.zero]
    rw [e1]
    simp only [Option.bind_some]
    rw [e2]
    simp only [Option.bind_some]
    rw [e3]
    simp only [Option.bind_some]
    rw [e4]
    simp only [Option.bind_some]
    rw [e5]
  rw [itemsM, runI_append, key]
  simp only [Option.bind_some]
  by_cases hb : m.bd = true
  · refine ⟨7, ?_⟩
    rw [if_pos hb, runI, if_pos (by simp [fitI]; omega), runI]
    obtain ⟨q, cs, os, fs, xs, bd⟩ := m
    dsimp only at hb
    subst hb
    rfl
  · refine ⟨k5, ?_⟩
    rw [if_neg hb, runI]
    obtain ⟨q, cs, os, fs, xs, bd⟩ := m
    have : bd = false := by simpa using hb
    subst this
    rfl
/-- a mission's text is parsed -/
theorem parse_print {m : Mis} (h : misE m = 0) (hl : (printL m).length ≤ 8192) : parseR ⟨(printL m).toArray⟩ = (m, 0, 0) := by
  have ho := items_ok (mis_ok h)
  obtain ⟨k, hk⟩ := run_items m
  have h1 : ¬ 8192 < (⟨(printL m).toArray⟩ : ByteArray).size := by show ¬ 8192 < (printL m).length; omega
  have h2 : scanM St.zero (linesT (printL m).length 1 (printL m)) = .ok ⟨m, k⟩ := by
    rw [printL, linesT_items _ _ 1 ho (Nat.le_refl _)]
    exact scan_run _ _ _ _ ho hk
  unfold parseR
  rw [if_neg h1]
  show (match scanM St.zero (linesT (printL m).length 1 (printL m)) with | .error n => _ | .ok st => _) = _
  rw [h2]
  simp [h]
theorem scan_back : ∀ (f : Nat) (n : Int) (l : List UInt8) (st st' : St), l.length ≤ f → scanM st (linesT f n l) = .ok st' → ∃ xs, l = linesL xs ∧ runI st xs = some st' ∧ ∀ x ∈ xs, x.ok
  | 0, n, l, st, st', hf, h => by
    have : l = [] := List.eq_nil_of_length_eq_zero (by omega)
    subst this
    cases h
    exact ⟨[], rfl, rfl, by simp⟩
  | f + 1, n, l, st, st', hf, h => by
    by_cases hl : l = []
    · subst hl
      rw [linesT_nil] at h
      cases h
      exact ⟨[], rfl, rfl, by simp⟩
    rw [linesT_succ, if_neg hl, scanM] at h
    cases hr : readS st (lineOf l) with
    | none =>
      simp only [hr] at h
      cases h
    | some st1 =>
      simp only [hr] at h
      obtain ⟨x, hx, hfit, rfl⟩ := readS_inv hr
      have hne : lineOf l ≠ [] := by rw [← hx.2]; exact text_ne x
      by_cases hm : (10 : UInt8) ∈ l
      · obtain ⟨a, b, rfl, ha⟩ := mem_split hm
        have hc := cut_hit (b := b) ha
        rw [lineOf, hc] at hx
        rw [hc] at h
        simp only [if_true] at hx
        obtain ⟨xs, rfl, h1, h2⟩ := scan_back f (n + 1) b _ st' (by simp at hf; omega) h
        refine ⟨x :: xs, ?_, by rw [runI, if_pos hfit]; exact h1, fun y hy => ?_⟩
        · rw [← hx.2]; simp [linesL, lineI]
        · rcases List.mem_cons.1 hy with rfl | hy
          · exact hx.1
          · exact h2 y hy
      · rw [lineOf, cut_miss hm] at hne
        simp at hne
/-- what was not yet read is empty -/
structure InvS (st : St) : Prop where
  c : rankK st.k < 2 → st.m.cs = []
  o : rankK st.k < 3 → st.m.os = []
  f : rankK st.k < 4 → st.m.fs = []
  x : rankK st.k < 5 → st.m.xs = []
  b : rankK st.k < 6 → st.m.bd = false
  p : st.k = 3 ∨ st.k = 4 → st.m.os ≠ []
theorem InvS.zero : InvS St.zero := ⟨fun _ => rfl, fun _ => rfl, fun _ => rfl, fun _ => rfl, fun _ => rfl, fun h => by simp [St.zero] at h⟩
theorem InvS.step {st : St} {x : Item} (h : InvS st) (hf : fitI st x = true) (ho : x.ok) : InvS (st.app x) ∧ itemsM (st.app x).m = itemsM st.m ++ [x] := by
  obtain ⟨hc, hos, hfs, hxs, hb, hp⟩ := h
  cases x with
  | node i q =>
    simp only [fitI, decide_eq_true_eq] at hf
    have e1 := hc (by omega)
    have e2 := hos (by omega)
    have e3 := hfs (by omega)
    have e4 := hxs (by omega)
    have e5 := hb (by omega)
    refine ⟨⟨fun _ => e1, fun _ => e2, fun _ => e3, fun _ => e4, fun _ => e5, fun h => by simp [St.app, Item.kind] at h⟩, ?_⟩
    simp [St.app, addI, itemsM, e1, e2, e3, e4, e5, nodeItems_snoc, hf.2]
  | con c =>
    simp only [fitI, decide_eq_true_eq] at hf
    have e2 := hos (by omega)
    have e3 := hfs (by omega)
    have e4 := hxs (by omega)
    have e5 := hb (by omega)
    refine ⟨⟨fun h => by simp [St.app, Item.kind, rankK] at h, fun _ => e2, fun _ => e3, fun _ => e4, fun _ => e5, fun h => by simp [St.app, Item.kind] at h⟩, ?_⟩
    simp [St.app, addI, itemsM, e2, e3, e4, e5]
  | ord c =>
    simp only [fitI, decide_eq_true_eq] at hf
    have e3 := hfs (by omega)
    have e4 := hxs (by omega)
    have e5 := hb (by omega)
    refine ⟨⟨fun h => by simp [St.app, Item.kind, rankK] at h, fun h => by simp [St.app, Item.kind, rankK] at h, fun _ => e3, fun _ => e4, fun _ => e5, fun _ => by simp [St.app, addI]⟩, ?_⟩
    obtain ⟨_, _, _, _, hbl, _⟩ := ho
    have e : ordItems c = [.ord c] := by
      obtain ⟨_, _, _, _, _, _, _, _, _, _, bl, _⟩ := c
      dsimp only at hbl
      subst hbl; rfl
    simp [St.app, addI, itemsM, e3, e4, e5, e]
  | blk c =>
    simp only [fitI, decide_eq_true_eq] at hf
    have hr : rankK st.k = 3 := by rcases hf with h | h <;> rw [h] <;> rfl
    have e3 := hfs (by omega)
    have e4 := hxs (by omega)
    have e5 := hb (by omega)
    have hne := hp hf
    obtain ⟨pre, y, he⟩ : ∃ pre y, st.m.os = pre ++ [y] := ⟨st.m.os.dropLast, st.m.os.getLast hne, (List.dropLast_concat_getLast hne).symm⟩
    refine ⟨⟨fun h => by simp [St.app, Item.kind, rankK] at h, fun h => by simp [St.app, Item.kind, rankK] at h, fun _ => e3, fun _ => e4, fun _ => e5, fun _ => by simp [St.app, addI, he, addBlk_snoc]⟩, ?_⟩
    simp [St.app, addI, itemsM, e3, e4, e5, he, addBlk_snoc, ordItems]
  | flt c =>
    simp only [fitI, decide_eq_true_eq] at hf
    have e4 := hxs (by omega)
    have e5 := hb (by omega)
    refine ⟨⟨fun h => by simp [St.app, Item.kind, rankK] at h, fun h => by simp [St.app, Item.kind, rankK] at h, fun h => by simp [St.app, Item.kind, rankK] at h, fun _ => e4, fun _ => e5, fun h => by simp [St.app, Item.kind] at h⟩, ?_⟩
    simp [St.app, addI, itemsM, e4, e5]
  | otg c =>
    simp only [fitI, decide_eq_true_eq] at hf
    have e5 := hb (by omega)
    refine ⟨⟨fun h => by simp [St.app, Item.kind, rankK] at h, fun h => by simp [St.app, Item.kind, rankK] at h, fun h => by simp [St.app, Item.kind, rankK] at h, fun h => by simp [St.app, Item.kind, rankK] at h, fun _ => e5, fun h => by simp [St.app, Item.kind] at h⟩, ?_⟩
    simp [St.app, addI, itemsM, e5]
  | bnd =>
    simp only [fitI, decide_eq_true_eq] at hf
    refine ⟨⟨fun h => by simp [St.app, Item.kind, rankK] at h, fun h => by simp [St.app, Item.kind, rankK] at h, fun h => by simp [St.app, Item.kind, rankK] at h, fun h => by simp [St.app, Item.kind, rankK] at h, fun h => by simp [St.app, Item.kind, rankK] at h, fun h => by simp [St.app, Item.kind] at h⟩, ?_⟩
    simp [St.app, addI, itemsM, hf.2]
theorem run_back : ∀ (xs : List Item) (st st' : St), InvS st → (∀ x ∈ xs, x.ok) → runI st xs = some st' → itemsM st'.m = itemsM st.m ++ xs
  | [], st, st', _, _, h => by cases h; simp
  | x :: t, st, st', hi, ho, h => by
    rw [runI] at h
    split at h
    · rename_i hf
      obtain ⟨h1, h2⟩ := hi.step hf (ho x (by simp))
      rw [run_back t _ st' h1 (fun y hy => ho y (by simp [hy])) h, h2]
      simp
    · cases h
/-- whatever is parsed is the text of the result -/
theorem print_parse {s : ByteArray} (h : (parseR s).2.2 = 0) : misE (parseR s).1 = 0 ∧ (parseR s).2.1 = 0 ∧ printL (parseR s).1 = s.data.toList ∧ s.size ≤ 8192 := by
  unfold parseR at h ⊢
  by_cases hs : 8192 < s.size
  · rw [if_pos hs] at h; cases h
  rw [if_neg hs] at h ⊢
  cases hsc : scanM St.zero (linesT s.data.toList.length 1 s.data.toList) with
  | error n => rw [hsc] at h; cases h
  | ok st =>
    rw [hsc] at h
    simp only at h ⊢
    by_cases hE : misE st.m = 0
    · rw [if_neg (by simp [hE])]
      obtain ⟨xs, h1, h2, h3⟩ := scan_back _ _ _ _ _ (Nat.le_refl _) hsc
      refine ⟨hE, rfl, ?_, by omega⟩
      have := run_back xs St.zero st InvS.zero h3 h2
      rw [printL, this, h1]
      rfl
    · rw [if_pos (by simpa using hE)] at h
      exact absurd h hE
end Go.Proofs.YtmcgddlblhinlaaGreatDoor

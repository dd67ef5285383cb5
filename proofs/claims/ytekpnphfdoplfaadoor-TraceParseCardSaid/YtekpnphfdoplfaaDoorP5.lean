/- Plain: texts of logs are read back; lines that are no entries; how many lines there are. -/
import Derived.Test.YtekpnphfdoplfaaDoorB7
import Derived.Test.YtekpnphfdoplfaaDoorP2
import Derived.Test.YtekpnphfdoplfaaDoorP4
import Derived.Lib.SplitLaws
namespace Go.Proofs.YtekpnphfdoplfaaDoor
open Go.RowKit
theorem ten_pre (b : UInt8) (l : List UInt8) : ([10] : List UInt8).isPrefixOf (b :: l) = (b == 10) := by
  cases h : b == 10 <;> simp_all [List.isPrefixOf] <;> (intro e; exact h e.symm)
theorem idx_ten : ∀ a : List UInt8, (10 : UInt8) ∉ a → (∀ b, Lib.index (a ++ 10 :: b) [10] = a.length) ∧ Lib.index a [10] = -1
  | [], _ => ⟨fun b => by simp [Lib.index, List.isPrefixOf], by simp [Lib.index]⟩
  | x :: t, h => by
    obtain ⟨h1, h2⟩ := idx_ten t (fun hm => h (by simp [hm]))
    have hx : (x == 10) = false := by rw [beq_eq_false_iff_ne]; intro e; exact h (by simp [e])
    refine ⟨fun b => ?_, ?_⟩
    · rw [List.cons_append, Lib.index, ten_pre, hx, h1 b]
      have e : ((t.length : Int) == -1) = false := beq_eq_false_iff_ne.2 (by omega)
      simp [e]
    · rw [Lib.index, ten_pre, hx, h2]; simp
theorem ten_split (s : List UInt8) : (∃ a b, s = a ++ 10 :: b ∧ (10 : UInt8) ∉ a) ∨ (10 : UInt8) ∉ s := by
  induction s with
  | nil => right; simp
  | cons x t ih =>
    by_cases hx : x = 10
    · left; exact ⟨[], t, by rw [hx]; rfl, by simp⟩
    · rcases ih with ⟨a, b, e, h⟩ | h
      · left; exact ⟨x :: a, b, by rw [e]; rfl, by simp only [List.mem_cons, not_or]; exact ⟨fun e => hx e.symm, h⟩⟩
      · right; simp only [List.mem_cons, not_or]; exact ⟨fun e => hx e.symm, h⟩
theorem cut_hit {a b : List UInt8} (h : (10 : UInt8) ∉ a) : Lib.cut (a ++ 10 :: b) [10] = (a, b, true) := by
  unfold Lib.cut
  rw [(idx_ten a h).1 b, if_pos (by omega)]
  simp
theorem cut_miss {a : List UInt8} (h : (10 : UInt8) ∉ a) : Lib.cut a [10] = (a, [], false) := by
  unfold Lib.cut
  rw [(idx_ten a h).2, if_neg (by omega)]
theorem cut_no10 (s : List UInt8) : (10 : UInt8) ∉ (Lib.cut s [10]).1 := by
  rcases ten_split s with ⟨a, b, rfl, h⟩ | h
  · rw [cut_hit h]; exact h
  · rw [cut_miss h]; exact h
theorem line_split (s : List UInt8) : lineOf s ++ (Lib.cut s [10]).2.1 = s := by
  unfold lineOf
  rcases ten_split s with ⟨a, b, rfl, h⟩ | h
  · rw [cut_hit h]; simp
  · rw [cut_miss h]; simp
/-- the lines of a text -/
def lns (n : Int) (s : List UInt8) : List (Int × ByteArray) := linesT s.length n s
theorem linesT_fuel : ∀ (f g : Nat) (n : Int) (s : List UInt8), s.length ≤ f → s.length ≤ g → linesT f n s = linesT g n s
  | 0, g, n, s, h, _ => by
    obtain rfl : s = [] := List.length_eq_zero_iff.1 (by omega)
    rw [linesT_nil, linesT_nil]
  | f + 1, 0, n, s, _, h => by
    obtain rfl : s = [] := List.length_eq_zero_iff.1 (by omega)
    rw [linesT_nil, linesT_nil]
  | f + 1, g + 1, n, s, h1, h2 => by
    rw [linesT_succ, linesT_succ]
    by_cases hs : s = []
    · rw [if_pos hs, if_pos hs]
    · have := cut_less hs
      rw [if_neg hs, if_neg hs, linesT_fuel f g (n + 1) _ (by omega) (by omega)]
theorem lns_nil (n : Int) : lns n [] = [] := rfl
theorem lns_cons (n : Int) {s : List UInt8} (hs : s ≠ []) : lns n s = (n, ⟨(lineOf s).toArray⟩) :: lns (n + 1) (Lib.cut s [10]).2.1 := by
  have hp := List.length_pos_iff.2 hs
  have hc := cut_less hs
  obtain ⟨k, hk⟩ : ∃ k, s.length = k + 1 := ⟨s.length - 1, by omega⟩
  unfold lns
  rw [hk, linesT_succ, if_neg hs, linesT_fuel k _ (n + 1) _ (by omega) (Nat.le_refl _)]
theorem lns_line (n : Int) {a : List UInt8} (b : List UInt8) (h : (10 : UInt8) ∉ a) : lns n (a ++ 10 :: b) = (n, ⟨(a ++ [10]).toArray⟩) :: lns (n + 1) b := by
  rw [lns_cons n (by simp), lineOf, cut_hit h]; simp
theorem text_no10 {z : Ent} (h : entE z = 0) : (10 : UInt8) ∉ Lib.join (wordsL z) [32] := by
  intro hm
  rcases join_mem _ _ hm with e | ⟨l, hl, hb⟩
  · cases e
  · have := ((okW_words h l hl).2 10 hb).1
    revert this; decide
theorem scan_cat : ∀ (xs acc : List Ent) (n : Int) (r : List UInt8), (∀ x ∈ xs, entE x = 0) → scanT acc (lns n (catL xs ++ r)) = scanT (acc ++ xs) (lns (n + xs.length) r)
  | [], acc, n, r, _ => by simp [catL]
  | x :: t, acc, n, r, h => by
    have hx := h x (by simp)
    have e : catL (x :: t) ++ r = Lib.join (wordsL x) [32] ++ 10 :: (catL t ++ r) := by simp [catL, textL]
    have ht : Lib.join (wordsL x) [32] ++ [10] = textL x := rfl
    rw [e, lns_line n _ (text_no10 hx), scanT]
    show (match entOf (Lib.join (wordsL x) [32] ++ [10]) with | none => _ | some y => _) = _
    rw [entOf_some (show IsT (Lib.join (wordsL x) [32] ++ [10]) x from ⟨hx, rfl⟩)]
    show scanT (acc ++ [x]) (lns (n + 1) (catL t ++ r)) = _
    rw [scan_cat t (acc ++ [x]) (n + 1) r (fun y hy => h y (by simp [hy]))]
    simp only [List.append_assoc, List.singleton_append, List.length_cons, Int.natCast_add, Int.natCast_one]
    rw [show n + 1 + (t.length : Int) = n + ((t.length : Int) + 1) by omega]
theorem scan_got : ∀ (k : Nat) (s : List UInt8) (acc : List Ent) (n : Int) (es : List Ent), s.length ≤ k → scanT acc (lns n s) = .ok es → ∃ ys, es = acc ++ ys ∧ catL ys = s
  | k, s, acc, n, es, hk, h => by
    by_cases hs : s = []
    · subst hs
      rw [lns_nil, scanT] at h
      cases h
      exact ⟨[], by simp, rfl⟩
    · have hc := cut_less hs
      match k, hk with
      | 0, hk => exact absurd (List.length_eq_zero_iff.1 (by omega)) hs
      | k + 1, hk =>
        rw [lns_cons n hs, scanT] at h
        cases he : entOf (⟨(lineOf s).toArray⟩ : ByteArray).data.toList with
        | none => simp only [he] at h; cases h
        | some y =>
          simp only [he] at h
          obtain ⟨ys, h1, h2⟩ := scan_got k _ _ _ es (by omega) h
          have hy := (entOf_iff.1 he).2
          refine ⟨y :: ys, by rw [h1]; simp, ?_⟩
          have e : catL (y :: ys) = textL y ++ catL ys := by simp [catL]
          rw [e, h2, hy]
          exact line_split s
theorem scan_fell : ∀ (k : Nat) (s : List UInt8) (acc : List Ent) (n m : Int), s.length ≤ k → scanT acc (lns n s) = .error m → n ≤ m
  | k, s, acc, n, m, hk, h => by
    by_cases hs : s = []
    · subst hs
      rw [lns_nil, scanT] at h
      cases h
    · have hc := cut_less hs
      match k, hk with
      | 0, hk => exact absurd (List.length_eq_zero_iff.1 (by omega)) hs
      | k + 1, hk =>
        rw [lns_cons n hs, scanT] at h
        cases he : entOf (⟨(lineOf s).toArray⟩ : ByteArray).data.toList with
        | none => simp only [he] at h; cases h; omega
        | some y =>
          simp only [he] at h
          have := scan_fell k _ _ _ m (by omega) h
          omega
theorem parse_print {xs : List Ent} (hE : chkE xs = 0) (hl : (catL xs).length ≤ 65536) : parseR ⟨(catL xs).toArray⟩ = (xs, 0, 0) := by
  have hs := scan_cat xs [] 1 [] ((chkE_iff xs).1 hE).2.1
  rw [List.append_nil, List.nil_append, lns_nil, scanT] at hs
  unfold parseR
  rw [if_neg (show ¬ 65536 < (⟨(catL xs).toArray⟩ : ByteArray).size from by show ¬ 65536 < (catL xs).length; omega)]
  show (match scanT [] (lns 1 (catL xs)) with | .error n => _ | .ok es => _) = _
  rw [hs]
  simp [hE]
theorem parse_ok {s : ByteArray} (h : (parseR s).2.2 = 0) : (parseR s).2.1 = 0 ∧ printR (parseR s).1 = (s, 0) := by
  unfold parseR at h ⊢
  by_cases h1 : 65536 < s.size
  · rw [if_pos h1] at h; cases h
  · rw [if_neg h1] at h ⊢
    cases hc : scanT [] (linesT s.data.toList.length 1 s.data.toList) with
    | error n => rw [hc] at h; cases h
    | ok es =>
      rw [hc] at h
      simp only at h ⊢
      by_cases hE : chkE es = 0
      · rw [if_neg (by simp [hE])]
        obtain ⟨ys, h2, h3⟩ := scan_got _ _ [] 1 es (Nat.le_refl _) hc
        rw [List.nil_append] at h2
        subst h2
        have hl : s.data.toList.length = s.size := rfl
        refine ⟨rfl, ?_⟩
        rw [printR_ok hE (by rw [h3]; omega), h3]
      · rw [if_pos hE] at h; cases h
theorem parse_bad {s : ByteArray} (h : (parseR s).2.2 ≠ 0) : (parseR s).1 = [] ∧ 0 ≤ (parseR s).2.1 := by
  unfold parseR at h ⊢
  by_cases h1 : 65536 < s.size
  · rw [if_pos h1]; exact ⟨rfl, Int.le_refl _⟩
  · rw [if_neg h1] at h ⊢
    cases hc : scanT [] (linesT s.data.toList.length 1 s.data.toList) with
    | error n =>
      have := scan_fell _ _ [] 1 n (Nat.le_refl _) hc
      refine ⟨rfl, ?_⟩
      simp only; omega
    | ok es =>
      rw [hc] at h
      simp only at h ⊢
      by_cases hE : chkE es = 0
      · rw [if_neg (by simp [hE])] at h; exact absurd rfl h
      · rw [if_pos hE]; exact ⟨rfl, Int.le_refl _⟩
theorem parse_line_bad {a : List UInt8} (h10 : (10 : UInt8) ∉ a) (hl : a.length < 65536) (h : (parseR ⟨(a ++ [10]).toArray⟩).2.2 = 3) : entOf (a ++ [10]) = none := by
  cases he : entOf (a ++ [10]) with
  | none => rfl
  | some y =>
    exfalso
    unfold parseR at h
    have hn : ¬ 65536 < (⟨(a ++ [10]).toArray⟩ : ByteArray).size := by show ¬ 65536 < (a ++ [10]).length; simp; omega
    rw [if_neg hn] at h
    have e : linesT (a ++ [10]).length 1 (a ++ [10]) = lns 1 (a ++ 10 :: []) := rfl
    have e2 : (⟨(a ++ [10]).toArray⟩ : ByteArray).data.toList = a ++ [10] := rfl
    rw [e2, e, lns_line 1 _ h10, scanT, e2, he] at h
    simp only [lns_nil, scanT] at h
    split at h <;> cases h
theorem parse_stop {xs : List Ent} {a r : List UInt8} (hE : chkE xs = 0) (h10 : (10 : UInt8) ∉ a) (hn : entOf (a ++ [10]) = none) (s : ByteArray) (hs : s.data.toList = catL xs ++ (a ++ 10 :: r)) (hl : s.size ≤ 65536) : parseR s = ([], (xs.length : Int) + 1, 3) := by
  unfold parseR
  rw [if_neg (by omega), hs]
  have e : linesT (catL xs ++ (a ++ 10 :: r)).length 1 (catL xs ++ (a ++ 10 :: r)) = lns 1 (catL xs ++ (a ++ 10 :: r)) := rfl
  have e2 : (⟨(a ++ [10]).toArray⟩ : ByteArray).data.toList = a ++ [10] := rfl
  rw [e, scan_cat xs [] 1 _ ((chkE_iff xs).1 hE).2.1, lns_line _ _ h10, scanT, e2, hn]
  simp only
  rw [show (1 : Int) + xs.length = xs.length + 1 by omega]
theorem text_short {z : Ent} (h : entE z = 0) : (textL z).length ≤ 200 := by
  obtain ⟨hk1, hk2, ht1, ht2, h3, h4, h5, h6⟩ := entE_ok h
  have hT := itoa_len ht1 (by omega)
  have hw : (wordL z.k).length ≤ 9 := by
    rcases kinds_cases hk1 hk2 with e | e | e | e | e | e | e | e | e | e | e | e | e | e | e | e | e <;> rw [e] <;> decide
  have w1 : nodeW.length = 4 := rfl
  have w2 : ticketW.length = 6 := rfl
  have w3 : contactW.length = 7 := rfl
  have w4 : valueW.length = 5 := rfl
  have a3 : hasN z.k = true → (Lib.itoa z.n).length ≤ 21 := fun e => by rw [e] at h3; have := fldB_has h3; exact itoa_len this.1 (by omega)
  have a4 : hasJ z.k = true → (Lib.itoa z.j).length ≤ 21 := fun e => by rw [e] at h4; have := fldB_has h4; exact itoa_len this.1 (by omega)
  have a5 : hasC z.k = true → (Lib.itoa z.c).length ≤ 21 := fun e => by rw [e] at h5; have := fldB_has h5; exact itoa_len this.1 (by omega)
  have a6 : hasV z.k = true → (Lib.itoa z.v).length ≤ 21 := fun e => by rw [e] at h6; have := fldB_has h6; exact itoa_len this.1 (by omega)
  unfold textL
  rw [words_eq]
  cases e3 : hasN z.k <;> cases e4 : hasJ z.k <;> cases e5 : hasC z.k <;> cases e6 : hasV z.k <;> simp only [e3, e4, e5, e6, forall_const] at a3 a4 a5 a6 <;> simp [Lib.join_cons, Lib.joinTail, w1, w2, w3, w4] <;> omega
theorem cat_short : ∀ xs : List Ent, (∀ x ∈ xs, entE x = 0) → (catL xs).length ≤ 200 * xs.length
  | [], _ => by simp [catL]
  | x :: t, h => by
    have h1 := text_short (h x (by simp))
    have h2 := cat_short t (fun y hy => h y (by simp [hy]))
    have e : catL (x :: t) = textL x ++ catL t := by simp [catL]
    rw [e, List.length_append, List.length_cons]; omega
theorem count_cat : ∀ xs : List Ent, (∀ x ∈ xs, entE x = 0) → (catL xs).count 10 = xs.length
  | [], _ => by simp [catL]
  | x :: t, h => by
    have h1 := text_no10 (h x (by simp))
    have h2 := count_cat t (fun y hy => h y (by simp [hy]))
    have e : catL (x :: t) = Lib.join (wordsL x) [32] ++ ([10] ++ catL t) := by simp [catL, textL]
    rw [e, List.count_append, List.count_append, List.count_eq_zero.2 h1, h2]
    simp; omega
theorem lib_count_cat {xs : List Ent} (h : ∀ x ∈ xs, entE x = 0) : Lib.count (catL xs) [10] = xs.length := by rw [Lib.count_one, count_cat xs h]
theorem suffix_cat {xs : List Ent} (hp : xs ≠ []) : Lib.hasSuffix (catL xs) [10] = true := by
  unfold Lib.hasSuffix
  rw [List.isSuffixOf_iff_suffix]
  obtain ⟨i, y, rfl⟩ : ∃ i y, xs = i ++ [y] := ⟨xs.dropLast, xs.getLast hp, (List.dropLast_concat_getLast hp).symm⟩
  exact ⟨catL i ++ Lib.join (wordsL y) [32], by simp [catL, textL]⟩
theorem chk_take {xs : List Ent} (h : chkE xs = 0) (k : Nat) : chkE (xs.take k) = 0 := by
  obtain ⟨h1, h2, h3⟩ := (chkE_iff xs).1 h
  exact (chkE_iff _).2 ⟨by rw [List.length_take]; omega, fun x hx => h2 x (List.mem_of_mem_take hx), h3.sublist (List.take_sublist _ _)⟩
theorem chk_drop {xs : List Ent} (h : chkE xs = 0) (k : Nat) : chkE (xs.drop k) = 0 := by
  obtain ⟨h1, h2, h3⟩ := (chkE_iff xs).1 h
  exact (chkE_iff _).2 ⟨by rw [List.length_drop]; omega, fun x hx => h2 x (List.mem_of_mem_drop hx), h3.sublist (List.drop_sublist _ _)⟩
theorem cat_cut (xs : List Ent) (k : Nat) : catL (xs.take k) ++ catL (xs.drop k) = catL xs := by rw [← catL_app, List.take_append_drop]
end Go.Proofs.YtekpnphfdoplfaaDoor

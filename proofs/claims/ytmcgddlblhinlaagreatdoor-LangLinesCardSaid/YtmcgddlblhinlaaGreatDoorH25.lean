/- One more outage, appended to a slice that came in; how many lines a text has (plain). -/
import Derived.Test.YtmcgddlblhinlaaGreatDoorH15
import Derived.Test.YtmcgddlblhinlaaGreatDoorP5
import Derived.ArgAppend
import Derived.Lib.Strings
namespace Go.Proofs.YtmcgddlblhinlaaGreatDoor
theorem line_count {x : Item} (h : x.ok) : (lineI x).count 10 = 1 := by
  rw [lineI, List.count_append, List.count_eq_zero.2 (text_nl h)]; rfl
theorem lines_count : ∀ (xs : List Item), (∀ x ∈ xs, x.ok) → (linesL xs).count 10 = xs.length
  | [], _ => rfl
  | x :: t, h => by
    have e : linesL (x :: t) = lineI x ++ linesL t := by simp [linesL]
    rw [e, List.count_append, line_count (h x (by simp)), lines_count t fun y hy => h y (by simp [hy]), List.length_cons]
    omega
theorem lines_end {xs : List Item} (h : xs ≠ []) : Lib.hasSuffix (linesL xs) [10] = true := by
  obtain ⟨pre, y, he⟩ : ∃ pre y, xs = pre ++ [y] := ⟨xs.dropLast, xs.getLast h, (List.dropLast_concat_getLast h).symm⟩
  rw [he, linesL_append]
  refine List.isSuffixOf_iff_suffix.2 ⟨linesL pre ++ y.text, ?_⟩
  simp [linesL, lineI]
theorem nodeItems_len : ∀ (l : List Int) (i : Nat), (nodeItems i l).length = l.length
  | [], _ => rfl
  | q :: t, i => by simp [nodeItems, nodeItems_len t (i + 1)]
/-- how many blocks the first k orders have -/
def blkN (os : List Bun) (k : Nat) : Nat := ((os.take k).map fun x => x.bl.length).sum
theorem blkN_succ (os : List Bun) (k : Nat) (h : k < os.length) : blkN os (k + 1) = blkN os k + (os.getD k Bun.zero).bl.length := by
  rw [blkN, take_get os Bun.zero k h]; simp [blkN]
theorem ords_len : ∀ os : List Bun, (os.flatMap ordItems).length = os.length + (os.map fun x => x.bl.length).sum
  | [] => rfl
  | x :: t => by
    rw [List.flatMap_cons, List.length_append, ords_len t]
    simp [ordItems]; omega
theorem items_len (m : Mis) : (itemsM m).length = m.q.length + m.cs.length + m.os.length + m.fs.length + m.xs.length + blkN m.os m.os.length + (if m.bd = true then 1 else 0) := by
  have e : blkN m.os m.os.length = (m.os.map fun x => x.bl.length).sum := by rw [blkN, List.take_length]
  rw [e]
  simp only [itemsM, List.length_append, nodeItems_len, List.length_map, ords_len]
  split <;> simp <;> omega
theorem blkN_le {os : List Bun} (h : ∀ x ∈ os, x.bl.length ≤ 8) : ∀ k, k ≤ os.length → blkN os k ≤ 8 * k
  | 0, _ => by simp [blkN]
  | k + 1, hk => by
    have h1 := blkN_le h k (by omega)
    have h2 := h (os.getD k Bun.zero) (by simp [List.getD, show k < os.length by omega])
    rw [blkN_succ os k (by omega)]; omega
/-- the end of a mission that is bounded -/
def tailL (m : Mis) : List UInt8 := if m.bd = true then [98, 111, 117, 110, 100, 101, 100, 10] else []
/-- the text ahead of it -/
def headI (m : Mis) : List Item := nodeItems 0 m.q ++ m.cs.map .con ++ m.os.flatMap ordItems ++ m.fs.map .flt ++ m.xs.map .otg
theorem print_parts (m : Mis) : printL m = linesL (headI m) ++ tailL m := by
  unfold printL itemsM tailL headI
  rw [linesL_append]
  congr 1
  split
  · decide
  · rfl
theorem print_more (m : Mis) (x : Otg) : printL { m with xs := m.xs ++ [x] } = linesL (headI m) ++ (lineI (.otg x) ++ tailL m) := by
  rw [print_parts]
  have e : headI { m with xs := m.xs ++ [x] } = headI m ++ [.otg x] := by simp [headI]
  rw [e, linesL_append]
  simp [linesL, tailL]
theorem trim_tail (m : Mis) : Lib.trimSuffix (printL m) (tailL m) = linesL (headI m) := by
  have h : Lib.hasSuffix (printL m) (tailL m) = true := by
    rw [print_parts]; exact List.isSuffixOf_iff_suffix.2 ⟨_, rfl⟩
  rw [Lib.trimSuffix, if_pos h, print_parts]
  simp
theorem more_prefix (m : Mis) (x : Otg) : Lib.hasPrefix (printL { m with xs := m.xs ++ [x] }) (linesL (headI m) ++ [111, 117, 116, 97, 103, 101, 32]) = true := by
  rw [print_more]
  refine List.isPrefixOf_iff_prefix.2 ⟨?_, ?_⟩
  · exact (lineI (.otg x)).drop 7 ++ tailL m
  · have e : lineI (.otg x) = [111, 117, 116, 97, 103, 101, 32] ++ (lineI (.otg x)).drop 7 := by
      have : lineI (.otg x) = [111, 117, 116, 97, 103, 101] ++ (32 :: ((itoaS x.c).data.toList ++ (([x.f, x.t].map itoaS).flatMap fun y => 32 :: y.data.toList) ++ [10])) := by
        simp [lineI, Item.text, Item.kind, wordK, otgS, Item.rest, joinW]
      rw [this]; rfl
    generalize (lineI (.otg x)).drop 7 = r at e ⊢
    rw [e]; simp
theorem more_suffix (m : Mis) (x : Otg) : Lib.hasSuffix (printL { m with xs := m.xs ++ [x] }) (tailL m) = true := by
  rw [print_more]
  exact List.isSuffixOf_iff_suffix.2 ⟨linesL (headI m) ++ lineI (.otg x), by simp⟩
theorem more_count {m : Mis} {x : Otg} (h : InR [x.c, x.f, x.t]) : ((printL { m with xs := m.xs ++ [x] }).drop (linesL (headI m)).length).count 10 = 1 + (tailL m).length / 8 := by
  have hx : (Item.otg x).ok := h
  rw [print_more, List.drop_left, List.count_append, line_count hx]
  congr 1
  unfold tailL
  split <;> rfl
open Go.RowKit
theorem otg_cells {W : World} {b o : Nat} {xs : List Otg} (h : ∀ j, j < xs.length → OtgAt W W.heap.size b (o + j * 3) (xs.getD j Otg.zero)) : ∀ j u, (otgCells xs)[j]? = some u → W.cell? ⟨b, o + j, none⟩ = some u := fun j u hj => by
  have hlen : (otgCells xs).length = xs.length * 3 := by
    unfold otgCells
    clear h hj
    induction xs with
    | nil => rfl
    | cons x t ih => rw [List.flatMap_cons, List.length_append, ih, List.length_cons]; show 3 + _ = _; omega
  have hlt : j < (otgCells xs).length := (List.getElem?_eq_some_iff.1 hj).1
  have hi : j / 3 < xs.length := by omega
  have e : j = j / 3 * 3 + j % 3 := by omega
  have hg := fm_get otgVals 3 (fun _ => rfl) Otg.zero xs (j / 3) (j % 3) hi (by omega)
  have hj2 : (xs.flatMap otgVals)[j / 3 * 3 + j % 3]? = some u := by rw [← e]; exact hj
  rw [hg] at hj2
  obtain ⟨h0, h1, h2⟩ := h (j / 3) hi
  have hr : j % 3 = 0 ∨ j % 3 = 1 ∨ j % 3 = 2 := by omega
  have e2 : o + j = o + j / 3 * 3 + j % 3 := by omega
  rw [e2]
  rcases hr with hr | hr | hr <;> rw [hr] at hj2 ⊢ <;> cases hj2
  · exact h0
  · exact h1
  · exact h2
theorem app_otg (W : World) (A : Option Addr) (xs : List Otg) (x : Otg) (ty : TypeId) (g c : Nat) (j : TypeInfo) (hi : Tryz.prog.info? 43 = some j) (hz : j.zero = some (.agg #[.int .i64 0, .int .i64 0, .int .i64 0])) (hs : j.size = 3) (hb : j.bytes = 24)
    (hA : 0 < xs.length → ∃ b o, A = some ⟨b, o, none⟩ ∧ ∀ j, j < xs.length → OtgAt W W.heap.size b (o + j * 3) (xs.getD j Otg.zero)) (hl : xs.length ≤ 8)
    (hg : W.heap[g]? = some (.cells #[.int .i64 x.c, .int .i64 x.f, .int .i64 x.t] 43 (0, 0))) :
    ∃ v' w', (Builtin.append_ #[29, 29] ty #[.slice A xs.length xs.length, .slice (some ⟨g, 0, none⟩) 1 c]).run Tryz.prog W = .ok v' w' ∧ (∃ a c, v' = .slice a (xs.length + 1) c) ∧ (∀ X : World, w'.heap.size ≤ X.heap.size → (∀ k, W.heap.size ≤ k → k < w'.heap.size → X.heap[k]? = w'.heap[k]?) → Otgs X X.heap.size v' (xs ++ [x])) ∧ Below W.heap.size W w' := by
  have hnews : ∀ j u, (otgVals x)[j]? = some u → W.cell? ((⟨g, 0, none⟩ : Addr).add j) = some u := World.news_of_block hg
  have fin : ∀ (v' : Value) (w' : World), w'.ownsRow W.heap.size 43 3 v' (xs.length + 1) (otgCells xs ++ otgVals x) → W.grownBy w' none → (∃ a c, v' = .slice a (xs.length + 1) c) ∧ (∀ X : World, w'.heap.size ≤ X.heap.size → (∀ k, W.heap.size ≤ k → k < w'.heap.size → X.heap[k]? = w'.heap[k]?) → Otgs X X.heap.size v' (xs ++ [x])) ∧ Below W.heap.size W w' := fun v' w' hr hgr => by
    refine ⟨own_slice hr, fun X hX hk => ?_, ⟨hgr.os, hgr.tape, hgr.output, hgr.size, fun k hk => hgr.block k hk (by simp)⟩⟩
    have hr2 : X.ownsRow W.heap.size 43 3 v' (xs ++ [x]).length ((xs ++ [x]).flatMap otgVals) := by
      rw [List.length_append, fm_snoc]; exact own_upc hr fun k c t z hB hc => hk k hB (blk_lt hc)
    obtain ⟨A, c, e, h1, h2, h3⟩ := row_read (vals := otgVals) Otg.zero (fun _ => rfl) hr2
    refine ⟨A, c, e, h1, h2, fun hp => ?_⟩
    obtain ⟨b, o, e1, h4, h5⟩ := h3 hp
    exact ⟨b, o, e1, h4, fun j hj => ⟨h5 j hj 0 _ (by omega) rfl, h5 j hj 1 _ (by omega) rfl, h5 j hj 2 _ (by omega) rfl⟩⟩
  cases A with
  | some a =>
    have holds : ∀ j u, (otgCells xs)[j]? = some u → W.cell? (a.add j) = some u := fun j u hj => by
      have hp : 0 < xs.length := by
        rcases Nat.eq_zero_or_pos xs.length with h0 | h0
        · rw [List.eq_nil_of_length_eq_zero h0] at hj; simp [otgCells] at hj
        · exact h0
      obtain ⟨b, o, e, hc⟩ := hA hp
      cases e
      rw [Addr.add_lit]
      exact otg_cells hc j u hj
    have hlen : (otgCells xs).length = xs.length * 3 := by
      unfold otgCells
      clear hA hg holds fin hl
      induction xs with
      | nil => rfl
      | cons x t ih => rw [List.flatMap_cons, List.length_append, ih, List.length_cons]; show 3 + _ = _; omega
    obtain ⟨v', w', hr, ho, hgr⟩ := run_append_arg_grows (P := Tryz.prog) W 29 ty 43 j (.agg #[.int .i64 0, .int .i64 0, .int .i64 0]) 3 24 Tryz.underlying29 hi hz hs hb rfl (by decide) a xs.length xs.length (otgCells xs) hlen holds ⟨g, 0, none⟩ 1 c (otgVals x) rfl hnews (by omega) (by unfold maxLen; omega) (by omega)
    exact ⟨v', w', hr, fin _ _ ho hgr⟩
  | none =>
    have h0 : xs = [] := by
      rcases Nat.eq_zero_or_pos xs.length with h0 | h0
      · exact List.eq_nil_of_length_eq_zero h0
      · obtain ⟨b, o, e, _⟩ := hA h0; cases e
    subst h0
    obtain ⟨g', cap, w', hr, ho, hgr, _, _⟩ := run_append_lies (P := Tryz.prog) (w := W) 29 ty W.heap.size 43 j (.agg #[.int .i64 0, .int .i64 0, .int .i64 0]) 3 24 Tryz.underlying29 hi hz hs hb rfl (by decide) (.slice none 0 0) 0 [] (World.ownsRow_nil _ _ _ _) ⟨g, 0, none⟩ 1 c (otgVals x) rfl hnews (by simp [Value.oneCell', otgVals]) (by decide) (by unfold maxLen; omega) (by omega) (Nat.le_refl _) W.heap.size rfl
    exact ⟨_, w', hr, fin _ _ ho hgr⟩
end Go.Proofs.YtmcgddlblhinlaaGreatDoor

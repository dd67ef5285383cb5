/- Rows of entries and of integers that a call owns; append of one. -/
import Derived.Test.YtekpnphfdoplfaaDoorA5
namespace Go.Proofs.YtekpnphfdoplfaaDoor
open Go.RowKit
def entVals (x : Ent) : List Value := [.int .i64 x.t, .int .i64 x.k, .int .i64 x.n, .int .i64 x.j, .int .i64 x.c, .int .i64 x.v]
def entCells (X : List Ent) : List Value := X.flatMap entVals
theorem entCells_len (C : List Ent) : (entCells C).length = C.length * 6 := by
  induction C with
  | nil => rfl
  | cons c t ih => simp only [entCells, List.flatMap_cons, List.length_append, List.length_cons] at *; rw [ih]; simp [entVals]; omega
theorem entCells_snoc (C : List Ent) (c : Ent) : entCells (C ++ [c]) = entCells C ++ entVals c := by simp [entCells]
theorem entCells_get : ∀ (C : List Ent) (j k : Nat), j < C.length → k < 6 → (entCells C)[j * 6 + k]? = (entVals (C.getD j Ent.zero))[k]?
  | [], j, k, h, _ => by cases h
  | c :: t, 0, k, _, hk => by
    show (entVals c ++ entCells t)[0 * 6 + k]? = _
    rw [List.getElem?_append_left (by simp [entVals]; omega)]
    simp
  | c :: t, j + 1, k, h, hk => by
    have ih := entCells_get t j k (by simpa using h) hk
    show (entVals c ++ entCells t)[(j + 1) * 6 + k]? = _
    rw [List.getElem?_append_right (by simp [entVals]; omega)]
    rw [show (j + 1) * 6 + k - (entVals c).length = j * 6 + k by simp [entVals]; omega, ih]
    simp
theorem ents_of_own {w : World} {base : Nat} {v : Value} {l : List Ent} (h : w.ownsRow base 37 6 v l.length (entCells l)) : Ents w w.heap.size v l := by
  rcases h.2 with ⟨rfl, h0⟩ | ⟨g, cap, cur, rfl, hb, hg, hn, hm, hs, ht⟩
  · obtain rfl : l = [] := List.eq_nil_of_length_eq_zero h0
    exact ents_nil _ _
  · refine ⟨_, cap, rfl, hn, hm, fun _ => ⟨g, 0, rfl, (Array.getElem?_eq_some_iff.1 hg).1, fun j hj => ?_⟩⟩
    have ha : ∀ n, (⟨g, 0, none⟩ : Addr).add n = ⟨g, 0 + n, none⟩ := fun n => by unfold Addr.add; split <;> simp_all
    have go : ∀ k v, k < 6 → (entVals (l.getD j Ent.zero))[k]? = some v → w.cell? ⟨g, 0 + j * 6 + k, none⟩ = some v := fun k v hk hv => by
      have := h.cells (g := g) rfl (j * 6 + k) v ((entCells_get l j k hj hk).trans hv)
      rw [ha] at this
      rw [Nat.add_assoc]; exact this
    exact ⟨go 0 _ (by omega) rfl, go 1 _ (by omega) rfl, go 2 _ (by omega) rfl, go 3 _ (by omega) rfl, go 4 _ (by omega) rfl, go 5 _ (by omega) rfl⟩
theorem own_below {w w' : World} {base : Nat} {e : TypeId} {size : Nat} {v : Value} {n : Nat} {xs : List Value} (h : w.ownsRow base e size v n xs) (hb : Below w.heap.size w w') : w'.ownsRow base e size v n xs :=
  h.kept (row := none) ⟨hb.os, hb.tape, hb.output, hb.size, fun j hj _ => hb.block j hj⟩ (by cases h' : v.ownBlock <;> simp)
theorem own_ne_lt {w : World} {B : Nat} {e : TypeId} {size : Nat} {v : Value} {n : Nat} {xs : List Value} (h : w.ownsRow B e size v n xs) {g : Nat} (hg : g < B ∨ w.heap.size ≤ g) : v.ownBlock ≠ some g := by
  intro hv
  obtain ⟨h1, h2⟩ := h.lt g hv
  omega
theorem own_shape {w : World} {base : Nat} {e : TypeId} {size : Nat} {v : Value} {n : Nat} {xs : List Value} (h : w.ownsRow base e size v n xs) (hn : 0 < n) : ∃ g c, v = .slice (some ⟨g, 0, none⟩) n c := by
  rcases h.2 with ⟨rfl, h0⟩ | ⟨g, cap, cur, rfl, hb, hg, hn, hm, hs, ht⟩
  · omega
  · exact ⟨g, cap, rfl⟩
theorem info37 : (Tryd.prog.info? 37).map (fun i => (i.zero, i.size, i.bytes)) = some (some (.agg #[.int .i64 0, .int .i64 0, .int .i64 0, .int .i64 0, .int .i64 0, .int .i64 0]), 6, 48) := by kernel_rfl
theorem info3 : (Tryd.prog.info? 3).map (fun i => (i.zero, i.size, i.bytes)) = some (some (.int .i64 0), 1, 8) := by kernel_rfl
/-- append of one entry, which lies in the block that was made last -/
theorem app_ent {ops : Array Oper} {rest : List Oper} {o : Oper} {a : Act} {Q : Exit → Act → World → Prop} (Wp : World) (hgd : o.guard = none) (s x : Operand) (ho : o.op = .call { callee := .builtin .append, args := #[s, x], argTypes := #[23, 23] })
    (base : Nat) (v : Value) (l : List Ent) (d : Ent) (hs : a.eval s = v) (hx : a.eval x = .slice (some ⟨Wp.heap.size, 0, none⟩) 1 1) (hown : Wp.ownsRow base 37 6 v l.length (entCells l)) (hl : l.length ≤ 70000) (hbase : base ≤ Wp.heap.size)
    (h : ∀ g c w', w'.ownsRow base 37 6 (.slice (some ⟨g, 0, none⟩) (l.length + 1) c) (l ++ [d]).length (entCells (l ++ [d])) → (Wp.alloc (.cells #[.int .i64 d.t, .int .i64 d.k, .int .i64 d.n, .int .i64 d.j, .int .i64 d.c, .int .i64 d.v] 37)).grownBy w' v.ownBlock → Below base Wp w' → (v.ownBlock = some g ∨ Wp.heap.size + 1 = g) →
      wpList Tryd.prog ops Q rest (a.put o.dst (.slice (some ⟨g, 0, none⟩) (l.length + 1) c)) w') : wpList Tryd.prog ops Q (o :: rest) a (Wp.alloc (.cells #[.int .i64 d.t, .int .i64 d.k, .int .i64 d.n, .int .i64 d.j, .int .i64 d.c, .int .i64 d.v] 37)) := by
  obtain ⟨i0, hi, hz0, hz1, hz2⟩ := info_parts info37
  refine wpList_append_own_at _ hgd s x 23 ho base 37 i0 _ 6 48 Tryd.underlying23 hi hz0 hz1 hz2 rfl (by decide) v l.length (entCells l) hs (hown.alloc _) ⟨Wp.heap.size, 0, none⟩ 1 1 (entVals d) hx rfl (World.news_of_block (heap_alloc_last Wp _)) (by simp [entVals, Value.oneCell']) (by unfold maxLen; omega) (by omega) (by simp; omega) ?_
  intro v' w' hown' hgrow _ hat
  obtain ⟨g, c, rfl⟩ := own_shape hown' (by omega)
  refine h g c w' (by rw [List.length_append, entCells_snoc]; exact hown') hgrow (Below.grown ((Below.refl _ Wp).mono hbase |>.alloc hbase _) hgrow (by simp; omega) (fun j e => (hown.lt j e).1)) ?_
  rcases hat with e | e
  · exact .inl (e.symm.trans rfl)
  · have : g = Wp.heap.size + 1 := by simpa [Value.ownBlock] using e
    exact .inr this.symm
def intCells (l : List Int) : List Value := l.map (Value.int .i64)
theorem intCells_snoc (Q : List Int) (q : Int) : intCells (Q ++ [q]) = intCells Q ++ [.int .i64 q] := by simp [intCells]
/-- append of one integer, which lies in the block that was made last -/
theorem app_int {ops : Array Oper} {rest : List Oper} {o : Oper} {a : Act} {Q : Exit → Act → World → Prop} (Wp : World) (hgd : o.guard = none) (s x : Operand) (ho : o.op = .call { callee := .builtin .append, args := #[s, x], argTypes := #[30, 30] })
    (base : Nat) (v : Value) (l : List Int) (d : Int) (hs : a.eval s = v) (hx : a.eval x = .slice (some ⟨Wp.heap.size, 0, none⟩) 1 1) (hown : Wp.ownsRow base 3 1 v l.length (intCells l)) (hl : l.length ≤ 70000) (hbase : base ≤ Wp.heap.size)
    (h : ∀ g c w', w'.ownsRow base 3 1 (.slice (some ⟨g, 0, none⟩) (l.length + 1) c) (l ++ [d]).length (intCells (l ++ [d])) → (Wp.alloc (.cells #[.int .i64 d] 3)).grownBy w' v.ownBlock → Below base Wp w' → (v.ownBlock = some g ∨ Wp.heap.size + 1 = g) →
      wpList Tryd.prog ops Q rest (a.put o.dst (.slice (some ⟨g, 0, none⟩) (l.length + 1) c)) w') : wpList Tryd.prog ops Q (o :: rest) a (Wp.alloc (.cells #[.int .i64 d] 3)) := by
  obtain ⟨i0, hi, hz0, hz1, hz2⟩ := info_parts info3
  refine wpList_append_own_at _ hgd s x 30 ho base 3 i0 _ 1 8 Tryd.underlying30 hi hz0 hz1 hz2 rfl (by decide) v l.length (intCells l) hs (hown.alloc _) ⟨Wp.heap.size, 0, none⟩ 1 1 [.int .i64 d] hx rfl (World.news_of_block (heap_alloc_last Wp _)) (by simp [Value.oneCell']) (by unfold maxLen; omega) (by omega) (by simp; omega) ?_
  intro v' w' hown' hgrow _ hat
  obtain ⟨g, c, rfl⟩ := own_shape hown' (by omega)
  refine h g c w' (by rw [List.length_append, intCells_snoc]; exact hown') hgrow (Below.grown ((Below.refl _ Wp).mono hbase |>.alloc hbase _) hgrow (by simp; omega) (fun j e => (hown.lt j e).1)) ?_
  rcases hat with e | e
  · exact .inl (e.symm.trans rfl)
  · have : g = Wp.heap.size + 1 := by simpa [Value.ownBlock] using e
    exact .inr this.symm
/-- a slice that reads as a list of integers, below block B -/
def Ints (w : World) (B : Nat) (v : Value) (xs : List Int) : Prop :=
  ∃ A c, v = .slice A xs.length c ∧ xs.length ≤ c ∧ c ≤ maxLen ∧ (0 < xs.length → ∃ b o, A = some ⟨b, o, none⟩ ∧ b < B ∧ ∀ j, j < xs.length → w.cell? ⟨b, o + j, none⟩ = some (.int .i64 (xs.getD j 0)))
theorem Ints.below {w w' : World} {B : Nat} {v : Value} {xs : List Int} (h : Ints w B v xs) (hb : Below B w w') : Ints w' B v xs := by
  obtain ⟨A, c, e, h1, h2, h3⟩ := h
  refine ⟨A, c, e, h1, h2, fun hp => ?_⟩
  obtain ⟨b, o, e1, h4, h5⟩ := h3 hp
  exact ⟨b, o, e1, h4, fun j hj => (hb.cell (p := ⟨b, o + j, none⟩) h4).trans (h5 j hj)⟩
theorem Ints.more {w : World} {B B' : Nat} {v : Value} {xs : List Int} (h : Ints w B v xs) (hB : B ≤ B') : Ints w B' v xs := by
  obtain ⟨A, c, e, h1, h2, h3⟩ := h
  refine ⟨A, c, e, h1, h2, fun hp => ?_⟩
  obtain ⟨b, o, e1, h4, h5⟩ := h3 hp
  exact ⟨b, o, e1, by omega, h5⟩
theorem ints_nil (w : World) (B : Nat) : Ints w B (.slice none 0 0) [] := ⟨none, 0, rfl, by simp, by simp [maxLen], fun h => by simp at h⟩
theorem ints_of_own {w : World} {base : Nat} {v : Value} {l : List Int} (h : w.ownsRow base 3 1 v l.length (intCells l)) : Ints w w.heap.size v l := by
  rcases h.2 with ⟨rfl, h0⟩ | ⟨g, cap, cur, rfl, hb, hg, hn, hm, hs, ht⟩
  · obtain rfl : l = [] := List.eq_nil_of_length_eq_zero h0
    exact ints_nil _ _
  · refine ⟨_, cap, rfl, hn, hm, fun _ => ⟨g, 0, rfl, (Array.getElem?_eq_some_iff.1 hg).1, fun j hj => ?_⟩⟩
    have ha : ∀ n, (⟨g, 0, none⟩ : Addr).add n = ⟨g, 0 + n, none⟩ := fun n => by unfold Addr.add; split <;> simp_all
    have := h.cells (g := g) rfl j (.int .i64 (l.getD j 0)) (by simp [intCells, List.getD, hj])
    rwa [ha] at this
/-- has (31): a number is on a list -/
theorem has_step (zs : List Int) (x : Int) (k : Nat) (h : k < zs.length) : decide (x ∈ zs.drop k) = (decide (zs.getD k 0 = x) || decide (x ∈ zs.drop (k + 1))) := by
  rw [drop_get zs 0 k h, Bool.eq_iff_iff, Bool.or_eq_true, decide_eq_true_iff, decide_eq_true_iff, decide_eq_true_iff, List.mem_cons]
  exact ⟨fun h => h.imp Eq.symm id, fun h => h.imp Eq.symm id⟩
theorem has_any (v : Value) (zs : List Int) (x : Int) (w : World) (hv : Ints w w.heap.size v zs) (r : Bool) (hr : decide (x ∈ zs) = r) : Calls Tryd.prog 31 #[v, .int .i64 x] w fun e w' => e = .returned (.bool r) ∧ w' = w := by
  obtain ⟨A, c, rfl, hc, hm, hA⟩ := hv
  unfold maxLen at hm
  have HA := Lib.hid hA
  have HR := Lib.hid hr
  clear hA hr
  go_enter Tryd.func31, Tryd.ntmps31
  go_wp2_with fail
  go_loop [5] (fun i => ∃ k : Nat, k ≤ zs.length ∧ i = .int .i64 k ∧ Hid (decide (x ∈ zs.drop k) = decide (x ∈ zs))) (fun i => zs.length - (intOf i).toNat)
  case atStart => exact ⟨0, by omega, rfl, rfl⟩
  case round =>
    obtain ⟨k, hk, rfl, hr⟩ := hrel
    by_cases hlt : k < zs.length
    · obtain ⟨b, o, rfl, hb, hcell⟩ := HA.out (by omega)
      have hx := hcell k hlt
      have HST := Lib.hid (has_step zs x k hlt)
      clear hcell
      generalize zs.getD k 0 = z at *
      by_cases hq : z = x
      · have HT : Hid (r = true) := by show _ = _; rw [← HR.out, ← hr.out, HST.out]; simp [hq]
        have hqb : (z == x) = true := by simpa using hq
        clear hq
        go_wp2_with fail
        go_ret
        exact ⟨by rw [HT.out]; rfl, rfl⟩
      · have HT : Hid (decide (x ∈ zs.drop (k + 1)) = decide (x ∈ zs)) := by show _ = _; rw [← hr.out, HST.out]; simp [hq]
        have hqb : (z == x) = false := by simpa using hq
        clear hq
        go_wp2_with fail
        go_round
        case rel => exact ⟨k + 1, by omega, by go_num, HT⟩
        case measure => simp [intOf]; omega
    · have HT : Hid (r = false) := by show _ = _; rw [← HR.out, ← hr.out, List.drop_of_length_le (by omega)]; simp
      go_wp2_with fail
      go_ret
      exact ⟨by rw [HT.out]; rfl, rfl⟩
end Go.Proofs.YtekpnphfdoplfaaDoor

/- Parse. -/
import Derived.Test.YtekpnphfdoplfaaDoorB5
import Derived.Test.YtekpnphfdoplfaaDoorB6
namespace Go.Proofs.YtekpnphfdoplfaaDoor
open Go.RowKit Go.Shelf
attribute [local go_sem] Oper.semAt_some
theorem IsT.unique {l : List UInt8} {z z' : Ent} (h : IsT l z) (h' : IsT l z') : z = z' := by
  have hk : z.k = z'.k := (kind_of h).symm.trans (kind_of h')
  have hg : ∀ i, i < (offs z.k).length → getO z ((offs z.k).getD i 0) = getO z' ((offs z.k).getD i 0) := fun i hi => by
    have h1 := word_num h rfl (kind_of h) rfl hi
    have h2 := word_num h' rfl ((kind_of h').trans hk.symm) rfl hi
    rw [h1] at h2
    injection h2
  have hm : ∀ i, i ≤ (offs z.k).length → mix z i = mix z' i := by
    intro i
    induction i with
    | zero => intro _; unfold mix; rw [hk]; rfl
    | succ i ih =>
      intro hi
      rw [mix_succ z i (by omega), mix_succ z' i (by rw [← hk]; omega), ih (by omega), ← hk, hg i (by omega)]
  have h1 := mix_all h.1
  have h2 := mix_all h'.1
  rw [← h1, ← h2, ← hk]
  exact hm _ (Nat.le_refl _)
open Classical in
/-- the entry with a text -/
noncomputable def entOf (l : List UInt8) : Option Ent := if h : ∃ z, IsT l z then some h.choose else none
theorem entOf_some {l : List UInt8} {z : Ent} (h : IsT l z) : entOf l = some z := by
  have hx : ∃ z, IsT l z := ⟨z, h⟩
  unfold entOf
  rw [dif_pos hx, hx.choose_spec.unique h]
theorem entOf_none {l : List UInt8} (h : ∀ z, ¬ IsT l z) : entOf l = none := by
  unfold entOf
  rw [dif_neg (fun hx => h _ hx.choose_spec)]
theorem entOf_iff {l : List UInt8} {z : Ent} : entOf l = some z ↔ IsT l z := by
  refine ⟨fun h => ?_, entOf_some⟩
  by_cases hx : ∃ z, IsT l z
  · obtain ⟨y, hy⟩ := hx
    rw [entOf_some hy] at h
    cases h; exact hy
  · rw [entOf_none (fun z hz => hx ⟨z, hz⟩)] at h; cases h
/-- lines read into a log -/
noncomputable def scanT : List Ent → List (Int × ByteArray) → Except Int (List Ent)
  | acc, [] => .ok acc
  | acc, x :: r => match entOf x.2.data.toList with
    | none => .error x.1
    | some y => scanT (acc ++ [y]) r
/-- what Parse answers: entries, line, error -/
noncomputable def parseR (s : ByteArray) : List Ent × Int × Int :=
  if 65536 < s.size then ([], 0, 4) else
  match scanT [] (linesT s.data.toList.length 1 s.data.toList) with
  | .error n => ([], n, 3)
  | .ok es => if chkE es ≠ 0 then ([], 0, 9) else (es, 0, 0)
def ParsePost (s : ByteArray) (w : World) (e : Ending) (w' : World) : Prop :=
  ∃ v, e = .returned (.tuple #[v, .int .i64 (parseR s).2.1, .int .i64 (parseR s).2.2]) ∧ Ents w' w'.heap.size v (parseR s).1 ∧ Below w.heap.size w w'
/-- the reading under way, in memory -/
structure PI (w W : World) (pre : List (Int × ByteArray)) (acc : List Ent) (V : Value) : Prop where
  scn : ∀ rest, scanT [] (pre ++ rest) = scanT acc rest
  la : acc.length ≤ pre.length
  row : W.ownsRow (w.heap.size + 1 + 1 + 1 + 1 + 1) 37 6 V acc.length (entCells acc)
  out : Boxed W (w.heap.size + 1 + 1 + 1) 23 V
  r0 : Boxed W (w.heap.size) 23 (.slice none 0 0)
  r1 : Boxed W (w.heap.size + 1) 3 (.int .i64 0)
  r2 : Boxed W (w.heap.size + 1 + 1) 24 (.int .i64 0)
  bel : Below w.heap.size w W
  big : w.heap.size + 1 + 1 + 1 + 1 + 1 ≤ W.heap.size
/-- the reading stopped -/
structure PX (w W : World) (pre : List (Int × ByteArray)) (n : Int) : Prop where
  scn : ∀ rest, scanT [] (pre ++ rest) = .error n
  r0 : Boxed W (w.heap.size) 23 (.slice none 0 0)
  r1 : Boxed W (w.heap.size + 1) 3 (.int .i64 n)
  r2 : Boxed W (w.heap.size + 1 + 1) 24 (.int .i64 3)
  bel : Below w.heap.size w W
/-- the blocks that the range and its iterator write -/
def Far (w W : World) (row : Option Nat) : Prop := ∀ r, row = some r → r = w.heap.size + 1 + 1 + 1 + 1 ∨ (w.heap.size + 1 + 1 + 1 + 1 + 1 ≤ r ∧ ∃ o : Obj, W.heap[r]? = some o ∧ o.isCells = false)
theorem own_far {w W W' : World} {e : TypeId} {size : Nat} {v : Value} {n : Nat} {xs : List Value} {row : Option Nat} (h : W.ownsRow (w.heap.size + 1 + 1 + 1 + 1 + 1) e size v n xs) (hg : W.grownBy W' row) (hf : Far w W row) : W'.ownsRow (w.heap.size + 1 + 1 + 1 + 1 + 1) e size v n xs := by
  refine h.kept hg ?_
  cases hv : v.ownBlock with
  | none => exact .inl rfl
  | some g =>
    right; intro e
    obtain ⟨c, fz, k1⟩ := Lib.ownsRow_kind h g hv
    have := (h.lt g hv).1
    rcases hf g e.symm with h1 | ⟨_, o, h1, h2⟩
    · omega
    · rw [k1] at h1; cases h1; cases h2
theorem below_far {w W W' : World} {row : Option Nat} (h : Below w.heap.size w W) (hg : W.grownBy W' row) (hf : Far w W row) : Below w.heap.size w W' :=
  h.trans ⟨hg.os, hg.tape, hg.output, hg.size, fun k hk => hg.block k (by have := h.size; omega) (fun e => by rcases hf k e.symm with h | h <;> omega)⟩
theorem blk_far {w W W' : World} {row : Option Nat} {k : Nat} {o : Obj} (h : W.heap[k]? = some o) (hk : k < w.heap.size + 1 + 1 + 1 + 1) (hg : W.grownBy W' row) (hf : Far w W row) : W'.heap[k]? = some o :=
  (hg.block k (blk_lt h) (fun e => by rcases hf k e.symm with h | h <;> omega)).trans h
theorem PI.kept {w W W' : World} {pre : List (Int × ByteArray)} {acc : List Ent} {V : Value} {row : Option Nat} (h : PI w W pre acc V) (hg : W.grownBy W' row) (hf : Far w W row) : PI w W' pre acc V :=
  ⟨h.scn, h.la, own_far h.row hg hf, blk_far h.out (by omega) hg hf, blk_far h.r0 (by omega) hg hf, blk_far h.r1 (by omega) hg hf, blk_far h.r2 (by omega) hg hf, below_far h.bel hg hf, Nat.le_trans h.big hg.size⟩
theorem PX.kept {w W W' : World} {pre : List (Int × ByteArray)} {n : Int} {row : Option Nat} (h : PX w W pre n) (hg : W.grownBy W' row) (hf : Far w W row) : PX w W' pre n :=
  ⟨h.scn, blk_far h.r0 (by omega) hg hf, blk_far h.r1 (by omega) hg hf, blk_far h.r2 (by omega) hg hf, below_far h.bel hg hf⟩
theorem far_of {w W : World} {B : Nat} (hB : w.heap.size + 1 + 1 + 1 + 1 + 1 ≤ B) {row : Option Nat} (hr : ∀ r, row = some r → B ≤ r ∧ ∃ o : Obj, W.heap[r]? = some o ∧ o.isCells = false) : Far w W row := fun r e => .inr ⟨Nat.le_trans hB (hr r e).1, (hr r e).2⟩
theorem far_box (w W : World) : Far w W (some (w.heap.size + 1 + 1 + 1 + 1)) := fun r e => by cases e; exact .inl rfl
theorem lkp_t {N0 xb : Nat} {A B C : World} (h : LKp N0 xb A B) (k : LKp N0 xb B C) : LKp N0 xb A C := ⟨k.1.trans h.1, fun j hj => (k.2.1 j hj).trans (h.2.1 j hj), Nat.le_trans h.2.2 k.2.2⟩
theorem lkp_b {N0 xb : Nat} {w : World} (hx : xb < w.heap.size) (h8 : N0 ≤ w.heap.size) (W : World) (l : Nat) (o o' : Obj) (hl : w.heap.size ≤ l) (h : W.heap[l]? = some o) (_ : o.isCells = false) (_ : o.isWalk = false) : LKp N0 xb W (W.putObj l o') := by
  have hlt := (Array.getElem?_eq_some_iff.1 h).1
  have hg := grownBy_putObj' W l o'
  exact ⟨hg.block xb (by omega) (fun e => by cases e; omega), fun k hk => hg.block k (by omega) (fun e => by cases e; omega), hg.size⟩
theorem scan_ok {pre : List (Int × ByteArray)} {acc : List Ent} {x : Int × ByteArray} {y : Ent} (h : ∀ rest, scanT [] (pre ++ rest) = scanT acc rest) (hs : entOf x.2.data.toList = some y) : ∀ rest, scanT [] (pre ++ [x] ++ rest) = scanT (acc ++ [y]) rest := fun rest => by
  rw [List.append_assoc, h]
  simp [scanT, hs]
theorem scan_bad {pre : List (Int × ByteArray)} {acc : List Ent} {x : Int × ByteArray} (h : ∀ rest, scanT [] (pre ++ rest) = scanT acc rest) (hs : entOf x.2.data.toList = none) : ∀ rest, scanT [] (pre ++ [x] ++ rest) = .error x.1 := fun rest => by
  rw [List.append_assoc, h]
  simp [scanT, hs]
theorem heap_keep {w : World} {k : Nat} {o : Obj} (h : w.heap[k]? = some o) (o' : Obj) : (w.alloc o').heap[k]? = some o := (Below.heap_alloc _ _ _ (blk_lt h)).trans h
theorem _root_.Go.KeepsFrom.more {B B' : Nat} {W W' : World} (h : KeepsFrom B W W') (hB : B ≤ B') : KeepsFrom B' W W' := ⟨h.size, fun k o hk => h.same k o (Nat.le_trans hB hk)⟩
/-- the results stored -/
theorem res_world {w V : World} {a b c : Value} (r0 : Boxed V (w.heap.size) 23 a) (r1 : Boxed V (w.heap.size + 1) 3 b) (r2 : Boxed V (w.heap.size + 1 + 1) 24 c) (bel : Below w.heap.size w V) (a' b' c' : Value) :
    Boxed (((V.setCell ⟨w.heap.size, 0, none⟩ a').setCell ⟨w.heap.size + 1, 0, none⟩ b').setCell ⟨w.heap.size + 1 + 1, 0, none⟩ c') (w.heap.size) 23 a' ∧ Boxed (((V.setCell ⟨w.heap.size, 0, none⟩ a').setCell ⟨w.heap.size + 1, 0, none⟩ b').setCell ⟨w.heap.size + 1 + 1, 0, none⟩ c') (w.heap.size + 1) 3 b' ∧ Boxed (((V.setCell ⟨w.heap.size, 0, none⟩ a').setCell ⟨w.heap.size + 1, 0, none⟩ b').setCell ⟨w.heap.size + 1 + 1, 0, none⟩ c') (w.heap.size + 1 + 1) 24 c' ∧ Below w.heap.size w (((V.setCell ⟨w.heap.size, 0, none⟩ a').setCell ⟨w.heap.size + 1, 0, none⟩ b').setCell ⟨w.heap.size + 1 + 1, 0, none⟩ c') ∧ KeepsFrom (w.heap.size + 1 + 1 + 1) V (((V.setCell ⟨w.heap.size, 0, none⟩ a').setCell ⟨w.heap.size + 1, 0, none⟩ b').setCell ⟨w.heap.size + 1 + 1, 0, none⟩ c') ∧
    ∀ k, k ≠ w.heap.size → k ≠ w.heap.size + 1 → k ≠ w.heap.size + 1 + 1 → (((V.setCell ⟨w.heap.size, 0, none⟩ a').setCell ⟨w.heap.size + 1, 0, none⟩ b').setCell ⟨w.heap.size + 1 + 1, 0, none⟩ c').heap[k]? = V.heap[k]? := by
  have n0 : ∀ (X : World) (v : Value) (k : Nat), k ≠ w.heap.size → (X.setCell ⟨w.heap.size, 0, none⟩ v).heap[k]? = X.heap[k]? := fun X v k hk => Below.heap_setCell X ⟨w.heap.size, 0, none⟩ v k (by simpa using hk)
  have n1 : ∀ (X : World) (v : Value) (k : Nat), k ≠ w.heap.size + 1 → (X.setCell ⟨w.heap.size + 1, 0, none⟩ v).heap[k]? = X.heap[k]? := fun X v k hk => Below.heap_setCell X ⟨w.heap.size + 1, 0, none⟩ v k (by simpa using hk)
  have n2 : ∀ (X : World) (v : Value) (k : Nat), k ≠ w.heap.size + 1 + 1 → (X.setCell ⟨w.heap.size + 1 + 1, 0, none⟩ v).heap[k]? = X.heap[k]? := fun X v k hk => Below.heap_setCell X ⟨w.heap.size + 1 + 1, 0, none⟩ v k (by simpa using hk)
  have all : ∀ k, k ≠ w.heap.size → k ≠ w.heap.size + 1 → k ≠ w.heap.size + 1 + 1 → (((V.setCell ⟨w.heap.size, 0, none⟩ a').setCell ⟨w.heap.size + 1, 0, none⟩ b').setCell ⟨w.heap.size + 1 + 1, 0, none⟩ c').heap[k]? = V.heap[k]? := fun k h0 h1 h2 => by rw [n2 _ _ _ h2, n1 _ _ _ h1, n0 _ _ _ h0]
  refine ⟨?_, ?_, ?_, ((bel.setCell (p := ⟨w.heap.size, 0, none⟩) (Nat.le_refl _) _).setCell (p := ⟨w.heap.size + 1, 0, none⟩) (by show w.heap.size ≤ w.heap.size + 1; omega) _).setCell (p := ⟨w.heap.size + 1 + 1, 0, none⟩) (by show w.heap.size ≤ w.heap.size + 1 + 1; omega) _, ⟨by simp [World.setCell], fun k o hB hk _ => (all k (by omega) (by omega) (by omega)).trans hk⟩, all⟩
  · unfold Boxed; rw [n2 _ _ _ (by omega), n1 _ _ _ (by omega)]; exact r0.set a'
  · have b1 : Boxed (V.setCell ⟨w.heap.size, 0, none⟩ a') (w.heap.size + 1) 3 b := by unfold Boxed; rw [n0 _ _ _ (by omega)]; exact r1
    exact (n2 _ _ _ (by omega)).trans (b1.set b')
  · have b2 : Boxed ((V.setCell ⟨w.heap.size, 0, none⟩ a').setCell ⟨w.heap.size + 1, 0, none⟩ b') (w.heap.size + 1 + 1) 24 c := by unfold Boxed; rw [n1 _ _ _ (by omega), n0 _ _ _ (by omega)]; exact r2
    exact b2.set c'
theorem own_sets {w X : World} {e : TypeId} {size : Nat} {v : Value} {n : Nat} {xs : List Value} {a b c : Value} (h : X.ownsRow (w.heap.size + 1 + 1 + 1 + 1 + 1) e size v n xs) : (((X.setCell ⟨w.heap.size, 0, none⟩ a).setCell ⟨w.heap.size + 1, 0, none⟩ b).setCell ⟨w.heap.size + 1 + 1, 0, none⟩ c).ownsRow (w.heap.size + 1 + 1 + 1 + 1 + 1) e size v n xs :=
  ownsRow_setCell_below (ownsRow_setCell_below (ownsRow_setCell_below h (by dsimp only; omega) _) (by dsimp only; omega) _) (by dsimp only; omega) _
/-- an entry appended to the reading's log -/
theorem app_world {w W2 w1 : World} {V V' : Value} {acc : List Ent} {y : Ent} (p3 : Boxed W2 (w.heap.size + 1 + 1 + 1) 23 V) (row2 : W2.ownsRow (w.heap.size + 1 + 1 + 1 + 1 + 1) 37 6 V acc.length (entCells acc)) (hz : w.heap.size + 1 + 1 + 1 + 1 + 1 ≤ W2.heap.size)
    (hown' : w1.ownsRow (w.heap.size + 1 + 1 + 1 + 1 + 1) 37 6 V' (acc.length + 1) (entCells acc ++ entVals y)) (hgrow : ((W2.alloc (.cells #[.int .i64 y.t, .int .i64 y.k, .int .i64 y.n, .int .i64 y.j, .int .i64 y.c, .int .i64 y.v] 37)).alloc (.cells #[.int .i64 y.t, .int .i64 y.k, .int .i64 y.n, .int .i64 y.j, .int .i64 y.c, .int .i64 y.v] 37)).grownBy w1 V.ownBlock) :
    Boxed w1 (w.heap.size + 1 + 1 + 1) 23 V ∧ Boxed (w1.setCell ⟨w.heap.size + 1 + 1 + 1, 0, none⟩ V') (w.heap.size + 1 + 1 + 1) 23 V' ∧ (w1.setCell ⟨w.heap.size + 1 + 1 + 1, 0, none⟩ V').ownsRow (w.heap.size + 1 + 1 + 1 + 1 + 1) 37 6 V' (acc ++ [y]).length (entCells (acc ++ [y])) ∧
    (∀ k, k < w.heap.size + 1 + 1 + 1 + 1 + 1 → k ≠ w.heap.size + 1 + 1 + 1 → (w1.setCell ⟨w.heap.size + 1 + 1 + 1, 0, none⟩ V').heap[k]? = W2.heap[k]?) ∧ KeepsOthers W2 (w1.setCell ⟨w.heap.size + 1 + 1 + 1, 0, none⟩ V') ∧ Below w.heap.size W2 (w1.setCell ⟨w.heap.size + 1 + 1 + 1, 0, none⟩ V') := by
  have rowX := (row2.alloc (.cells #[.int .i64 y.t, .int .i64 y.k, .int .i64 y.n, .int .i64 y.j, .int .i64 y.c, .int .i64 y.v] 37)).alloc (.cells #[.int .i64 y.t, .int .i64 y.k, .int .i64 y.n, .int .i64 y.j, .int .i64 y.c, .int .i64 y.v] 37)
  have n0 : ∀ k, k ≠ w.heap.size + 1 + 1 + 1 → (w1.setCell ⟨w.heap.size + 1 + 1 + 1, 0, none⟩ V').heap[k]? = w1.heap[k]? := fun k hk => Below.heap_setCell w1 ⟨w.heap.size + 1 + 1 + 1, 0, none⟩ V' k (by simpa using hk)
  have low : ∀ k, k < w.heap.size + 1 + 1 + 1 + 1 + 1 → w1.heap[k]? = W2.heap[k]? := fun k hk => (hgrow.block k (by simp; omega) (fun e => by have := (row2.lt k e.symm).1; omega)).trans ((Below.heap_alloc _ _ _ (by simp; omega)).trans (Below.heap_alloc _ _ _ (by omega)))
  have b1 : Boxed w1 (w.heap.size + 1 + 1 + 1) 23 V := (low _ (by omega)).trans p3
  refine ⟨b1, b1.set V', ?_, fun k hk hk3 => (n0 k hk3).trans (low k hk), ?_, ?_⟩
  · rw [List.length_append, entCells_snoc]; exact ownsRow_setCell_below hown' (by dsimp only; omega) _
  · refine (KeepsOthers.alloc W2 _).trans ((KeepsOthers.alloc _ _).trans ((KeepsOthers.of_grownBy hgrow fun j o ej hj => ?_).trans (KeepsOthers.setCell _ _ _)))
    obtain ⟨c, fz, k1⟩ := Lib.ownsRow_kind rowX j ej
    rw [k1] at hj; cases hj; rfl
  · refine (((Below.refl w.heap.size W2).alloc (by omega) _ |>.alloc (by simp; omega) _).grown hgrow (by simp; omega) (fun j e => by have := (row2.lt j e).1; omega)).setCell (p := ⟨w.heap.size + 1 + 1 + 1, 0, none⟩) (by dsimp only; omega) V'
theorem parse_end {s : ByteArray} {w X : World} {D : Nat} {v : Value} {a b : Int} {acc : List Ent} {tmps : Array Value} (z0 : Boxed X (w.heap.size) 23 v) (z1 : Boxed X (w.heap.size + 1) 3 (.int .i64 a)) (z2 : Boxed X (w.heap.size + 1 + 1) 24 (.int .i64 b)) (z3 : Below w.heap.size w X) (hD : w.heap.size + 1 + 1 + 1 + 1 + 1 ≤ D)
    (hK : X.heap[D]? = some (.deferred (some []))) (rc : X.ownsRow (w.heap.size + 1 + 1 + 1 + 1 + 1) 37 6 v acc.length (entCells acc)) (hP : parseR s = (acc, a, b))
    (t2 : tmps[2]? = some (.pointer (some ⟨w.heap.size, 0, none⟩))) (t3 : tmps[3]? = some (.pointer (some ⟨w.heap.size + 1, 0, none⟩))) (t4 : tmps[4]? = some (.pointer (some ⟨w.heap.size + 1 + 1, 0, none⟩))) :
    LeavesInM Fence.wide 3 Tryd.prog Tryd.f11 tmps (ParsePost s w) [] FrameMode.returning (X.putObj D (.deferred none)) := by
  have hg := grownBy_putObj' X D (.deferred none)
  have n0 := (z0.kept hg (by simp; omega)).cell
  have n2 := (z1.kept hg (by simp; omega)).cell
  have n3 := (z2.kept hg (by simp; omega)).cell
  have ic := ents_of_own (ownsRow_putObj rc (.deferred none) hK rfl)
  have hB : Below w.heap.size w (X.putObj D (.deferred none)) := z3.trans (belowK_b (w := w) (Nat.le_refl _) X D _ _ (by omega) hK rfl rfl)
  generalize X.putObj D (.deferred none) = Y at *
  refine ⟨.tuple #[v, .int .i64 a, .int .i64 b], by simp [results, Tryd.results11, go_sem, t2, t3, t4, n0, n2, n3], v, by rw [hP], by rw [hP]; exact ic, hB⟩
set_option maxRecDepth 100000 in
set_option maxHeartbeats 4000000 in
theorem parse_in (s : ByteArray) (w : World) (hs : s.size ≤ 65536) (hG : Glob w) : CallsIn Fence.wide 3 Tryd.prog 11 #[.string s] w (ParsePost s w) := by
  have hn : ¬ (65536 < s.size) := by omega
  have hsl : s.data.toList.length ≤ 65536 := hs
  refine callsIn_of_wp_marks Tryd.func11 rfl trivial ?_ rfl
  simp only [Tryd.ntmps11, List.size_toArray, List.length_cons, List.length_nil, Nat.reduceAdd, Nat.reduceSub, Array.replicate_succ, Array.replicate_zero, List.push_toArray, List.append_toArray, List.nil_append, List.cons_append]
  gi_wp2
  refine ⟨trivial, ?_⟩
  refine (lines_fn _ _ _).mono ?_
  rintro e w1 ⟨rfl, rfl⟩
  gi_wp2
  have bX := Boxed.new ((((w.alloc (.cells #[.slice none 0 0] 23)).alloc (.cells #[.int .i64 0] 3)).alloc (.cells #[.int .i64 0] 24)).alloc (.cells #[.slice none 0 0] 23)) 9 (.string s)
  have hB0 : Below w.heap.size w (((((w.alloc (.cells #[.slice none 0 0] 23)).alloc (.cells #[.int .i64 0] 3)).alloc (.cells #[.int .i64 0] 24)).alloc (.cells #[.slice none 0 0] 23)).alloc (.cells #[.string s] 9)) := by (repeat' (first | (with_reducible exact Below.refl _ _) | (with_reducible refine Below.alloc ?_ ?_ _) | (with_reducible refine Below.drew ?_) | (with_reducible refine below_drewN ?_ _) | (with_reducible refine Below.setCell ?_ ?_ _) | (with_reducible refine Below.trans ?_ (Below.mono (by assumption) ?_)) | (with_reducible exact Nat.le_refl _) | omega | (simp; omega) | (simp; done)))
  have b0 : Boxed (((((w.alloc (.cells #[.slice none 0 0] 23)).alloc (.cells #[.int .i64 0] 3)).alloc (.cells #[.int .i64 0] 24)).alloc (.cells #[.slice none 0 0] 23)).alloc (.cells #[.string s] 9)) (w.heap.size) 23 (.slice none 0 0) := heap_keep (heap_keep (heap_keep (heap_keep (heap_alloc_last _ _) _) _) _) _
  have b1 : Boxed (((((w.alloc (.cells #[.slice none 0 0] 23)).alloc (.cells #[.int .i64 0] 3)).alloc (.cells #[.int .i64 0] 24)).alloc (.cells #[.slice none 0 0] 23)).alloc (.cells #[.string s] 9)) (w.heap.size + 1) 3 (.int .i64 0) := heap_keep (heap_keep (heap_keep (by have := heap_alloc_last (w.alloc (.cells #[.slice none 0 0] 23)) (.cells #[.int .i64 0] 3); simpa using this) _) _) _
  have b2 : Boxed (((((w.alloc (.cells #[.slice none 0 0] 23)).alloc (.cells #[.int .i64 0] 3)).alloc (.cells #[.int .i64 0] 24)).alloc (.cells #[.slice none 0 0] 23)).alloc (.cells #[.string s] 9)) (w.heap.size + 1 + 1) 24 (.int .i64 0) := heap_keep (heap_keep (by have := heap_alloc_last ((w.alloc (.cells #[.slice none 0 0] 23)).alloc (.cells #[.int .i64 0] 3)) (.cells #[.int .i64 0] 24); simpa using this) _) _
  have b3 : Boxed (((((w.alloc (.cells #[.slice none 0 0] 23)).alloc (.cells #[.int .i64 0] 3)).alloc (.cells #[.int .i64 0] 24)).alloc (.cells #[.slice none 0 0] 23)).alloc (.cells #[.string s] 9)) (w.heap.size + 1 + 1 + 1) 23 (.slice none 0 0) := heap_keep (by have := heap_alloc_last (((w.alloc (.cells #[.slice none 0 0] 23)).alloc (.cells #[.int .i64 0] 3)).alloc (.cells #[.int .i64 0] 24)) (.cells #[.slice none 0 0] 23); simpa using this) _
  have hsz : (((((w.alloc (.cells #[.slice none 0 0] 23)).alloc (.cells #[.int .i64 0] 3)).alloc (.cells #[.int .i64 0] 24)).alloc (.cells #[.slice none 0 0] 23)).alloc (.cells #[.string s] 9)).heap.size = w.heap.size + 1 + 1 + 1 + 1 + 1 := by simp
  simp only [World.size_alloc] at bX
  generalize (((((w.alloc (.cells #[.slice none 0 0] 23)).alloc (.cells #[.int .i64 0] 3)).alloc (.cells #[.int .i64 0] 24)).alloc (.cells #[.slice none 0 0] 23)).alloc (.cells #[.string s] 9)) = W0 at *
  have PI0 : PI w W0 [] [] (.slice none 0 0) := ⟨fun _ => rfl, Nat.le_refl _, World.ownsRow_nil _ _ _ _, b3, b0, b1, b2, hB0, by omega⟩
  have hgw : Gw w W0 := ⟨by omega, fun k hk => hB0.block k hk⟩
  refine rangeCl (F := Fence.wide) rfl (by omega) (gf := 45) (lb := #[.pointer (some ⟨w.heap.size + 1 + 1 + 1 + 1, 0, none⟩)]) rfl trivial (enters_of Tryd.func45 (by kernel_rfl) rfl)
    (lines_seq 2 (by omega) (w.heap.size + 1 + 1 + 1 + 1) w hG (by omega) s.data.toList hsl W0 bX hgw) lkp_t (lkp_b (by omega) (by omega)) (fun A B h => KeepsFrom.of_grownBy h (fun j e => by cases e; omega)) (Below.refl _ _) (fun _ => rfl)
    (fun pre W => ∃ acc V, PI w W pre acc V) (fun c pre W => c = .ret ∧ ∃ n, PX w W pre n)
    (fun pre W W' row ⟨acc, V, h⟩ hg hr => ⟨acc, V, h.kept hg (far_of (by omega) hr)⟩)
    (fun c pre W W' row ⟨h1, n, h⟩ hg hr => ⟨h1, n, h.kept hg (far_of (by omega) hr)⟩)
    (fun p A B ⟨acc, V, h⟩ hc => ⟨acc, V, h.kept hc (far_box w A)⟩)
    (fun c p A B ⟨h1, n, h⟩ hc => ⟨h1, n, h.kept hc (far_box w A)⟩)
    ⟨[], _, PI0⟩
    (fun x => { tmps := #[.string s, undef, .pointer (some ⟨w.heap.size, 0, none⟩), .pointer (some ⟨w.heap.size + 1, 0, none⟩), .pointer (some ⟨w.heap.size + 1 + 1, 0, none⟩), .pointer (some ⟨w.heap.size + 1 + 1 + 1, 0, none⟩), .int .i64 x.1, .string x.2, undef, undef, .string s, .int .i64 s.size, .bool (decide ((65536 : Int) < s.size)), .string s, .func (.func 45) #[] #[.pointer (some ⟨w.heap.size + 1 + 1 + 1 + 1, 0, none⟩)], .int .i64 x.1, .string x.2, undef, undef, undef, undef, undef, undef, undef, undef, undef, undef, undef, undef, undef, undef, undef, undef], defers := [] }) ?assign ?body ?done ?stop
  case assign =>
    intro l i W K hK
    gi_wp2
    exact hK
  case body =>
    rintro l pre ⟨x1, x2⟩ W hpx ⟨acc, V, hp⟩ hlt
    have hpx : x2.size ≤ 65537 := hpx
    have HP := Lib.hid hp
    have hGW : Glob W := hG.gw ⟨hp.bel.size, fun k hk => hp.bel.block k hk⟩
    have hbig := hp.big
    have hla := hp.la
    clear hp
    gi_wp2
    refine ⟨trivial, ((callsIn_wide.2 (lentry_any x2 W hGW (by omega))).inRound l).mono ?_⟩
    rintro e W2 ⟨y, bb, rfl, hb2, hyes, hall⟩
    have p3 : Boxed W2 (w.heap.size + 1 + 1 + 1) 23 V := (hb2.block _ (by omega)).trans HP.out.out
    have p0 : Boxed W2 (w.heap.size) 23 (.slice none 0 0) := (hb2.block _ (by omega)).trans HP.out.r0
    have p1 : Boxed W2 (w.heap.size + 1) 3 (.int .i64 0) := (hb2.block _ (by omega)).trans HP.out.r1
    have p2 : Boxed W2 (w.heap.size + 1 + 1) 24 (.int .i64 0) := (hb2.block _ (by omega)).trans HP.out.r2
    have bel2 : Below w.heap.size w W2 := HP.out.bel.trans (hb2.mono HP.out.bel.size)
    have row2 := own_below HP.out.row hb2
    have hz2 := hb2.size
    have x4 : W2.heap[w.heap.size + 1 + 1 + 1 + 1]? = W.heap[w.heap.size + 1 + 1 + 1 + 1]? := hb2.block _ (by omega)
    have hblk : ∀ k, k < w.heap.size → W2.heap[k]? = W.heap[k]? := fun k hk => hb2.block k (by omega)
    have kf2 : KeepsFrom (w.heap.size + 1 + 1 + 1 + 1 + 1) W W2 := ⟨hb2.size, fun k o _ hk _ => (hb2.block k (Array.getElem?_eq_some_iff.1 hk).1).trans hk⟩
    cases bb with
    | true =>
      have HE := Lib.hid (entOf_some (hyes rfl))
      clear hyes hall hb2
      have HR2 := Lib.hid row2
      have rowX := (row2.alloc (.cells #[.int .i64 y.t, .int .i64 y.k, .int .i64 y.n, .int .i64 y.j, .int .i64 y.c, .int .i64 y.v] 37)).alloc (.cells #[.int .i64 y.t, .int .i64 y.k, .int .i64 y.n, .int .i64 y.j, .int .i64 y.c, .int .i64 y.v] 37)
      have hb := (show Boxed _ _ _ _ from heap_keep p3 (.cells #[.int .i64 y.t, .int .i64 y.k, .int .i64 y.n, .int .i64 y.j, .int .i64 y.c, .int .i64 y.v] 37)).cell
      have hX : (W2.alloc (.cells #[.int .i64 y.t, .int .i64 y.k, .int .i64 y.n, .int .i64 y.j, .int .i64 y.c, .int .i64 y.v] 37)).heap[W2.heap.size]? = some (.cells #[.int .i64 y.t, .int .i64 y.k, .int .i64 y.n, .int .i64 y.j, .int .i64 y.c, .int .i64 y.v] 37) := heap_alloc_last _ _
      have hX1 : ((W2.alloc (.cells #[.int .i64 y.t, .int .i64 y.k, .int .i64 y.n, .int .i64 y.j, .int .i64 y.c, .int .i64 y.v] 37)).alloc (.cells #[.int .i64 y.t, .int .i64 y.k, .int .i64 y.n, .int .i64 y.j, .int .i64 y.c, .int .i64 y.v] 37)).heap[W2.heap.size + 1]? = some (.cells #[.int .i64 y.t, .int .i64 y.k, .int .i64 y.n, .int .i64 y.j, .int .i64 y.c, .int .i64 y.v] 37) := by have := heap_alloc_last (W2.alloc (.cells #[.int .i64 y.t, .int .i64 y.k, .int .i64 y.n, .int .i64 y.j, .int .i64 y.c, .int .i64 y.v] 37)) (.cells #[.int .i64 y.t, .int .i64 y.k, .int .i64 y.n, .int .i64 y.j, .int .i64 y.c, .int .i64 y.v] 37); simpa using this
      have HX1 := Lib.hid hX1
      have y0 := cell_blk hX 0
      have y1 := cell_blk hX 1
      have y2 := cell_blk hX 2
      have y3 := cell_blk hX 3
      have y4 := cell_blk hX 4
      have y5 := cell_blk hX 5
      simp only [List.getElem?_toArray, List.getElem?_cons_zero, List.getElem?_cons_succ] at y0 y1 y2 y3 y4 y5
      clear hX hX1 row2
      obtain ⟨i0, hi, hz0, hz1, hzz⟩ := info_parts info37
      have HI : Hid ((Tryd.prog.info? 37 = some i0) ∧ i0.zero = some (.agg #[.int .i64 0, .int .i64 0, .int .i64 0, .int .i64 0, .int .i64 0, .int .i64 0]) ∧ i0.size = 6 ∧ i0.bytes = 48) := ⟨hi, hz0, hz1, hzz⟩
      clear hi hz0 hz1 hzz
      gi_wp2_with (gi_at_builtin; refine wpListIn_append_own _ rfl _ _ 23 rfl (w.heap.size + 1 + 1 + 1 + 1 + 1) 37 i0 (.agg #[.int .i64 0, .int .i64 0, .int .i64 0, .int .i64 0, .int .i64 0, .int .i64 0]) 6 48 Tryd.underlying23 HI.out.1 HI.out.2.1 HI.out.2.2.1 HI.out.2.2.2 rfl (by decide) _ _ _ rfl rowX ⟨W2.heap.size + 1, 0, none⟩ 1 1 (entVals y) rfl rfl (World.news_of_block HX1.out) (by simp [entVals, Value.oneCell']) (by unfold maxLen; omega) (by omega) (by simp; omega) ?_; intro v' w1 hown' hgrow _; obtain ⟨g', cap', rfl⟩ := ownsRow_succ hown'; obtain ⟨z1, z2, z3, z4, z5, z6⟩ := app_world (w := w) p3 HR2.out (by omega) hown' hgrow; have hc2 := z1.cell; have hf2 := z1.frozen)
      exact ⟨(kf2.trans (z5.from _)).more (by omega), ⟨(z4 _ (by omega) (by omega)).trans x4, fun k hk => (z4 k (by omega) (by omega)).trans (hblk k hk), Nat.le_trans hz2 z6.size⟩, acc ++ [y], _, ⟨scan_ok HP.out.scn HE.out, by simp; omega, z3, z2, (z4 _ (by omega) (by omega)).trans p0, (z4 _ (by omega) (by omega)).trans p1, (z4 _ (by omega) (by omega)).trans p2, bel2.trans (z6.mono (by omega)), by have := z6.size; omega⟩⟩
    | false =>
      have hno : entOf x2.data.toList = none := entOf_none (fun z hz => by have := (hall z hz).1; cases this)
      have HX : Hid (∀ rest, scanT [] (pre ++ [(x1, x2)] ++ rest) = .error x1) := scan_bad HP.out.scn hno
      clear hyes hall hno hb2
      have q0 := heap_keep p0 (.cells #[.int .i64 y.t, .int .i64 y.k, .int .i64 y.n, .int .i64 y.j, .int .i64 y.c, .int .i64 y.v] 37)
      have q1 := heap_keep p1 (.cells #[.int .i64 y.t, .int .i64 y.k, .int .i64 y.n, .int .i64 y.j, .int .i64 y.c, .int .i64 y.v] 37)
      have q2 := heap_keep p2 (.cells #[.int .i64 y.t, .int .i64 y.k, .int .i64 y.n, .int .i64 y.j, .int .i64 y.c, .int .i64 y.v] 37)
      have belX := bel2.alloc bel2.size (.cells #[.int .i64 y.t, .int .i64 y.k, .int .i64 y.n, .int .i64 y.j, .int .i64 y.c, .int .i64 y.v] 37)
      have kfX : KeepsFrom (w.heap.size + 1 + 1 + 1 + 1 + 1) W (W2.alloc (.cells #[.int .i64 y.t, .int .i64 y.k, .int .i64 y.n, .int .i64 y.j, .int .i64 y.c, .int .i64 y.v] 37)) := ⟨by simp; omega, fun k o hk hko ho => (Below.heap_alloc _ _ _ (blk_lt (kf2.same k o hk hko ho))).trans (kf2.same k o hk hko ho)⟩
      have xx4 : (W2.alloc (.cells #[.int .i64 y.t, .int .i64 y.k, .int .i64 y.n, .int .i64 y.j, .int .i64 y.c, .int .i64 y.v] 37)).heap[w.heap.size + 1 + 1 + 1 + 1]? = W.heap[w.heap.size + 1 + 1 + 1 + 1]? := (Below.heap_alloc _ _ _ (by omega)).trans x4
      clear p0 p1 p2 p3 bel2 kf2
      have a0 := (show Boxed _ _ _ _ from q0).cell
      have g0 := (show Boxed _ _ _ _ from q0).frozen
      have a1 := (show Boxed _ _ _ _ from q1).cell
      have g1 := (show Boxed _ _ _ _ from q1).frozen
      have a2 := (show Boxed _ _ _ _ from q2).cell
      have g2 := (show Boxed _ _ _ _ from q2).frozen
      gi_wp2
      all_goals
        obtain ⟨z0, z1, z2, z3, z4, _⟩ := res_world q0 q1 q2 belX (.slice none 0 0) (.int .i64 x1) (.int .i64 3)
        exact ⟨⟨Nat.le_trans kfX.size z4.size, ((kfX.trans (z4.more (by omega))).more (by omega)).same⟩, rfl, x1, ⟨HX.out, z0, z1, z2, z3⟩⟩
  case done =>
    rintro D ys W hD rfl ⟨acc, V, hp⟩ hK
    have d0 := hp.out.cell
    obtain ⟨AQ, cQ, rfl⟩ : ∃ A c, V = .slice A acc.length c := by
      rcases hp.row.2 with ⟨rfl, h0⟩ | ⟨g, cap, cur, rfl, _⟩
      · exact ⟨none, 0, by rw [h0]⟩
      · exact ⟨_, _, rfl⟩
    have hsc : scanT [] (linesT s.data.toList.length 1 s.data.toList) = .ok acc := by have := hp.scn []; rw [List.append_nil] at this; exact this
    have HSC := Lib.hid hsc
    clear hsc
    gi_wp2
    refine ⟨trivial, ?_⟩
    refine (callsIn_wide.2 (check_any _ acc W (ents_of_own hp.row))).mono ?_
    rintro e W2 ⟨rfl, hb2⟩
    have hWs := hp.big
    have e0 : Boxed W2 (w.heap.size) 23 _ := (hb2.block _ (by omega)).trans hp.r0
    have e1 : Boxed W2 (w.heap.size + 1) 3 _ := (hb2.block _ (by omega)).trans hp.r1
    have e2 : Boxed W2 (w.heap.size + 1 + 1) 24 _ := (hb2.block _ (by omega)).trans hp.r2
    have e3 : Boxed W2 (w.heap.size + 1 + 1 + 1) 23 _ := (hb2.block _ (by omega)).trans hp.out
    have hK2 := (hb2.block D (blk_lt hK)).trans hK
    have bel2 : Below w.heap.size w W2 := hp.bel.trans (hb2.mono hp.bel.size)
    have rq0 := own_below hp.row hb2
    have HR0 := Lib.hid rq0
    clear d0 rq0
    have a0 := e0.cell
    have g0 := e0.frozen
    have a1 := e1.cell
    have g1 := e1.frozen
    have a2 := e2.cell
    have g2 := e2.frozen
    have a3 := e3.cell
    by_cases hE : chkE acc = 0
    · have hR : parseR s = (acc, 0, 0) := by unfold parseR; rw [if_neg hn, HSC.out]; simp [hE]
      have HE := Lib.hid hE
      have HR := Lib.hid hR
      rw [hE]
      clear hE hR hp hb2
      gi_wp2
      obtain ⟨z0, z1, z2, z3, z4, z5⟩ := res_world e0 e1 e2 bel2 (.slice AQ acc.length cQ) (.int .i64 0) (.int .i64 0)
      have hK3 := (z5 D (by omega) (by omega) (by omega)).trans hK2
      exact ⟨by simp, .inl ⟨_, _, rfl, run_takeDeferred hK3, parse_end (acc := acc) z0 z1 z2 z3 (by omega) hK3 (own_sets HR0.out) HR.out rfl rfl rfl⟩⟩
    · have hR : parseR s = ([], 0, 9) := by unfold parseR; rw [if_neg hn, HSC.out]; simp [hE]
      have hE0 : (chkE acc != 0) = true := by simpa using hE
      have HR := Lib.hid hR
      clear hR hp hb2
      gi_wp2
      obtain ⟨z0, z1, z2, z3, z4, z5⟩ := res_world e0 e1 e2 bel2 (.slice none 0 0) (.int .i64 0) (.int .i64 9)
      have hK3 := (z5 D (by omega) (by omega) (by omega)).trans hK2
      exact ⟨by simp, .inl ⟨_, _, rfl, run_takeDeferred hK3, parse_end (acc := []) z0 z1 z2 z3 (by omega) hK3 (World.ownsRow_nil _ _ _ _) HR.out rfl rfl rfl⟩⟩
  case stop =>
    rintro D cc pre W hD ⟨post, hpost⟩ ⟨rfl, n, hx⟩ hK
    have hR : parseR s = ([], n, 3) := by unfold parseR; rw [if_neg hn, ← hpost, hx.scn post]
    gi_wp2
    exact ⟨by simp, .inl ⟨_, _, rfl, run_takeDeferred hK, parse_end (acc := []) hx.r0 hx.r1 hx.r2 hx.bel (by omega) hK (World.ownsRow_nil _ _ _ _) hR rfl rfl rfl⟩⟩
theorem parse_any (s : ByteArray) (w : World) (hG : Glob w) : Calls Tryd.prog 11 #[.string s] w (ParsePost s w) := by
  by_cases hs : s.size ≤ 65536
  · exact callsIn_wide.1 (parse_in s w hs hG)
  · have hP : parseR s = ([], 0, 4) := by unfold parseR; rw [if_pos (by omega)]
    have HP := Lib.hid hP
    have hi : (65536 : Int) < s.size := by omega
    clear hP hs
    go_enter Tryd.func11, Tryd.ntmps11
    go_wp2_with fail
    refine bodyPost_ret (v := .tuple #[(.slice none 0 0), .int .i64 0, .int .i64 4]) (by simp [results, Tryd.results11, go_sem]) rfl ⟨_, by rw [HP.out], by rw [HP.out]; exact ents_nil _ _, by (repeat' (first | (with_reducible exact Below.refl _ _) | (with_reducible refine Below.alloc ?_ ?_ _) | (with_reducible refine Below.drew ?_) | (with_reducible refine below_drewN ?_ _) | (with_reducible refine Below.setCell ?_ ?_ _) | (with_reducible refine Below.trans ?_ (Below.mono (by assumption) ?_)) | (with_reducible exact Nat.le_refl _) | omega | (simp; omega) | (simp; done)))⟩
end Go.Proofs.YtekpnphfdoplfaaDoor

/- Parse. -/
import Derived.Test.YtgnlanfpholdaaaDoorF15
import Derived.BigRegionIn
namespace Go.Proofs.YtgnlanfpholdaaaDoor
open Go.RowKit Go.Shelf
attribute [local go_sem] Oper.semAt_some
/-- a line read into a plan -/
def stepL (Q : List Int) (C : List Con) (x : Int × ByteArray) : Option (List Int × List Con) := if x.1 = 0 then none else readL Q C x.2
/-- lines read into a plan; the number of the first that is wrong -/
def scan (Q : List Int) (C : List Con) (n : Nat) : List (Int × ByteArray) → Except Nat (List Int × List Con)
  | [] => .ok (Q, C)
  | x :: r => match stepL Q C x with
    | none => .error (n + 1)
    | some p => scan p.1 p.2 (n + 1) r
/-- what Parse answers: quotas, contacts, line, error -/
def parseR (s : ByteArray) : List Int × List Con × Int × Int :=
  if 8192 < s.size then ([], [], 0, 4) else
  match scan [] [] 0 (linesF s.data.toList.length 1 s.data.toList) with
  | .error n => ([], [], (n : Int), 3)
  | .ok p => if planE p.1 p.2 ≠ 0 then ([], [], 0, planE p.1 p.2) else (p.1, p.2, 0, 0)
def ParsePost (s : ByteArray) (w : World) (e : Ending) (w' : World) : Prop :=
  ∃ qv cv, e = .returned (.tuple #[.agg #[qv, cv], .int .i64 (parseR s).2.2.1, .int .i64 (parseR s).2.2.2]) ∧ Ints w' w'.heap.size qv (parseR s).1 ∧ Cons w' w'.heap.size cv (parseR s).2.1 ∧ Below w.heap.size w w'
/-- the reading under way, in memory -/
structure PI (w W : World) (pre : List (Int × ByteArray)) (Q : List Int) (C : List Con) (VQ VC : Value) : Prop where
  scn : ∀ rest, scan [] [] 0 (pre ++ rest) = scan Q C pre.length rest
  lq : Q.length ≤ pre.length
  lc : C.length ≤ pre.length
  pst : PSt W (w.heap.size + 1 + 1 + 1 + 1 + 1 + 1) (w.heap.size + 1 + 1 + 1) Q C VQ VC
  cnt : Boxed W (w.heap.size + 1 + 1 + 1 + 1) 3 (.int .i64 pre.length)
  r0 : W.heap[w.heap.size]? = some (.cells #[.slice none 0 0, .slice none 0 0] 25 (0, 0))
  r1 : Boxed W (w.heap.size + 1) 3 (.int .i64 0)
  r2 : Boxed W (w.heap.size + 1 + 1) 27 (.int .i64 0)
  glob : Glob W
  bel : Below w.heap.size w W
/-- the reading stopped -/
structure PX (w W : World) (pre : List (Int × ByteArray)) : Prop where
  scn : ∀ rest, scan [] [] 0 (pre ++ rest) = .error pre.length
  r0 : W.heap[w.heap.size]? = some (.cells #[.slice none 0 0, .slice none 0 0] 25 (0, 0))
  r1 : Boxed W (w.heap.size + 1) 3 (.int .i64 pre.length)
  r2 : Boxed W (w.heap.size + 1 + 1) 27 (.int .i64 3)
  bel : Below w.heap.size w W
/-- the blocks that the range and its iterator write -/
def Far (w W : World) (row : Option Nat) : Prop := ∀ r, row = some r → r = w.heap.size + 1 + 1 + 1 + 1 + 1 ∨ (w.heap.size + 1 + 1 + 1 + 1 + 1 + 1 ≤ r ∧ ∃ o : Obj, W.heap[r]? = some o ∧ o.isCells = false)
theorem own_far {w W W' : World} {e : TypeId} {size : Nat} {v : Value} {n : Nat} {xs : List Value} {row : Option Nat} (h : W.ownsRow (w.heap.size + 1 + 1 + 1 + 1 + 1 + 1) e size v n xs) (hg : W.grownBy W' row) (hf : Far w W row) : W'.ownsRow (w.heap.size + 1 + 1 + 1 + 1 + 1 + 1) e size v n xs := by
  refine h.kept hg ?_
  cases hv : v.ownBlock with
  | none => exact .inl rfl
  | some g =>
    right; intro e
    obtain ⟨c, fz, k1⟩ := Lib.ownsRow_kind h g hv
    have := (h.lt g hv).1
    rcases hf g e.symm with h1 | ⟨_, o, h1, h2⟩
    · omega
    · rw [k1] at h1; cases h1; cases h2
theorem below_far {w W W' : World} {row : Option Nat} (h : Below w.heap.size w W) (hg : W.grownBy W' row) (hf : Far w W row) : Below w.heap.size w W' :=
  h.trans ⟨hg.os, hg.tape, hg.output, hg.size, fun k hk => hg.block k (by have := h.size; omega) (fun e => by rcases hf k e.symm with h | h <;> omega)⟩
theorem blk_far {w W W' : World} {row : Option Nat} {k : Nat} {o : Obj} (h : W.heap[k]? = some o) (hk : k < w.heap.size + 1 + 1 + 1 + 1 + 1) (hg : W.grownBy W' row) (hf : Far w W row) : W'.heap[k]? = some o :=
  (hg.block k (blk_lt h) (fun e => by rcases hf k e.symm with h | h <;> omega)).trans h
theorem PI.kept {w W W' : World} {pre : List (Int × ByteArray)} {Q : List Int} {C : List Con} {VQ VC : Value} {row : Option Nat} (h : PI w W pre Q C VQ VC) (h8 : 8 ≤ w.heap.size) (hg : W.grownBy W' row) (hf : Far w W row) : PI w W' pre Q C VQ VC := by
  refine ⟨h.scn, h.lq, h.lc, ⟨h.pst.lt, Nat.le_trans h.pst.le hg.size, blk_far h.pst.blk (by omega) hg hf, own_far h.pst.rq hg hf, own_far h.pst.rc hg hf⟩, blk_far h.cnt (by omega) hg hf, blk_far h.r0 (by omega) hg hf, blk_far h.r1 (by omega) hg hf, blk_far h.r2 (by omega) hg hf, h.glob.keep hg.size (fun k hk => ?_), below_far h.bel hg hf⟩
  exact hg.block k (by have := h.bel.size; omega) (fun e => by rcases hf k e.symm with h | h <;> omega)
theorem PX.kept {w W W' : World} {pre : List (Int × ByteArray)} {row : Option Nat} (h : PX w W pre) (hg : W.grownBy W' row) (hf : Far w W row) : PX w W' pre :=
  ⟨h.scn, blk_far h.r0 (by omega) hg hf, blk_far h.r1 (by omega) hg hf, blk_far h.r2 (by omega) hg hf, below_far h.bel hg hf⟩
theorem far_of {w W : World} {B : Nat} (hB : w.heap.size + 1 + 1 + 1 + 1 + 1 + 1 ≤ B) {row : Option Nat} (hr : ∀ r, row = some r → B ≤ r ∧ ∃ o : Obj, W.heap[r]? = some o ∧ o.isCells = false) : Far w W row := fun r e => .inr ⟨Nat.le_trans hB (hr r e).1, (hr r e).2⟩
theorem far_box (w W : World) : Far w W (some (w.heap.size + 1 + 1 + 1 + 1 + 1)) := fun r e => by cases e; exact .inl rfl
theorem lkp_t {xb : Nat} {A B C : World} (h : LKp xb A B) (k : LKp xb B C) : LKp xb A C := ⟨k.1.trans h.1, fun j hj => (k.2.1 j hj).trans (h.2.1 j hj), Nat.le_trans h.2.2 k.2.2⟩
theorem lkp_b {xb : Nat} {w : World} (hx : xb < w.heap.size) (h8 : 8 ≤ w.heap.size) (W : World) (l : Nat) (o o' : Obj) (hl : w.heap.size ≤ l) (h : W.heap[l]? = some o) (_ : o.isCells = false) (_ : o.isWalk = false) : LKp xb W (W.putObj l o') := by
  have hlt := (Array.getElem?_eq_some_iff.1 h).1
  have hg := grownBy_putObj' W l o'
  exact ⟨hg.block xb (by omega) (fun e => by cases e; omega), fun k hk => hg.block k (by omega) (fun e => by cases e; omega), hg.size⟩
theorem scan_ok {pre : List (Int × ByteArray)} {Q Q' : List Int} {C C' : List Con} {x : Int × ByteArray} (h : ∀ rest, scan [] [] 0 (pre ++ rest) = scan Q C pre.length rest) (hs : stepL Q C x = some (Q', C')) : ∀ rest, scan [] [] 0 (pre ++ [x] ++ rest) = scan Q' C' (pre ++ [x]).length rest := fun rest => by
  rw [List.append_assoc, h]
  simp [scan, hs]
theorem scan_bad {pre : List (Int × ByteArray)} {Q : List Int} {C : List Con} {x : Int × ByteArray} (h : ∀ rest, scan [] [] 0 (pre ++ rest) = scan Q C pre.length rest) (hs : stepL Q C x = none) : ∀ rest, scan [] [] 0 (pre ++ [x] ++ rest) = .error (pre ++ [x]).length := fun rest => by
  rw [List.append_assoc, h]
  simp [scan, hs]
theorem readL_len {Q Q' : List Int} {C C' : List Con} {s : ByteArray} (h : readL Q C s = some (Q', C')) : Q'.length ≤ Q.length + 1 ∧ C'.length ≤ C.length + 1 := by
  unfold readL at h
  split at h
  · cases h
  · split at h
    · split at h
      · split at h
        · cases h; simp
        · cases h
      · cases h
    · split at h
      · split at h
        · cases h; simp
        · cases h
      · cases h
theorem conCells_get : ∀ (C : List Con) (j k : Nat), j < C.length → k < 7 → (conCells C)[j * 7 + k]? = (conVals (C.getD j Con.zero))[k]?
  | [], j, k, h, _ => by cases h
  | c :: t, 0, k, _, hk => by
    show (conVals c ++ conCells t)[0 * 7 + k]? = _
    rw [List.getElem?_append_left (by simp [conVals]; omega)]
    simp
  | c :: t, j + 1, k, h, hk => by
    have ih := conCells_get t j k (by simpa using h) hk
    show (conVals c ++ conCells t)[(j + 1) * 7 + k]? = _
    rw [List.getElem?_append_right (by simp [conVals]; omega)]
    have e : (j + 1) * 7 + k - (conVals c).length = j * 7 + k := by simp [conVals]; omega
    rw [e, ih]
    simp
theorem cons_of_own {w : World} {base : Nat} {v : Value} {l : List Con} (h : w.ownsRow base 40 7 v l.length (conCells l)) : Cons w w.heap.size v l := by
  rcases h.2 with ⟨rfl, h0⟩ | ⟨g, cap, cur, rfl, hb, hg, hn, hm, hs, ht⟩
  · obtain rfl : l = [] := List.eq_nil_of_length_eq_zero h0
    exact cons_nil _ _
  · refine ⟨_, cap, rfl, hn, hm, fun _ => ⟨g, 0, rfl, (Array.getElem?_eq_some_iff.1 hg).1, fun j hj => ?_⟩⟩
    have ha : ∀ n, (⟨g, 0, none⟩ : Addr).add n = ⟨g, 0 + n, none⟩ := fun n => by unfold Addr.add; split <;> simp_all
    have go : ∀ k v, k < 7 → (conVals (l.getD j Con.zero))[k]? = some v → w.cell? ⟨g, 0 + j * 7 + k, none⟩ = some v := fun k v hk hv => by
      have := h.cells (g := g) rfl (j * 7 + k) v ((conCells_get l j k hj hk).trans hv)
      rw [ha] at this
      rw [Nat.add_assoc]; exact this
    exact ⟨go 0 _ (by omega) rfl, go 1 _ (by omega) rfl, go 2 _ (by omega) rfl, go 3 _ (by omega) rfl, go 4 _ (by omega) rfl, go 5 _ (by omega) rfl, go 6 _ (by omega) rfl⟩
theorem heap_keep {w : World} {k : Nat} {o : Obj} (h : w.heap[k]? = some o) (o' : Obj) : (w.alloc o').heap[k]? = some o := (Below.heap_alloc _ _ _ (blk_lt h)).trans h
theorem _root_.Go.KeepsFrom.more {B B' : Nat} {W W' : World} (h : KeepsFrom B W W') (hB : B ≤ B') : KeepsFrom B' W W' := ⟨h.size, fun k o hk => h.same k o (Nat.le_trans hB hk)⟩
/-- the results stored -/
theorem res_world {w V : World} {a b : Value} (r0 : V.heap[w.heap.size]? = some (.cells #[.slice none 0 0, .slice none 0 0] 25 (0, 0))) (r1 : Boxed V (w.heap.size + 1) 3 a) (r2 : Boxed V (w.heap.size + 1 + 1) 27 b) (bel : Below w.heap.size w V) (qv cv a' b' : Value) :
    ((((V.setCell ⟨w.heap.size, 0, none⟩ qv).setCell ⟨w.heap.size, 1, none⟩ cv).setCell ⟨w.heap.size + 1, 0, none⟩ a').setCell ⟨w.heap.size + 1 + 1, 0, none⟩ b').heap[w.heap.size]? = some (.cells #[qv, cv] 25 (0, 0)) ∧
    Boxed ((((V.setCell ⟨w.heap.size, 0, none⟩ qv).setCell ⟨w.heap.size, 1, none⟩ cv).setCell ⟨w.heap.size + 1, 0, none⟩ a').setCell ⟨w.heap.size + 1 + 1, 0, none⟩ b') (w.heap.size + 1) 3 a' ∧
    Boxed ((((V.setCell ⟨w.heap.size, 0, none⟩ qv).setCell ⟨w.heap.size, 1, none⟩ cv).setCell ⟨w.heap.size + 1, 0, none⟩ a').setCell ⟨w.heap.size + 1 + 1, 0, none⟩ b') (w.heap.size + 1 + 1) 27 b' ∧
    Below w.heap.size w ((((V.setCell ⟨w.heap.size, 0, none⟩ qv).setCell ⟨w.heap.size, 1, none⟩ cv).setCell ⟨w.heap.size + 1, 0, none⟩ a').setCell ⟨w.heap.size + 1 + 1, 0, none⟩ b') ∧
    KeepsFrom (w.heap.size + 1 + 1 + 1 + 1 + 1 + 1) V ((((V.setCell ⟨w.heap.size, 0, none⟩ qv).setCell ⟨w.heap.size, 1, none⟩ cv).setCell ⟨w.heap.size + 1, 0, none⟩ a').setCell ⟨w.heap.size + 1 + 1, 0, none⟩ b') ∧
    ∀ k, k ≠ w.heap.size → k ≠ w.heap.size + 1 → k ≠ w.heap.size + 1 + 1 → ((((V.setCell ⟨w.heap.size, 0, none⟩ qv).setCell ⟨w.heap.size, 1, none⟩ cv).setCell ⟨w.heap.size + 1, 0, none⟩ a').setCell ⟨w.heap.size + 1 + 1, 0, none⟩ b').heap[k]? = V.heap[k]? := by
  have s1 := heap_set r0 (i := 0) qv
  have s2 := heap_set s1 (i := 1) cv
  have n1 : ∀ (X : World) (v : Value) (k : Nat), k ≠ w.heap.size + 1 → (X.setCell ⟨w.heap.size + 1, 0, none⟩ v).heap[k]? = X.heap[k]? := fun X v k hk => Below.heap_setCell X ⟨w.heap.size + 1, 0, none⟩ v k (by simpa using hk)
  have n2 : ∀ (X : World) (v : Value) (k : Nat), k ≠ w.heap.size + 1 + 1 → (X.setCell ⟨w.heap.size + 1 + 1, 0, none⟩ v).heap[k]? = X.heap[k]? := fun X v k hk => Below.heap_setCell X ⟨w.heap.size + 1 + 1, 0, none⟩ v k (by simpa using hk)
  have n0 : ∀ (X : World) (v : Value) (i k : Nat), k ≠ w.heap.size → (X.setCell ⟨w.heap.size, i, none⟩ v).heap[k]? = X.heap[k]? := fun X v i k hk => Below.heap_setCell X ⟨w.heap.size, i, none⟩ v k (by simpa using hk)
  have all : ∀ k, k ≠ w.heap.size → k ≠ w.heap.size + 1 → k ≠ w.heap.size + 1 + 1 → ((((V.setCell ⟨w.heap.size, 0, none⟩ qv).setCell ⟨w.heap.size, 1, none⟩ cv).setCell ⟨w.heap.size + 1, 0, none⟩ a').setCell ⟨w.heap.size + 1 + 1, 0, none⟩ b').heap[k]? = V.heap[k]? := fun k h0 h1 h2 => by rw [n2 _ _ _ h2, n1 _ _ _ h1, n0 _ _ _ _ h0, n0 _ _ _ _ h0]
  refine ⟨by rw [n2 _ _ _ (by omega), n1 _ _ _ (by omega), s2]; rfl, ?_, ?_, (((bel.setCell (p := ⟨w.heap.size, 0, none⟩) (Nat.le_refl _) _).setCell (p := ⟨w.heap.size, 1, none⟩) (Nat.le_refl _) _).setCell (p := ⟨w.heap.size + 1, 0, none⟩) (by show w.heap.size ≤ w.heap.size + 1; omega) _).setCell (p := ⟨w.heap.size + 1 + 1, 0, none⟩) (by show w.heap.size ≤ w.heap.size + 1 + 1; omega) _, ⟨by simp [World.setCell], fun k o hB hk _ => (all k (by omega) (by omega) (by omega)).trans hk⟩, all⟩
  · have b1 : Boxed ((V.setCell ⟨w.heap.size, 0, none⟩ qv).setCell ⟨w.heap.size, 1, none⟩ cv) (w.heap.size + 1) 3 a := by unfold Boxed; rw [n0 _ _ _ _ (by omega), n0 _ _ _ _ (by omega)]; exact r1
    exact (n2 _ _ _ (by omega)).trans (b1.set a')
  · have b2 : Boxed (((V.setCell ⟨w.heap.size, 0, none⟩ qv).setCell ⟨w.heap.size, 1, none⟩ cv).setCell ⟨w.heap.size + 1, 0, none⟩ a') (w.heap.size + 1 + 1) 27 b := by unfold Boxed; rw [n1 _ _ _ (by omega), n0 _ _ _ _ (by omega), n0 _ _ _ _ (by omega)]; exact r2
    exact b2.set b'
/-- the count raised -/
theorem PI.count {w W : World} {pre : List (Int × ByteArray)} {Q : List Int} {C : List Con} {VQ VC : Value} (h : PI w W pre Q C VQ VC) (h8 : 8 ≤ w.heap.size) (v : Value) :
    PSt (W.setCell ⟨w.heap.size + 1 + 1 + 1 + 1, 0, none⟩ v) (w.heap.size + 1 + 1 + 1 + 1 + 1 + 1) (w.heap.size + 1 + 1 + 1) Q C VQ VC ∧ Boxed (W.setCell ⟨w.heap.size + 1 + 1 + 1 + 1, 0, none⟩ v) (w.heap.size + 1 + 1 + 1 + 1) 3 v ∧ Glob (W.setCell ⟨w.heap.size + 1 + 1 + 1 + 1, 0, none⟩ v) ∧ Below w.heap.size w (W.setCell ⟨w.heap.size + 1 + 1 + 1 + 1, 0, none⟩ v) ∧ KeepsFrom (w.heap.size + 1 + 1 + 1 + 1 + 1 + 1) W (W.setCell ⟨w.heap.size + 1 + 1 + 1 + 1, 0, none⟩ v) ∧
    ∀ k, k ≠ w.heap.size + 1 + 1 + 1 + 1 → (W.setCell ⟨w.heap.size + 1 + 1 + 1 + 1, 0, none⟩ v).heap[k]? = W.heap[k]? := by
  have hg := grownBy_setCell' W (w.heap.size + 1 + 1 + 1 + 1) v
  refine ⟨h.pst.kept hg (by omega) (own_ne_lt h.pst.rq (.inl (by omega))) (own_ne_lt h.pst.rc (.inl (by omega))), h.cnt.set v, h.glob.set _ _ (by show 8 ≤ w.heap.size + 1 + 1 + 1 + 1; omega), h.bel.setCell (p := ⟨w.heap.size + 1 + 1 + 1 + 1, 0, none⟩) (by show w.heap.size ≤ w.heap.size + 1 + 1 + 1 + 1; omega) _, KeepsFrom.of_grownBy hg (fun j e => by cases e; omega), fun k hk => Below.heap_setCell W ⟨w.heap.size + 1 + 1 + 1 + 1, 0, none⟩ v k (by simpa using hk)⟩
theorem ownsRow_sets {w X : World} {e : TypeId} {size : Nat} {v : Value} {n : Nat} {xs : List Value} {q c a b : Value} (h : X.ownsRow (w.heap.size + 1 + 1 + 1 + 1 + 1 + 1) e size v n xs) :
    ((((X.setCell ⟨w.heap.size, 0, none⟩ q).setCell ⟨w.heap.size, 1, none⟩ c).setCell ⟨w.heap.size + 1, 0, none⟩ a).setCell ⟨w.heap.size + 1 + 1, 0, none⟩ b).ownsRow (w.heap.size + 1 + 1 + 1 + 1 + 1 + 1) e size v n xs :=
  ownsRow_setCell_below (ownsRow_setCell_below (ownsRow_setCell_below (ownsRow_setCell_below h (by dsimp only; omega) _) (by dsimp only; omega) _) (by dsimp only; omega) _) (by dsimp only; omega) _
theorem parse_end {s : ByteArray} {w X : World} {D : Nat} {qv cv : Value} {a b : Int} {Q : List Int} {C : List Con} {tmps : Array Value} (z0 : X.heap[w.heap.size]? = some (.cells #[qv, cv] 25 (0, 0))) (z1 : Boxed X (w.heap.size + 1) 3 (.int .i64 a)) (z2 : Boxed X (w.heap.size + 1 + 1) 27 (.int .i64 b)) (z3 : Below w.heap.size w X) (hD : w.heap.size + 1 + 1 + 1 + 1 + 1 + 1 ≤ D)
    (hK : X.heap[D]? = some (.deferred (some []))) (rq : X.ownsRow (w.heap.size + 1 + 1 + 1 + 1 + 1 + 1) 3 1 qv Q.length (intCells Q)) (rc : X.ownsRow (w.heap.size + 1 + 1 + 1 + 1 + 1 + 1) 40 7 cv C.length (conCells C)) (hP : parseR s = (Q, C, a, b))
    (t2 : tmps[2]? = some (.pointer (some ⟨w.heap.size, 0, none⟩))) (t3 : tmps[3]? = some (.pointer (some ⟨w.heap.size + 1, 0, none⟩))) (t4 : tmps[4]? = some (.pointer (some ⟨w.heap.size + 1 + 1, 0, none⟩))) :
    LeavesInM Fence.wide 3 Tryd.prog Tryd.f31 tmps (ParsePost s w) [] FrameMode.returning (X.putObj D (.deferred none)) := by
  have hg := grownBy_putObj' X D (.deferred none)
  have n0 := cell_blk ((hg.block (w.heap.size) (blk_lt z0) (by simp; omega)).trans z0) 0
  have n1 := cell_blk ((hg.block (w.heap.size) (blk_lt z0) (by simp; omega)).trans z0) 1
  have n2 := (z1.kept hg (by simp; omega)).cell
  have n3 := (z2.kept hg (by simp; omega)).cell
  simp only [List.getElem?_toArray, List.getElem?_cons_zero, List.getElem?_cons_succ] at n0 n1
  have iq := ints_of_own (ownsRow_putObj rq (.deferred none) hK rfl)
  have ic := cons_of_own (ownsRow_putObj rc (.deferred none) hK rfl)
  have hB : Below w.heap.size w (X.putObj D (.deferred none)) := z3.trans (belowK_b (w := w) (Nat.le_refl _) X D _ _ (by omega) hK rfl rfl)
  generalize X.putObj D (.deferred none) = Y at *
  refine ⟨.tuple #[.agg #[qv, cv], .int .i64 a, .int .i64 b], by simp [results, Tryd.results31, go_sem, t2, t3, t4, n0, n1, n2, n3], qv, cv, by rw [hP], by rw [hP]; exact iq, by rw [hP]; exact ic, hB⟩
set_option maxRecDepth 100000 in
set_option maxHeartbeats 4000000 in
theorem parse_in (s : ByteArray) (w : World) (hs : s.size ≤ 8192) (hG : Glob w) : CallsIn Fence.wide 3 Tryd.prog 31 #[.string s] w (ParsePost s w) := by
  have h8 := hG.1
  have hn : ¬ (8192 < s.size) := by omega
  have hsl : s.data.toList.length ≤ 8192 := hs
  refine callsIn_of_wp_marks Tryd.func31 rfl trivial ?_ rfl
  simp only [Tryd.ntmps31, List.size_toArray, List.length_cons, List.length_nil, Nat.reduceAdd, Nat.reduceSub, Array.replicate_succ, Array.replicate_zero, List.push_toArray, List.append_toArray, List.nil_append, List.cons_append]
  gi_wp2
  refine ⟨trivial, ?_⟩
  refine (lines_fn _ _ _).mono ?_
  rintro e w1 ⟨rfl, rfl⟩
  gi_wp2
  have bX := Boxed.new (((((w.alloc (.cells #[.slice none 0 0, .slice none 0 0] 25)).alloc (.cells #[.int .i64 0] 3)).alloc (.cells #[.int .i64 0] 27)).alloc (.cells #[.slice none 0 0, .slice none 0 0] 25)).alloc (.cells #[.int .i64 0] 3)) 9 (.string s)
  have hB0 : Below w.heap.size w ((((((w.alloc (.cells #[.slice none 0 0, .slice none 0 0] 25)).alloc (.cells #[.int .i64 0] 3)).alloc (.cells #[.int .i64 0] 27)).alloc (.cells #[.slice none 0 0, .slice none 0 0] 25)).alloc (.cells #[.int .i64 0] 3)).alloc (.cells #[.string s] 9)) := by (repeat' (first | (with_reducible exact Below.refl _ _) | (with_reducible refine Below.alloc ?_ ?_ _) | (with_reducible refine Below.drew ?_) | (with_reducible refine below_drewN ?_ _) | (with_reducible refine Below.setCell ?_ ?_ _) | (with_reducible refine Below.trans ?_ (Below.mono (by assumption) ?_)) | (with_reducible exact Nat.le_refl _) | omega | (simp; omega) | (simp; done)))
  have b0 : ((((((w.alloc (.cells #[.slice none 0 0, .slice none 0 0] 25)).alloc (.cells #[.int .i64 0] 3)).alloc (.cells #[.int .i64 0] 27)).alloc (.cells #[.slice none 0 0, .slice none 0 0] 25)).alloc (.cells #[.int .i64 0] 3)).alloc (.cells #[.string s] 9)).heap[w.heap.size]? = some (.cells #[.slice none 0 0, .slice none 0 0] 25 (0, 0)) := heap_keep (heap_keep (heap_keep (heap_keep (heap_keep (heap_last _ _ _ (by simp)) _) _) _) _) _
  have b1 : ((((((w.alloc (.cells #[.slice none 0 0, .slice none 0 0] 25)).alloc (.cells #[.int .i64 0] 3)).alloc (.cells #[.int .i64 0] 27)).alloc (.cells #[.slice none 0 0, .slice none 0 0] 25)).alloc (.cells #[.int .i64 0] 3)).alloc (.cells #[.string s] 9)).heap[w.heap.size + 1]? = some (.cells #[.int .i64 0] 3 (0, 0)) := heap_keep (heap_keep (heap_keep (heap_keep (heap_last _ _ _ (by simp)) _) _) _) _
  have b2 : ((((((w.alloc (.cells #[.slice none 0 0, .slice none 0 0] 25)).alloc (.cells #[.int .i64 0] 3)).alloc (.cells #[.int .i64 0] 27)).alloc (.cells #[.slice none 0 0, .slice none 0 0] 25)).alloc (.cells #[.int .i64 0] 3)).alloc (.cells #[.string s] 9)).heap[w.heap.size + 1 + 1]? = some (.cells #[.int .i64 0] 27 (0, 0)) := heap_keep (heap_keep (heap_keep (heap_last _ _ _ (by simp)) _) _) _
  have b3 : ((((((w.alloc (.cells #[.slice none 0 0, .slice none 0 0] 25)).alloc (.cells #[.int .i64 0] 3)).alloc (.cells #[.int .i64 0] 27)).alloc (.cells #[.slice none 0 0, .slice none 0 0] 25)).alloc (.cells #[.int .i64 0] 3)).alloc (.cells #[.string s] 9)).heap[w.heap.size + 1 + 1 + 1]? = some (.cells #[.slice none 0 0, .slice none 0 0] 25 (0, 0)) := heap_keep (heap_keep (heap_last _ _ _ (by simp)) _) _
  have b4 : ((((((w.alloc (.cells #[.slice none 0 0, .slice none 0 0] 25)).alloc (.cells #[.int .i64 0] 3)).alloc (.cells #[.int .i64 0] 27)).alloc (.cells #[.slice none 0 0, .slice none 0 0] 25)).alloc (.cells #[.int .i64 0] 3)).alloc (.cells #[.string s] 9)).heap[w.heap.size + 1 + 1 + 1 + 1]? = some (.cells #[.int .i64 0] 3 (0, 0)) := heap_keep (heap_last _ _ _ (by simp)) _
  have hsz : ((((((w.alloc (.cells #[.slice none 0 0, .slice none 0 0] 25)).alloc (.cells #[.int .i64 0] 3)).alloc (.cells #[.int .i64 0] 27)).alloc (.cells #[.slice none 0 0, .slice none 0 0] 25)).alloc (.cells #[.int .i64 0] 3)).alloc (.cells #[.string s] 9)).heap.size = w.heap.size + 1 + 1 + 1 + 1 + 1 + 1 := by simp
  simp only [World.size_alloc] at bX
  generalize ((((((w.alloc (.cells #[.slice none 0 0, .slice none 0 0] 25)).alloc (.cells #[.int .i64 0] 3)).alloc (.cells #[.int .i64 0] 27)).alloc (.cells #[.slice none 0 0, .slice none 0 0] 25)).alloc (.cells #[.int .i64 0] 3)).alloc (.cells #[.string s] 9)) = W0 at *
  have PI0 : PI w W0 [] [] [] (.slice none 0 0) (.slice none 0 0) := ⟨fun _ => rfl, Nat.le_refl _, Nat.le_refl _, ⟨by omega, by omega, b3, World.ownsRow_nil _ _ _ _, World.ownsRow_nil _ _ _ _⟩, b4, b0, b1, b2, hG.below hB0 hG.1, hB0⟩
  refine rangeCl (F := Fence.wide) rfl (by omega) (gf := 66) (lb := #[.pointer (some ⟨w.heap.size + 1 + 1 + 1 + 1 + 1, 0, none⟩)]) rfl trivial (enters_of Tryd.func66 (by kernel_rfl) rfl)
    (lines_seq 2 (by omega) (w.heap.size + 1 + 1 + 1 + 1 + 1) (by omega) s.data.toList hsl W0 bX PI0.glob) lkp_t (lkp_b (by omega) (by omega)) (fun A B h => KeepsFrom.of_grownBy h (fun j e => by cases e; omega)) (Below.refl _ _) (fun _ => rfl)
    (fun pre W => ∃ Q C VQ VC, PI w W pre Q C VQ VC) (fun c pre W => c = .ret ∧ PX w W pre)
    (fun pre W W' row ⟨Q, C, VQ, VC, h⟩ hg hr => ⟨Q, C, VQ, VC, h.kept h8 hg (far_of (by omega) hr)⟩)
    (fun c pre W W' row h hg hr => ⟨h.1, h.2.kept hg (far_of (by omega) hr)⟩)
    (fun p A B ⟨Q, C, VQ, VC, h⟩ hc => ⟨Q, C, VQ, VC, h.kept h8 hc (far_box w A)⟩)
    (fun c p A B h hc => ⟨h.1, h.2.kept hc (far_box w A)⟩)
    ⟨[], [], _, _, PI0⟩
    (fun x => { tmps := #[.string s, undef, .pointer (some ⟨w.heap.size, 0, none⟩), .pointer (some ⟨w.heap.size + 1, 0, none⟩), .pointer (some ⟨w.heap.size + 1 + 1, 0, none⟩), .pointer (some ⟨w.heap.size + 1 + 1 + 1, 0, none⟩), .pointer (some ⟨w.heap.size + 1 + 1 + 1 + 1, 0, none⟩), .int .i64 x.1, .string x.2, undef, .string s, .int .i64 s.size, .bool (decide ((8192 : Int) < s.size)), undef, .string s, .func (.func 66) #[] #[.pointer (some ⟨w.heap.size + 1 + 1 + 1 + 1 + 1, 0, none⟩)], .int .i64 x.1, .string x.2, undef, undef, undef, undef, undef, undef, undef, undef, undef, undef, undef, undef, undef, undef, undef, undef, undef, undef], defers := [] }) ?assign ?body ?done ?stop
  case assign =>
    intro l i W K hK
    gi_wp2
    exact hK
  case body =>
    rintro l pre ⟨x1, x2⟩ W hpx ⟨Q, C, VQ, VC, hp⟩ hlt
    have hpx : x2.size ≤ 8192 := hpx
    have c4 := hp.cnt.cell
    have f4 := hp.cnt.frozen
    have HP := Lib.hid hp
    have hl2 : (pre.length : Int) < 8192 := by omega
    obtain ⟨p1, p2, p3, p4, p5, p6⟩ := hp.count h8 (.int .i64 ((pre.length : Int) + 1))
    have e0 := (p6 (w.heap.size) (by omega)).trans hp.r0
    have e1 : Boxed _ (w.heap.size + 1) 3 _ := (p6 (w.heap.size + 1) (by omega)).trans hp.r1
    have e2 : Boxed _ (w.heap.size + 1 + 1) 27 _ := (p6 (w.heap.size + 1 + 1) (by omega)).trans hp.r2
    generalize hW1 : W.setCell ⟨w.heap.size + 1 + 1 + 1 + 1, 0, none⟩ (.int .i64 ((pre.length : Int) + 1)) = W1 at *
    have HW1 := Lib.hid hW1
    clear hW1
    by_cases hx : x1 = 0
    · subst hx
      have HX : Hid (∀ rest, scan [] [] 0 (pre ++ [((0 : Int), x2)] ++ rest) = .error (pre ++ [((0 : Int), x2)]).length) := scan_bad hp.scn (by simp [stepL])
      clear hp
      have a0 := cell_blk e0 0
      have a1 := cell_blk e0 1
      have g0 := frozen_blk e0 0
      have g1 := frozen_blk e0 1
      simp only [List.getElem?_toArray, List.getElem?_cons_zero, List.getElem?_cons_succ] at a0 a1
      have a2 := e1.cell
      have g2 := e1.frozen
      have a3 := e2.cell
      have g3 := e2.frozen
      have a4 := p2.cell
      gi_wp2
      simp only [HW1.out]
      refine ⟨trivial, ?_⟩
      gi_wp2
      gi_region
      all_goals gi_wp2
      all_goals
        obtain ⟨z0, z1, z2, z3, z4, _⟩ := res_world e0 e1 e2 p4 (.slice none 0 0) (.slice none 0 0) (.int .i64 ((pre.length : Int) + 1)) (.int .i64 3)
        have hl : ((pre ++ [((0 : Int), x2)]).length : Int) = (pre.length : Int) + 1 := by simp
        exact ⟨⟨Nat.le_trans p5.size z4.size, ((p5.trans z4).more (by omega)).same⟩, rfl, ⟨HX.out, z0, (by rw [hl]; exact z1), z2, Below.drew z3⟩⟩
    · have hx0 : (x1 == 0) = false := by simpa using hx
      have HSC := Lib.hid hp.scn
      have hlq := hp.lq
      have hlc := hp.lc
      clear hp
      gi_wp2
      simp only [HW1.out]
      refine ⟨trivial, ((callsIn_wide.2 (read_any (w.heap.size + 1 + 1 + 1) (w.heap.size + 1 + 1 + 1 + 1 + 1 + 1) x2 Q C VQ VC W1 p1 hpx p3 (by omega) (by omega) (by omega))).inRound l).mono ?_⟩
      rintro e W2 ⟨ok, rfl, F2, hno, hyes⟩
      have p2' : Boxed W2 (w.heap.size + 1 + 1 + 1 + 1) 3 _ := (F2.block _ (by omega) (by omega)).trans p2
      have e0 := (F2.block (w.heap.size) (by omega) (by omega)).trans e0
      have e1 : Boxed W2 (w.heap.size + 1) 3 _ := (F2.block (w.heap.size + 1) (by omega) (by omega)).trans e1
      have e2 : Boxed W2 (w.heap.size + 1 + 1) 27 _ := (F2.block (w.heap.size + 1 + 1) (by omega) (by omega)).trans e2
      have p2 := p2'
      have bel2 : Below w.heap.size w W2 := p4.trans ⟨F2.os, F2.tape, F2.output, F2.size, fun k hk => F2.block k (by omega) (by omega)⟩
      have kf2 : KeepsFrom (w.heap.size + 1 + 1 + 1 + 1 + 1 + 1) W W2 := p5.trans ⟨F2.size, fun k o _ hk ho => F2.other k o hk ho⟩
      cases ok with
      | true =>
        obtain ⟨Q', C', VQ', VC', hr, hP2⟩ := hyes rfl
        have HR := Lib.hid hr
        clear hyes hno hr
        gi_wp2
        have hst : stepL Q C (x1, x2) = some (Q', C') := by unfold stepL; rw [if_neg hx]; exact HR.out
        have hll := readL_len HR.out
        refine ⟨kf2.more (by omega), ⟨(F2.block (w.heap.size + 1 + 1 + 1 + 1 + 1) (by omega) (by omega)).trans (p6 (w.heap.size + 1 + 1 + 1 + 1 + 1) (by omega)), fun k hk => (F2.block k (by omega) (by omega)).trans (p6 k (by omega)), kf2.size⟩, Q', C', VQ', VC', ⟨scan_ok HSC.out hst, by simp; omega, by simp; omega, hP2, by simpa using p2, e0, e1, e2, p3.keep F2.size (fun k hk => F2.block k (by omega) (by omega)), bel2⟩⟩
      | false =>
        have hst : stepL Q C (x1, x2) = none := by unfold stepL; rw [if_neg hx]; exact hno rfl
        have HX : Hid (∀ rest, scan [] [] 0 (pre ++ [(x1, x2)] ++ rest) = .error (pre ++ [(x1, x2)]).length) := scan_bad HSC.out hst
        clear hyes hno hst
        have a0 := cell_blk e0 0
        have a1 := cell_blk e0 1
        have g0 := frozen_blk e0 0
        have g1 := frozen_blk e0 1
        simp only [List.getElem?_toArray, List.getElem?_cons_zero, List.getElem?_cons_succ] at a0 a1
        have a2 := e1.cell
        have g2 := e1.frozen
        have a3 := e2.cell
        have g3 := e2.frozen
        have a4 := p2.cell
        gi_wp2
        gi_region
        all_goals gi_wp2
        all_goals
          obtain ⟨z0, z1, z2, z3, z4, _⟩ := res_world e0 e1 e2 bel2 (.slice none 0 0) (.slice none 0 0) (.int .i64 ((pre.length : Int) + 1)) (.int .i64 3)
          have hl : ((pre ++ [(x1, x2)]).length : Int) = (pre.length : Int) + 1 := by simp
          exact ⟨⟨Nat.le_trans kf2.size z4.size, ((kf2.trans z4).more (by omega)).same⟩, rfl, ⟨HX.out, z0, (by rw [hl]; exact z1), z2, Below.drew z3⟩⟩
  case done =>
    rintro D ys W hD rfl ⟨Q, C, VQ, VC, hp⟩ hK
    have d0 := cell_blk hp.pst.blk 0
    have d1 := cell_blk hp.pst.blk 1
    simp only [List.getElem?_toArray, List.getElem?_cons_zero, List.getElem?_cons_succ] at d0 d1
    obtain ⟨AQ, cQ, rfl⟩ := own_shape hp.pst.rq
    obtain ⟨AC, cC, rfl⟩ := own_shape hp.pst.rc
    have hsc : scan [] [] 0 (linesF s.data.toList.length 1 s.data.toList) = .ok (Q, C) := by have := hp.scn []; rw [List.append_nil] at this; exact this
    have HSC := Lib.hid hsc
    clear hsc
    gi_wp2
    refine ⟨trivial, ?_⟩
    refine (callsIn_wide.2 (pcheck_any _ _ Q C W (ints_of_own hp.pst.rq) (cons_of_own hp.pst.rc))).mono ?_
    rintro e W2 ⟨rfl, hb2⟩
    have hWs := hp.pst.le
    have e0 := (hb2.block (w.heap.size) (by omega)).trans hp.r0
    have e1 : Boxed W2 (w.heap.size + 1) 3 _ := (hb2.block (w.heap.size + 1) (by omega)).trans hp.r1
    have e2 : Boxed W2 (w.heap.size + 1 + 1) 27 _ := (hb2.block (w.heap.size + 1 + 1) (by omega)).trans hp.r2
    have hK2 := (hb2.block D (blk_lt hK)).trans hK
    have bel2 : Below w.heap.size w W2 := hp.bel.trans (hb2.mono hp.bel.size)
    have hI2 := (ints_of_own hp.pst.rq).below hb2
    have hC2 := (cons_of_own hp.pst.rc).below hb2
    have d0' := (World.cell?_of_block (a := ⟨w.heap.size + 1 + 1 + 1, 0, none⟩) (hb2.block (w.heap.size + 1 + 1 + 1) (by omega))).trans d0
    have d1' := (World.cell?_of_block (a := ⟨w.heap.size + 1 + 1 + 1, 1, none⟩) (hb2.block (w.heap.size + 1 + 1 + 1) (by omega))).trans d1
    have hz2 := hb2.size
    have rq0 := hp.pst.rq
    have rc0 := hp.pst.rc
    have hb3 := hb2
    clear d0 d1
    have a0 := cell_blk e0 0
    have a1 := cell_blk e0 1
    have g0 := frozen_blk e0 0
    have g1 := frozen_blk e0 1
    simp only [List.getElem?_toArray, List.getElem?_cons_zero, List.getElem?_cons_succ] at a0 a1
    have a2 := e1.cell
    have g2 := e1.frozen
    have a3 := e2.cell
    have g3 := e2.frozen
    by_cases hE : planE Q C = 0
    · have hR : parseR s = (Q, C, 0, 0) := by unfold parseR; rw [if_neg hn, HSC.out]; simp [hE]
      have HE := Lib.hid hE
      have HR := Lib.hid hR
      rw [hE]
      clear hE hR hp hb2
      gi_wp2
      obtain ⟨z0, z1, z2, z3, z4, z5⟩ := res_world e0 e1 e2 bel2 (.slice AQ Q.length cQ) (.slice AC C.length cC) (.int .i64 0) (.int .i64 0)
      have hK3 := (z5 D (by omega) (by omega) (by omega)).trans hK2
      exact ⟨by simp, .inl ⟨_, _, rfl, run_takeDeferred hK3, parse_end (Q := Q) (C := C) z0 z1 z2 z3 (by omega) hK3 (ownsRow_sets (own_below rq0 hb3)) (ownsRow_sets (own_below rc0 hb3)) HR.out rfl rfl rfl⟩⟩
    · have hR : parseR s = ([], [], 0, planE Q C) := by unfold parseR; rw [if_neg hn, HSC.out]; simp [hE]
      have hE0 : (planE Q C != 0) = true := by simpa using hE
      have HR := Lib.hid hR
      clear hR hp hb2
      gi_wp2
      obtain ⟨z0, z1, z2, z3, z4, z5⟩ := res_world e0 e1 e2 bel2 (.slice none 0 0) (.slice none 0 0) (.int .i64 0) (.int .i64 (planE Q C))
      have hK3 := (z5 D (by omega) (by omega) (by omega)).trans hK2
      exact ⟨by simp, .inl ⟨_, _, rfl, run_takeDeferred hK3, parse_end (Q := []) (C := []) z0 z1 z2 z3 (by omega) hK3 (World.ownsRow_nil _ _ _ _) (World.ownsRow_nil _ _ _ _) HR.out rfl rfl rfl⟩⟩
  case stop =>
    rintro D cc pre W hD ⟨post, hpost⟩ ⟨rfl, hx⟩ hK
    have hR : parseR s = ([], [], (pre.length : Int), 3) := by unfold parseR; rw [if_neg hn, ← hpost, hx.scn post]
    gi_wp2
    exact ⟨by simp, .inl ⟨_, _, rfl, run_takeDeferred hK, parse_end (Q := []) (C := []) hx.r0 hx.r1 hx.r2 hx.bel (by omega) hK (World.ownsRow_nil _ _ _ _) (World.ownsRow_nil _ _ _ _) hR rfl rfl rfl⟩⟩
end Go.Proofs.YtgnlanfpholdaaaDoor

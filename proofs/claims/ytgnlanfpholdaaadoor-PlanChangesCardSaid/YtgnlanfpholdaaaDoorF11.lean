/- The plan that is being read, in memory. -/
import Derived.Test.YtgnlanfpholdaaaDoorF10
import Derived.Deep.AppendLies
import Derived.Lib.OwnKind
import Derived.RangeFuncBox
namespace Go.Proofs.YtgnlanfpholdaaaDoor
open Go.RowKit
/-- the cells of a contact -/
def conVals (c : Con) : List Value := [.int .i64 c.a, .int .i64 c.b, .int .i64 c.s, .int .i64 c.e, .int .i64 c.r, .int .i64 c.g, .int .i64 c.l]
def conCells (C : List Con) : List Value := C.flatMap conVals
theorem conCells_len (C : List Con) : (conCells C).length = C.length * 7 := by
  induction C with
  | nil => rfl
  | cons c t ih => simp only [conCells, List.flatMap_cons, List.length_append, List.length_cons] at *; rw [ih]; simp [conVals]; omega
theorem conCells_snoc (C : List Con) (c : Con) : conCells (C ++ [c]) = conCells C ++ conVals c := by simp [conCells]
theorem intCells_snoc (Q : List Int) (q : Int) : intCells (Q ++ [q]) = intCells Q ++ [.int .i64 q] := by simp [intCells]
/-- what stood below B, but for the block pb, stands -/
structure Frm (B pb : Nat) (w w' : World) : Prop where
  os : w'.os = w.os
  tape : w'.tape = w.tape
  output : w'.output = w.output
  size : w.heap.size ≤ w'.heap.size
  block : ∀ k, k < B → k ≠ pb → w'.heap[k]? = w.heap[k]?
  other : ∀ (k : Nat) (o : Obj), w.heap[k]? = some o → o.isCells = false → w'.heap[k]? = some o
theorem Frm.refl (B pb : Nat) (w : World) : Frm B pb w w := ⟨rfl, rfl, rfl, Nat.le_refl _, fun _ _ _ => rfl, fun _ _ h _ => h⟩
theorem Frm.trans {B pb : Nat} {w w1 w2 : World} (h : Frm B pb w w1) (k : Frm B pb w1 w2) : Frm B pb w w2 :=
  ⟨k.os.trans h.os, k.tape.trans h.tape, k.output.trans h.output, Nat.le_trans h.size k.size, fun j hj hn => (k.block j hj hn).trans (h.block j hj hn), fun j o hj ho => k.other j o (h.other j o hj ho) ho⟩
theorem Frm.of_grown {B pb : Nat} {w w' : World} {g : Option Nat} (h : w.grownBy w' g) (hB : B ≤ w.heap.size) (hg : ∀ k, g = some k → B ≤ k ∨ k = pb) (hc : ∀ k, g = some k → ∃ cs t z, w.heap[k]? = some (.cells cs t z)) : Frm B pb w w' :=
  ⟨h.os, h.tape, h.output, h.size, fun k hk hn => h.block k (by omega) (fun e => by rcases hg k e.symm with h | h <;> omega),
   fun k o hk ho => (h.block k (Array.getElem?_eq_some_iff.1 hk).1 (fun e => by obtain ⟨cs, t, z, h1⟩ := hc k e.symm; rw [hk] at h1; cases h1; cases ho)).trans hk⟩
theorem Frm.of_below {B pb : Nat} {w w' : World} (h : Below w.heap.size w w') (hB : B ≤ w.heap.size) : Frm B pb w w' :=
  ⟨h.os, h.tape, h.output, h.size, fun k hk _ => h.block k (by omega), fun k o hk _ => (h.block k (Array.getElem?_eq_some_iff.1 hk).1).trans hk⟩
/-- the plan in block pb holds Q and C; its rows lie at B or behind -/
structure PSt (w : World) (B pb : Nat) (Q : List Int) (C : List Con) (VQ VC : Value) : Prop where
  lt : pb < B
  le : B ≤ w.heap.size
  blk : w.heap[pb]? = some (.cells #[VQ, VC] 25 (0, 0))
  rq : w.ownsRow B 3 1 VQ Q.length (intCells Q)
  rc : w.ownsRow B 40 7 VC C.length (conCells C)
theorem PSt.kept {w w' : World} {B pb : Nat} {Q : List Int} {C : List Con} {VQ VC : Value} (h : PSt w B pb Q C VQ VC) {g : Nat} (hg : w.grownBy w' (some g)) (hp : g ≠ pb) (hq : VQ.ownBlock ≠ some g) (hc : VC.ownBlock ≠ some g) : PSt w' B pb Q C VQ VC :=
  ⟨h.lt, Nat.le_trans h.le hg.size, (hg.block pb (by have := h.lt; have := h.le; omega) (fun e => hp (Option.some.inj e).symm)).trans h.blk, h.rq.kept hg (.inr hq), h.rc.kept hg (.inr hc)⟩
theorem PSt.below {w w' : World} {B pb : Nat} {Q : List Int} {C : List Con} {VQ VC : Value} (h : PSt w B pb Q C VQ VC) (hb : Below w.heap.size w w') : PSt w' B pb Q C VQ VC :=
  ⟨h.lt, Nat.le_trans h.le hb.size, (hb.block pb (by have := h.lt; have := h.le; omega)).trans h.blk, own_below h.rq hb, own_below h.rc hb⟩
/-- the rows' blocks are no reader's -/
theorem own_ne_kind {w : World} {B : Nat} {e : TypeId} {size : Nat} {v : Value} {n : Nat} {xs : List Value} (h : w.ownsRow B e size v n xs) {g : Nat} {c : Array Value} {t : TypeId} {z : Nat × Nat} (hg : w.heap[g]? = some (.cells c t z)) (ht : t ≠ e) : v.ownBlock ≠ some g := by
  intro hv
  obtain ⟨c', fz, h1⟩ := Lib.ownsRow_kind h g hv
  rw [hg] at h1
  cases h1
  exact ht rfl
theorem own_ne_lt {w : World} {B : Nat} {e : TypeId} {size : Nat} {v : Value} {n : Nat} {xs : List Value} (h : w.ownsRow B e size v n xs) {g : Nat} (hg : g < B ∨ w.heap.size ≤ g) : v.ownBlock ≠ some g := by
  intro hv
  obtain ⟨h1, h2⟩ := h.lt g hv
  omega
/-- a value stored into the plan -/
theorem PSt.setQ {w : World} {B pb : Nat} {Q Q' : List Int} {C : List Con} {VQ VC V : Value} (h : PSt w B pb Q C VQ VC) (hr : w.ownsRow B 3 1 V Q'.length (intCells Q')) : PSt (w.setCell ⟨pb, 0, none⟩ V) B pb Q' C V VC := by
  have e := heap_set h.blk (i := 0) V
  refine ⟨h.lt, by simpa using h.le, by simpa using e, ?_, ?_⟩
  · exact ownsRow_setCell_below hr h.lt _
  · exact ownsRow_setCell_below h.rc h.lt _
theorem PSt.setC {w : World} {B pb : Nat} {Q : List Int} {C C' : List Con} {VQ VC V : Value} (h : PSt w B pb Q C VQ VC) (hr : w.ownsRow B 40 7 V C'.length (conCells C')) : PSt (w.setCell ⟨pb, 1, none⟩ V) B pb Q C' VQ V := by
  have e := heap_set h.blk (i := 1) V
  refine ⟨h.lt, by simpa using h.le, by simpa using e, ?_, ?_⟩
  · exact ownsRow_setCell_below h.rq h.lt _
  · exact ownsRow_setCell_below hr h.lt _
end Go.Proofs.YtgnlanfpholdaaaDoor

/- What the laws keep while they walk: the two cells of a box. -/
import Derived.Test.YtgnlanfpholdaaaDoorF18
import Derived.Test.YtgnlanfpholdaaaDoorP1
namespace Go.Proofs.YtgnlanfpholdaaaDoor
open Go.RowKit
/-- block n holds two values -/
structure Two (n : Nat) (a b : Value) (W : World) : Prop where
  lt : n < W.heap.size
  c0 : W.cell? ⟨n, 0, none⟩ = some a
  c1 : W.cell? ⟨n, 1, none⟩ = some b
theorem Two.below {n : Nat} {a b : Value} {W W' : World} (h : Two n a b W) (hb : Below W.heap.size W W') : Two n a b W' :=
  ⟨Nat.lt_of_lt_of_le h.lt hb.size, (hb.cell (p := ⟨n, 0, none⟩) h.lt).trans h.c0, (hb.cell (p := ⟨n, 1, none⟩) h.lt).trans h.c1⟩
theorem Two.new (w : World) (a b : Value) (t : TypeId) : Two w.heap.size a b (w.alloc (.cells #[a, b] t)) := ⟨by simp, by simp [go_sem], by simp [go_sem]⟩
/-- a plan's box at the beginning of a law, and all that was there before -/
structure PB (w W : World) (qv cv : Value) : Prop where
  two : Two w.heap.size qv cv W
  bel : Below w.heap.size w W
theorem PB.new (w : World) (a b : Value) (t : TypeId) : PB w (w.alloc (.cells #[a, b] t)) a b := ⟨Two.new w a b t, (Below.refl _ w).alloc (Nat.le_refl _) _⟩
theorem PB.below {w W W' : World} {qv cv : Value} (h : PB w W qv cv) (hb : Below W.heap.size W W') : PB w W' qv cv := ⟨h.two.below hb, h.bel.trans (hb.mono h.bel.size)⟩
theorem PB.alloc {w W : World} {qv cv : Value} (h : PB w W qv cv) (o : Obj) : PB w (W.alloc o) qv cv := h.below ((Below.refl _ W).alloc (Nat.le_refl _) o)
theorem PB.ints {w W : World} {qv cv v : Value} {xs : List Int} (h : PB w W qv cv) (hq : Ints w w.heap.size v xs) : Ints W W.heap.size v xs := (hq.below h.bel).more h.bel.size
theorem PB.cons {w W : World} {qv cv v : Value} {xs : List Con} (h : PB w W qv cv) (hq : Cons w w.heap.size v xs) : Cons W W.heap.size v xs := (hq.below h.bel).more h.bel.size
theorem PB.glob {w W : World} {qv cv : Value} (h : PB w W qv cv) (hG : Glob w) : Glob W := hG.below h.bel hG.1
end Go.Proofs.YtgnlanfpholdaaaDoor

/- Appending strings to bytes that can be read; the bytes of a list. -/
import Derived.Test.YthlfhfliidhelaaGreatDoorW7
import Derived.Laws.IdiomCopy
import Derived.Lib.AppendStr
set_option linter.unusedSimpArgs false
set_option linter.unusedVariables false
set_option linter.all false
namespace Go.Proofs.YthlfhfliidhelaaGreatDoor
open Go.RowKit Go.Lib
def Brd (w : World) (base : Nat) (v : Value) (l : List UInt8) : Prop :=
  ∃ g cap, v = .slice (some ⟨g, 0, none⟩) l.length cap ∧ base ≤ g ∧ g < w.heap.size ∧ l.length ≤ cap ∧ cap ≤ maxLen ∧ (∀ j, j < cap → (w.cell? ⟨g, j, none⟩).isSome = true ∧ w.frozen? ⟨g, j, none⟩ = false) ∧ (∀ j, j < l.length → w.cell? ⟨g, j, none⟩ = (byV l)[j]?)
theorem Brd.below {w w1 : World} {base : Nat} {v : Value} {l : List UInt8} (h : Brd w base v l) (hb : Below w.heap.size w w1) : Brd w1 base v l := by
  obtain ⟨g, cap, e, h1, h2, h3, h4, h5, h6⟩ := h
  refine ⟨g, cap, e, h1, Nat.lt_of_lt_of_le h2 hb.size, h3, h4, fun j hj => ?_, fun j hj => ?_⟩
  · rw [hb.cell (p := ⟨g, j, none⟩) h2, hb.frozen (p := ⟨g, j, none⟩) h2]
    exact h5 j hj
  · rw [hb.cell (p := ⟨g, j, none⟩) h2]
    exact h6 j hj
theorem below_setCells {base g : Nat} (hg : base ≤ g) {w0 : World} : ∀ (vs : List Value) (o : Nat) (X : World), Below base w0 X → Below base w0 (X.setCells g o vs)
  | [], _, _, h => h
  | v :: r, o, _, h => below_setCells hg r (o + 1) _ (h.setCell (p := ⟨g, o, none⟩) hg v)
theorem size_setCells {g : Nat} : ∀ (vs : List Value) (o : Nat) (w : World), (w.setCells g o vs).heap.size = w.heap.size
  | [], _, _ => rfl
  | v :: r, o, w => by rw [World.setCells, size_setCells r]; simp
theorem strCells_byV (s : List UInt8) : strCells ⟨s.toArray⟩ = byV s := by simp [strCells, byV]
theorem byV_app (a b : List UInt8) : byV (a ++ b) = byV a ++ byV b := by simp [byV]
theorem isSome_setCells {g : Nat} : ∀ (vs : List Value) (o : Nat) (w : World) (x : Addr), (w.cell? x).isSome = true → ((w.setCells g o vs).cell? x).isSome = true
  | [], _, _, _, h => h
  | v :: r, o, w, x, h => by
    refine isSome_setCells r (o + 1) _ x ?_
    by_cases e : (⟨g, o, none⟩ : Addr) = x
    · subst e
      obtain ⟨u, hu⟩ := Option.isSome_iff_exists.1 h
      rw [World.cell?_setCell_same _ _ _ hu]
      rfl
    · rwa [World.cell?_setCell_other _ _ _ _ e]
theorem brd_app {w : World} {base : Nat} {v : Value} {l : List UInt8} (h : Brd w base v l) (s : List UInt8) (ty : TypeId) (hn : l.length + s.length ≤ 1000000) (hb : base ≤ w.heap.size) :
    ∃ v' w', (Builtin.append_ #[125, 9] ty #[v, .string ⟨s.toArray⟩]).run Tryz.prog w = .ok v' w' ∧ Brd w' base v' (l ++ s) ∧ Below base w w' := by
  obtain ⟨g, cap, rfl, h1, h2, h3, h4, h5, h6⟩ := h
  obtain ⟨i0, hi, hz0, hz1, hz2⟩ := info_parts info5
  have hsz : (⟨s.toArray⟩ : ByteArray).size = s.length := rfl
  have hlen : (byV l ++ byV s).length = l.length + s.length := by rw [List.length_append, byV_len, byV_len]
  by_cases hr : l.length + s.length ≤ cap
  · have hf := run_firstCells_string (P := Tryz.prog) w 1 ⟨s.toArray⟩
    have hst := run_storeCells_cells (P := Tryz.prog) g l.length (byV s) 0 w (fun j hj => (h5 _ (by rw [byV_len] at hj; omega)).1) (fun j hj => (h5 _ (by rw [byV_len] at hj; omega)).2) (by rw [← strCells_byV]; exact strCells_oneCell _)
    refine ⟨.slice (some ⟨g, 0, none⟩) (l.length + s.length) cap, w.setCells g l.length (byV s), ?_, ?_, below_setCells h1 _ _ _ (Below.refl _ _)⟩
    · rw [hsz, strCells_byV] at hf
      simp [Builtin.append_, run_underlying Tryz.underlying125, run_underlying Tryz.underlying9, sizeOf, typeInfo, hi, hz1, Builtin.lenOf, hsz, hr, hf, Addr.add_lit, hst]
    · refine ⟨g, cap, by rw [List.length_append], h1, by rw [size_setCells]; exact h2, by rw [List.length_append]; exact hr, h4, fun j hj => ⟨isSome_setCells _ _ _ _ (h5 j hj).1, by rw [World.frozen?_setCells]; exact (h5 j hj).2⟩, fun j hj => ?_⟩
      rw [List.length_append] at hj
      rw [byV_app]
      by_cases hjl : j < l.length
      · rw [List.getElem?_append_left (by rw [byV_len]; exact hjl), World.cell?_setCells_out _ _ _ _ _ (fun _ _ => .inl hjl)]
        exact h6 j hjl
      · have hj2 : j - l.length < (byV s).length := by rw [byV_len]; omega
        have := World.cell?_setCells_in g (byV s) l.length w (fun i hi => (h5 _ (by rw [byV_len] at hi; omega)).1) (j - l.length) hj2
        rw [show l.length + (j - l.length) = j by omega] at this
        rw [this, List.getElem?_append_right (by rw [byV_len]; omega), byV_len, List.getElem?_eq_getElem hj2]
  · have hgr := run_append_grow_string (P := Tryz.prog) w 125 9 ty 5 i0 (.int .u8 0) Tryz.underlying125 Tryz.underlying9 hi hz0 ⟨g, 0, none⟩ l.length cap (byV l) (by rw [byV_len, hz1, Nat.mul_one]) (fun j u hu => by
        have hj : j < l.length := by have := (List.getElem?_eq_some_iff.1 hu).1; rwa [byV_len] at this
        have e2 : (⟨g, 0, none⟩ : Addr).add j = ⟨g, j, none⟩ := by simp [Addr.add]; omega
        rw [e2, h6 j hj, hu]) ⟨s.toArray⟩ (by rw [hsz]; omega) (by rw [hsz]; omega) (by rw [hsz, hz2]; exact growslice_fits (by omega) (by omega))
    rw [hsz, strCells_byV] at hgr
    have hge := grownCap_ge w (l.length + s.length) cap 5
    have hcm := grownCap_le_maxLen w (l.length + s.length) cap 5 (by unfold maxLen; omega)
    refine ⟨_, _, hgr, ?_, (Below.drew (Below.refl _ _)).alloc (by simp; exact hb) _⟩
    generalize grownCap w (l.length + s.length) cap 5 = C at *
    have hnew := World.alloc_heap_new w.drew (.cells ((byV l).toArray ++ (byV s).toArray ++ Builtin.zeroCells (Value.int .u8 0).cells (C - (l.length + s.length))) 5)
    have hz1' : (Value.int IntKind.u8 0).cells.size = 1 := rfl
    have hcs : ((byV l).toArray ++ (byV s).toArray ++ Builtin.zeroCells (Value.int .u8 0).cells (C - (l.length + s.length))).size = C := by
      simp only [Array.size_append, List.size_toArray, size_zeroCells, hz1', byV_len]
      omega
    refine ⟨w.heap.size, C, by rw [List.length_append], hb, by simp, by rw [List.length_append]; exact hge, hcm, fun j hj => ⟨?_, frozen_of_row _ _ j _ _ hnew⟩, fun j hj => ?_⟩
    · rw [show (⟨w.heap.size, j, none⟩ : Addr) = ⟨w.drew.heap.size, j, none⟩ from rfl, cell_of_row _ _ _ _ _ _ hnew, Array.getElem?_eq_getElem (by rw [hcs]; exact hj)]
      rfl
    · rw [List.length_append] at hj
      rw [show (⟨w.heap.size, j, none⟩ : Addr) = ⟨w.drew.heap.size, j, none⟩ from rfl, cell_of_row _ _ _ _ _ _ hnew, byV_app, Array.getElem?_append_left (by simp [byV_len]; omega)]
      simp
theorem wp_brd {ops : Array Oper} {rest : List Oper} {o : Oper} {a : Act} {w : World} {Q : Exit → Act → World → Prop} (hgd : o.guard = none) (sl x : Operand)
    (ho : o.op = .call { callee := .builtin .append, args := #[sl, x], argTypes := #[125, 9] })
    (base : Nat) (v : Value) (l s : List UInt8) (hs : a.eval sl = v) (hB : Brd w base v l) (hx : a.eval x = .string ⟨s.toArray⟩) (hn : l.length + s.length ≤ 1000000) (hb : base ≤ w.heap.size)
    (h : ∀ v' w', Brd w' base v' (l ++ s) → Below base w w' → wpList Tryz.prog ops Q rest (a.put o.dst v') w') : wpList Tryz.prog ops Q (o :: rest) a w := by
  refine wpList_plain hgd fun K hK => ?_
  obtain ⟨v', w', hr, h2, h3⟩ := brd_app hB s o.type hn hb
  unfold Oper.wp execOp
  simp only [ho, resolve, invoke, builtin, Sem.run_bind, Sem.run_pure, Result.andThen_ok, List.map_toArray, List.map_cons, List.map_nil, hs, hx, hr]
  exact hK _ _ (h v' w' h2 h3)
theorem brd_str {w : World} {base : Nat} {v : Value} {l : List UInt8} (h : Brd w base v l) : (convert 125 9 v).run Tryz.prog w = .ok (.string ⟨l.toArray⟩) w := by
  obtain ⟨g, cap, rfl, h1, h2, h3, h4, h5, h6⟩ := h
  refine run_convert_bytes_back w 125 9 5 ⟨g, 0, none⟩ cap l Tryz.underlying125 Tryz.underlying5 Tryz.underlying9 (fun j hj => ?_)
  have e2 : (⟨g, 0, none⟩ : Addr).add j = ⟨g, j, none⟩ := by simp [Addr.add]; omega
  rw [e2, h6 j hj]
  simp [byV, hj]
theorem brd_new (w : World) (s : List UInt8) (hs : s.length ≤ 1000000) : ∃ v w', (convert 9 125 (.string ⟨s.toArray⟩)).run Tryz.prog w = .ok v w' ∧ Brd w' w.heap.size v s ∧ Below w.heap.size w w' := by
  have hr := run_bytes_of_string (P := Tryz.prog) w 9 125 5 ⟨s.toArray⟩ Tryz.underlying9 Tryz.underlying125 Tryz.underlying5
  have hsz : (⟨s.toArray⟩ : ByteArray).size = s.length := rfl
  rw [hsz] at hr
  have hge := grownCap_ge w s.length 0 5
  have hcm := grownCap_le_maxLen w s.length 0 5 (by unfold maxLen; omega)
  refine ⟨_, _, hr, ?_, (Below.drew (Below.refl _ _)).alloc (by simp) _⟩
  generalize grownCap w s.length 0 5 = C at *
  have hcs : (bytesRow ⟨s.toArray⟩ C).size = C := by
    unfold bytesRow
    rw [Array.size_append, Array.size_map, Array.size_replicate, hsz]
    show s.toArray.size + _ = _
    rw [List.size_toArray]
    omega
  refine ⟨w.heap.size, C, rfl, Nat.le_refl _, by simp, hge, hcm, fun j hj => ⟨?_, ?_⟩, fun j hj => ?_⟩
  · rw [show (⟨w.heap.size, j, none⟩ : Addr) = ⟨w.drew.heap.size, j, none⟩ from rfl, World.cell?_alloc_mark, Array.getElem?_eq_getElem (by rw [hcs]; exact hj)]
    rfl
  · rw [show (⟨w.heap.size, j, none⟩ : Addr) = ⟨w.drew.heap.size, j, none⟩ from rfl, World.frozen?_alloc_mark, hcs]
    simp
    omega
  · rw [show (⟨w.heap.size, j, none⟩ : Addr) = ⟨w.drew.heap.size, j, none⟩ from rfl, World.cell?_alloc_mark, bytesRow_at _ _ _ (by show j < s.toArray.size; simpa using hj)]
    simp [byV, hj]
end Go.Proofs.YthlfhfliidhelaaGreatDoor

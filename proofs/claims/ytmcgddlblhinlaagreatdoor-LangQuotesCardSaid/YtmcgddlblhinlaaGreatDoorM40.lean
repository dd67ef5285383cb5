/- The reader of blocks' lines. -/
import Derived.Test.YtmcgddlblhinlaaGreatDoorH12
import Derived.Deep.DrawnRows
import Derived.Deep.WholeRow
import Derived.OneCell
namespace Go.Proofs.YtmcgddlblhinlaaGreatDoor
open Go.RowKit
attribute [local go_sem ↓] Go.wp_at_zero Go.wp_at_succ
theorem info102 : (Tryz.prog.info? 102).map (fun i => (i.zero, i.size, i.bytes)) = some (some (.agg #[.int .i64 0, .int .i64 0, .string ⟨#[]⟩]), 3, 32) := by kernel_rfl
theorem bunVals_set (x : Bun) (V U : Value) (bl : List Blk) : (bunVals x V).set 10 U = bunVals { x with bl := bl } U := rfl
theorem bunCells_set : ∀ (ov : List (Bun × Value)) (i : Nat) (U : Value) (bl : List Blk), i < ov.length → (bunCells ov).set (i * 12 + 10) U = bunCells (ov.set i ({ (ov.getD i BZ).1 with bl := bl }, U))
  | p :: t, 0, U, bl, _ => by
    show (bunVals p.1 p.2 ++ bunCells t).set 10 U = bunVals _ U ++ bunCells t
    rw [List.set_append_left _ _ (by simp [bunVals]), bunVals_set p.1 p.2 U bl]; rfl
  | p :: t, i + 1, U, bl, h => by
    have ih := bunCells_set t i U bl (by simpa using h)
    show (bunVals p.1 p.2 ++ bunCells t).set ((i + 1) * 12 + 10) U = bunVals p.1 p.2 ++ bunCells (t.set i ({ (t.getD i BZ).1 with bl := bl }, U))
    rw [← ih, List.set_append_right _ _ (by simp [bunVals]; omega)]
    congr 2
    simp [bunVals]; omega
theorem bunCells_get : ∀ (ov : List (Bun × Value)) (i : Nat), i < ov.length → (bunCells ov)[i * 12 + 10]? = some (ov.getD i BZ).2
  | p :: t, 0, _ => by
    show (bunVals p.1 p.2 ++ bunCells t)[10]? = _
    rw [List.getElem?_append_left (by simp [bunVals])]; rfl
  | p :: t, i + 1, h => by
    have ih := bunCells_get t i (by simpa using h)
    show (bunVals p.1 p.2 ++ bunCells t)[(i + 1) * 12 + 10]? = some (t.getD i BZ).2
    rw [List.getElem?_append_right (by simp [bunVals]; omega), ← ih]
    congr 1
    simp [bunVals]; omega
theorem getD_set {α : Type} (l : List α) (z x : α) (i j : Nat) (hi : i < l.length) : (l.set i x).getD j z = if j = i then x else l.getD j z := by
  by_cases h : j = i
  · subst h; rw [if_pos rfl]; simp [List.getD, hi]
  · rw [if_neg h]; simp [List.getD, show ¬ i = j from fun e => h e.symm]
theorem PS.appB {w w1 : World} {B pb go cO m g cap nb : Nat} {st : St} {VQ VC VO VF VX : Value} {ov : List (Bun × Value)} {x : Blk} {o : Obj} {d0 : Bun} {Vl : Value} (h : PS w B pb st VQ VC VO VF VX ov) (hVO : VO = .slice (some ⟨go, 0, none⟩) ov.length cO) (hm : ov.length = m + 1) (hl : ov.getD m BZ = (d0, Vl) ∧ d0.bl.length = nb)
    (hg : (w.alloc o).grownBy w1 Vl.ownBlock) (hr : w1.ownsRow B 102 3 (.slice (some ⟨g, 0, none⟩) (nb + 1) cap) (nb + 1) (blkCells d0.bl ++ blkVals x)) (hat : Vl.ownBlock = some g ∨ g = w.heap.size + 1) :
    w1.cell? ⟨go, m * 12 + 10, none⟩ = some Vl ∧ w1.frozen? ⟨go, m * 12 + 10, none⟩ = false ∧ PS (w1.setCell ⟨go, m * 12 + 10, none⟩ (.slice (some ⟨g, 0, none⟩) (nb + 1) cap)) B pb ⟨addI st.m (.blk x), st.k⟩ VQ VC VO VF VX (ov.set m ({ d0 with bl := d0.bl ++ [x] }, .slice (some ⟨g, 0, none⟩) (nb + 1) cap)) ∧
    Frm B pb w (w1.setCell ⟨go, m * 12 + 10, none⟩ (.slice (some ⟨g, 0, none⟩) (nb + 1) cap)) ∧ ∀ k, k < w.heap.size → Vl.ownBlock ≠ some k → w1.heap[k]? = w.heap[k]? := by
  obtain ⟨hl, rfl⟩ := hl
  have hml : m < ov.length := by omega
  have hrl := h.rb m hml
  rw [hl] at hrl
  have old : ∀ k, k < w.heap.size → Vl.ownBlock ≠ some k → w1.heap[k]? = w.heap[k]? := fun k hk hn => (hg.block k (by simp; omega) (fun e => hn e.symm)).trans (Below.heap_alloc _ _ _ hk)
  have kp : ∀ {e : TypeId} {size : Nat} {v : Value} {n : Nat} {xs : List Value}, w.ownsRow B e size v n xs → (∀ q, v.ownBlock = some q → Vl.ownBlock ≠ some q) → w1.ownsRow B e size v n xs := fun {e size v n xs} hv hne => (hv.alloc o).kept hg (by
    cases hb : v.ownBlock with
    | none => exact .inl rfl
    | some q => right; intro e; exact hne q hb e.symm)
  have r0 := kp h.ro (own_types h.ro hrl (by decide))
  have hgoB : VO.ownBlock = some go := by rw [hVO]; rfl
  have hgo := r0.lt go hgoB
  have rOs := r0
  rw [hVO] at rOs
  have hj : m * 12 + 10 < ov.length * 12 := by omega
  have cc := (rOs.cellAt (m * 12 + 10) hj).trans (bunCells_get ov m hml)
  have cf := rOs.frozenAt (m * 12 + 10)
  obtain ⟨st1, st2⟩ := rOs.stored (m * 12 + 10) (.slice (some ⟨g, 0, none⟩) (d0.bl.length + 1) cap)
  have hbs := bunCells_set ov m (.slice (some ⟨g, 0, none⟩) (d0.bl.length + 1) cap) (d0.bl ++ [x]) hml
  rw [hbs, hl] at st1
  have oth : ∀ {e : TypeId} {size : Nat} {v : Value} {n : Nat} {xs : List Value}, w1.ownsRow B e size v n xs → e ≠ 50 → (w1.setCell ⟨go, m * 12 + 10, none⟩ (.slice (some ⟨g, 0, none⟩) (d0.bl.length + 1) cap)).ownsRow B e size v n xs := fun {e size v n xs} hv he =>
    ownsRow_setCell_other hv (fun e2 => own_types hv r0 he go e2 hgoB) _
  have hz : w.heap.size ≤ w1.heap.size := Nat.le_trans (by simp) hg.size
  have hpl : pb < w.heap.size := Nat.lt_of_lt_of_le h.lt h.le
  have hpv : Vl.ownBlock ≠ some pb := own_ne_lt hrl (.inl h.lt)
  rw [hl] at cc
  have hBle := h.le
  have hmo : (ov.set m ({ d0 with bl := d0.bl ++ [x] }, (.slice (some ⟨g, 0, none⟩) (d0.bl.length + 1) cap : Value))).length = ov.length := by simp
  refine ⟨cc, cf, ⟨h.lt, h.g8, Nat.le_trans h.le (by simpa using hz), ?_, ?_, oth (kp h.rq (own_types h.rq hrl (by decide))) (by decide), oth (kp h.rc (own_types h.rc hrl (by decide))) (by decide), ?_, oth (kp h.rf (own_types h.rf hrl (by decide))) (by decide), oth (kp h.rx (own_types h.rx hrl (by decide))) (by decide), fun i hi => ?_, fun i hi q hq => ?_⟩, ?_, old⟩
  · exact (Below.heap_setCell w1 ⟨go, m * 12 + 10, none⟩ _ pb (by have := h.lt; show pb ≠ go; omega)).trans ((old pb hpl hpv).trans h.blk)
  · show (ov.set m _).map Prod.fst = addBlk st.m.os x
    have hol : st.m.os.length = m + 1 := by rw [← h.os]; simpa using hm
    have hod : st.m.os.getD m Bun.zero = d0 := by
      rw [← h.os]
      have e1 : ov[m]? = some (d0, Vl) := by
        have e2 : ov.getD m BZ = ov[m] := by simp [List.getD, hml]
        rw [List.getElem?_eq_getElem hml, ← e2, hl]
      simp [List.getD, e1]
    unfold addBlk
    rw [hol, Nat.add_sub_cancel, hod, ← h.os, List.map_set]
  · rw [hmo, hVO]; exact st1
  · rw [getD_set ov BZ _ m i hml]
    rw [hmo] at hi
    by_cases him : i = m
    · rw [if_pos him]
      show (w1.setCell _ _).ownsRow B 102 3 _ (d0.bl ++ [x]).length (blkCells (d0.bl ++ [x]))
      rw [List.length_append, show blkCells (d0.bl ++ [x]) = blkCells d0.bl ++ blkVals x by simp [blkCells]]
      exact oth hr (by decide)
    · rw [if_neg him]
      refine oth (kp (h.rb i hi) fun q hq hv => ?_) (by decide)
      have hnb := h.nb i (by omega) q hq
      rw [hm, Nat.add_sub_cancel, hl] at hnb
      exact hnb hv
  · rw [hmo] at hi ⊢
    rw [hm, Nat.add_sub_cancel, getD_set ov BZ _ m m hml, if_pos rfl]
    rw [getD_set ov BZ _ m i hml, if_neg (by omega)] at hq
    have hnb := h.nb i (by omega) q hq
    rw [hm, Nat.add_sub_cancel, hl] at hnb
    show (some g : Option Nat) ≠ some q
    intro e
    have eg : g = q := Option.some.inj e
    rcases hat with hat | hat
    · exact hnb (by rw [hat, eg])
    · have := ((h.rb i (by omega)).lt q hq).2
      omega
  · refine ((Frm.of_below ((Below.refl w.heap.size w).alloc (Nat.le_refl _) o) h.le).trans (Frm.of_grown hg (by simp; omega) (fun k e => .inl (hrl.lt k e).1) (fun k e => by obtain ⟨c, fz, k1⟩ := Lib.ownsRow_kind (hrl.alloc o) k e; exact ⟨_, _, _, k1, by decide⟩))).trans ?_
    obtain ⟨c, fz, k1⟩ := Lib.ownsRow_kind r0 go hgoB
    exact ⟨rfl, rfl, rfl, by simp, fun k h1 _ => Below.heap_setCell w1 ⟨go, m * 12 + 10, none⟩ _ k (by show k ≠ go; omega), fun k o ho hc2 => (Below.heap_setCell w1 ⟨go, m * 12 + 10, none⟩ _ k (by show k ≠ go; intro e; rw [e, k1] at ho; cases ho; exact absurd (hc2 _ _ _ rfl) (by decide))).trans ho⟩
theorem rest_blk {x : Blk} {t0 t1 t2 : ByteArray} (h : (Item.blk x).rest = [t0, t1, t2]) : [x.k, x.f].map itoaS = [t0, t1] ∧ quoteS x.d = t2 := by
  simp only [Item.rest, List.map_cons, List.map_nil, List.cons_append, List.nil_append, List.cons.injEq, and_true] at h
  obtain ⟨h0, h1, h2⟩ := h
  exact ⟨by simp only [List.map_cons, List.map_nil, h0, h1], h2⟩
end Go.Proofs.YtmcgddlblhinlaaGreatDoor

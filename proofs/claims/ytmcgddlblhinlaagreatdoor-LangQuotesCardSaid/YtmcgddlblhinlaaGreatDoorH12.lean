/- The words of a line in memory; what the readers of lines leave. -/
import Derived.Test.YtmcgddlblhinlaaGreatDoorH11
namespace Go.Proofs.YtmcgddlblhinlaaGreatDoor
open Go.RowKit
theorem kind_of {l : List UInt8} {x : Item} {k : Nat} (h : IsI l x) (h1 : 1 ≤ k) (h7 : k ≤ 7) (hc : (Lib.cut l [32]).1 = (wordK k).data.toList) : x.kind = k :=
  wordK_inj _ _ (kind_rng x).1 (kind_rng x).2 h1 h7 (h.cut.symm.trans hc)
theorem joinW_size (x : ByteArray) (t : List ByteArray) : x.size ≤ (joinW x t).length ∧ ∀ y ∈ t, y.size ≤ (joinW x t).length := by
  induction t generalizing x with
  | nil => rw [joinW_nil]; exact ⟨Nat.le_refl _, fun y hy => by cases hy⟩
  | cons z t ih =>
    rw [joinW_cons]
    have h := ih z
    refine ⟨by rw [List.length_append]; exact Nat.le_add_right _ _, fun y hy => ?_⟩
    simp only [List.length_append, List.length_cons]
    rcases List.mem_cons.1 hy with rfl | hy
    · have := h.1; omega
    · have := h.2 y hy; omega
/-- a line, split -/
structure Sp (s : ByteArray) (k : Nat) (t : List ByteArray) : Prop where
  eq : wsK (min (askK k + 1) (s.size + 1) - 1) s = wordK k :: t
  txt : s.data.toList = joinW (wordK k) t
  sz : ∀ y ∈ t, y.size ≤ s.size
  len : t.length ≤ askK k
  len2 : t.length + 1 ≤ min (askK k + 1) (s.size + 1)
theorem sp_of {s : ByteArray} {k : Nat} (hk : 1 ≤ askK k) (hs : 1 ≤ s.size) (hc : (Lib.cut s.data.toList [32]).1 = (wordK k).data.toList) : ∃ t, Sp s k t := by
  obtain ⟨x, t, e1, e2, e3, e4⟩ := wsK_got (min (askK k + 1) (s.size + 1) - 1) s.data.toList
  have es : (⟨s.data.toList.toArray⟩ : ByteArray) = s := rfl
  rw [es] at e1
  have ex : x = wordK k := (bs_ext ((e4 (by omega)).trans hc)).trans rfl
  subst ex
  refine ⟨t, e1, e2, fun y hy => ?_, by omega, by omega⟩
  have := (joinW_size (wordK k) t).2 y hy
  rw [← e2] at this
  exact this
theorem Sp.item {s : ByteArray} {k : Nat} {t : List ByteArray} (h : Sp s k t) {x : Item} (hk : x.kind = k) (hr : x.rest = t) (ho : x.ok) : IsI s.data.toList x := ⟨ho, by unfold Item.text; rw [hk, hr, h.txt]⟩
theorem Sp.rest {s : ByteArray} {k : Nat} {t : List ByteArray} (h : Sp s k t) {x : Item} (hk : x.kind = k) (hx : IsI s.data.toList x) : x.rest = t := by
  have e := hx.split
  have es : (⟨s.data.toList.toArray⟩ : ByteArray) = s := rfl
  have el : s.data.toList.length = s.size := rfl
  rw [hk, es, el, h.eq] at e
  exact (List.cons.inj e).2.symm
theorem words_cell (x : ByteArray) (t : List ByteArray) (M : Nat) (j : Nat) (hj : j < t.length) : (Lib.cellsOf (x :: t) M)[1 + j]? = some (.string (t.getD j ⟨#[]⟩)) := by
  unfold Lib.cellsOf
  rw [List.getElem?_toArray, List.getElem?_append_left (by simp; omega), Nat.add_comm 1 j]
  simp [List.getD, hj]
/-- beside the order of the kinds -/
def fitM (st : St) : Item → Bool
  | .node i _ => decide (i = st.m.q.length)
  | .blk _ => decide (st.k = 3 ∨ st.k = 4)
  | .bnd => !st.m.bd
  | _ => true
theorem fitI_eq (st : St) (x : Item) : fitI st x = (decide (rankK st.k ≤ rankK x.kind) && fitM st x) := by
  cases x with
  | node i q => exact Bool.decide_and _ _
  | con c => exact (Bool.and_true _).symm
  | ord x => exact (Bool.and_true _).symm
  | blk b =>
    have e : (decide (rankK st.k ≤ rankK 4) && decide (st.k = 3 ∨ st.k = 4)) = decide (st.k = 3 ∨ st.k = 4) := by
      by_cases h : st.k = 3 ∨ st.k = 4
      · rw [decide_eq_true h]
        rcases h with h | h <;> (rw [h]; decide)
      · rw [decide_eq_false h]; simp
    exact e.symm
  | flt f => exact (Bool.and_true _).symm
  | otg o => exact (Bool.and_true _).symm
  | bnd =>
    show decide (rankK st.k ≤ 6 ∧ st.m.bd = false) = (decide (rankK st.k ≤ 6) && !st.m.bd)
    generalize rankK st.k = r
    cases st.m.bd <;> simp
/-- what a reader of one kind of lines leaves -/
def MPost (w : World) (B pb : Nat) (st : St) (s : ByteArray) (e : Ending) (w' : World) : Prop :=
  ∃ ok, e = .returned (.bool ok) ∧ Frm B pb w w' ∧ (ok = false → ∀ x, IsI s.data.toList x → fitM st x = false) ∧ (ok = true → ∃ x VQ VC VO VF VX ov, IsI s.data.toList x ∧ fitM st x = true ∧ PS w' B pb ⟨addI st.m x, st.k⟩ VQ VC VO VF VX ov)
/-- pointers into one block -/
def psOf (g : Nat) (os : List Nat) : List (Nat × Nat) := os.map fun o => (g, o)
theorem psOf_get (g : Nat) (os : List Nat) (j : Nat) (hj : j < (psOf g os).length) : (psOf g os).getD j (0, 0) = (g, os.getD j 0) := by
  have hj' : j < os.length := by simpa [psOf] using hj
  simp [psOf, List.getD, hj']
theorem psok_of {W : World} {g : Nat} {cs : Array Value} {T : TypeId} {os : List Nat} (h : W.heap[g]? = some (.cells cs T (0, 0))) (h8 : 8 ≤ g) (hn : os.Nodup) : PsOk W (psOf g os) := by
  refine ⟨fun j hj => ?_, fun j hj => ?_, fun j hj => ?_, fun i j hi hj hne => ?_⟩
  · rw [psOf_get g os j hj]; exact blk_lt h
  · rw [psOf_get g os j hj]; exact h8
  · rw [psOf_get g os j hj]; exact frozen_blk h _
  · rw [psOf_get g os j hj, psOf_get g os i hi]
    intro e
    have e2 := (Prod.mk.inj e).2
    have hi' : i < os.length := by simpa [psOf] using hi
    have hj' : j < os.length := by simpa [psOf] using hj
    have := (List.getElem_inj (i := i) (j := j) (h₀ := hi') (h₁ := hj') hn).1 (by simpa [List.getD, hi', hj'] using e2)
    exact hne this
theorem psok_cells {W : World} {g : Nat} {os : List Nat} (hl : g < W.heap.size) (hf : ∀ o ∈ os, W.frozen? ⟨g, o, none⟩ = false) (h8 : 8 ≤ g) (hn : os.Nodup) : PsOk W (psOf g os) := by
  refine ⟨fun j hj => ?_, fun j hj => ?_, fun j hj => ?_, fun i j hi hj hne => ?_⟩
  · rw [psOf_get g os j hj]; exact hl
  · rw [psOf_get g os j hj]; exact h8
  · rw [psOf_get g os j hj]
    have hj' : j < os.length := by simpa [psOf] using hj
    have e : os.getD j 0 = os[j] := by simp [List.getD, hj']
    show W.frozen? ⟨g, os.getD j 0, none⟩ = false
    rw [e]
    exact hf _ (List.getElem_mem _)
  · rw [psOf_get g os j hj, psOf_get g os i hi]
    intro e
    have e2 := (Prod.mk.inj e).2
    have hi' : i < os.length := by simpa [psOf] using hi
    have hj' : j < os.length := by simpa [psOf] using hj
    have := (List.getElem_inj (i := i) (j := j) (h₀ := hi') (h₁ := hj') hn).1 (by simpa [List.getD, hi', hj'] using e2)
    exact hne this
theorem nst_of {W : World} {g : Nat} {cs : Array Value} {T : TypeId} {os : List Nat} (h : W.heap[g]? = some (.cells cs T (0, 0))) (hz : ∀ o ∈ os, cs[o]? = some (.int .i64 0)) : NSt W W (psOf g os) (List.replicate os.length 0) := by
  refine NSt.start (by simp [psOf]) fun j hj => ?_
  have hj' : j < os.length := by simpa [psOf] using hj
  rw [psOf_get g os j hj, cell_blk h]
  have e : os.getD j 0 = os[j] := by simp [List.getD, hj']
  have e2 : (List.replicate os.length (0 : Int)).getD j 0 = 0 := by simp [List.getD, hj']
  rw [e2]
  show cs[os.getD j 0]? = _
  rw [e]
  exact hz _ (List.getElem_mem _)
theorem ptr_of {W : World} {tb : Nat} {T : TypeId} {ps : List (Nat × Nat)} (h : W.heap[tb]? = some (.cells (ps.map fun p => (.pointer (some ⟨p.1, p.2, none⟩) : Value)).toArray T (0, 0))) : ∀ j, j < ps.length → W.cell? ⟨tb, j, none⟩ = some (.pointer (some ⟨(ps.getD j (0, 0)).1, (ps.getD j (0, 0)).2, none⟩)) := fun j hj => by
  rw [cell_blk h j, List.getElem?_toArray]
  simp [List.getD, hj]
theorem wds_of {s : ByteArray} {W : World} {wb k M : Nat} {T : TypeId} {t : List ByteArray} (h : W.heap[wb]? = some (.cells (Lib.cellsOf (wordK k :: t) M) T (0, 0))) (hsp : Sp s k t) (hs : s.size ≤ 8192) : ∀ j, j < t.length → (t.getD j ⟨#[]⟩).size ≤ 70000 ∧ W.cell? ⟨wb, 1 + j, none⟩ = some (.string (t.getD j ⟨#[]⟩)) := fun j hj => by
  refine ⟨?_, by rw [cell_blk h, words_cell _ _ _ _ hj]⟩
  have e : t.getD j ⟨#[]⟩ = t[j] := by simp [List.getD, hj]
  rw [e]
  have := hsp.sz _ (List.getElem_mem hj)
  omega
theorem kind_cells {W : World} {g o : Nat} {v : Value} (h : W.cell? ⟨g, o, none⟩ = some v) : ∃ cs T z, W.heap[g]? = some (.cells cs T z) := by
  unfold World.cell? at h
  simp only at h
  split at h
  · rename_i cs T z e
    exact ⟨cs, T, z, e⟩
  · cases h
theorem PS.keep {w w' : World} {B pb : Nat} {st : St} {VQ VC VO VF VX : Value} {ov : List (Bun × Value)} (h : PS w B pb st VQ VC VO VF VX ov) (hs : w.heap.size ≤ w'.heap.size) (hk : ∀ k, k < w.heap.size → w'.heap[k]? = w.heap[k]?) : PS w' B pb st VQ VC VO VF VX ov :=
  ⟨h.lt, h.g8, Nat.le_trans h.le hs, (hk pb (by have := h.lt; have := h.le; omega)).trans h.blk, h.os, own_far h.rq hk, own_far h.rc hk, own_far h.ro hk, own_far h.rf hk, own_far h.rx hk, fun i hi => own_far (h.rb i hi) hk, h.nb⟩
theorem list4B {l : List ByteArray} (h : l.length = 4) : ∃ a b c d, l = [a, b, c, d] := by
  match l, h with
  | [a, b, c, d], _ => exact ⟨a, b, c, d, rfl⟩
theorem list3B {l : List ByteArray} (h : l.length = 3) : ∃ a b c, l = [a, b, c] := by
  match l, h with
  | [a, b, c], _ => exact ⟨a, b, c, rfl⟩
theorem list8B {l : List ByteArray} (h : l.length = 8) : ∃ a b c d e f g i, l = [a, b, c, d, e, f, g, i] := by
  match l, h with
  | [a, b, c, d, e, f, g, i], _ => exact ⟨a, b, c, d, e, f, g, i, rfl⟩
theorem list1 {l : List Int} (h : l.length = 1) : ∃ a, l = [a] := by
  match l, h with
  | [a], _ => exact ⟨a, rfl⟩
theorem list2 {l : List Int} (h : l.length = 2) : ∃ a b, l = [a, b] := by
  match l, h with
  | [a, b], _ => exact ⟨a, b, rfl⟩
theorem list3 {l : List Int} (h : l.length = 3) : ∃ a b c, l = [a, b, c] := by
  match l, h with
  | [a, b, c], _ => exact ⟨a, b, c, rfl⟩
theorem list7 {l : List Int} (h : l.length = 7) : ∃ a b c d e f g, l = [a, b, c, d, e, f, g] := by
  match l, h with
  | [a, b, c, d, e, f, g], _ => exact ⟨a, b, c, d, e, f, g, rfl⟩
theorem nums_of {t : List ByteArray} {vs : List Int} (h : numsOf t = some vs) : InR vs ∧ t = vs.map itoaS := numsOf_iff.1 h
theorem of_nums {vs : List Int} (h : InR vs) : numsOf (vs.map itoaS) = some vs := numsOf_iff.2 ⟨h, rfl⟩
end Go.Proofs.YtmcgddlblhinlaaGreatDoor

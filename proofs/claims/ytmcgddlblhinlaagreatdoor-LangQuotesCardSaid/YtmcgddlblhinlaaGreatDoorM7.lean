/- The reader of the line bounded. -/
import Derived.Test.YtmcgddlblhinlaaGreatDoorH12
import Derived.Deep.WholeRow
namespace Go.Proofs.YtmcgddlblhinlaaGreatDoor
open Go.RowKit
theorem PS.setB {w : World} {B pb : Nat} {st : St} {VQ VC VO VF VX : Value} {ov : List (Bun × Value)} (h : PS w B pb st VQ VC VO VF VX ov) : PS (w.setCell ⟨pb, 5, none⟩ (.bool true)) B pb ⟨addI st.m .bnd, st.k⟩ VQ VC VO VF VX ov ∧ Frm B pb w (w.setCell ⟨pb, 5, none⟩ (.bool true)) :=
  ⟨⟨h.lt, h.g8, by simpa using h.le, by simpa [addI] using heap_set (i := 5) h.blk (.bool true), h.os, ownsRow_setCell_below h.rq h.lt _, ownsRow_setCell_below h.rc h.lt _, ownsRow_setCell_below h.ro h.lt _, ownsRow_setCell_below h.rf h.lt _, ownsRow_setCell_below h.rx h.lt _, fun i hi => ownsRow_setCell_below (h.rb i hi) h.lt _, h.nb⟩, Frm.set B pb 5 _ w h.blk (by decide)⟩
set_option maxHeartbeats 2000000 in
theorem read_bnd (pb B : Nat) (st : St) (VQ VC VO VF VX : Value) (ov : List (Bun × Value)) (s : ByteArray) (w : World) (hP : PS w B pb st VQ VC VO VF VX ov) (hc : (Lib.cut s.data.toList [32]).1 = (wordK 7).data.toList) : Calls Tryz.prog 65 #[.pointer (some ⟨pb, 0, none⟩), .string s] w (MPost w B pb st s) := by
  have HC := Lib.hid hc
  obtain ⟨hP2, hF2⟩ := hP.setB
  have HP2 := Lib.hid hP2
  have HF2 := Lib.hid hF2
  have c5 := cell_blk hP.blk 5
  have f5 := frozen_blk hP.blk 5
  simp only [List.getElem?_toArray, List.getElem?_cons_zero, List.getElem?_cons_succ] at c5
  have hl : pb < w.heap.size := Nat.lt_of_lt_of_le hP.lt hP.le
  have hst : addI st.m .bnd = addI st.m .bnd := rfl
  clear hP hP2 hF2 hc hst
  by_cases hs : s = bndS
  · subst hs
    cases hb : st.m.bd
    · have HY : Hid (IsI bndS.data.toList .bnd ∧ fitM st .bnd = true) := ⟨⟨trivial, rfl⟩, by show (!st.m.bd) = true; rw [hb]; rfl⟩
      rw [hb] at c5
      clear hb
      go_enter Tryz.func65, Tryz.ntmps65
      simp only [bndS]
      go_wp2_with fail
      go_ret
      exact ⟨true, rfl, HF2.out, fun h => (by cases h), fun _ => ⟨.bnd, _, _, _, _, _, _, HY.out.1, HY.out.2, HP2.out⟩⟩
    · have HY : Hid (fitM st .bnd = false) := by show (!st.m.bd) = false; rw [hb]; rfl
      rw [hb] at c5
      clear hb
      go_enter Tryz.func65, Tryz.ntmps65
      simp only [bndS]
      go_wp2_with fail
      go_ret
      refine ⟨false, rfl, HF2.out, fun _ x hx => ?_, fun h => by cases h⟩
      have hk := kind_of hx (by decide) (by decide) HC.out
      cases x with
      | bnd => exact HY.out
      | node | con | ord | blk | flt | otg => cases hk
  · have hq : (s.toList == bndW) = false := by
      rw [beq_eq_false_iff_ne, ByteArray.toList_eq]
      exact fun h => hs ((bs_ext h).trans rfl)
    unfold bndW at hq
    have HN : Hid (∀ x, IsI s.data.toList x → fitM st x = false) := fun x hx => by
      have hk := kind_of hx (by decide) (by decide) HC.out
      cases x with
      | bnd => exact absurd ((bs_ext hx.2.symm).trans rfl) hs
      | node | con | ord | blk | flt | otg => cases hk
    clear hs
    go_enter Tryz.func65, Tryz.ntmps65
    go_wp2_with fail
    all_goals
      go_ret
      exact ⟨false, rfl, HF2.out, fun _ => HN.out, fun h => by cases h⟩
end Go.Proofs.YtmcgddlblhinlaaGreatDoor

/- Checksums: the table. -/
import Derived.Test.YthlfhfliidhelaaGreatDoorW1
import Derived.Laws.IdiomCopy
set_option linter.unusedSimpArgs false
set_option linter.unusedVariables false
set_option linter.all false
namespace Go.Proofs.YthlfhfliidhelaaGreatDoor
open Go.RowKit
attribute [local go_sem] Oper.semAt_some
def tblK (k : Nat) : Array Value := ((List.range 256).map fun i => if i < k then Value.int .u32 ((crcT i : Nat) : Int) else Value.int .u32 0).toArray
theorem tblK_size (k : Nat) : (tblK k).size = 256 := by simp [tblK]
theorem tblK_full : tblK 256 = tblA := by
  unfold tblK tblA
  exact congrArg List.toArray (List.map_congr_left fun i hi => if_pos (List.mem_range.1 hi))
theorem tblK_set {k : Nat} (_ : k < 256) : (tblK k).setIfInBounds k (.int .u32 ((crcT k : Nat) : Int)) = tblK (k + 1) := by
  apply Array.ext
  · simp [tblK]
  · intro i h1 h2
    by_cases e : k = i
    · subst e; simp [tblK]
    · rw [Array.getElem_setIfInBounds_ne (by simpa using h1) e]
      simp only [tblK, List.getElem_toArray, List.getElem_map, List.getElem_range]
      by_cases h3 : i < k
      · rw [if_pos h3, if_pos (by omega)]
      · rw [if_neg h3, if_neg (by omega)]
theorem tbl_one : ∀ v ∈ (tblK 256).toList, v.oneCell' = true := by
  intro v hv
  simp only [tblK, List.mem_map] at hv
  obtain ⟨i, _, rfl⟩ := hv
  split <;> rfl
theorem load_row {w : World} {b : Nat} {c : Array Value} {t : TypeId} (h : w.heap[b]? = some (.cells c t (0, 0))) {n : Nat} (hn : c.size = n) : (loadCells ⟨b, 0, none⟩ n).run Tryz.prog w = .ok c w := by
  subst hn
  have := run_loadCells_list (P := Tryz.prog) w ⟨b, 0, none⟩ c.toList (fun j v hv => by
    have e : (⟨b, 0, none⟩ : Addr).add j = ⟨b, j, none⟩ := by simp [Addr.add]; omega
    rw [e, cell_of_row _ _ j _ _ _ h]
    simpa using hv)
  simpa using this
set_option maxRecDepth 100000 in
set_option maxHeartbeats 2000000 in
theorem table_ok : TableOk := by
  intro w
  go_enter Tryz.func236, Tryz.ntmps236
  go_wp2_with fail
  have hz : Tryz.zeroCells422 = tblK 0 := by kernel_rfl
  have e0 : ((w.alloc (.cells Tryz.zeroCells422 422)).alloc (.cells Tryz.zeroCells422 422)).heap[w.heap.size + 1]? = some (.cells (tblK 0) 422 (0, 0)) := by
    rw [← hz]
    have := World.alloc_heap_new (w.alloc (.cells Tryz.zeroCells422 422)) (.cells Tryz.zeroCells422 422)
    simpa using this
  have e1 : ((w.alloc (.cells Tryz.zeroCells422 422)).alloc (.cells Tryz.zeroCells422 422)).heap[w.heap.size]? = some (.cells (tblK 0) 422 (0, 0)) := by
    rw [← hz]
    exact (Below.heap_alloc _ _ _ (by simp)).trans (World.alloc_heap_new w _)
  have e2 : Below w.heap.size w ((w.alloc (.cells Tryz.zeroCells422 422)).alloc (.cells Tryz.zeroCells422 422)) := ((Below.refl _ w).alloc (Nat.le_refl _) _).alloc (by simp) _
  go_loopw [3] (fun i wr => ∃ k : Nat, k ≤ 256 ∧ i = .int .i64 k ∧ Hid (wr.heap[w.heap.size + 1]? = some (.cells (tblK k) 422 (0, 0)) ∧ wr.heap[w.heap.size]? = some (.cells (tblK 0) 422 (0, 0)) ∧ Below w.heap.size w wr)) (fun i _ => 256 - (intOf i).toNat)
  case atStart => exact ⟨0, Nat.zero_le _, rfl, e0, e1, e2⟩
  case round =>
    obtain ⟨k, hk, rfl, HI⟩ := hrel
    rename World => wr
    have HZ := Lib.hid hz
    clear e0 e1 e2 hz
    by_cases hlt : k < 256
    · have c0 : wr.cell? ⟨w.heap.size + 1, k, none⟩ = some (.int .u32 0) := (cell_of_row _ _ k _ _ _ HI.out.1).trans (by simp [tblK, hlt])
      have f0 := frozen_of_row _ _ k _ _ HI.out.1
      have hi1 : (k : Int) < 256 := by omega
      go_wp2_with fail
      refine (step_any k (by omega) _).mono ?_
      rintro e w1 ⟨rfl, hw1⟩
      obtain rfl := hw1.symm
      go_wp2_with fail
      go_roundw
      case rel =>
        refine ⟨k + 1, by omega, by go_num, ?_, ?_, ?_⟩
        · rw [← tblK_set hlt]
          obtain ⟨hlt2, hk2⟩ := Array.getElem?_eq_some_iff.1 HI.out.1
          show (World.setCell _ _ _).heap[_]? = _
          show (wr.heap.modify (w.heap.size + 1) _)[w.heap.size + 1]? = _
          rw [Array.getElem?_eq_getElem (by rw [Array.size_modify]; exact hlt2), Array.getElem_modify_self, hk2]
          rfl
        · exact (Below.heap_setCell wr ⟨w.heap.size + 1, k, none⟩ _ w.heap.size (by simp)).trans HI.out.2.1
        · exact HI.out.2.2.setCell (p := ⟨w.heap.size + 1, k, none⟩) (by show w.heap.size ≤ w.heap.size + 1; omega) _
      case measure => simp [intOf]; omega
    · obtain rfl : k = 256 := by omega
      have hinf : (Tryz.prog.info? 422).map (·.size) = some (tblK 256).size := by rw [tblK_size]; kernel_rfl
      have hall : (tblK 256).all (·.oneCell') = true := Array.all_eq_true_iff_forall_mem.2 fun v hv => tbl_one v (by simpa using hv)
      go_wp2_with (first
        | (refine wpList_load_row rfl 422 (.tmp 1) rfl (w.heap.size + 1) rfl 422 (tblK 256) (0, 0) _ HI.out.1 Tryz.underlying422 rfl hinf ?_)
        | (refine wpList_store_row rfl 422 (.tmp 0) (.tmp 12) rfl w.heap.size (tblK 256) rfl rfl 422 (tblK 0) HI.out.2.1 hinf (by rw [tblK_size, tblK_size]) hall ?_))
      refine bodyPost_ret (results_cell_row rfl _ _ w.heap.size 422 (tblK 256) (0, 0) _ rfl (setRow_heap wr w.heap.size _ _ _ _ HI.out.2.1) Tryz.underlying422 rfl hinf) rfl ?_
      exact ⟨by rw [tblK_full], HI.out.2.2.grown ⟨rfl, rfl, rfl, by simp, fun j _ hn => setRow_other wr w.heap.size j _ (fun e => hn (by rw [e]))⟩ HI.out.2.2.size (fun j e => by cases e; exact Nat.le_refl _)⟩
end Go.Proofs.YthlfhfliidhelaaGreatDoor

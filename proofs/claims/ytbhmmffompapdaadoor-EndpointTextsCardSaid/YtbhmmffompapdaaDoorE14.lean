/- The example of the chapter (awake). -/
import Derived.Test.YtbhmmffompapdaaDoorE13
namespace Go.Proofs.YtbhmmffompapdaaDoor
open Go.RowKit
def exGs : List (List Int) := [[1, 4], [], [0, 4]]
def ExPost (w : World) (e : Ending) (w' : World) : Prop := ∃ v, e = .returned v ∧ Grps w' w'.heap.size v exGs ∧ Below w.heap.size w w'
theorem heap_old {w : World} {b : Nat} {x : Obj} (h : w.heap[b]? = some x) (o : Obj) : (w.alloc o).heap[b]? = some x := (Below.heap_alloc w o b (Array.getElem?_eq_some_iff.1 h).1).trans h
theorem heap_at {w : World} {b : Nat} (o : Obj) (h : b = w.heap.size) : (w.alloc o).heap[b]? = some o := by subst h; exact heap_alloc_new w o
theorem ints_blk {w : World} {b : Nat} {t : TypeId} {xs : List Int} {B : Nat} (h : w.heap[b]? = some (.cells (xs.map (Value.int .i64)).toArray t (0, 0))) (hB : b < B) (hm : xs.length ≤ maxLen) : Ints w B (.slice (some ⟨b, 0, none⟩) xs.length xs.length) xs := by
  refine ⟨_, _, rfl, Nat.le_refl _, hm, fun _ => ⟨b, 0, rfl, hB, fun j hj => ?_⟩⟩
  rw [cell_of_row w b (0 + j) _ t (0, 0) h]
  simp [List.getD, hj]
theorem groupsEx (w : World) : Calls Tryd.prog 33 #[] w (ExPost w) := by
  go_enter Tryd.func33, Tryd.ntmps33
  go_wp2_with fail
  go_ret
  generalize hW : ((((w.alloc (Obj.cells #[Value.int IntKind.i64 1, Value.int IntKind.i64 4] 3)).alloc (Obj.cells #[] 3)).alloc (Obj.cells #[Value.int IntKind.i64 0, Value.int IntKind.i64 4] 3)).alloc (Obj.cells #[Value.slice (some { block := w.heap.size, off := 0 }) 2 2, Value.slice (some { block := w.heap.size + 1, off := 0 }) 0 0, Value.slice (some { block := w.heap.size + 1 + 1, off := 0 }) 2 2] 31)) = W
  have h0 : W.heap[w.heap.size]? = some (.cells #[.int .i64 1, .int .i64 4] 3 (0, 0)) := by rw [← hW]; exact heap_old (heap_old (heap_old (heap_at _ rfl) _) _) _
  have h1 : W.heap[w.heap.size + 1]? = some (.cells #[] 3 (0, 0)) := by rw [← hW]; exact heap_old (heap_old (heap_at _ (by simp)) _) _
  have h2 : W.heap[w.heap.size + 1 + 1]? = some (.cells #[.int .i64 0, .int .i64 4] 3 (0, 0)) := by rw [← hW]; exact heap_old (heap_at _ (by simp)) _
  have h3 : W.heap[w.heap.size + 1 + 1 + 1]? = some (.cells #[Value.slice (some { block := w.heap.size, off := 0 }) 2 2, Value.slice (some { block := w.heap.size + 1, off := 0 }) 0 0, Value.slice (some { block := w.heap.size + 1 + 1, off := 0 }) 2 2] 31 (0, 0)) := by rw [← hW]; exact heap_at _ (by simp)
  have hz : W.heap.size = w.heap.size + 4 := by rw [← hW]; simp
  have hB : Below w.heap.size w W := by rw [← hW]; (repeat' (first | (with_reducible exact Below.refl _ _) | (with_reducible refine Below.alloc ?_ ?_ _) | (with_reducible refine Below.drew ?_) | (with_reducible refine below_drewN ?_ _) | (with_reducible refine Below.setCell ?_ ?_ _) | (with_reducible refine Below.trans ?_ (Below.mono (by assumption) ?_)) | (with_reducible exact Nat.le_refl _) | omega | (simp; omega) | (simp; done)))
  clear hW
  refine ⟨_, rfl, ⟨some ⟨w.heap.size + 1 + 1 + 1, 0, none⟩, 3, rfl, by simp [exGs], by simp [maxLen], fun _ => ⟨w.heap.size + 1 + 1 + 1, 0, rfl, by omega, fun j hj => ?_⟩⟩, hB⟩
  rw [cell_of_row W _ (0 + j) _ _ (0, 0) h3]
  match j, hj with
  | 0, _ => exact ⟨_, rfl, ints_blk (xs := [1, 4]) h0 (by omega) (by simp [maxLen])⟩
  | 1, _ => exact ⟨_, rfl, ints_blk (xs := []) h1 (by omega) (by simp [maxLen])⟩
  | 2, _ => exact ⟨_, rfl, ints_blk (xs := [0, 4]) h2 (by omega) (by simp [maxLen])⟩
set_option maxHeartbeats 1000000 in
theorem awake_any (w : World) : Calls Tryd.prog 11 #[] w fun e w' => e = .returned (.bool true) ∧ Below w.heap.size w w' := by
  have HE : Hid (ofE exGs 4 = 0) := by show _ = _; decide +kernel
  have HL : Hid (ofL exGs 4 = [(1, 4), (2, 0), (2, 2)]) := by show _ = _; decide +kernel
  have HP : Hid (prS 1 4 = ⟨#[110, 111, 100, 101, 58, 52]⟩) := by show _ = _; decide +kernel
  have HQ : Hid (epE 1 4 = 0) := by show _ = _; decide +kernel
  go_enter Tryd.func11, Tryd.ntmps11
  go_wp2_with fail
  refine (groupsEx _).mono ?_
  rintro e w1 ⟨v, rfl, hg, hb1⟩
  go_wp2_with fail
  refine (of_any _ _ _ _ hg).mono ?_
  rintro e w2 ⟨v2, rfl, he, hb2⟩
  rw [HE.out]
  rw [HL.out] at he
  go_wp2_with fail
  refine (print_any _ _ _).mono ?_
  rw [HP.out, HQ.out]
  rintro e w3 ⟨rfl, hb3⟩
  go_wp2_with fail
  have he3 := eps_of_own (l := [(1, 4), (2, 0), (2, 2)]) (World.ownsRow_lit (e := 23) (size := 2) (base := 0) w3 #[.int .i64 1, .int .i64 4, .int .i64 2, .int .i64 0, .int .i64 2, .int .i64 2] 3 (by omega) (by simp [maxLen]) rfl)
  have he2 := ((he.below hb3).more hb3.size).below (w' := w3.alloc (.cells #[.int .i64 1, .int .i64 4, .int .i64 2, .int .i64 0, .int .i64 2, .int .i64 2] 23)) ((Below.refl _ _).alloc (Nat.le_refl _) _)
  refine (same_any _ _ _ _ _ _ (he2.more (by simp)) he3).mono ?_
  rintro e w4 ⟨rfl, q, rfl⟩
  go_wp2_with fail
  go_ret
  refine ⟨rfl, ?_⟩
  have h1 := hb1.size
  have h2 := hb2.size
  have h3 := hb3.size
  exact below_drewN ((hb1.trans ((hb2.mono h1).trans (hb3.mono (by omega)))).alloc (by omega) _) _
end Go.Proofs.YtbhmmffompapdaaDoor

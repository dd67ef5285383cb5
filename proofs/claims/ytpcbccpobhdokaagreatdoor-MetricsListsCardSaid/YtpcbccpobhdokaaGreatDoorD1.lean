/- How metrics are compared. -/
import Derived.Test.YtpcbccpobhdokaaGreatDoorC0
import Derived.Sort.Grow
set_option linter.unusedSimpArgs false
set_option linter.unusedVariables false
set_option linter.all false
namespace Go.Proofs.YtpcbccpobhdokaaGreatDoor
open Go.RowKit
theorem nan_int (x : Int) (w : World) : Calls Tryz.prog 96 #[.int .i64 x] w fun e w' => e = .returned (.bool false) ∧ w' = w := by
  go_enter Tryz.func96, Tryz.ntmps96
  go_wp2_with fail
  refine bodyPost_ret (by (simp [results, Tryz.results96, go_sem, *]; try rfl)) rfl ?_
  exact ⟨rfl, rfl⟩
theorem nan_str (x : ByteArray) (w : World) : Calls Tryz.prog 95 #[.string x] w fun e w' => e = .returned (.bool false) ∧ w' = w := by
  go_enter Tryz.func95, Tryz.ntmps95
  go_wp2_with fail
  refine bodyPost_ret (by (simp [results, Tryz.results95, go_sem, *]; try rfl)) rfl ?_
  exact ⟨rfl, rfl⟩
def cmpI (x y : Int) : Int := if x < y then -1 else if y < x then 1 else 0
theorem cmp_int (x y : Int) (w : World) : Calls Tryz.prog 60 #[.int .i64 x, .int .i64 y] w fun e w' => e = .returned (.int .i64 (cmpI x y)) ∧ w' = w := by
  unfold cmpI
  by_cases h1 : x < y
  · go_enter Tryz.func60, Tryz.ntmps60
    go_wp2_with (go_at_call 96; refine (nan_int _ _).mono ?_; rintro e w1 ⟨rfl, rfl⟩)
    refine bodyPost_ret (by (simp [results, Tryz.results60, go_sem, *]; try rfl)) rfl ?_
    exact ⟨rfl, rfl⟩
  · by_cases h2 : y < x
    · go_enter Tryz.func60, Tryz.ntmps60
      go_wp2_with (go_at_call 96; refine (nan_int _ _).mono ?_; rintro e w1 ⟨rfl, rfl⟩)
      refine bodyPost_ret (by (simp [results, Tryz.results60, go_sem, *]; try rfl)) rfl ?_
      exact ⟨rfl, rfl⟩
    · go_enter Tryz.func60, Tryz.ntmps60
      go_wp2_with (go_at_call 96; refine (nan_int _ _).mono ?_; rintro e w1 ⟨rfl, rfl⟩)
      refine bodyPost_ret (by (simp [results, Tryz.results60, go_sem, *]; try rfl)) rfl ?_
      exact ⟨rfl, rfl⟩
def cmpS (x y : ByteArray) : Int := if Op.bytesLess x.toList y.toList then -1 else if x.toList == y.toList then 0 else 1
theorem cmp_str (x y : ByteArray) (w : World) : Calls Tryz.prog 59 #[.string x, .string y] w fun e w' => e = .returned (.int .i64 (cmpS x y)) ∧ w' = w := by
  unfold cmpS
  cases h1 : Op.bytesLess x.toList y.toList with
  | true =>
    go_enter Tryz.func59, Tryz.ntmps59
    go_wp2_with (go_at_call 95; refine (nan_str _ _).mono ?_; rintro e w1 ⟨rfl, rfl⟩)
    refine bodyPost_ret (by (simp [results, Tryz.results59, go_sem, *]; try rfl)) rfl ?_
    exact ⟨rfl, rfl⟩
  | false =>
    cases h2 : x.toList == y.toList with
    | true =>
      go_enter Tryz.func59, Tryz.ntmps59
      go_wp2_with (go_at_call 95; refine (nan_str _ _).mono ?_; rintro e w1 ⟨rfl, rfl⟩)
      refine bodyPost_ret (by (simp [results, Tryz.results59, go_sem, *]; try rfl)) rfl ?_
      exact ⟨rfl, rfl⟩
    | false =>
      go_enter Tryz.func59, Tryz.ntmps59
      go_wp2_with (go_at_call 95; refine (nan_str _ _).mono ?_; rintro e w1 ⟨rfl, rfl⟩)
      refine bodyPost_ret (by (simp [results, Tryz.results59, go_sem, *]; try rfl)) rfl ?_
      exact ⟨rfl, rfl⟩
def orI (a b : Int) : Int := if a = 0 then b else a
theorem or_two (a b : Int) (B c : Nat) (w : World) (h0 : w.cell? ⟨B, 0, none⟩ = some (.int .i64 a)) (h1 : w.cell? ⟨B, 1, none⟩ = some (.int .i64 b)) : Calls Tryz.prog 58 #[.slice (some ⟨B, 0, none⟩) 2 c] w fun e w' => e = .returned (.int .i64 (orI a b)) ∧ w' = w := by
  unfold orI
  by_cases ha : a = 0
  · by_cases hb : b = 0
    · subst ha hb
      go_enter Tryz.func58, Tryz.ntmps58
      go_wp2_with fail
      refine wp_loop_rounds 3 ?_
      rw [rounds_succ]
      go_wp2_with fail
      rw [rounds_succ]
      go_wp2_with fail
      rw [rounds_succ]
      go_wp2_with fail
      refine bodyPost_ret (by (simp [results, Tryz.results58, go_sem, *]; try rfl)) rfl ?_
      exact ⟨rfl, rfl⟩
    · subst ha
      go_enter Tryz.func58, Tryz.ntmps58
      go_wp2_with fail
      refine wp_loop_rounds 3 ?_
      rw [rounds_succ]
      go_wp2_with fail
      rw [rounds_succ]
      go_wp2_with fail
      refine bodyPost_ret (by (simp [results, Tryz.results58, go_sem, *]; try rfl)) rfl ?_
      exact ⟨by simp, rfl⟩
  · go_enter Tryz.func58, Tryz.ntmps58
    go_wp2_with fail
    refine wp_loop_rounds 3 ?_
    rw [rounds_succ]
    go_wp2_with fail
    refine bodyPost_ret (by (simp [results, Tryz.results58, go_sem, *]; try rfl)) rfl ?_
    exact ⟨by simp, rfl⟩
def cmpM (n n' : ByteArray) (i i' : Int) : Int := orI (cmpS n n') (cmpI i i')
open Go.Sort Go.Lib in
def Gr (w w' : World) : Prop := ∃ q os, w' = grow (w.drewN q) os
open Go.Sort Go.Lib in
theorem Gr.refl (w : World) : Gr w w := ⟨0, #[], by rw [grow_empty]; rfl⟩
open Go.Sort Go.Lib in
theorem Gr.drewN {w w' : World} (h : Gr w w') (n : Nat) : Gr w (w'.drewN n) := by
  obtain ⟨q, os, rfl⟩ := h
  exact ⟨q + n, os, by simp only [grow, World.drewN]; rw [Nat.add_assoc]⟩
theorem Gr.drew {w w' : World} (h : Gr w w') : Gr w w'.drew := h.drewN 1
open Go.Sort Go.Lib in
theorem Gr.alloc {w w' : World} (h : Gr w w') (o : Obj) : Gr w (w'.alloc o) := by
  obtain ⟨q, os, rfl⟩ := h
  exact ⟨q, os ++ #[o], by rw [alloc_eq_grow, grow_grow]⟩
open Go.Sort Go.Lib in
theorem Gr.trans {w w' w'' : World} (h : Gr w w') (h' : Gr w' w'') : Gr w w'' := by
  obtain ⟨q, os, rfl⟩ := h
  obtain ⟨q', os', rfl⟩ := h'
  refine ⟨q + q', os ++ os', ?_⟩
  show grow ((grow (w.drewN q) os).drewN q') os' = _
  rw [show (grow (w.drewN q) os).drewN q' = grow (w.drewN (q + q')) os by simp only [grow, World.drewN]; rw [Nat.add_assoc], grow_grow]
theorem ca {w : World} {a : Addr} {v : Value} {o : Obj} (h : w.cell? a = some v) : (w.alloc o).cell? a = some v := by
  have hb : a.block < w.heap.size := by
    cases hx : w.heap[a.block]? with
    | none => unfold World.cell? at h; rw [hx] at h; cases h
    | some y => exact (Array.getElem?_eq_some_iff.1 hx).1
  exact (((Below.refl w.heap.size w).alloc (Nat.le_refl _) o).cell (p := a) hb).trans h
set_option maxHeartbeats 4000000 in
theorem compare_any (n n' : ByteArray) (i i' a a' b b' : Int) (w : World) : Calls Tryz.prog 25 #[.agg #[.string n, .int .i64 i, .int .i64 a, .int .i64 b], .agg #[.string n', .int .i64 i', .int .i64 a', .int .i64 b']] w fun e w' => e = .returned (.int .i64 (cmpM n n' i i')) ∧ Gr w w' := by
  go_enter Tryz.func25, Tryz.ntmps25
  go_upto_region 1 with fail
  have hG : Gr w ((w.alloc (.cells #[.string n, .int .i64 i, .int .i64 a, .int .i64 b] 37)).alloc (.cells #[.string n', .int .i64 i', .int .i64 a', .int .i64 b'] 37)) := ((Gr.refl w).alloc _).alloc _
  have c0 : ∀ j, ((w.alloc (.cells #[.string n, .int .i64 i, .int .i64 a, .int .i64 b] 37)).alloc (.cells #[.string n', .int .i64 i', .int .i64 a', .int .i64 b'] 37)).cell? ⟨w.heap.size, j, none⟩ = (#[.string n, .int .i64 i, .int .i64 a, .int .i64 b] : Array Value)[j]? := fun j => (World.cell?_of_block (a := ⟨w.heap.size, j, none⟩) (Below.heap_alloc _ _ w.heap.size (by simp))).trans (cell_of_row _ _ j _ _ _ (heap_alloc_last w _))
  have c1 : ∀ j, ((w.alloc (.cells #[.string n, .int .i64 i, .int .i64 a, .int .i64 b] 37)).alloc (.cells #[.string n', .int .i64 i', .int .i64 a', .int .i64 b'] 37)).cell? ⟨w.heap.size + 1, j, none⟩ = (#[.string n', .int .i64 i', .int .i64 a', .int .i64 b'] : Array Value)[j]? := fun j => cell_of_row _ _ j _ _ _ (by have := heap_alloc_last (w.alloc (.cells #[.string n, .int .i64 i, .int .i64 a, .int .i64 b] 37)) (.cells #[.string n', .int .i64 i', .int .i64 a', .int .i64 b'] 37); simpa using this)
  have k0 := c0 0
  have k1 := c0 1
  have l0 := c1 0
  have l1 := c1 1
  clear c0 c1
  generalize (w.alloc (.cells #[.string n, .int .i64 i, .int .i64 a, .int .i64 b] 37)).alloc (.cells #[.string n', .int .i64 i', .int .i64 a', .int .i64 b'] 37) = W at *
  simp only [List.getElem?_toArray, List.getElem?_cons_zero, List.getElem?_cons_succ] at k0 k1 l0 l1
  go_region_held3 (fun w' => w'.cell? ⟨w.heap.size, 0, none⟩ = some (.string n) ∧ w'.cell? ⟨w.heap.size, 1, none⟩ = some (.int .i64 i) ∧ w'.cell? ⟨w.heap.size + 1, 0, none⟩ = some (.string n') ∧ w'.cell? ⟨w.heap.size + 1, 1, none⟩ = some (.int .i64 i') ∧ Gr w w')
    ((repeat' (with_reducible apply And.intro)) <;> first | assumption | exact Gr.drew (by assumption) | exact Gr.drewN (by assumption) _ | exact Gr.alloc (by assumption) _ | exact ca (by assumption) | exact Gr.alloc (Gr.drew (by assumption)) _ | exact Gr.alloc (Gr.drewN (by assumption) _) _)
    (first
     | (go_at_call 59; refine (cmp_str _ _ _).mono ?_; rintro e w2 ⟨rfl, rfl⟩)
     | (go_at_call 60; refine (cmp_int _ _ _).mono ?_; rintro e w2 ⟨rfl, rfl⟩)
     | (go_at_call 58; refine (or_two _ _ _ _ _ (cell_of_row _ _ 0 _ _ _ (heap_alloc_last _ _)) (cell_of_row _ _ 1 _ _ _ (heap_alloc_last _ _))).mono ?_; rintro e w2 ⟨rfl, rfl⟩))
  all_goals
    rename_i hh
    obtain ⟨_, _, _, _, hg⟩ := hh
    go_wp2_with fail
    refine bodyPost_ret (by (simp [results, Tryz.results25, go_sem, *]; try rfl)) rfl ?_
    exact ⟨rfl, hg⟩
end Go.Proofs.YtpcbccpobhdokaaGreatDoor

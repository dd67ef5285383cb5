/- The lists of integers of an archive. -/
import Derived.Test.YthlfhfliidhelaaGreatDoorK2e
import Derived.Test.YthlfhfliidhelaaGreatDoorRK
import Derived.Deep.AppendLies
import Derived.Deep.DeepMust
set_option linter.unusedSimpArgs false
set_option linter.unusedVariables false
set_option linter.all false
namespace Go.Proofs.YthlfhfliidhelaaGreatDoor
open Go.RowKit
attribute [local go_sem] Oper.semAt_some
def ListsPost (a : Arc) (w : World) (e : Ending) (w' : World) : Prop :=
  Below w.heap.size w w' ∧ ∃ V0 V1 V2 l0 l1 l2, e = .returned (.agg #[V0, V1, V2]) ∧ Ints w' w'.heap.size V0 l0 ∧ Ints w' w'.heap.size V1 l1 ∧ Ints w' w'.heap.size V2 l2 ∧ l0.length ≤ 8000 ∧ l1.length ≤ 8000 ∧ l2.length ≤ 8000 ∧ l0 = tksL a.tk ∧ l1 = ansL a.an ∧ l2 = demsL a.dm
def F0 (v : Value) : Array Value := #[v, .slice none 0 0, .slice none 0 0]
def F1 (V0 v : Value) : Array Value := #[V0, v, .slice none 0 0]
def F2 (V0 V1 v : Value) : Array Value := #[V0, V1, v]
set_option maxRecDepth 100000 in
set_option maxHeartbeats 8000000 in
theorem lists_any (a : Arc) (VT VA VD : Value) (w : World) (hG : GB a) (h : ArcAt w w.heap.size VT VA VD a) : Calls Tryz.prog 14 #[.agg #[.string a.ms, .string a.lg, VT, VA, VD]] w (ListsPost a w) := by
  obtain ⟨AT, cT, rfl, hT1, hT2, hT3⟩ := h.tk
  obtain ⟨AA, cA, rfl, hA1, hA2, hA3⟩ := h.an
  obtain ⟨AD, cD, rfl, hD1, hD2, hD3⟩ := h.dm
  have HT := Lib.hid hT3
  have HA := Lib.hid hA3
  have HD := Lib.hid hD3
  clear hT3 hA3 hD3 h
  unfold maxLen at hT2 hA2 hD2
  have gtk := hG.tk
  have gan := hG.an
  have gdm := hG.dm
  have HG := Lib.hid hG
  clear hG
  obtain ⟨i0, hi, hz0, hz1, hz2⟩ := info_parts info3
  have HI : Hid ((Tryz.prog.info? 3 = some i0) ∧ i0.zero = some (.int .i64 0) ∧ i0.size = 1 ∧ i0.bytes = 8) := ⟨hi, hz0, hz1, hz2⟩
  clear hi hz0 hz1 hz2
  go_enter Tryz.func14, Tryz.ntmps14
  go_wp2_with fail
  have hbox : (((w.alloc (.cells #[.string a.ms, .string a.lg, .slice AT a.tk.length cT, .slice AA a.an.length cA, .slice AD a.dm.length cD] 26)).alloc (.cells #[.slice none 0 0, .slice none 0 0, .slice none 0 0] 67)).alloc (.cells #[.slice none 0 0, .slice none 0 0, .slice none 0 0] 67)).heap[w.heap.size]? = some (.cells #[.string a.ms, .string a.lg, .slice AT a.tk.length cT, .slice AA a.an.length cA, .slice AD a.dm.length cD] 26 (0, 0)) := (Below.heap_alloc _ _ _ (by simp; omega)).trans ((Below.heap_alloc _ _ _ (by simp)).trans (World.alloc_heap_new w _))
  have hob : (((w.alloc (.cells #[.string a.ms, .string a.lg, .slice AT a.tk.length cT, .slice AA a.an.length cA, .slice AD a.dm.length cD] 26)).alloc (.cells #[.slice none 0 0, .slice none 0 0, .slice none 0 0] 67)).alloc (.cells #[.slice none 0 0, .slice none 0 0, .slice none 0 0] 67)).heap[w.heap.size + 1 + 1]? = some (.cells (F0 (.slice none 0 0)) 67 (0, 0)) := by
    have := World.alloc_heap_new ((w.alloc (.cells #[.string a.ms, .string a.lg, .slice AT a.tk.length cT, .slice AA a.an.length cA, .slice AD a.dm.length cD] 26)).alloc (.cells #[.slice none 0 0, .slice none 0 0, .slice none 0 0] 67)) (.cells #[.slice none 0 0, .slice none 0 0, .slice none 0 0] 67)
    simpa [F0] using this
  have hB0 : Below w.heap.size w (((w.alloc (.cells #[.string a.ms, .string a.lg, .slice AT a.tk.length cT, .slice AA a.an.length cA, .slice AD a.dm.length cD] 26)).alloc (.cells #[.slice none 0 0, .slice none 0 0, .slice none 0 0] 67)).alloc (.cells #[.slice none 0 0, .slice none 0 0, .slice none 0 0] 67)) := (((Below.refl _ w).alloc (Nat.le_refl _) _).alloc (by simp) _).alloc (by simp; omega) _
  have hsz : (((w.alloc (.cells #[.string a.ms, .string a.lg, .slice AT a.tk.length cT, .slice AA a.an.length cA, .slice AD a.dm.length cD] 26)).alloc (.cells #[.slice none 0 0, .slice none 0 0, .slice none 0 0] 67)).alloc (.cells #[.slice none 0 0, .slice none 0 0, .slice none 0 0] 67)).heap.size = w.heap.size + 3 := by simp
  have hres : (((w.alloc (.cells #[.string a.ms, .string a.lg, .slice AT a.tk.length cT, .slice AA a.an.length cA, .slice AD a.dm.length cD] 26)).alloc (.cells #[.slice none 0 0, .slice none 0 0, .slice none 0 0] 67)).alloc (.cells #[.slice none 0 0, .slice none 0 0, .slice none 0 0] 67)).heap[w.heap.size + 1]? = some (.cells #[.slice none 0 0, .slice none 0 0, .slice none 0 0] 67 (0, 0)) := (Below.heap_alloc _ _ _ (by simp)).trans (news_at _ _ (by simp) _)
  generalize ((w.alloc (.cells #[.string a.ms, .string a.lg, .slice AT a.tk.length cT, .slice AA a.an.length cA, .slice AD a.dm.length cD] 26)).alloc (.cells #[.slice none 0 0, .slice none 0 0, .slice none 0 0] 67)).alloc (.cells #[.slice none 0 0, .slice none 0 0, .slice none 0 0] 67) = W3 at *
  go_loopw [22] (fun i wr => ∃ k : Nat, k ≤ a.tk.length ∧ i = .int .i64 k ∧ Hid (Ph W3 (w.heap.size + 1 + 1) F0 wr (59 * k) (tksL (a.tk.take k)))) (fun i _ => a.tk.length - (intOf i).toNat)
  case atStart => exact ⟨0, Nat.zero_le _, rfl, (ph_new hob).to (by omega) (by simp [tksL])⟩
  case round =>
    obtain ⟨k, hk, rfl, HP⟩ := hrel
    have hBr := below_of hB0 HP.out.gr (by omega)
    have HBR := Lib.hid hBr
    by_cases hlt : k < a.tk.length
    · obtain ⟨b, o, rfl, hb, hcell⟩ := HT.out (by omega)
      have hx := hcell k hlt
      have hhs := HG.out.hs k hlt
      have ec : ∀ o, wr.cell? ⟨b, o, none⟩ = w.cell? ⟨b, o, none⟩ := fun o => hBr.cell (p := ⟨b, o, none⟩) hb
      clear hcell hBr
      generalize hxe : a.tk.getD k ⟨0, 0, 0, 0, 0, 0, 0, false, [], 0, 0⟩ = x at *
      have HXE := Lib.hid hxe
      have HLT := Lib.hid hlt
      clear hxe
      obtain ⟨g0, g1, g2, g3, g4, g5, g6, g7, ⟨U, g8, hU⟩, g9, g10⟩ := hx
      obtain ⟨AU, cU, rfl, hU1, hU2, hU3⟩ := hU
      have h0 := (ec _).trans g0
      have h1 := (ec _).trans g1
      have h2 := (ec _).trans g2
      have h3 := (ec _).trans g3
      have h4 := (ec _).trans g4
      have h5 := (ec _).trans g5
      have h6 := (ec _).trans g6
      have h7 := (ec _).trans g7
      have h8 := (ec _).trans g8
      have h9 := (ec _).trans g9
      have h10 := (ec _).trans g10
      clear ec g0 g1 g2 g3 g4 g5 g6 g7 g8 g9 g10
      have HU := Lib.hid hU3
      clear hU3
      unfold maxLen at hU2
      go_wp2_with fail
      have hP2 : Ph W3 (w.heap.size + 1 + 1) F0 ((wr.alloc (.cells #[.int .i64 x.n, .int .i64 x.s, .int .i64 x.d, .int .i64 x.z, .int .i64 x.r, .int .i64 x.e, .int .i64 x.p, .bool x.cu, .slice AU x.hs.length cU, .int .i64 x.st, .int .i64 x.un] 37)).alloc (.cells #[.int .i64 x.s, .int .i64 x.d, .int .i64 x.z, .int .i64 x.r, .int .i64 x.e, .int .i64 x.p, .bool x.cu] 34)) (59 * k) (tksL (a.tk.take k)) := (HP.out.alloc _).alloc _
      have t1 : ((wr.alloc (.cells #[.int .i64 x.n, .int .i64 x.s, .int .i64 x.d, .int .i64 x.z, .int .i64 x.r, .int .i64 x.e, .int .i64 x.p, .bool x.cu, .slice AU x.hs.length cU, .int .i64 x.st, .int .i64 x.un] 37)).alloc (.cells #[.int .i64 x.s, .int .i64 x.d, .int .i64 x.z, .int .i64 x.r, .int .i64 x.e, .int .i64 x.p, .bool x.cu] 34)).heap[wr.heap.size]? = some (.cells #[.int .i64 x.n, .int .i64 x.s, .int .i64 x.d, .int .i64 x.z, .int .i64 x.r, .int .i64 x.e, .int .i64 x.p, .bool x.cu, .slice AU x.hs.length cU, .int .i64 x.st, .int .i64 x.un] 37 (0, 0)) := (Below.heap_alloc _ _ _ (by simp)).trans (World.alloc_heap_new wr _)
      have t2 : ((wr.alloc (.cells #[.int .i64 x.n, .int .i64 x.s, .int .i64 x.d, .int .i64 x.z, .int .i64 x.r, .int .i64 x.e, .int .i64 x.p, .bool x.cu, .slice AU x.hs.length cU, .int .i64 x.st, .int .i64 x.un] 37)).alloc (.cells #[.int .i64 x.s, .int .i64 x.d, .int .i64 x.z, .int .i64 x.r, .int .i64 x.e, .int .i64 x.p, .bool x.cu] 34)).heap[wr.heap.size + 1]? = some (.cells #[.int .i64 x.s, .int .i64 x.d, .int .i64 x.z, .int .i64 x.r, .int .i64 x.e, .int .i64 x.p, .bool x.cu] 34 (0, 0)) := by
        have := World.alloc_heap_new (wr.alloc (.cells #[.int .i64 x.n, .int .i64 x.s, .int .i64 x.d, .int .i64 x.z, .int .i64 x.r, .int .i64 x.e, .int .i64 x.p, .bool x.cu, .slice AU x.hs.length cU, .int .i64 x.st, .int .i64 x.un] 37)) (.cells #[.int .i64 x.s, .int .i64 x.d, .int .i64 x.z, .int .i64 x.r, .int .i64 x.e, .int .i64 x.p, .bool x.cu] 34)
        simpa using this
      clear h0 h1 h2 h3 h4 h5 h6 h7 h8 h9 h10
      generalize (wr.alloc (.cells #[.int .i64 x.n, .int .i64 x.s, .int .i64 x.d, .int .i64 x.z, .int .i64 x.r, .int .i64 x.e, .int .i64 x.p, .bool x.cu, .slice AU x.hs.length cU, .int .i64 x.st, .int .i64 x.un] 37)).alloc (.cells #[.int .i64 x.s, .int .i64 x.d, .int .i64 x.z, .int .i64 x.r, .int .i64 x.e, .int .i64 x.p, .bool x.cu] 34) = Y at *
      obtain ⟨gr, v, l, ⟨hl, hll⟩, hobY, hown⟩ := hP2
      have HLL := Lib.hid hll
      clear hll
      refine wp_region_last (fun w' => w'.cell? ⟨w.heap.size + 1 + 1, 0, none⟩ = some v ∧ w'.cell? ⟨wr.heap.size, 0, none⟩ = some (.int .i64 x.n) ∧ w'.cell? ⟨wr.heap.size, 8, none⟩ = some (.slice AU x.hs.length cU) ∧ w'.cell? ⟨wr.heap.size, 9, none⟩ = some (.int .i64 x.st) ∧ w'.cell? ⟨wr.heap.size, 10, none⟩ = some (.int .i64 x.un) ∧ w'.cell? ⟨wr.heap.size + 1, 0, none⟩ = some (.int .i64 x.s) ∧ w'.cell? ⟨wr.heap.size + 1, 1, none⟩ = some (.int .i64 x.d) ∧ w'.cell? ⟨wr.heap.size + 1, 2, none⟩ = some (.int .i64 x.z) ∧ w'.cell? ⟨wr.heap.size + 1, 3, none⟩ = some (.int .i64 x.r) ∧ w'.cell? ⟨wr.heap.size + 1, 4, none⟩ = some (.int .i64 x.e) ∧ w'.cell? ⟨wr.heap.size + 1, 5, none⟩ = some (.int .i64 x.p) ∧ w'.cell? ⟨wr.heap.size + 1, 6, none⟩ = some (.bool x.cu)) 29 (by kernel_rfl) ⟨cell_of_row _ _ 0 _ _ _ hobY, cell_of_row _ _ 0 _ _ _ t1, cell_of_row _ _ 8 _ _ _ t1, cell_of_row _ _ 9 _ _ _ t1, cell_of_row _ _ 10 _ _ _ t1, cell_of_row _ _ 0 _ _ _ t2, cell_of_row _ _ 1 _ _ _ t2, cell_of_row _ _ 2 _ _ _ t2, cell_of_row _ _ 3 _ _ _ t2, cell_of_row _ _ 4 _ _ _ t2, cell_of_row _ _ 5 _ _ _ t2, cell_of_row _ _ 6 _ _ _ t2⟩ (fun hHeld => ?_)
      (refine wpAnyK_take (i := 0) (v := ?_) rfl rfl (by kernel_rfl) (by kernel_rfl) (by kernel_rfl) (by kernel_rfl) (fun _ _ _ h => h) (Or.inl ⟨by kernel_rfl, fun w0 hSw => ?_⟩) hHeld ?_; rotate_left; (focus ((try dsimp only at hSw); simp only [List.getElem_toArray, List.getElem_cons_zero, List.getElem_cons_succ]; (first | (go_simp; done) | (go_simp; with_reducible rfl)))); (try simp only [List.getElem_toArray, List.getElem_cons_zero, List.getElem_cons_succ, Act.put, List.setIfInBounds_toArray, List.set_cons_zero, List.set_cons_succ]))
      (refine wpAnyK_take (i := 1) (v := ?_) rfl rfl (by kernel_rfl) (by kernel_rfl) (by kernel_rfl) (by kernel_rfl) (fun _ _ _ h => h) (Or.inl ⟨by kernel_rfl, fun w0 hSw => ?_⟩) hHeld ?_; rotate_left; (focus ((try dsimp only at hSw); simp only [List.getElem_toArray, List.getElem_cons_zero, List.getElem_cons_succ]; (first | (go_simp; done) | (go_simp; with_reducible rfl)))); (try simp only [List.getElem_toArray, List.getElem_cons_zero, List.getElem_cons_succ, Act.put, List.setIfInBounds_toArray, List.set_cons_zero, List.set_cons_succ]))
      (refine wpAnyK_take (i := 2) (v := ?_) rfl rfl (by kernel_rfl) (by kernel_rfl) (by kernel_rfl) (by kernel_rfl) (fun _ _ _ h => h) (Or.inl ⟨by kernel_rfl, fun w0 hSw => ?_⟩) hHeld ?_; rotate_left; (focus ((try dsimp only at hSw); simp only [List.getElem_toArray, List.getElem_cons_zero, List.getElem_cons_succ]; (first | (go_simp; done) | (go_simp; with_reducible rfl)))); (try simp only [List.getElem_toArray, List.getElem_cons_zero, List.getElem_cons_succ, Act.put, List.setIfInBounds_toArray, List.set_cons_zero, List.set_cons_succ]))
      (refine wpAnyK_take (i := 3) (v := ?_) rfl rfl (by kernel_rfl) (by kernel_rfl) (by kernel_rfl) (by kernel_rfl) (fun _ _ _ h => h) (Or.inl ⟨by kernel_rfl, fun w0 hSw => ?_⟩) hHeld ?_; rotate_left; (focus ((try dsimp only at hSw); simp only [List.getElem_toArray, List.getElem_cons_zero, List.getElem_cons_succ]; (first | (go_simp; done) | (go_simp; with_reducible rfl)))); (try simp only [List.getElem_toArray, List.getElem_cons_zero, List.getElem_cons_succ, Act.put, List.setIfInBounds_toArray, List.set_cons_zero, List.set_cons_succ]))
      (refine wpAnyK_take (i := 4) (v := ?_) rfl rfl (by kernel_rfl) (by kernel_rfl) (by kernel_rfl) (by kernel_rfl) (fun _ _ _ h => h) (Or.inl ⟨by kernel_rfl, fun w0 hSw => ?_⟩) hHeld ?_; rotate_left; (focus ((try dsimp only at hSw); simp only [List.getElem_toArray, List.getElem_cons_zero, List.getElem_cons_succ]; (first | (go_simp; done) | (go_simp; with_reducible rfl)))); (try simp only [List.getElem_toArray, List.getElem_cons_zero, List.getElem_cons_succ, Act.put, List.setIfInBounds_toArray, List.set_cons_zero, List.set_cons_succ]))
      (refine wpAnyK_take (i := 5) (v := ?_) rfl rfl (by kernel_rfl) (by kernel_rfl) (by kernel_rfl) (by kernel_rfl) (fun _ _ _ h => h) (Or.inl ⟨by kernel_rfl, fun w0 hSw => ?_⟩) hHeld ?_; rotate_left; (focus ((try dsimp only at hSw); simp only [List.getElem_toArray, List.getElem_cons_zero, List.getElem_cons_succ]; (first | (go_simp; done) | (go_simp; with_reducible rfl)))); (try simp only [List.getElem_toArray, List.getElem_cons_zero, List.getElem_cons_succ, Act.put, List.setIfInBounds_toArray, List.set_cons_zero, List.set_cons_succ]))
      (refine wpAnyK_take (i := 6) (v := ?_) rfl rfl (by kernel_rfl) (by kernel_rfl) (by kernel_rfl) (by kernel_rfl) (fun _ _ _ h => h) (Or.inl ⟨by kernel_rfl, fun w0 hSw => ?_⟩) hHeld ?_; rotate_left; (focus ((try dsimp only at hSw); simp only [List.getElem_toArray, List.getElem_cons_zero, List.getElem_cons_succ]; (first | (go_simp; done) | (go_simp; with_reducible rfl)))); (try simp only [List.getElem_toArray, List.getElem_cons_zero, List.getElem_cons_succ, Act.put, List.setIfInBounds_toArray, List.set_cons_zero, List.set_cons_succ]))
      (refine wpAnyK_take (i := 7) (v := ?_) rfl rfl (by kernel_rfl) (by kernel_rfl) (by kernel_rfl) (by kernel_rfl) (fun _ _ _ h => h) (Or.inl ⟨by kernel_rfl, fun w0 hSw => ?_⟩) hHeld ?_; rotate_left; (focus ((try dsimp only at hSw); simp only [List.getElem_toArray, List.getElem_cons_zero, List.getElem_cons_succ]; (first | (go_simp; done) | (go_simp; with_reducible rfl)))); (try simp only [List.getElem_toArray, List.getElem_cons_zero, List.getElem_cons_succ, Act.put, List.setIfInBounds_toArray, List.set_cons_zero, List.set_cons_succ]))
      (refine wpAnyK_take (i := 8) (v := ?_) rfl rfl (by kernel_rfl) (by kernel_rfl) (by kernel_rfl) (by kernel_rfl) (fun _ _ _ h => h) (Or.inl ⟨by kernel_rfl, fun w0 hSw => ?_⟩) hHeld ?_; rotate_left; (focus ((try dsimp only at hSw); simp only [List.getElem_toArray, List.getElem_cons_zero, List.getElem_cons_succ]; (first | (go_simp; done) | (go_simp; with_reducible rfl)))); (try simp only [List.getElem_toArray, List.getElem_cons_zero, List.getElem_cons_succ, Act.put, List.setIfInBounds_toArray, List.set_cons_zero, List.set_cons_succ]))
      (refine wpAnyK_take (i := 9) (v := ?_) rfl rfl (by kernel_rfl) (by kernel_rfl) (by kernel_rfl) (by kernel_rfl) (fun _ _ _ h => h) (Or.inl ⟨by kernel_rfl, fun w0 hSw => ?_⟩) hHeld ?_; rotate_left; (focus ((try dsimp only at hSw); simp only [List.getElem_toArray, List.getElem_cons_zero, List.getElem_cons_succ]; (first | (go_simp; done) | (go_simp; with_reducible rfl)))); (try simp only [List.getElem_toArray, List.getElem_cons_zero, List.getElem_cons_succ, Act.put, List.setIfInBounds_toArray, List.set_cons_zero, List.set_cons_succ]))
      (refine wpAnyK_take (i := 10) (v := ?_) rfl rfl (by kernel_rfl) (by kernel_rfl) (by kernel_rfl) (by kernel_rfl) (fun _ _ _ h => h) (Or.inl ⟨by kernel_rfl, fun w0 hSw => ?_⟩) hHeld ?_; rotate_left; (focus ((try dsimp only at hSw); simp only [List.getElem_toArray, List.getElem_cons_zero, List.getElem_cons_succ]; (first | (go_simp; done) | (go_simp; with_reducible rfl)))); (try simp only [List.getElem_toArray, List.getElem_cons_zero, List.getElem_cons_succ, Act.put, List.setIfInBounds_toArray, List.set_cons_zero, List.set_cons_succ]))
      (refine wpAnyK_take (i := 11) (v := ?_) rfl rfl (by kernel_rfl) (by kernel_rfl) (by kernel_rfl) (by kernel_rfl) (fun _ _ _ h => h) (Or.inl ⟨by kernel_rfl, fun w0 hSw => ?_⟩) hHeld ?_; rotate_left; (focus ((try dsimp only at hSw); simp only [List.getElem_toArray, List.getElem_cons_zero, List.getElem_cons_succ]; (first | (go_simp; done) | (go_simp; with_reducible rfl)))); (try simp only [List.getElem_toArray, List.getElem_cons_zero, List.getElem_cons_succ, Act.put, List.setIfInBounds_toArray, List.set_cons_zero, List.set_cons_succ]))
      (refine wpAnyK_take (i := 12) (v := ?_) rfl rfl (by kernel_rfl) (by kernel_rfl) (by kernel_rfl) (by kernel_rfl) (fun _ _ _ h => h) (Or.inl ⟨by kernel_rfl, fun w0 hSw => ?_⟩) hHeld ?_; rotate_left; (focus ((try dsimp only at hSw); simp only [List.getElem_toArray, List.getElem_cons_zero, List.getElem_cons_succ]; (first | (go_simp; done) | (go_simp; with_reducible rfl)))); (try simp only [List.getElem_toArray, List.getElem_cons_zero, List.getElem_cons_succ, Act.put, List.setIfInBounds_toArray, List.set_cons_zero, List.set_cons_succ]))
      (refine wpAnyK_take (i := 13) (v := ?_) rfl rfl (by kernel_rfl) (by kernel_rfl) (by kernel_rfl) (by kernel_rfl) (fun _ _ _ h => h) (Or.inl ⟨by kernel_rfl, fun w0 hSw => ?_⟩) hHeld ?_; rotate_left; (focus ((try dsimp only at hSw); simp only [List.getElem_toArray, List.getElem_cons_zero, List.getElem_cons_succ]; (first | (go_simp; done) | (go_simp; with_reducible rfl)))); (try simp only [List.getElem_toArray, List.getElem_cons_zero, List.getElem_cons_succ, Act.put, List.setIfInBounds_toArray, List.set_cons_zero, List.set_cons_succ]))
      (refine wpAnyK_take (i := 14) (v := ?_) rfl rfl (by kernel_rfl) (by kernel_rfl) (by kernel_rfl) (by kernel_rfl) (fun _ _ _ h => h) (Or.inl ⟨by kernel_rfl, fun w0 hSw => ?_⟩) hHeld ?_; rotate_left; (focus ((try dsimp only at hSw); simp only [List.getElem_toArray, List.getElem_cons_zero, List.getElem_cons_succ]; (first | (go_simp; done) | (go_simp; with_reducible rfl)))); (try simp only [List.getElem_toArray, List.getElem_cons_zero, List.getElem_cons_succ, Act.put, List.setIfInBounds_toArray, List.set_cons_zero, List.set_cons_succ]))
      (refine wpAnyK_take (i := 15) (v := ?_) rfl rfl (by kernel_rfl) (by kernel_rfl) (by kernel_rfl) (by kernel_rfl) (fun _ _ _ h => h) (Or.inl ⟨by kernel_rfl, fun w0 hSw => ?_⟩) hHeld ?_; rotate_left; (focus ((try dsimp only at hSw); simp only [List.getElem_toArray, List.getElem_cons_zero, List.getElem_cons_succ]; (first | (go_simp; done) | (go_simp; with_reducible rfl)))); (try simp only [List.getElem_toArray, List.getElem_cons_zero, List.getElem_cons_succ, Act.put, List.setIfInBounds_toArray, List.set_cons_zero, List.set_cons_succ]))
      (refine wpAnyK_take (i := 16) (v := ?_) rfl rfl (by kernel_rfl) (by kernel_rfl) (by kernel_rfl) (by kernel_rfl) (fun _ _ _ h => h) (Or.inl ⟨by kernel_rfl, fun w0 hSw => ?_⟩) hHeld ?_; rotate_left; (focus ((try dsimp only at hSw); simp only [List.getElem_toArray, List.getElem_cons_zero, List.getElem_cons_succ]; (first | (go_simp; done) | (go_simp; with_reducible rfl)))); (try simp only [List.getElem_toArray, List.getElem_cons_zero, List.getElem_cons_succ, Act.put, List.setIfInBounds_toArray, List.set_cons_zero, List.set_cons_succ]))
      (refine wpAnyK_take (i := 17) (v := ?_) rfl rfl (by kernel_rfl) (by kernel_rfl) (by kernel_rfl) (by kernel_rfl) (fun _ _ _ h => h) (Or.inl ⟨by kernel_rfl, fun w0 hSw => ?_⟩) hHeld ?_; rotate_left; (focus ((try dsimp only at hSw); simp only [List.getElem_toArray, List.getElem_cons_zero, List.getElem_cons_succ]; (first | (go_simp; done) | (go_simp; with_reducible rfl)))); (try simp only [List.getElem_toArray, List.getElem_cons_zero, List.getElem_cons_succ, Act.put, List.setIfInBounds_toArray, List.set_cons_zero, List.set_cons_succ]))
      (refine wpAnyK_take (i := 19) (v := ?_) rfl rfl (by kernel_rfl) (by kernel_rfl) (by kernel_rfl) (by kernel_rfl) (fun _ _ _ h => h) (Or.inl ⟨by kernel_rfl, fun w0 hSw => ?_⟩) hHeld ?_; rotate_left; (focus ((try dsimp only at hSw); simp only [List.getElem_toArray, List.getElem_cons_zero, List.getElem_cons_succ]; (first | (go_simp; done) | (go_simp; with_reducible rfl)))); (try simp only [List.getElem_toArray, List.getElem_cons_zero, List.getElem_cons_succ, Act.put, List.setIfInBounds_toArray, List.set_cons_zero, List.set_cons_succ]))
      (refine wpAnyK_take (i := 20) (v := ?_) rfl rfl (by kernel_rfl) (by kernel_rfl) (by kernel_rfl) (by kernel_rfl) (fun _ _ _ h => h) (Or.inl ⟨by kernel_rfl, fun w0 hSw => ?_⟩) hHeld ?_; rotate_left; (focus ((try dsimp only at hSw); simp only [List.getElem_toArray, List.getElem_cons_zero, List.getElem_cons_succ]; (first | (go_simp; done) | (go_simp; with_reducible rfl)))); (try simp only [List.getElem_toArray, List.getElem_cons_zero, List.getElem_cons_succ, Act.put, List.setIfInBounds_toArray, List.set_cons_zero, List.set_cons_succ]))
      (refine wpAnyK_take (i := 21) (v := ?_) rfl rfl (by kernel_rfl) (by kernel_rfl) (by kernel_rfl) (by kernel_rfl) (fun _ _ _ h => h) (Or.inl ⟨by kernel_rfl, fun w0 hSw => ?_⟩) hHeld ?_; rotate_left; (focus ((try dsimp only at hSw); simp only [List.getElem_toArray, List.getElem_cons_zero, List.getElem_cons_succ]; (first | (go_simp; done) | (go_simp; with_reducible rfl)))); (try simp only [List.getElem_toArray, List.getElem_cons_zero, List.getElem_cons_succ, Act.put, List.setIfInBounds_toArray, List.set_cons_zero, List.set_cons_succ]))
      (refine wpAnyK_take (i := 22) (v := ?_) rfl rfl (by kernel_rfl) (by kernel_rfl) (by kernel_rfl) (by kernel_rfl) (fun _ _ _ h => h) (Or.inl ⟨by kernel_rfl, fun w0 hSw => ?_⟩) hHeld ?_; rotate_left; (focus ((try dsimp only at hSw); simp only [List.getElem_toArray, List.getElem_cons_zero, List.getElem_cons_succ]; (first | (go_simp; done) | (go_simp; with_reducible rfl)))); (try simp only [List.getElem_toArray, List.getElem_cons_zero, List.getElem_cons_succ, Act.put, List.setIfInBounds_toArray, List.set_cons_zero, List.set_cons_succ]))
      (refine wpAnyK_take (i := 23) (v := ?_) rfl rfl (by kernel_rfl) (by kernel_rfl) (by kernel_rfl) (by kernel_rfl) (fun _ _ _ h => h) (Or.inl ⟨by kernel_rfl, fun w0 hSw => ?_⟩) hHeld ?_; rotate_left; (focus ((try dsimp only at hSw); simp only [List.getElem_toArray, List.getElem_cons_zero, List.getElem_cons_succ]; (first | (go_simp; done) | (go_simp; with_reducible rfl)))); (try simp only [List.getElem_toArray, List.getElem_cons_zero, List.getElem_cons_succ, Act.put, List.setIfInBounds_toArray, List.set_cons_zero, List.set_cons_succ]))
      (refine wpAnyK_take (i := 24) (v := ?_) rfl rfl (by kernel_rfl) (by kernel_rfl) (by kernel_rfl) (by kernel_rfl) (fun _ _ _ h => h) (Or.inl ⟨by kernel_rfl, fun w0 hSw => ?_⟩) hHeld ?_; rotate_left; (focus ((try dsimp only at hSw); simp only [List.getElem_toArray, List.getElem_cons_zero, List.getElem_cons_succ]; (first | (go_simp; done) | (go_simp; with_reducible rfl)))); (try simp only [List.getElem_toArray, List.getElem_cons_zero, List.getElem_cons_succ, Act.put, List.setIfInBounds_toArray, List.set_cons_zero, List.set_cons_succ]))
      (refine wpAnyK_take (i := 25) (v := ?_) rfl rfl (by kernel_rfl) (by kernel_rfl) (by kernel_rfl) (by kernel_rfl) (fun _ _ _ h => h) (Or.inl ⟨by kernel_rfl, fun w0 hSw => ?_⟩) hHeld ?_; rotate_left; (focus ((try dsimp only at hSw); simp only [List.getElem_toArray, List.getElem_cons_zero, List.getElem_cons_succ]; (first | (go_simp; done) | (go_simp; with_reducible rfl)))); (try simp only [List.getElem_toArray, List.getElem_cons_zero, List.getElem_cons_succ, Act.put, List.setIfInBounds_toArray, List.set_cons_zero, List.set_cons_succ]))
      (refine wpAnyK_one (j := 18) (by kernel_rfl) rfl (fun K hK => ?_); (try simp only [List.getElem_toArray, List.getElem_cons_zero, List.getElem_cons_succ]))
      go_simp
      refine (bit_any _ _).mono ?_
      rintro e1 w1 ⟨rfl, hw1⟩
      generalize hnb : bitI x.cu = nb at *
      have HNB := Lib.hid hnb
      clear hnb
      obtain rfl := hw1.symm
      go_simp
      refine hK.out _ _ (.inr hHeld) ?_
      clear hK K
      (try simp only [List.getElem_toArray, List.getElem_cons_zero, List.getElem_cons_succ, Act.put, List.setIfInBounds_toArray, List.set_cons_zero, List.set_cons_succ])
      (refine wpAnyK_one (j := 26) (by kernel_rfl) rfl (fun K hK => ?_); (try simp only [List.getElem_toArray, List.getElem_cons_zero, List.getElem_cons_succ]))
      go_simp
      have lo := (Array.getElem?_eq_some_iff.1 hobY).1
      have l1 := (Array.getElem?_eq_some_iff.1 t1).1
      have l2 := (Array.getElem?_eq_some_iff.1 t2).1
      have n0 := (Below.heap_alloc Y (.cells #[.int .i64 x.n, .int .i64 x.s, .int .i64 x.d, .int .i64 x.z, .int .i64 x.r, .int .i64 x.e, .int .i64 x.p, .int .i64 nb, .int .i64 x.st, .int .i64 x.un, .int .i64 (x.hs.length : Int)] 3) _ lo).trans hobY
      have n1 := (Below.heap_alloc Y (.cells #[.int .i64 x.n, .int .i64 x.s, .int .i64 x.d, .int .i64 x.z, .int .i64 x.r, .int .i64 x.e, .int .i64 x.p, .int .i64 nb, .int .i64 x.st, .int .i64 x.un, .int .i64 (x.hs.length : Int)] 3) _ l1).trans t1
      have n2 := (Below.heap_alloc Y (.cells #[.int .i64 x.n, .int .i64 x.s, .int .i64 x.d, .int .i64 x.z, .int .i64 x.r, .int .i64 x.e, .int .i64 x.p, .int .i64 nb, .int .i64 x.st, .int .i64 x.un, .int .i64 (x.hs.length : Int)] 3) _ l2).trans t2
      refine hK.out _ _ (.inr ⟨cell_of_row _ _ 0 _ _ _ n0, cell_of_row _ _ 0 _ _ _ n1, cell_of_row _ _ 8 _ _ _ n1, cell_of_row _ _ 9 _ _ _ n1, cell_of_row _ _ 10 _ _ _ n1, cell_of_row _ _ 0 _ _ _ n2, cell_of_row _ _ 1 _ _ _ n2, cell_of_row _ _ 2 _ _ _ n2, cell_of_row _ _ 3 _ _ _ n2, cell_of_row _ _ 4 _ _ _ n2, cell_of_row _ _ 5 _ _ _ n2, cell_of_row _ _ 6 _ _ _ n2⟩) ?_
      clear hK K
      (try simp only [List.getElem_toArray, List.getElem_cons_zero, List.getElem_cons_succ, Act.put, List.setIfInBounds_toArray, List.set_cons_zero, List.set_cons_succ])
      (refine wpAnyK_one (j := 27) (by kernel_rfl) rfl (fun K hK => ?_); (try simp only [List.getElem_toArray, List.getElem_cons_zero, List.getElem_cons_succ]))
      rw [if_pos (by simp [Region.wanted])]
      refine wp_append_lies ((Y.alloc (.cells #[.int .i64 x.n, .int .i64 x.s, .int .i64 x.d, .int .i64 x.z, .int .i64 x.r, .int .i64 x.e, .int .i64 x.p, .int .i64 nb, .int .i64 x.st, .int .i64 x.un, .int .i64 (x.hs.length : Int)] 3)).drew) (.tmp 29) (.tmp 54) 46 rfl W3.heap.size 3 i0 (.int .i64 0) 1 8 Tryz.underlying46 HI.out.1 HI.out.2.1 HI.out.2.2.1 HI.out.2.2.2 rfl (by decide) v l.length (iv l) (by kernel_rfl) (hown.alloc _) ⟨Y.heap.size, 0, none⟩ 11 11 (iv [x.n, x.s, x.d, x.z, x.r, x.e, x.p, nb, x.st, x.un, (x.hs.length : Int)]) (by kernel_rfl) rfl (World.news_of_block (World.alloc_heap_new Y _)) (by simp [iv, Value.oneCell']) (by decide) (by unfold maxLen; omega) (by omega) (by have := gr.size; simp; omega) (Y.heap.size + 1) (by simp) ?_
      intro g cap w6 hown6 hgrow6 _ _
      have hgr : (Y.alloc (.cells #[.int .i64 x.n, .int .i64 x.s, .int .i64 x.d, .int .i64 x.z, .int .i64 x.r, .int .i64 x.e, .int .i64 x.p, .int .i64 nb, .int .i64 x.st, .int .i64 x.un, .int .i64 (x.hs.length : Int)] 3)).grownBy w6 v.ownBlock := ⟨hgrow6.os, hgrow6.tape, hgrow6.output, hgrow6.size, hgrow6.block⟩
      obtain ⟨e0, hPh⟩ := ph_app (c := 0) (news := [x.n, x.s, x.d, x.z, x.r, x.e, x.p, nb, x.st, x.un, (x.hs.length : Int)]) (by omega) gr hobY hown hgr hown6 (fun _ _ => rfl) hl (Nat.le_refl _)
      have e1 := (hgr.block _ (by simp; omega) (own_ne hown t1 (by decide))).trans n1
      have e2 := (hgr.block _ (by simp; omega) (own_ne hown t2 (by decide))).trans n2
      have HPH := Lib.hid hPh
      have E1 : Hid ((w6.setCell ⟨w.heap.size + 1 + 1, 0, none⟩ (.slice (some ⟨g, 0, none⟩) (l.length + 11) cap)).heap[wr.heap.size]? = some (.cells #[.int .i64 x.n, .int .i64 x.s, .int .i64 x.d, .int .i64 x.z, .int .i64 x.r, .int .i64 x.e, .int .i64 x.p, .bool x.cu, .slice AU x.hs.length cU, .int .i64 x.st, .int .i64 x.un] 37 (0, 0))) := ((Below.heap_setCell w6 ⟨w.heap.size + 1 + 1, 0, none⟩ (.slice (some ⟨g, 0, none⟩) (l.length + 11) cap) wr.heap.size (by have := HP.out.gr.size; simp; omega)).trans e1)
      have HZ := Lib.hid hgr.size
      clear hgrow6 hown6 hPh n0 n1 n2 hHeld hgr t1 t2 hown gr
      refine hK.out _ _ (.inr ⟨cell_of_row _ _ 0 _ _ _ e0, cell_of_row _ _ 0 _ _ _ e1, cell_of_row _ _ 8 _ _ _ e1, cell_of_row _ _ 9 _ _ _ e1, cell_of_row _ _ 10 _ _ _ e1, cell_of_row _ _ 0 _ _ _ e2, cell_of_row _ _ 1 _ _ _ e2, cell_of_row _ _ 2 _ _ _ e2, cell_of_row _ _ 3 _ _ _ e2, cell_of_row _ _ 4 _ _ _ e2, cell_of_row _ _ 5 _ _ _ e2, cell_of_row _ _ 6 _ _ _ e2⟩) ?_
      clear hK K
      (try simp only [List.getElem_toArray, List.getElem_cons_zero, List.getElem_cons_succ, Act.put, List.setIfInBounds_toArray, List.set_cons_zero, List.set_cons_succ])
      (refine wpAnyK_one (j := 28) (by kernel_rfl) rfl (fun K hK => ?_); (try simp only [List.getElem_toArray, List.getElem_cons_zero, List.getElem_cons_succ]))
      go_simp
      refine hK.out _ _ (.inr ⟨cell_of_row _ _ 0 _ _ _ e0, cell_of_row _ _ 0 _ _ _ e1, cell_of_row _ _ 8 _ _ _ e1, cell_of_row _ _ 9 _ _ _ e1, cell_of_row _ _ 10 _ _ _ e1, cell_of_row _ _ 0 _ _ _ e2, cell_of_row _ _ 1 _ _ _ e2, cell_of_row _ _ 2 _ _ _ e2, cell_of_row _ _ 3 _ _ _ e2, cell_of_row _ _ 4 _ _ _ e2, cell_of_row _ _ 5 _ _ _ e2, cell_of_row _ _ 6 _ _ _ e2⟩) ?_
      clear hK K
      (try simp only [List.getElem_toArray, List.getElem_cons_zero, List.getElem_cons_succ, Act.put, List.setIfInBounds_toArray, List.set_cons_zero, List.set_cons_succ])
      (refine wpAnyK_one (j := 29) (by kernel_rfl) rfl (fun K hK => ?_); (try simp only [List.getElem_toArray, List.getElem_cons_zero, List.getElem_cons_succ]))
      have k0 : w6.cell? ⟨w.heap.size + 1 + 1, 0, none⟩ = some v := cell_of_row _ _ 0 _ _ _ e0
      have kf := frozen_of_row _ _ 0 _ _ e0
      go_simp
      refine hK.out _ _ (.inl rfl) ?_
      clear hK K
      refine wpAnyK_done (by kernel_rfl) ?_ _
      clear k0 kf e0 e1 e2 hobY hw1 hl
      generalize w6.setCell ⟨w.heap.size + 1 + 1, 0, none⟩ (.slice (some ⟨g, 0, none⟩) (l.length + 11) cap) = R at *
      have c8 : R.cell? ⟨wr.heap.size, 8, none⟩ = some (.slice AU x.hs.length cU) := cell_of_row _ _ 8 _ _ _ E1.out
      clear E1 HZ
      go_wp2_with fail
      go_loopw [60] (fun i wr => ∃ m : Nat, m ≤ x.hs.length ∧ i = .int .i64 m ∧ Hid (Ph W3 (w.heap.size + 1 + 1) F0 wr (59 * k + 11 + 4 * m) ((tksL (a.tk.take k) ++ hdT x) ++ hopsL (x.hs.take m)))) (fun i _ => x.hs.length - (intOf i).toNat)
      case atStart => exact ⟨0, Nat.zero_le _, rfl, HPH.out.to (by simp) (by rw [HLL.out, ← HNB.out]; simp [hdT, hopsL])⟩
      case round =>
        obtain ⟨m, hm, rfl, HP2⟩ := hrel
        rename World => wq
        have hBm := below_of hB0 HP2.out.gr (by omega)
        have HBM := Lib.hid hBm
        by_cases hmt : m < x.hs.length
        · obtain ⟨b2, o2, rfl, hb2, hcell2⟩ := HU.out (by omega)
          have hy := hcell2 m hmt
          have ec : ∀ o, wq.cell? ⟨b2, o, none⟩ = w.cell? ⟨b2, o, none⟩ := fun o => hBm.cell (p := ⟨b2, o, none⟩) hb2
          clear hcell2 hBm
          generalize hye : x.hs.getD m ⟨0, 0, 0, 0⟩ = y at *
          have HYEy := Lib.hid hye
          have HMTy := Lib.hid hmt
          clear hye
          obtain ⟨g0, g1, g2, g3⟩ := hy
          have h0 := (ec _).trans g0
          have h1 := (ec _).trans g1
          have h2 := (ec _).trans g2
          have h3 := (ec _).trans g3
          clear ec g0 g1 g2 g3
          obtain ⟨gr, v, l, ⟨hl, hll⟩, hobY, hown⟩ := HP2.out
          have HLLy := Lib.hid hll
          clear hll
          have c0 : wq.cell? ⟨w.heap.size + 1 + 1, 0, none⟩ = some v := cell_of_row _ _ 0 _ _ _ hobY
          have lo := (Array.getElem?_eq_some_iff.1 hobY).1
          have hgrX := gtrans gr (World.grownBy_alloc wq (.cells #[.int .i64 y.c, .int .i64 y.b, .int .i64 y.e, .int .i64 y.a] 120) none) (fun j e => by cases e)
          have hobX := (Below.heap_alloc wq (.cells #[.int .i64 y.c, .int .i64 y.b, .int .i64 y.e, .int .i64 y.a] 120) _ lo).trans hobY
          have hownX := hown.alloc (.cells #[.int .i64 y.c, .int .i64 y.b, .int .i64 y.e, .int .i64 y.a] 120)
          clear hobY gr hown
          go_wp2_with (at_builtin; go_must (refine wpList_append_lies _ rfl _ _ 46 rfl W3.heap.size 3 i0 (.int .i64 0) 1 8 Tryz.underlying46 HI.out.1 HI.out.2.1 HI.out.2.2.1 HI.out.2.2.2 rfl (by decide) v l.length (iv l) rfl (hownX.alloc _) ⟨wq.heap.size + 1, 0, none⟩ 4 4 (iv [y.c, y.b, y.e, y.a]) rfl rfl (World.news_of_block (news_at (wq.alloc (.cells #[.int .i64 y.c, .int .i64 y.b, .int .i64 y.e, .int .i64 y.a] 120)) (wq.heap.size + 1) (by simp) _)) (by simp [iv, Value.oneCell']) (by decide) (by unfold maxLen; omega) (by omega) (by have := hgrX.size; simp at this ⊢; omega) (wq.heap.size + 1 + 1) (by simp) ?_; intro g cap w6 hown6 hgrow6 _ _; obtain ⟨e0, hPh⟩ := ph_app (c := 0) (news := [y.c, y.b, y.e, y.a]) (by omega) hgrX hobX hownX hgrow6 hown6 (fun _ _ => rfl) hl (Nat.le_refl _); have HPH := Lib.hid hPh; have HE0 := Lib.hid e0; have k0 : w6.cell? ⟨w.heap.size + 1 + 1, 0, none⟩ = some v := cell_of_row _ _ 0 _ _ _ e0; have kf := frozen_of_row _ _ 0 _ _ e0; have HGR := Lib.hid hgrow6; clear hgrow6 hown6 hPh e0))
          go_roundw
          case rel => exact ⟨m + 1, by omega, by go_num, HPH.out.to (by simp; omega) (by rw [HLLy.out]; simp only [hopsL]; rw [fm_snoc HMTy.out HYEy.out, List.append_assoc])⟩
          case measure => simp [intOf]; omega
        · obtain rfl : m = x.hs.length := by omega
          have HN := Lib.hid (HP2.out.to (m := 59 * (k + 1)) (L' := tksL (a.tk.take (k + 1))) (by omega) (by unfold tksL; rw [fm_snoc HLT.out HXE.out, List.take_length]; unfold tktL; rw [List.append_assoc]))
          clear HP2
          go_wp2_with fail
          go_roundw
          case rel => exact ⟨k + 1, by omega, by go_num, HN.out⟩
          case measure => simp [intOf]; omega
    · obtain rfl : k = a.tk.length := by omega
      obtain ⟨gr0, V0, l0, ⟨hl0, hL0⟩, hob4, hown0⟩ := HP.out
      rw [List.take_length] at hL0
      have HL0 := Lib.hid hL0
      clear hL0
      have hI0 := ints_of hown0
      have hbox4 := (gr0.block _ (by omega) (by simp; omega)).trans hbox
      have hres4 := (gr0.block _ (by omega) (by simp)).trans hres
      have HI0 := Lib.hid hI0
      have hB4 := hBr
      have hl0' : l0.length ≤ 8000 := by omega
      have hsz4 : w.heap.size + 3 ≤ wr.heap.size := by have := gr0.size; omega
      clear hown0 gr0 HBR hBr hk hlt hl0 HP hbox hob hB0 hres
      obtain ⟨W4, hW4⟩ : ∃ W, W = wr := ⟨_, rfl⟩
      subst hW4
      obtain ⟨A0, c0, rfl, hc0, hm0, _⟩ := hI0
      have hs0 : W4.cell? ⟨w.heap.size, 3, none⟩ = some (.slice AA a.an.length cA) := cell_of_row _ _ 3 _ _ _ hbox4
      go_wp2_with fail
      go_loopw [82] (fun i wr => ∃ k : Nat, k ≤ a.an.length ∧ i = .int .i64 k ∧ Hid (Ph W4 (w.heap.size + 1 + 1) (F1 (.slice A0 l0.length c0)) wr (1152 * k) (ansL (a.an.take k)))) (fun i _ => a.an.length - (intOf i).toNat)
      case atStart => exact ⟨0, Nat.zero_le _, rfl, (ph_new hob4).to (by omega) (by simp [ansL])⟩
      case round =>
        obtain ⟨k, hk, rfl, HP⟩ := hrel
        rename World => wa
        have hBr := below_of hB4 HP.out.gr (by omega)
        have hwa : w.heap.size + 1 + 1 < wa.heap.size := by have := HP.out.gr.size; omega
        have HBR := Lib.hid hBr
        by_cases hlt : k < a.an.length
        · obtain ⟨b, o, rfl, hb, hcell⟩ := HA.out (by omega)
          have hx := hcell k hlt
          obtain ⟨hsh, hcl, hcu⟩ := HG.out.sh k hlt
          have ec : ∀ o, wa.cell? ⟨b, o, none⟩ = w.cell? ⟨b, o, none⟩ := fun o => hBr.cell (p := ⟨b, o, none⟩) hb
          clear hcell hBr
          generalize hxe : a.an.getD k ⟨false, 0, [], []⟩ = x at *
          have HXE := Lib.hid hxe
          have HLT := Lib.hid hlt
          clear hxe
          obtain ⟨g0, g1, ⟨U, g2, hU⟩, ⟨U', g3, hU'⟩⟩ := hx
          obtain ⟨AU, cU, rfl, hU1, hU2, hU3⟩ := hU
          obtain ⟨AV, cV, rfl, hV1, hV2, hV3⟩ := hU'
          have h0 := (ec _).trans g0
          have h1 := (ec _).trans g1
          have h2 := (ec _).trans g2
          have h3 := (ec _).trans g3
          clear ec g0 g1 g2 g3
          have HU := Lib.hid hU3
          have HV := Lib.hid hV3
          clear hU3 hV3
          unfold maxLen at hU2 hV2
          go_wp2_with fail
          have hP2 : Ph W4 (w.heap.size + 1 + 1) (F1 (.slice A0 l0.length c0)) (wa.alloc (.cells #[.bool x.ac, .int .i64 x.vo, .slice AU x.sh.length cU, .slice AV x.cu.length cV] 42)) (1152 * k) (ansL (a.an.take k)) := HP.out.alloc _
          have t1 : (wa.alloc (.cells #[.bool x.ac, .int .i64 x.vo, .slice AU x.sh.length cU, .slice AV x.cu.length cV] 42)).heap[wa.heap.size]? = some (.cells #[.bool x.ac, .int .i64 x.vo, .slice AU x.sh.length cU, .slice AV x.cu.length cV] 42 (0, 0)) := World.alloc_heap_new wa _
          clear h0 h1 h2 h3
          generalize wa.alloc (.cells #[.bool x.ac, .int .i64 x.vo, .slice AU x.sh.length cU, .slice AV x.cu.length cV] 42) = Y at *
          obtain ⟨gr, v, l, ⟨hl, hll⟩, hobY, hown⟩ := hP2
          have HLL := Lib.hid hll
          clear hll
          refine wp_region_last (fun w' => w'.cell? ⟨w.heap.size + 1 + 1, 1, none⟩ = some v ∧ w'.cell? ⟨wa.heap.size, 0, none⟩ = some (.bool x.ac) ∧ w'.cell? ⟨wa.heap.size, 1, none⟩ = some (.int .i64 x.vo) ∧ w'.cell? ⟨wa.heap.size, 2, none⟩ = some (.slice AU x.sh.length cU)) 13 (by kernel_rfl) ⟨cell_of_row _ _ 1 _ _ _ hobY, cell_of_row _ _ 0 _ _ _ t1, cell_of_row _ _ 1 _ _ _ t1, cell_of_row _ _ 2 _ _ _ t1⟩ (fun hHeld => ?_)
          (refine wpAnyK_take (i := 0) (v := ?_) rfl rfl (by kernel_rfl) (by kernel_rfl) (by kernel_rfl) (by kernel_rfl) (fun _ _ _ h => h) (Or.inl ⟨by kernel_rfl, fun w0 hSw => ?_⟩) hHeld ?_; rotate_left; (focus ((try dsimp only at hSw); simp only [List.getElem_toArray, List.getElem_cons_zero, List.getElem_cons_succ]; (first | (go_simp; done) | (go_simp; with_reducible rfl)))); (try simp only [List.getElem_toArray, List.getElem_cons_zero, List.getElem_cons_succ, Act.put, List.setIfInBounds_toArray, List.set_cons_zero, List.set_cons_succ]))
          (refine wpAnyK_take (i := 1) (v := ?_) rfl rfl (by kernel_rfl) (by kernel_rfl) (by kernel_rfl) (by kernel_rfl) (fun _ _ _ h => h) (Or.inl ⟨by kernel_rfl, fun w0 hSw => ?_⟩) hHeld ?_; rotate_left; (focus ((try dsimp only at hSw); simp only [List.getElem_toArray, List.getElem_cons_zero, List.getElem_cons_succ]; (first | (go_simp; done) | (go_simp; with_reducible rfl)))); (try simp only [List.getElem_toArray, List.getElem_cons_zero, List.getElem_cons_succ, Act.put, List.setIfInBounds_toArray, List.set_cons_zero, List.set_cons_succ]))
          (refine wpAnyK_take (i := 2) (v := ?_) rfl rfl (by kernel_rfl) (by kernel_rfl) (by kernel_rfl) (by kernel_rfl) (fun _ _ _ h => h) (Or.inl ⟨by kernel_rfl, fun w0 hSw => ?_⟩) hHeld ?_; rotate_left; (focus ((try dsimp only at hSw); simp only [List.getElem_toArray, List.getElem_cons_zero, List.getElem_cons_succ]; (first | (go_simp; done) | (go_simp; with_reducible rfl)))); (try simp only [List.getElem_toArray, List.getElem_cons_zero, List.getElem_cons_succ, Act.put, List.setIfInBounds_toArray, List.set_cons_zero, List.set_cons_succ]))
          (refine wpAnyK_take (i := 3) (v := ?_) rfl rfl (by kernel_rfl) (by kernel_rfl) (by kernel_rfl) (by kernel_rfl) (fun _ _ _ h => h) (Or.inl ⟨by kernel_rfl, fun w0 hSw => ?_⟩) hHeld ?_; rotate_left; (focus ((try dsimp only at hSw); simp only [List.getElem_toArray, List.getElem_cons_zero, List.getElem_cons_succ]; (first | (go_simp; done) | (go_simp; with_reducible rfl)))); (try simp only [List.getElem_toArray, List.getElem_cons_zero, List.getElem_cons_succ, Act.put, List.setIfInBounds_toArray, List.set_cons_zero, List.set_cons_succ]))
          (refine wpAnyK_take (i := 5) (v := ?_) rfl rfl (by kernel_rfl) (by kernel_rfl) (by kernel_rfl) (by kernel_rfl) (fun _ _ _ h => h) (Or.inl ⟨by kernel_rfl, fun w0 hSw => ?_⟩) hHeld ?_; rotate_left; (focus ((try dsimp only at hSw); simp only [List.getElem_toArray, List.getElem_cons_zero, List.getElem_cons_succ]; (first | (go_simp; done) | (go_simp; with_reducible rfl)))); (try simp only [List.getElem_toArray, List.getElem_cons_zero, List.getElem_cons_succ, Act.put, List.setIfInBounds_toArray, List.set_cons_zero, List.set_cons_succ]))
          (refine wpAnyK_take (i := 6) (v := ?_) rfl rfl (by kernel_rfl) (by kernel_rfl) (by kernel_rfl) (by kernel_rfl) (fun _ _ _ h => h) (Or.inl ⟨by kernel_rfl, fun w0 hSw => ?_⟩) hHeld ?_; rotate_left; (focus ((try dsimp only at hSw); simp only [List.getElem_toArray, List.getElem_cons_zero, List.getElem_cons_succ]; (first | (go_simp; done) | (go_simp; with_reducible rfl)))); (try simp only [List.getElem_toArray, List.getElem_cons_zero, List.getElem_cons_succ, Act.put, List.setIfInBounds_toArray, List.set_cons_zero, List.set_cons_succ]))
          (refine wpAnyK_take (i := 7) (v := ?_) rfl rfl (by kernel_rfl) (by kernel_rfl) (by kernel_rfl) (by kernel_rfl) (fun _ _ _ h => h) (Or.inl ⟨by kernel_rfl, fun w0 hSw => ?_⟩) hHeld ?_; rotate_left; (focus ((try dsimp only at hSw); simp only [List.getElem_toArray, List.getElem_cons_zero, List.getElem_cons_succ]; (first | (go_simp; done) | (go_simp; with_reducible rfl)))); (try simp only [List.getElem_toArray, List.getElem_cons_zero, List.getElem_cons_succ, Act.put, List.setIfInBounds_toArray, List.set_cons_zero, List.set_cons_succ]))
          (refine wpAnyK_take (i := 8) (v := ?_) rfl rfl (by kernel_rfl) (by kernel_rfl) (by kernel_rfl) (by kernel_rfl) (fun _ _ _ h => h) (Or.inl ⟨by kernel_rfl, fun w0 hSw => ?_⟩) hHeld ?_; rotate_left; (focus ((try dsimp only at hSw); simp only [List.getElem_toArray, List.getElem_cons_zero, List.getElem_cons_succ]; (first | (go_simp; done) | (go_simp; with_reducible rfl)))); (try simp only [List.getElem_toArray, List.getElem_cons_zero, List.getElem_cons_succ, Act.put, List.setIfInBounds_toArray, List.set_cons_zero, List.set_cons_succ]))
          (refine wpAnyK_take (i := 9) (v := ?_) rfl rfl (by kernel_rfl) (by kernel_rfl) (by kernel_rfl) (by kernel_rfl) (fun _ _ _ h => h) (Or.inl ⟨by kernel_rfl, fun w0 hSw => ?_⟩) hHeld ?_; rotate_left; (focus ((try dsimp only at hSw); simp only [List.getElem_toArray, List.getElem_cons_zero, List.getElem_cons_succ]; (first | (go_simp; done) | (go_simp; with_reducible rfl)))); (try simp only [List.getElem_toArray, List.getElem_cons_zero, List.getElem_cons_succ, Act.put, List.setIfInBounds_toArray, List.set_cons_zero, List.set_cons_succ]))
          (refine wpAnyK_one (j := 4) (by kernel_rfl) rfl (fun K hK => ?_); (try simp only [List.getElem_toArray, List.getElem_cons_zero, List.getElem_cons_succ]))
          go_simp
          refine (bit_any _ _).mono ?_
          rintro e1 w1 ⟨rfl, hw1⟩
          generalize hnb : bitI x.ac = nb at *
          have HNB := Lib.hid hnb
          clear hnb
          obtain rfl := hw1.symm
          go_simp
          refine hK.out _ _ (.inr hHeld) ?_
          clear hK K
          (try simp only [List.getElem_toArray, List.getElem_cons_zero, List.getElem_cons_succ, Act.put, List.setIfInBounds_toArray, List.set_cons_zero, List.set_cons_succ])
          (refine wpAnyK_one (j := 10) (by kernel_rfl) rfl (fun K hK => ?_); (try simp only [List.getElem_toArray, List.getElem_cons_zero, List.getElem_cons_succ]))
          go_simp
          have lo := (Array.getElem?_eq_some_iff.1 hobY).1
          have l1 := (Array.getElem?_eq_some_iff.1 t1).1
          have n0 := (Below.heap_alloc Y (.cells #[.int .i64 nb, .int .i64 x.vo, .int .i64 (x.sh.length : Int)] 3) _ lo).trans hobY
          have n1 := (Below.heap_alloc Y (.cells #[.int .i64 nb, .int .i64 x.vo, .int .i64 (x.sh.length : Int)] 3) _ l1).trans t1
          refine hK.out _ _ (.inr ⟨cell_of_row _ _ 1 _ _ _ n0, cell_of_row _ _ 0 _ _ _ n1, cell_of_row _ _ 1 _ _ _ n1, cell_of_row _ _ 2 _ _ _ n1⟩) ?_
          clear hK K
          (try simp only [List.getElem_toArray, List.getElem_cons_zero, List.getElem_cons_succ, Act.put, List.setIfInBounds_toArray, List.set_cons_zero, List.set_cons_succ])
          (refine wpAnyK_one (j := 11) (by kernel_rfl) rfl (fun K hK => ?_); (try simp only [List.getElem_toArray, List.getElem_cons_zero, List.getElem_cons_succ]))
          rw [if_pos (by simp [Region.wanted])]
          refine wp_append_lies ((Y.alloc (.cells #[.int .i64 nb, .int .i64 x.vo, .int .i64 (x.sh.length : Int)] 3)).drew) (.tmp 87) (.tmp 96) 46 rfl W4.heap.size 3 i0 (.int .i64 0) 1 8 Tryz.underlying46 HI.out.1 HI.out.2.1 HI.out.2.2.1 HI.out.2.2.2 rfl (by decide) v l.length (iv l) (by kernel_rfl) (hown.alloc _) ⟨Y.heap.size, 0, none⟩ 3 3 (iv [nb, x.vo, (x.sh.length : Int)]) (by kernel_rfl) rfl (World.news_of_block (World.alloc_heap_new Y _)) (by simp [iv, Value.oneCell']) (by decide) (by unfold maxLen; omega) (by omega) (by have := gr.size; simp; omega) (Y.heap.size + 1) (by simp) ?_
          intro g cap w6 hown6 hgrow6 _ _
          have hgr : (Y.alloc (.cells #[.int .i64 nb, .int .i64 x.vo, .int .i64 (x.sh.length : Int)] 3)).grownBy w6 v.ownBlock := ⟨hgrow6.os, hgrow6.tape, hgrow6.output, hgrow6.size, hgrow6.block⟩
          obtain ⟨e0, hPh⟩ := ph_app (c := 1) (news := [nb, x.vo, (x.sh.length : Int)]) (by omega) gr hobY hown hgr hown6 (fun _ _ => rfl) hl (Nat.le_refl _)
          have e1 := (hgr.block _ (by simp; omega) (own_ne hown t1 (by decide))).trans n1
          have HPH := Lib.hid hPh
          have E1 : Hid ((w6.setCell ⟨w.heap.size + 1 + 1, 1, none⟩ (.slice (some ⟨g, 0, none⟩) (l.length + 3) cap)).heap[wa.heap.size]? = some (.cells #[.bool x.ac, .int .i64 x.vo, .slice AU x.sh.length cU, .slice AV x.cu.length cV] 42 (0, 0))) := ((Below.heap_setCell w6 ⟨w.heap.size + 1 + 1, 1, none⟩ (.slice (some ⟨g, 0, none⟩) (l.length + 3) cap) wa.heap.size (by have := HP.out.gr.size; simp; omega)).trans e1)
          have HZ := Lib.hid hgr.size
          clear hgrow6 hown6 hPh n0 n1 hHeld hgr t1 hown gr
          refine hK.out _ _ (.inr ⟨cell_of_row _ _ 1 _ _ _ e0, cell_of_row _ _ 0 _ _ _ e1, cell_of_row _ _ 1 _ _ _ e1, cell_of_row _ _ 2 _ _ _ e1⟩) ?_
          clear hK K
          (try simp only [List.getElem_toArray, List.getElem_cons_zero, List.getElem_cons_succ, Act.put, List.setIfInBounds_toArray, List.set_cons_zero, List.set_cons_succ])
          (refine wpAnyK_one (j := 12) (by kernel_rfl) rfl (fun K hK => ?_); (try simp only [List.getElem_toArray, List.getElem_cons_zero, List.getElem_cons_succ]))
          go_simp
          refine hK.out _ _ (.inr ⟨cell_of_row _ _ 1 _ _ _ e0, cell_of_row _ _ 0 _ _ _ e1, cell_of_row _ _ 1 _ _ _ e1, cell_of_row _ _ 2 _ _ _ e1⟩) ?_
          clear hK K
          (try simp only [List.getElem_toArray, List.getElem_cons_zero, List.getElem_cons_succ, Act.put, List.setIfInBounds_toArray, List.set_cons_zero, List.set_cons_succ])
          (refine wpAnyK_one (j := 13) (by kernel_rfl) rfl (fun K hK => ?_); (try simp only [List.getElem_toArray, List.getElem_cons_zero, List.getElem_cons_succ]))
          have k0 : w6.cell? ⟨w.heap.size + 1 + 1, 1, none⟩ = some v := cell_of_row _ _ 1 _ _ _ e0
          have kf := frozen_of_row _ _ 1 _ _ e0
          go_simp
          refine hK.out _ _ (.inl rfl) ?_
          clear hK K
          refine wpAnyK_done (by kernel_rfl) ?_ _
          clear k0 kf e0 e1 hobY hw1 hl
          generalize w6.setCell ⟨w.heap.size + 1 + 1, 1, none⟩ (.slice (some ⟨g, 0, none⟩) (l.length + 3) cap) = R at *
          have c8 : R.cell? ⟨wa.heap.size, 2, none⟩ = some (.slice AU x.sh.length cU) := cell_of_row _ _ 2 _ _ _ E1.out
          obtain ⟨T46, hT46⟩ : ∃ T : Array Value, T = #[.bool x.ac, .int .i64 x.vo, .slice AU x.sh.length cU, .slice AV x.cu.length cV] := ⟨_, rfl⟩
          have hT3 : T46[3]? = some (.slice AV x.cu.length cV) := by rw [hT46]; rfl
          rw [← hT46] at E1
          clear HZ hT46
          go_wp2_with fail
          go_loopw [102] (fun i wr => ∃ m : Nat, m ≤ x.sh.length ∧ i = .int .i64 m ∧ Hid (Ph W4 (w.heap.size + 1 + 1) (F1 (.slice A0 l0.length c0)) wr (1152 * k + 3 + 3 * m) ((ansL (a.an.take k) ++ hdA x) ++ shpsL (x.sh.take m)) ∧ wr.heap[wa.heap.size]? = some (.cells T46 42 (0, 0)))) (fun i _ => x.sh.length - (intOf i).toNat)
          case atStart => exact ⟨0, Nat.zero_le _, rfl, ⟨HPH.out.to (by simp) (by rw [HLL.out, ← HNB.out]; simp [hdA, shpsL]), E1.out⟩⟩
          case round =>
            obtain ⟨m, hm, rfl, HP2⟩ := hrel
            rename World => wq
            have hBm := below_of hB4 HP2.out.1.gr (by omega)
            have HBM := Lib.hid hBm
            by_cases hmt : m < x.sh.length
            · obtain ⟨b2, o2, rfl, hb2, hcell2⟩ := HU.out (by omega)
              have hy := hcell2 m hmt
              have ec : ∀ o, wq.cell? ⟨b2, o, none⟩ = w.cell? ⟨b2, o, none⟩ := fun o => hBm.cell (p := ⟨b2, o, none⟩) hb2
              clear hcell2 hBm
              generalize hye : x.sh.getD m ⟨0, 0, 0⟩ = y at *
              have HYEy := Lib.hid hye
              have HMTy := Lib.hid hmt
              clear hye
              obtain ⟨g0, g1, g2⟩ := hy
              have h0 := (ec _).trans g0
              have h1 := (ec _).trans g1
              have h2 := (ec _).trans g2
              clear ec g0 g1 g2
              obtain ⟨gr, v, l, ⟨hl, hll⟩, hobY, hown⟩ := HP2.out.1
              have HLLy := Lib.hid hll
              clear hll
              have c0 : wq.cell? ⟨w.heap.size + 1 + 1, 1, none⟩ = some v := cell_of_row _ _ 1 _ _ _ hobY
              have lo := (Array.getElem?_eq_some_iff.1 hobY).1
              have hgrX := gtrans gr (World.grownBy_alloc wq (.cells #[.int .i64 y.c, .int .i64 y.a, .int .i64 y.b] 122) none) (fun j e => by cases e)
              have hobX := (Below.heap_alloc wq (.cells #[.int .i64 y.c, .int .i64 y.a, .int .i64 y.b] 122) _ lo).trans hobY
              have hownX := hown.alloc (.cells #[.int .i64 y.c, .int .i64 y.a, .int .i64 y.b] 122)
              clear hobY gr hown
              go_wp2_with (at_builtin; go_must (refine wpList_append_lies _ rfl _ _ 46 rfl W4.heap.size 3 i0 (.int .i64 0) 1 8 Tryz.underlying46 HI.out.1 HI.out.2.1 HI.out.2.2.1 HI.out.2.2.2 rfl (by decide) v l.length (iv l) rfl (hownX.alloc _) ⟨wq.heap.size + 1, 0, none⟩ 3 3 (iv [y.c, y.a, y.b]) rfl rfl (World.news_of_block (news_at (wq.alloc (.cells #[.int .i64 y.c, .int .i64 y.a, .int .i64 y.b] 122)) (wq.heap.size + 1) (by simp) _)) (by simp [iv, Value.oneCell']) (by decide) (by unfold maxLen; omega) (by omega) (by have := hgrX.size; simp at this ⊢; omega) (wq.heap.size + 1 + 1) (by simp) ?_; intro g cap w6 hown6 hgrow6 _ _; obtain ⟨e0, hPh⟩ := ph_app (c := 1) (news := [y.c, y.a, y.b]) (by omega) hgrX hobX hownX hgrow6 hown6 (fun _ _ => rfl) hl (Nat.le_refl _); have HPH := Lib.hid hPh; have HE0 := Lib.hid e0; have k0 : w6.cell? ⟨w.heap.size + 1 + 1, 1, none⟩ = some v := cell_of_row _ _ 1 _ _ _ e0; have kf := frozen_of_row _ _ 1 _ _ e0; have HGR := Lib.hid hgrow6; clear hgrow6 hown6 hPh e0))
              have HEX2 : Hid (w.heap.size + 1 + 1 < wa.heap.size) := by show _ < _; omega
              have HEX : Hid (w6.heap[wa.heap.size]? = some (.cells T46 42 (0, 0))) := by
                have q1 := HP2.out.2
                have ql := (Array.getElem?_eq_some_iff.1 q1).1
                have q2 := (Below.heap_alloc wq (.cells #[.int .i64 y.c, .int .i64 y.a, .int .i64 y.b] 122) _ ql).trans q1
                have ql2 := (Array.getElem?_eq_some_iff.1 q2).1
                exact (HGR.out.block _ (by simp; omega) (own_ne hownX q2 (by decide))).trans ((Below.heap_alloc _ (.cells #[.int .i64 y.c, .int .i64 y.a, .int .i64 y.b] 3) _ ql2).trans q2)
              go_roundw
              case rel => exact ⟨m + 1, by omega, by go_num, HPH.out.to (by simp; omega) (by rw [HLLy.out]; simp only [shpsL]; rw [fm_snoc HMTy.out HYEy.out, List.append_assoc]), (Below.heap_setCell w6 ⟨w.heap.size + 1 + 1, 1, none⟩ _ _ (by have := HEX2.out; simp; omega)).trans HEX.out⟩
              case measure => simp [intOf]; omega
            · obtain rfl : m = x.sh.length := by omega
              have hq3 : wq.cell? ⟨wa.heap.size, 3, none⟩ = some (.slice AV x.cu.length cV) := (cell_of_row _ _ 3 _ _ _ HP2.out.2).trans hT3
              have hq3l : wa.heap.size < wq.heap.size := (Array.getElem?_eq_some_iff.1 HP2.out.2).1
              clear c8
              obtain ⟨gr, v, l, ⟨hl, hll⟩, hobY, hown⟩ := HP2.out.1
              have HLL2 := Lib.hid hll
              clear hll
              have c0' : wq.cell? ⟨w.heap.size + 1 + 1, 1, none⟩ = some v := cell_of_row _ _ 1 _ _ _ hobY
              have lo := (Array.getElem?_eq_some_iff.1 hobY).1
              have hgrX := gr
              have hobX := hobY
              have hownX := hown
              clear hobY gr hown
              go_wp2_with (at_builtin; go_must (refine wpList_append_lies _ rfl _ _ 46 rfl W4.heap.size 3 i0 (.int .i64 0) 1 8 Tryz.underlying46 HI.out.1 HI.out.2.1 HI.out.2.2.1 HI.out.2.2.2 rfl (by decide) v l.length (iv l) rfl (hownX.alloc _) ⟨wq.heap.size, 0, none⟩ 1 1 (iv [(x.cu.length : Int)]) rfl rfl (World.news_of_block (news_at wq (wq.heap.size) (by simp) _)) (by simp [iv, Value.oneCell']) (by decide) (by unfold maxLen; omega) (by omega) (by have := hgrX.size; simp at this ⊢; omega) (wq.heap.size + 1) (by simp) ?_; intro g cap w6 hown6 hgrow6 _ _; obtain ⟨e0, hPh⟩ := ph_app (c := 1) (news := [(x.cu.length : Int)]) (by omega) hgrX hobX hownX hgrow6 hown6 (fun _ _ => rfl) hl (Nat.le_refl _); have HPH := Lib.hid hPh; have HE0 := Lib.hid e0; have k0 : w6.cell? ⟨w.heap.size + 1 + 1, 1, none⟩ = some v := cell_of_row _ _ 1 _ _ _ e0; have kf := frozen_of_row _ _ 1 _ _ e0; have HGR := Lib.hid hgrow6; have hq4 : w6.cell? ⟨wa.heap.size, 3, none⟩ = some (.slice AV x.cu.length cV) := (cell_of_row _ _ 3 _ _ _ ((hgrow6.block _ (by simp; omega) (own_ne hownX HP2.out.2 (by decide))).trans ((Below.heap_alloc _ _ _ hq3l).trans HP2.out.2))).trans hT3; clear hgrow6 hown6 hPh e0))
              clear HP2 HGR HE0 k0 kf c0' hgrX hobX hownX hq3 hq4
              go_loopw [129] (fun i wr => ∃ m : Nat, m ≤ x.cu.length ∧ i = .int .i64 m ∧ Hid (Ph W4 (w.heap.size + 1 + 1) (F1 (.slice A0 l0.length c0)) wr (1152 * k + 4 + 3 * x.sh.length + 121 * m) ((ansL (a.an.take k) ++ hdA x ++ shpsL x.sh ++ [(x.cu.length : Int)]) ++ cutsL (x.cu.take m)))) (fun i _ => x.cu.length - (intOf i).toNat)
              case atStart => exact ⟨0, Nat.zero_le _, rfl, HPH.out.to (by simp; omega) (by rw [HLL2.out, List.take_length]; simp [cutsL])⟩
              case round =>
                obtain ⟨m, hm, rfl, HP3⟩ := hrel
                rename World => wc
                have hBm := below_of hB4 HP3.out.gr (by omega)
                by_cases hmt : m < x.cu.length
                · obtain ⟨b3, o3, rfl, hb3, hcell3⟩ := HV.out (by omega)
                  obtain ⟨U, g0, hU⟩ := hcell3 m hmt
                  rw [Nat.mul_one] at g0
                  have h0 := (hBm.cell (p := ⟨b3, o3 + m, none⟩) hb3).trans g0
                  have hz60 := hcu m hmt
                  clear hcell3 hBm g0
                  generalize hze : x.cu.getD m [] = z at *
                  have HZE := Lib.hid hze
                  have HMTZ := Lib.hid hmt
                  clear hze
                  obtain ⟨AZ, cZ, rfl, hZ1, hZ2, hZ3⟩ := hU
                  have HZL := Lib.hid hZ3
                  clear hZ3
                  unfold maxLen at hZ2
                  obtain ⟨gr, v, l, ⟨hl, hll⟩, hobY, hown⟩ := HP3.out
                  have HLL1 := Lib.hid hll
                  clear hll
                  have c0' : wc.cell? ⟨w.heap.size + 1 + 1, 1, none⟩ = some v := cell_of_row _ _ 1 _ _ _ hobY
                  have lo := (Array.getElem?_eq_some_iff.1 hobY).1
                  have hgrX := gr
                  have hobX := hobY
                  have hownX := hown
                  clear hobY gr hown
                  go_wp2_with (at_builtin; go_must (refine wpList_append_lies _ rfl _ _ 46 rfl W4.heap.size 3 i0 (.int .i64 0) 1 8 Tryz.underlying46 HI.out.1 HI.out.2.1 HI.out.2.2.1 HI.out.2.2.2 rfl (by decide) v l.length (iv l) rfl (hownX.alloc _) ⟨wc.heap.size, 0, none⟩ 1 1 (iv [(z.length : Int)]) rfl rfl (World.news_of_block (news_at wc (wc.heap.size) (by simp) _)) (by simp [iv, Value.oneCell']) (by decide) (by unfold maxLen; omega) (by omega) (by have := hgrX.size; simp at this ⊢; omega) (wc.heap.size + 1) (by simp) ?_; intro g cap w6 hown6 hgrow6 _ _; obtain ⟨e0, hPh⟩ := ph_app (c := 1) (news := [(z.length : Int)]) (by omega) hgrX hobX hownX hgrow6 hown6 (fun _ _ => rfl) hl (Nat.le_refl _); have HPH := Lib.hid hPh; have HE0 := Lib.hid e0; have k0 : w6.cell? ⟨w.heap.size + 1 + 1, 1, none⟩ = some v := cell_of_row _ _ 1 _ _ _ e0; have kf := frozen_of_row _ _ 1 _ _ e0; have HGR := Lib.hid hgrow6; clear hgrow6 hown6 hPh e0))
                  clear HGR HE0 k0 kf c0' hgrX hobX hownX
                  generalize w6.setCell ⟨w.heap.size + 1 + 1, 1, none⟩ (.slice (some ⟨g, 0, none⟩) (l.length + 1) cap) = R3 at *
                  have HPH := Lib.hid (HPH.out.to (m := 1152 * k + 4 + 3 * x.sh.length + 121 * m + 1) (L' := (ansL (a.an.take k) ++ hdA x ++ shpsL x.sh ++ [(x.cu.length : Int)]) ++ cutsL (x.cu.take m) ++ [(z.length : Int)] ++ spnsL (z.take 0)) (by first | (simp; done) | (simp; omega)) (by rw [HLL1.out]; simp [spnsL]))
                  go_loopw [142] (fun i wr => ∃ p : Nat, p ≤ z.length ∧ i = .int .i64 p ∧ Hid (Ph W4 (w.heap.size + 1 + 1) (F1 (.slice A0 l0.length c0)) wr (1152 * k + 4 + 3 * x.sh.length + 121 * m + 1 + 2 * p) (((ansL (a.an.take k) ++ hdA x ++ shpsL x.sh ++ [(x.cu.length : Int)]) ++ cutsL (x.cu.take m) ++ [(z.length : Int)]) ++ spnsL (z.take p)))) (fun i _ => z.length - (intOf i).toNat)
                  case atStart => exact ⟨0, Nat.zero_le _, rfl, HPH.out⟩
                  case round =>
                    obtain ⟨p, hp, rfl, HP2⟩ := hrel
                    rename World => wz
                    have hBm := below_of hB4 HP2.out.gr (by omega)
                    have HBM := Lib.hid hBm
                    by_cases hmt : p < z.length
                    · obtain ⟨b2, o2, rfl, hb2, hcell2⟩ := HZL.out (by omega)
                      have hy := hcell2 p hmt
                      have ec : ∀ o, wz.cell? ⟨b2, o, none⟩ = w.cell? ⟨b2, o, none⟩ := fun o => hBm.cell (p := ⟨b2, o, none⟩) hb2
                      clear hcell2 hBm
                      generalize hye : z.getD p ⟨0, 0⟩ = q at *
                      have HYEq := Lib.hid hye
                      have HMTq := Lib.hid hmt
                      clear hye
                      obtain ⟨g0, g1⟩ := hy
                      have h0 := (ec _).trans g0
                      have h1 := (ec _).trans g1
                      clear ec g0 g1
                      obtain ⟨gr, v, l, ⟨hl, hll⟩, hobY, hown⟩ := HP2.out
                      have HLLq := Lib.hid hll
                      clear hll
                      have c0 : wz.cell? ⟨w.heap.size + 1 + 1, 1, none⟩ = some v := cell_of_row _ _ 1 _ _ _ hobY
                      have lo := (Array.getElem?_eq_some_iff.1 hobY).1
                      have hgrX := gtrans gr (World.grownBy_alloc wz (.cells #[.int .i64 q.f, .int .i64 q.t] 124) none) (fun j e => by cases e)
                      have hobX := (Below.heap_alloc wz (.cells #[.int .i64 q.f, .int .i64 q.t] 124) _ lo).trans hobY
                      have hownX := hown.alloc (.cells #[.int .i64 q.f, .int .i64 q.t] 124)
                      clear hobY gr hown
                      go_wp2_with (at_builtin; go_must (refine wpList_append_lies _ rfl _ _ 46 rfl W4.heap.size 3 i0 (.int .i64 0) 1 8 Tryz.underlying46 HI.out.1 HI.out.2.1 HI.out.2.2.1 HI.out.2.2.2 rfl (by decide) v l.length (iv l) rfl (hownX.alloc _) ⟨wz.heap.size + 1, 0, none⟩ 2 2 (iv [q.f, q.t]) rfl rfl (World.news_of_block (news_at (wz.alloc (.cells #[.int .i64 q.f, .int .i64 q.t] 124)) (wz.heap.size + 1) (by simp) _)) (by simp [iv, Value.oneCell']) (by decide) (by unfold maxLen; omega) (by omega) (by have := hgrX.size; simp at this ⊢; omega) (wz.heap.size + 1 + 1) (by simp) ?_; intro g cap w6 hown6 hgrow6 _ _; obtain ⟨e0, hPh⟩ := ph_app (c := 1) (news := [q.f, q.t]) (by omega) hgrX hobX hownX hgrow6 hown6 (fun _ _ => rfl) hl (Nat.le_refl _); have HPH := Lib.hid hPh; have HE0 := Lib.hid e0; have k0 : w6.cell? ⟨w.heap.size + 1 + 1, 1, none⟩ = some v := cell_of_row _ _ 1 _ _ _ e0; have kf := frozen_of_row _ _ 1 _ _ e0; have HGR := Lib.hid hgrow6; clear hgrow6 hown6 hPh e0))
                      go_roundw
                      case rel => exact ⟨p + 1, by omega, by go_num, HPH.out.to (by simp; omega) (by rw [HLLq.out]; simp only [spnsL]; rw [fm_snoc HMTq.out HYEq.out, List.append_assoc])⟩
                      case measure => simp [intOf]; omega
                    · obtain rfl : p = z.length := by omega
                      have HN := Lib.hid (HP2.out.to (m := 1152 * k + 4 + 3 * x.sh.length + 121 * (m + 1)) (L' := (ansL (a.an.take k) ++ hdA x ++ shpsL x.sh ++ [(x.cu.length : Int)]) ++ cutsL (x.cu.take (m + 1))) (by omega) (by rw [List.take_length]; simp only [cutsL]; rw [fm_snoc HMTZ.out HZE.out]; unfold cutL; simp only [List.append_assoc]))
                      clear HP2
                      go_wp2_with fail
                      go_roundw
                      case rel => exact ⟨m + 1, by omega, by go_num, HN.out⟩
                      case measure => simp [intOf]; omega

                · obtain rfl : m = x.cu.length := by omega
                  have HN := Lib.hid (HP3.out.to (m := 1152 * (k + 1)) (L' := ansL (a.an.take (k + 1))) (by omega) (by rw [List.take_length]; unfold ansL; rw [fm_snoc HLT.out HXE.out]; unfold anwL; simp only [List.append_assoc]))
                  clear HP3
                  go_wp2_with fail
                  go_roundw
                  case rel => exact ⟨k + 1, by omega, by go_num, HN.out⟩
                  case measure => simp [intOf]; omega

        · obtain rfl : k = a.an.length := by omega
          obtain ⟨gr1, V1, l1, ⟨hl1, hL1⟩, hob5, hown1⟩ := HP.out
          rw [List.take_length] at hL1
          have HL1 := Lib.hid hL1
          clear hL1
          have hI1 := ints_of hown1
          have hJ0 := ints_grow HI0.out gr1 hob4 (noint3 _ _ _ _ _ _ _ _ _)
          have HJ0 := Lib.hid hJ0
          have HI1 := Lib.hid hI1
          have hbox5 := (gr1.block _ (by omega) (by simp; omega)).trans hbox4
          have hres5 := (gr1.block _ (by omega) (by simp)).trans hres4
          have hB5 := hBr
          have hl1' : l1.length ≤ 8000 := by omega
          have hsz5 : w.heap.size + 3 ≤ wa.heap.size := by have := gr1.size; omega
          clear hown1 gr1 HBR hBr hk hlt hl1 HP hbox4 hob4 hB4 hres4 hwa hJ0 HI0
          obtain ⟨W5, hW5⟩ : ∃ W, W = wa := ⟨_, rfl⟩
          subst hW5
          obtain ⟨A1, c1, rfl, hc1, hm1, _⟩ := hI1
          have hs1 : W5.cell? ⟨w.heap.size, 4, none⟩ = some (.slice AD a.dm.length cD) := cell_of_row _ _ 4 _ _ _ hbox5
          go_wp2_with fail
          go_loopw [161] (fun i wr => ∃ m : Nat, m ≤ a.dm.length ∧ i = .int .i64 m ∧ Hid (Ph W5 (w.heap.size + 1 + 1) (F2 (.slice A0 l0.length c0) (.slice A1 l1.length c1)) wr (0 + 5 * m) ([] ++ demsL (a.dm.take m)))) (fun i _ => a.dm.length - (intOf i).toNat)
          case atStart => exact ⟨0, Nat.zero_le _, rfl, (ph_new hob5).to (by omega) (by simp [demsL])⟩
          case round =>
            obtain ⟨m, hm, rfl, HP2⟩ := hrel
            rename World => wq
            have hBm := below_of hB5 HP2.out.gr (by omega)
            have HBM := Lib.hid hBm
            by_cases hmt : m < a.dm.length
            · obtain ⟨b2, o2, rfl, hb2, hcell2⟩ := HD.out (by omega)
              have hy := hcell2 m hmt
              have ec : ∀ o, wq.cell? ⟨b2, o, none⟩ = w.cell? ⟨b2, o, none⟩ := fun o => hBm.cell (p := ⟨b2, o, none⟩) hb2
              clear hcell2 hBm
              generalize hye : a.dm.getD m ⟨0, 0, 0, 0, 0⟩ = y at *
              have HYEy := Lib.hid hye
              have HMTy := Lib.hid hmt
              clear hye
              obtain ⟨g0, g1, g2, g3, g4⟩ := hy
              have h0 := (ec _).trans g0
              have h1 := (ec _).trans g1
              have h2 := (ec _).trans g2
              have h3 := (ec _).trans g3
              have h4 := (ec _).trans g4
              clear ec g0 g1 g2 g3 g4
              obtain ⟨gr, v, l, ⟨hl, hll⟩, hobY, hown⟩ := HP2.out
              have HLLy := Lib.hid hll
              clear hll
              have c0 : wq.cell? ⟨w.heap.size + 1 + 1, 2, none⟩ = some v := cell_of_row _ _ 2 _ _ _ hobY
              have lo := (Array.getElem?_eq_some_iff.1 hobY).1
              have hgrX := gtrans gr (World.grownBy_alloc wq (.cells #[.int .i64 y.s, .int .i64 y.d, .int .i64 y.v, .int .i64 y.r, .int .i64 y.e] 57) none) (fun j e => by cases e)
              have hobX := (Below.heap_alloc wq (.cells #[.int .i64 y.s, .int .i64 y.d, .int .i64 y.v, .int .i64 y.r, .int .i64 y.e] 57) _ lo).trans hobY
              have hownX := hown.alloc (.cells #[.int .i64 y.s, .int .i64 y.d, .int .i64 y.v, .int .i64 y.r, .int .i64 y.e] 57)
              clear hobY gr hown
              go_wp2_with (at_builtin; go_must (refine wpList_append_lies _ rfl _ _ 46 rfl W5.heap.size 3 i0 (.int .i64 0) 1 8 Tryz.underlying46 HI.out.1 HI.out.2.1 HI.out.2.2.1 HI.out.2.2.2 rfl (by decide) v l.length (iv l) rfl (hownX.alloc _) ⟨wq.heap.size + 1, 0, none⟩ 5 5 (iv [y.s, y.d, y.v, y.r, y.e]) rfl rfl (World.news_of_block (news_at (wq.alloc (.cells #[.int .i64 y.s, .int .i64 y.d, .int .i64 y.v, .int .i64 y.r, .int .i64 y.e] 57)) (wq.heap.size + 1) (by simp) _)) (by simp [iv, Value.oneCell']) (by decide) (by unfold maxLen; omega) (by omega) (by have := hgrX.size; simp at this ⊢; omega) (wq.heap.size + 1 + 1) (by simp) ?_; intro g cap w6 hown6 hgrow6 _ _; obtain ⟨e0, hPh⟩ := ph_app (c := 2) (news := [y.s, y.d, y.v, y.r, y.e]) (by omega) hgrX hobX hownX hgrow6 hown6 (fun _ _ => rfl) hl (Nat.le_refl _); have HPH := Lib.hid hPh; have HE0 := Lib.hid e0; have k0 : w6.cell? ⟨w.heap.size + 1 + 1, 2, none⟩ = some v := cell_of_row _ _ 2 _ _ _ e0; have kf := frozen_of_row _ _ 2 _ _ e0; have HGR := Lib.hid hgrow6; clear hgrow6 hown6 hPh e0))
              go_roundw
              case rel => exact ⟨m + 1, by omega, by go_num, HPH.out.to (by simp; omega) (by rw [HLLy.out]; simp only [demsL]; rw [fm_snoc HMTy.out HYEy.out, List.append_assoc])⟩
              case measure => simp [intOf]; omega
            · obtain rfl : m = a.dm.length := by omega
              obtain ⟨gr2, V2, l2, ⟨hl2, hL2⟩, hob6, hown2⟩ := HP2.out
              rw [List.take_length, List.nil_append] at hL2
              have HL2 := Lib.hid hL2
              clear hL2
              have hI2 := ints_of hown2
              have HI2 := Lib.hid hI2
              have HK0 := Lib.hid (ints_grow HJ0.out gr2 hob5 (noint3 _ _ _ _ _ _ _ _ _))
              have HK1 := Lib.hid (ints_grow HI1.out gr2 hob5 (noint3 _ _ _ _ _ _ _ _ _))
              have hres6 := (gr2.block _ (by omega) (by simp)).trans hres5
              have HRES := Lib.hid hres6
              have hz6 : w.heap.size + 1 + 1 < wq.heap.size := by have := gr2.size; omega
              clear HP2 hown2 gr2
              obtain ⟨A2, c2, rfl, hc2, hm2, _⟩ := hI2
              have k0 : wq.cell? ⟨w.heap.size + 1 + 1, 0, none⟩ = some (.slice A0 l0.length c0) := cell_of_row _ _ 0 _ _ _ hob6
              have k1 : wq.cell? ⟨w.heap.size + 1 + 1, 1, none⟩ = some (.slice A1 l1.length c1) := cell_of_row _ _ 1 _ _ _ hob6
              have k2 : wq.cell? ⟨w.heap.size + 1 + 1, 2, none⟩ = some (.slice A2 l2.length c2) := cell_of_row _ _ 2 _ _ _ hob6
              have r0 : wq.cell? ⟨w.heap.size + 1, 0, none⟩ = some (.slice none 0 0) := cell_of_row _ _ 0 _ _ _ hres6
              have r1 : wq.cell? ⟨w.heap.size + 1, 1, none⟩ = some (.slice none 0 0) := cell_of_row _ _ 1 _ _ _ hres6
              have r2 : wq.cell? ⟨w.heap.size + 1, 2, none⟩ = some (.slice none 0 0) := cell_of_row _ _ 2 _ _ _ hres6
              have f0 := frozen_of_row _ _ 0 _ _ hres6
              have f1 := frozen_of_row _ _ 1 _ _ hres6
              have f2 := frozen_of_row _ _ 2 _ _ hres6
              clear hob6 hres6 hob5 hbox5 hres5
              go_wp2_with fail
              refine bodyPost_ret (by (simp [results, Tryz.results14, go_sem, *]; try rfl)) rfl ?_
              have hgz : wq.grownBy (((wq.setCell ⟨w.heap.size + 1, 0, none⟩ (.slice A0 l0.length c0)).setCell ⟨w.heap.size + 1, 1, none⟩ (.slice A1 l1.length c1)).setCell ⟨w.heap.size + 1, 2, none⟩ (.slice A2 l2.length c2)) (some (w.heap.size + 1)) := gtrans (gtrans (grown_set wq _ 0 _) (grown_set _ _ 1 _) (fun j e => .inl e)) (grown_set _ _ 2 _) (fun j e => .inl e)
              exact ⟨HBM.out.grown hgz HBM.out.size (fun j e => by cases e; omega), _, _, _, l0, l1, l2, rfl, ints_grow HK0.out hgz HRES.out (noint3 _ _ _ _ _ _ _ _ _), ints_grow HK1.out hgz HRES.out (noint3 _ _ _ _ _ _ _ _ _), ints_grow HI2.out hgz HRES.out (noint3 _ _ _ _ _ _ _ _ _), hl0', hl1', by omega, HL0.out, HL1.out, HL2.out⟩
end Go.Proofs.YthlfhfliidhelaaGreatDoor

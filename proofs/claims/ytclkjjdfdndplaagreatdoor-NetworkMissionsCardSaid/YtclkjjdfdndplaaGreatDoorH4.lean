/- checkOrder. -/
import Derived.Test.YtclkjjdfdndplaaGreatDoorH3
import Derived.Deep.WholeRow
import Derived.Laws.NewBlocks
namespace Go.Proofs.YtclkjjdfdndplaaGreatDoor
open Go.RowKit
attribute [local go_sem ↓] Go.wp_at_zero Go.wp_at_succ
set_option maxRecDepth 100000 in
set_option maxHeartbeats 4000000 in
theorem order_any (A1 : Option Addr) (nq c1 : Nat) (VC VF VX VB : Value) (VO : Value) (os : List Bun) (i : Nat) (hi : i < os.length) (w : World) (_hm1 : nq ≤ 9223372036854775807) (hO : Buns w w.heap.size VO os) :
    Calls Tryz.prog 24 #[.agg #[.slice A1 nq c1, VC, VO, VF, VX, VB], .int .i64 i] w fun e w' => e = .returned (.int .i64 (ordE (os.take i) nq (os.getD i Bun.zero))) ∧ Below w.heap.size w w' := by
  have HO := Lib.hid hO
  obtain ⟨A, c, rfl, hc, hm, hA⟩ := hO
  unfold maxLen at hm
  obtain ⟨b, o, rfl, hb, hcell⟩ := hA (by omega)
  have hx := hcell i hi
  have HT : Buns w w.heap.size (.slice (some ⟨b, o, none⟩) i c) (os.take i) := HO.out.take i (by omega)
  clear hcell hA
  generalize os.getD i Bun.zero = x at *
  generalize os.take i = pre at *
  have ki : (i : Int) < os.length := by omega
  have ki2 : (0 : Int) ≤ i := by omega
  have ki3 : (i : Int) ≤ c := by omega
  obtain ⟨x0, x1, x2, x3, x4, x5, x6, x7, x8, x9, ⟨V, x10, hV⟩, x11⟩ := hx
  have hV1 : V.oneCell' = true := by obtain ⟨A', c', rfl, _⟩ := hV; rfl
  have HTT := Lib.hid HT
  have HV := Lib.hid hV
  have HEE : Hid (∀ r : Int, (if bunE x ≠ 0 then bunE x else if 0 < x.t ∨ x.dk ≠ 1 then 10 else if (nq : Int) ≤ x.s ∨ (nq : Int) ≤ x.dn ∨ x.s = x.dn then 2 else if pre.any (idEq x) = true then 6 else 0 : Int) = r → ordE pre nq x = r) := fun r h => h
  clear HT hV
  go_enter Tryz.func24, Tryz.ntmps24
  go_wp2_with fail
  have m0 : (w.alloc (.cells #[.slice A1 nq c1, VC, .slice (some ⟨b, o, none⟩) os.length c, VF, VX, VB] 30)).cell? ⟨w.heap.size, 0, none⟩ = some (.slice A1 nq c1) := by simp [go_sem]
  have m2 : (w.alloc (.cells #[.slice A1 nq c1, VC, .slice (some ⟨b, o, none⟩) os.length c, VF, VX, VB] 30)).cell? ⟨w.heap.size, 2, none⟩ = some (.slice (some ⟨b, o, none⟩) os.length c) := by simp [go_sem]
  have hbw : Below w.heap.size w (w.alloc (.cells #[.slice A1 nq c1, VC, .slice (some ⟨b, o, none⟩) os.length c, VF, VX, VB] 30)) := (Below.refl _ w).alloc (Nat.le_refl _) _
  have hsz : (w.alloc (.cells #[.slice A1 nq c1, VC, .slice (some ⟨b, o, none⟩) os.length c, VF, VX, VB] 30)).heap.size = w.heap.size + 1 := by simp
  generalize w.alloc (.cells #[.slice A1 nq c1, VC, .slice (some ⟨b, o, none⟩) os.length c, VF, VX, VB] 30) = v0 at *
  have hd : Below v0.heap.size v0 v0.drew := Below.drew (Below.refl _ _)
  have S0 : ∀ w', Below v0.heap.size v0 w' → (w'.cell? ⟨w.heap.size, 0, none⟩ = some (.slice A1 nq c1) ∧ w'.cell? ⟨w.heap.size, 2, none⟩ = some (.slice (some ⟨b, o, none⟩) os.length c) ∧ w'.cell? ⟨b, o + i * 12, none⟩ = some (.int .i64 x.s) ∧ w'.cell? ⟨b, o + i * 12 + 1, none⟩ = some (.int .i64 x.c) ∧ w'.cell? ⟨b, o + i * 12 + 2, none⟩ = some (.int .i64 x.q) ∧ w'.cell? ⟨b, o + i * 12 + 3, none⟩ = some (.int .i64 x.o) ∧ w'.cell? ⟨b, o + i * 12 + 4, none⟩ = some (.int .i64 x.t) ∧ w'.cell? ⟨b, o + i * 12 + 5, none⟩ = some (.int .i64 x.dk) ∧ w'.cell? ⟨b, o + i * 12 + 6, none⟩ = some (.int .i64 x.dn) ∧ w'.cell? ⟨b, o + i * 12 + 7, none⟩ = some (.int .i64 x.lf) ∧ w'.cell? ⟨b, o + i * 12 + 8, none⟩ = some (.int .i64 x.pr) ∧ w'.cell? ⟨b, o + i * 12 + 9, none⟩ = some (.int .i64 x.fl) ∧ w'.cell? ⟨b, o + i * 12 + 10, none⟩ = some V ∧ w'.cell? ⟨b, o + i * 12 + 11, none⟩ = some (.string x.py)) := fun w' h' => by
    have e0 : ∀ k, w'.cell? ⟨w.heap.size, k, none⟩ = v0.cell? ⟨w.heap.size, k, none⟩ := fun k => h'.cell (p := ⟨w.heap.size, k, none⟩) (by show w.heap.size < v0.heap.size; omega)
    have e1 : ∀ k, w'.cell? ⟨b, k, none⟩ = w.cell? ⟨b, k, none⟩ := fun k => (h'.cell (p := ⟨b, k, none⟩) (by show b < v0.heap.size; omega)).trans (hbw.cell (p := ⟨b, k, none⟩) hb)
    exact ⟨(e0 _).trans m0, (e0 _).trans m2, (e1 _).trans x0, (e1 _).trans x1, (e1 _).trans x2, (e1 _).trans x3, (e1 _).trans x4, (e1 _).trans x5, (e1 _).trans x6, (e1 _).trans x7, (e1 _).trans x8, (e1 _).trans x9, (e1 _).trans x10, (e1 _).trans x11⟩
  have HS0 := Lib.hid S0
  refine wp_region_held_drew (S := fun w' => w'.cell? ⟨w.heap.size, 0, none⟩ = some (.slice A1 nq c1) ∧ w'.cell? ⟨w.heap.size, 2, none⟩ = some (.slice (some ⟨b, o, none⟩) os.length c) ∧ w'.cell? ⟨b, o + i * 12, none⟩ = some (.int .i64 x.s) ∧ w'.cell? ⟨b, o + i * 12 + 1, none⟩ = some (.int .i64 x.c) ∧ w'.cell? ⟨b, o + i * 12 + 2, none⟩ = some (.int .i64 x.q) ∧ w'.cell? ⟨b, o + i * 12 + 3, none⟩ = some (.int .i64 x.o) ∧ w'.cell? ⟨b, o + i * 12 + 4, none⟩ = some (.int .i64 x.t) ∧ w'.cell? ⟨b, o + i * 12 + 5, none⟩ = some (.int .i64 x.dk) ∧ w'.cell? ⟨b, o + i * 12 + 6, none⟩ = some (.int .i64 x.dn) ∧ w'.cell? ⟨b, o + i * 12 + 7, none⟩ = some (.int .i64 x.lf) ∧ w'.cell? ⟨b, o + i * 12 + 8, none⟩ = some (.int .i64 x.pr) ∧ w'.cell? ⟨b, o + i * 12 + 9, none⟩ = some (.int .i64 x.fl) ∧ w'.cell? ⟨b, o + i * 12 + 10, none⟩ = some V ∧ w'.cell? ⟨b, o + i * 12 + 11, none⟩ = some (.string x.py)) (by kernel_rfl) (S0 _ hd) (fun hHeld => ?_)
  clear S0 x0 x1 x2 x3 x4 x5 x6 x7 x8 x9 x10 x11
  generalize hX0 : v0.drew = vd at *
  clear hX0
  have hvd := hd.size
  (refine wpAnyH_take (i := 0) (v := ?_) rfl (by kernel_rfl) (by kernel_rfl) (by kernel_rfl) (fun _ _ _ h => h) (Or.inl ⟨by kernel_rfl, fun w0 hSw => ?_⟩) hHeld ?_; rotate_left; (focus ((try dsimp only at hSw); simp only [List.getElem_toArray, List.getElem_cons_zero]; (first | (go_simp; done) | (go_simp; with_reducible rfl)))); (try simp only [List.getElem_toArray, List.getElem_cons_zero, Act.put, List.setIfInBounds_toArray, List.set_cons_zero, List.set_cons_succ]))
  (refine wpAnyH_take (i := 1) (v := ?_) rfl (by kernel_rfl) (by kernel_rfl) (by kernel_rfl) (fun _ _ _ h => h) (Or.inl ⟨by kernel_rfl, fun w0 hSw => ?_⟩) hHeld ?_; rotate_left; (focus ((try dsimp only at hSw); simp only [List.getElem_toArray, List.getElem_cons_zero, List.getElem_cons_succ]; (first | (go_simp; done) | (go_simp; with_reducible rfl)))); (try simp only [List.getElem_toArray, List.getElem_cons_zero, List.getElem_cons_succ, Act.put, List.setIfInBounds_toArray, List.set_cons_zero, List.set_cons_succ]))
  (refine wpAnyH_take (i := 2) (v := ?_) rfl (by kernel_rfl) (by kernel_rfl) (by kernel_rfl) (fun _ _ _ h => h) (Or.inl ⟨by kernel_rfl, fun w0 hSw => ?_⟩) hHeld ?_; rotate_left; (focus ((try dsimp only at hSw); simp only [List.getElem_toArray, List.getElem_cons_zero, List.getElem_cons_succ]; (first | (go_simp; done) | (go_simp; with_reducible rfl)))); (try simp only [List.getElem_toArray, List.getElem_cons_zero, List.getElem_cons_succ, Act.put, List.setIfInBounds_toArray, List.set_cons_zero, List.set_cons_succ]))
  (refine wpAnyH_take (i := 3) (v := ?_) rfl (by kernel_rfl) (by kernel_rfl) (by kernel_rfl) (fun _ _ _ h => h) (Or.inl ⟨by kernel_rfl, fun w0 hSw => ?_⟩) hHeld ?_; rotate_left; (focus ((try dsimp only at hSw); simp only [List.getElem_toArray, List.getElem_cons_zero, List.getElem_cons_succ]; (first | (go_simp; done) | (go_simp; with_reducible rfl)))); (try simp only [List.getElem_toArray, List.getElem_cons_zero, List.getElem_cons_succ, Act.put, List.setIfInBounds_toArray, List.set_cons_zero, List.set_cons_succ]))
  (refine wpAnyH_take (i := 4) (v := ?_) rfl (by kernel_rfl) (by kernel_rfl) (by kernel_rfl) (fun _ _ _ h => h) (Or.inl ⟨by kernel_rfl, fun w0 hSw => ?_⟩) hHeld ?_; rotate_left; (focus ((try dsimp only at hSw); simp only [List.getElem_toArray, List.getElem_cons_zero, List.getElem_cons_succ]; (first | (go_simp; done) | (go_simp; with_reducible rfl)))); (try simp only [List.getElem_toArray, List.getElem_cons_zero, List.getElem_cons_succ, Act.put, List.setIfInBounds_toArray, List.set_cons_zero, List.set_cons_succ]))
  (refine wpAnyH_take (i := 5) (v := ?_) rfl (by kernel_rfl) (by kernel_rfl) (by kernel_rfl) (fun _ _ _ h => h) (Or.inl ⟨by kernel_rfl, fun w0 hSw => ?_⟩) hHeld ?_; rotate_left; (focus ((try dsimp only at hSw); simp only [List.getElem_toArray, List.getElem_cons_zero, List.getElem_cons_succ]; (first | (go_simp; done) | (go_simp; with_reducible rfl)))); (try simp only [List.getElem_toArray, List.getElem_cons_zero, List.getElem_cons_succ, Act.put, List.setIfInBounds_toArray, List.set_cons_zero, List.set_cons_succ]))
  (refine wpAnyH_take (i := 6) (v := ?_) rfl (by kernel_rfl) (by kernel_rfl) (by kernel_rfl) (fun _ _ _ h => h) (Or.inl ⟨by kernel_rfl, fun w0 hSw => ?_⟩) hHeld ?_; rotate_left; (focus ((try dsimp only at hSw); simp only [List.getElem_toArray, List.getElem_cons_zero, List.getElem_cons_succ]; (first | (go_simp; done) | (go_simp; with_reducible rfl)))); (try simp only [List.getElem_toArray, List.getElem_cons_zero, List.getElem_cons_succ, Act.put, List.setIfInBounds_toArray, List.set_cons_zero, List.set_cons_succ]))
  (refine wpAnyH_take (i := 7) (v := ?_) rfl (by kernel_rfl) (by kernel_rfl) (by kernel_rfl) (fun _ _ _ h => h) (Or.inl ⟨by kernel_rfl, fun w0 hSw => ?_⟩) hHeld ?_; rotate_left; (focus ((try dsimp only at hSw); simp only [List.getElem_toArray, List.getElem_cons_zero, List.getElem_cons_succ]; (first | (go_simp; done) | (go_simp; with_reducible rfl)))); (try simp only [List.getElem_toArray, List.getElem_cons_zero, List.getElem_cons_succ, Act.put, List.setIfInBounds_toArray, List.set_cons_zero, List.set_cons_succ]))
  (refine wpAnyH_take (i := 8) (v := ?_) rfl (by kernel_rfl) (by kernel_rfl) (by kernel_rfl) (fun _ _ _ h => h) (Or.inl ⟨by kernel_rfl, fun w0 hSw => ?_⟩) hHeld ?_; rotate_left; (focus ((try dsimp only at hSw); simp only [List.getElem_toArray, List.getElem_cons_zero, List.getElem_cons_succ]; (first | (go_simp; done) | (go_simp; with_reducible rfl)))); (try simp only [List.getElem_toArray, List.getElem_cons_zero, List.getElem_cons_succ, Act.put, List.setIfInBounds_toArray, List.set_cons_zero, List.set_cons_succ]))
  refine wpAnyH_ready (rs := [9]) (by kernel_rfl) (by simp) ?_
  refine AllReadyH.cons rfl (fun K hK => ?_) AllReadyH.nil
  simp only [List.getElem_toArray, List.getElem_cons_zero, List.getElem_cons_succ]
  go_simp
  have hd3 := hd.alloc hvd (.cells #[.int .i64 0, .int .i64 0, .int .i64 0, .int .i64 0, .int .i64 0, .int .i64 0, .int .i64 0, .int .i64 0, .int .i64 0, .int .i64 0, .slice none 0 0, .string ⟨#[]⟩] 59)
  refine hK.out _ _ (HS0.out _ hd3) (fun _ => ?_)
  clear hK K
  (try simp only [List.getElem_toArray, List.getElem_cons_zero, List.getElem_cons_succ, Act.put, List.setIfInBounds_toArray, List.set_cons_zero, List.set_cons_succ])
  refine wpAnyH_ready (rs := [10]) (by kernel_rfl) (by simp) ?_
  refine AllReadyH.cons rfl (fun K hK => ?_) AllReadyH.nil
  simp only [List.getElem_toArray, List.getElem_cons_zero, List.getElem_cons_succ]
  refine wp_store_row 59 _ _ rfl vd.heap.size _ rfl rfl 59 _ (heap_alloc_last vd _) (by kernel_rfl) (by kernel_rfl) (by simp [go_sem]; exact ⟨rfl, rfl, rfl, rfl, rfl, rfl, rfl, rfl, rfl, rfl, hV1, rfl⟩) ?_
  rw [World.setRow_alloc_new]
  have hd4 := hd.alloc hvd (.cells #[.int .i64 x.s, .int .i64 x.c, .int .i64 x.q, .int .i64 x.o, .int .i64 x.t, .int .i64 x.dk, .int .i64 x.dn, .int .i64 x.lf, .int .i64 x.pr, .int .i64 x.fl, V, .string x.py] 59)
  refine hK.out _ _ (HS0.out _ hd4) (fun hH2 => ?_)
  clear hK K hHeld
  have hHeld := hH2
  clear hH2
  (try simp only [Act.put])
  (refine wpAnyH_take (i := 11) (v := ?_) rfl (by kernel_rfl) (by kernel_rfl) (by kernel_rfl) (fun _ _ _ h => h) (Or.inl ⟨by kernel_rfl, fun w0 hSw => ?_⟩) hHeld ?_; rotate_left; (focus ((try dsimp only at hSw); simp only [List.getElem_toArray, List.getElem_cons_zero, List.getElem_cons_succ]; (first | (go_simp; done) | (go_simp; with_reducible rfl)))); (try simp only [List.getElem_toArray, List.getElem_cons_zero, List.getElem_cons_succ, Act.put, List.setIfInBounds_toArray, List.set_cons_zero, List.set_cons_succ]))
  refine wpAnyH_done (by kernel_rfl) ?_ _
  clear hHeld
  have hpb : vd.heap.size < (vd.alloc (.cells #[.int .i64 x.s, .int .i64 x.c, .int .i64 x.q, .int .i64 x.o, .int .i64 x.t, .int .i64 x.dk, .int .i64 x.dn, .int .i64 x.lf, .int .i64 x.pr, .int .i64 x.fl, V, .string x.py] 59)).heap.size := by simp
  have y0 : (vd.alloc (.cells #[.int .i64 x.s, .int .i64 x.c, .int .i64 x.q, .int .i64 x.o, .int .i64 x.t, .int .i64 x.dk, .int .i64 x.dn, .int .i64 x.lf, .int .i64 x.pr, .int .i64 x.fl, V, .string x.py] 59)).cell? ⟨vd.heap.size, 0, none⟩ = some (.int .i64 x.s) := by simp [go_sem]
  have y1 : (vd.alloc (.cells #[.int .i64 x.s, .int .i64 x.c, .int .i64 x.q, .int .i64 x.o, .int .i64 x.t, .int .i64 x.dk, .int .i64 x.dn, .int .i64 x.lf, .int .i64 x.pr, .int .i64 x.fl, V, .string x.py] 59)).cell? ⟨vd.heap.size, 1, none⟩ = some (.int .i64 x.c) := by simp [go_sem]
  have y2 : (vd.alloc (.cells #[.int .i64 x.s, .int .i64 x.c, .int .i64 x.q, .int .i64 x.o, .int .i64 x.t, .int .i64 x.dk, .int .i64 x.dn, .int .i64 x.lf, .int .i64 x.pr, .int .i64 x.fl, V, .string x.py] 59)).cell? ⟨vd.heap.size, 2, none⟩ = some (.int .i64 x.q) := by simp [go_sem]
  have y3 : (vd.alloc (.cells #[.int .i64 x.s, .int .i64 x.c, .int .i64 x.q, .int .i64 x.o, .int .i64 x.t, .int .i64 x.dk, .int .i64 x.dn, .int .i64 x.lf, .int .i64 x.pr, .int .i64 x.fl, V, .string x.py] 59)).cell? ⟨vd.heap.size, 3, none⟩ = some (.int .i64 x.o) := by simp [go_sem]
  have y4 : (vd.alloc (.cells #[.int .i64 x.s, .int .i64 x.c, .int .i64 x.q, .int .i64 x.o, .int .i64 x.t, .int .i64 x.dk, .int .i64 x.dn, .int .i64 x.lf, .int .i64 x.pr, .int .i64 x.fl, V, .string x.py] 59)).cell? ⟨vd.heap.size, 4, none⟩ = some (.int .i64 x.t) := by simp [go_sem]
  have y5 : (vd.alloc (.cells #[.int .i64 x.s, .int .i64 x.c, .int .i64 x.q, .int .i64 x.o, .int .i64 x.t, .int .i64 x.dk, .int .i64 x.dn, .int .i64 x.lf, .int .i64 x.pr, .int .i64 x.fl, V, .string x.py] 59)).cell? ⟨vd.heap.size, 5, none⟩ = some (.int .i64 x.dk) := by simp [go_sem]
  have y6 : (vd.alloc (.cells #[.int .i64 x.s, .int .i64 x.c, .int .i64 x.q, .int .i64 x.o, .int .i64 x.t, .int .i64 x.dk, .int .i64 x.dn, .int .i64 x.lf, .int .i64 x.pr, .int .i64 x.fl, V, .string x.py] 59)).cell? ⟨vd.heap.size, 6, none⟩ = some (.int .i64 x.dn) := by simp [go_sem]
  have y7 : (vd.alloc (.cells #[.int .i64 x.s, .int .i64 x.c, .int .i64 x.q, .int .i64 x.o, .int .i64 x.t, .int .i64 x.dk, .int .i64 x.dn, .int .i64 x.lf, .int .i64 x.pr, .int .i64 x.fl, V, .string x.py] 59)).cell? ⟨vd.heap.size, 7, none⟩ = some (.int .i64 x.lf) := by simp [go_sem]
  have y8 : (vd.alloc (.cells #[.int .i64 x.s, .int .i64 x.c, .int .i64 x.q, .int .i64 x.o, .int .i64 x.t, .int .i64 x.dk, .int .i64 x.dn, .int .i64 x.lf, .int .i64 x.pr, .int .i64 x.fl, V, .string x.py] 59)).cell? ⟨vd.heap.size, 8, none⟩ = some (.int .i64 x.pr) := by simp [go_sem]
  have y9 : (vd.alloc (.cells #[.int .i64 x.s, .int .i64 x.c, .int .i64 x.q, .int .i64 x.o, .int .i64 x.t, .int .i64 x.dk, .int .i64 x.dn, .int .i64 x.lf, .int .i64 x.pr, .int .i64 x.fl, V, .string x.py] 59)).cell? ⟨vd.heap.size, 9, none⟩ = some (.int .i64 x.fl) := by simp [go_sem]
  have y10 : (vd.alloc (.cells #[.int .i64 x.s, .int .i64 x.c, .int .i64 x.q, .int .i64 x.o, .int .i64 x.t, .int .i64 x.dk, .int .i64 x.dn, .int .i64 x.lf, .int .i64 x.pr, .int .i64 x.fl, V, .string x.py] 59)).cell? ⟨vd.heap.size, 10, none⟩ = some V := by simp [go_sem]
  have y11 : (vd.alloc (.cells #[.int .i64 x.s, .int .i64 x.c, .int .i64 x.q, .int .i64 x.o, .int .i64 x.t, .int .i64 x.dk, .int .i64 x.dn, .int .i64 x.lf, .int .i64 x.pr, .int .i64 x.fl, V, .string x.py] 59)).cell? ⟨vd.heap.size, 11, none⟩ = some (.string x.py) := by simp [go_sem]
  obtain ⟨m0', m2', -⟩ := HS0.out _ hd4
  have hB1 : Below w.heap.size w (vd.alloc (.cells #[.int .i64 x.s, .int .i64 x.c, .int .i64 x.q, .int .i64 x.o, .int .i64 x.t, .int .i64 x.dk, .int .i64 x.dn, .int .i64 x.lf, .int .i64 x.pr, .int .i64 x.fl, V, .string x.py] 59)) := hbw.trans (hd4.mono (by omega))
  clear m0 m2 HS0 hd3
  generalize vd.alloc (.cells #[.int .i64 x.s, .int .i64 x.c, .int .i64 x.q, .int .i64 x.o, .int .i64 x.t, .int .i64 x.dk, .int .i64 x.dn, .int .i64 x.lf, .int .i64 x.pr, .int .i64 x.fl, V, .string x.py] 59) = v1 at *
  have hq : w.heap.size < vd.heap.size := by omega
  generalize vd.heap.size = pb at *
  have hsz1 : w.heap.size < v1.heap.size := by omega
  have hV2 := (HV.out.blks hB1).blks_more hB1.size
  have HV2 := Lib.hid hV2
  have HT2 := Lib.hid ((HTT.out.buns hB1).buns_more hB1.size)
  clear hd hd4 hvd hq hsz hbw hV2
  by_cases hE : bunE x = 0
  rotate_left
  · have HR := Lib.hid (HEE.out (bunE x) (if_pos hE))
    have qE : (bunE x != 0) = true := by simpa using hE
    clear hE
    go_wp2_with fail
    refine (bun_any x V _ HV2.out).mono ?_
    rintro e w1 ⟨rfl, hb1⟩
    have hBB := bt' hB1 hb1 (by omega)
    generalize bunE x = er at *
    go_wp2_with fail
    go_ret
    exact ⟨by rw [HR.out]; rfl, hBB⟩
  have HE := Lib.hid hE
  have HR1 : Hid (∀ r : Int, (if 0 < x.t ∨ x.dk ≠ 1 then 10 else if (nq : Int) ≤ x.s ∨ (nq : Int) ≤ x.dn ∨ x.s = x.dn then 2 else if pre.any (idEq x) = true then 6 else 0 : Int) = r → ordE pre nq x = r) := fun r h => HEE.out r (by rw [if_neg (by simp [HE.out])]; exact h)
  clear hE HEE
  go_wp2_with fail
  refine (bun_any x V _ HV2.out).mono ?_
  rw [HE.out]
  rintro e w1 ⟨rfl, hb1⟩
  have hBB := bt' hB1 hb1 (by omega)
  have e1 := hb1.size
  have hk : ∀ o, w1.cell? ⟨pb, o, none⟩ = v1.cell? ⟨pb, o, none⟩ := fun o => hb1.cell (p := ⟨pb, o, none⟩) hpb
  have hk0 : ∀ o, w1.cell? ⟨w.heap.size, o, none⟩ = v1.cell? ⟨w.heap.size, o, none⟩ := fun o => hb1.cell (p := ⟨w.heap.size, o, none⟩) hsz1
  have HV3 := Lib.hid ((HV2.out.blks hb1).blks_more hb1.size)
  have HT3 := Lib.hid ((HT2.out.buns hb1).buns_more hb1.size)
  clear hb1 HV2 HT2
  go_wp2_with fail
  refine (frag_any x V _ HV3.out HE.out).mono ?_
  rintro e w2 ⟨rfl, hb2⟩
  have hBB2 := bt' hBB hb2 (by omega)
  have e2 := hb2.size
  have hk2 : ∀ o, w2.cell? ⟨pb, o, none⟩ = w1.cell? ⟨pb, o, none⟩ := fun o => hb2.cell (p := ⟨pb, o, none⟩) (by show pb < _; omega)
  have hk3 : ∀ o, w2.cell? ⟨w.heap.size, o, none⟩ = w1.cell? ⟨w.heap.size, o, none⟩ := fun o => hb2.cell (p := ⟨w.heap.size, o, none⟩) (by show w.heap.size < _; omega)
  have HT4 := Lib.hid ((HT3.out.buns hb2).buns_more hb2.size)
  have z0 := (hk2 0).trans ((hk 0).trans y0)
  have z1 := (hk2 1).trans ((hk 1).trans y1)
  have z2 := (hk2 2).trans ((hk 2).trans y2)
  have z3 := (hk2 3).trans ((hk 3).trans y3)
  have z4 := (hk2 4).trans ((hk 4).trans y4)
  have z5 := (hk2 5).trans ((hk 5).trans y5)
  have z6 := (hk2 6).trans ((hk 6).trans y6)
  have n0 := (hk3 0).trans ((hk0 0).trans m0')
  have n2 := (hk3 2).trans ((hk0 2).trans m2')
  have hp2 : pb < w2.heap.size := by omega
  clear hk hk0 hk2 hk3 y0 y1 y2 y3 y4 y5 y6 y7 y8 y9 y10 y11 m0' m2' hb2 HT3 HV3 HE hBB hpb
  have endA : ∀ (r : Int), ordE pre nq x = r → ∀ (a : Act), True := fun _ _ _ => trivial
  clear endA
  by_cases ht : 0 < x.t
  · have HR := Lib.hid (HR1.out 10 (if_pos (.inl ht)))
    have qt : decide (0 < x.t) = true := decide_eq_true ht
    go_wp2_with fail
    go_ret
    exact ⟨by rw [HR.out]; rfl, hBB2⟩
  by_cases hdk : x.dk = 1
  rotate_left
  · have HR := Lib.hid (HR1.out 10 (if_pos (.inr hdk)))
    have qt : decide (0 < x.t) = false := decide_eq_false ht
    have qd : (x.dk != 1) = true := by simpa using hdk
    clear hdk ht
    go_wp2_with fail
    go_ret
    exact ⟨by rw [HR.out]; rfl, hBB2⟩
  have HR2 : Hid (∀ r : Int, (if (nq : Int) ≤ x.s ∨ (nq : Int) ≤ x.dn ∨ x.s = x.dn then 2 else if pre.any (idEq x) = true then 6 else 0 : Int) = r → ordE pre nq x = r) := fun r h => HR1.out r (by rw [if_neg (by simp [hdk]; omega)]; exact h)
  have qt : decide (0 < x.t) = false := decide_eq_false ht
  have qd : (x.dk != 1) = false := by simpa using hdk
  clear hdk ht HR1
  by_cases hs : (nq : Int) ≤ x.s
  · have HR := Lib.hid (HR2.out 2 (if_pos (.inl hs)))
    go_wp2_with fail
    go_ret
    exact ⟨by rw [HR.out]; rfl, hBB2⟩
  by_cases hn : (nq : Int) ≤ x.dn
  · have HR := Lib.hid (HR2.out 2 (if_pos (.inr (.inl hn))))
    go_wp2_with fail
    go_ret
    exact ⟨by rw [HR.out]; rfl, hBB2⟩
  by_cases hsd : x.s = x.dn
  · have HR := Lib.hid (HR2.out 2 (if_pos (.inr (.inr hsd))))
    have qs : (x.s == x.dn) = true := by simpa using hsd
    clear hsd
    go_wp2_with fail
    go_ret
    exact ⟨by rw [HR.out]; rfl, hBB2⟩
  have HR3 : Hid (∀ r : Int, (if pre.any (idEq x) = true then 6 else 0 : Int) = r → ordE pre nq x = r) := fun r h => HR2.out r (by rw [if_neg (by simp [hs, hn, hsd])]; exact h)
  have qs : (x.s == x.dn) = false := by simpa using hsd
  clear hsd HR2
  cases hany : pre.any (idEq x)
  all_goals
    have HR := Lib.hid (HR3.out _ (by rw [hany]))
    have HA := Lib.hid hany
    clear hany HR3
    go_wp2_with fail
    refine (ob_contains _ _ pb (idEq x) _ HT4.out (fun y V' W hW => oid_closure x y V' pb W (by have := hW.size; omega) ((hW.cell (p := ⟨pb, 0, none⟩) hp2).trans z0) ((hW.cell (p := ⟨pb, 1, none⟩) hp2).trans z1) ((hW.cell (p := ⟨pb, 2, none⟩) hp2).trans z2) ((hW.cell (p := ⟨pb, 3, none⟩) hp2).trans z3) ((hW.cell (p := ⟨pb, 4, none⟩) hp2).trans z4))).mono ?_
    rw [HA.out]
    rintro e w3 ⟨rfl, hb3⟩
    have hBB3 := bt' hBB2 hb3 (by omega)
    go_wp2_with fail
    go_ret
    exact ⟨by rw [HR.out]; rfl, hBB3⟩
end Go.Proofs.YtclkjjdfdndplaaGreatDoor

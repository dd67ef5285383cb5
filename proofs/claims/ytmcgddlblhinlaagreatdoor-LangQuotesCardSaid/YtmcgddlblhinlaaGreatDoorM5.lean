/- The reader of faults' lines. -/
import Derived.Test.YtmcgddlblhinlaaGreatDoorH12
import Derived.Deep.DrawnRows
import Derived.Deep.WholeRow
namespace Go.Proofs.YtmcgddlblhinlaaGreatDoor
open Go.RowKit
attribute [local go_sem ↓] Go.wp_at_zero Go.wp_at_succ
theorem info76 : (Tryz.prog.info? 76).map (fun i => (i.zero, i.size, i.bytes)) = some (some (.agg #[.int .i64 0, .int .i64 0, .int .i64 0, .int .i64 0]), 4, 32) := by kernel_rfl
set_option maxHeartbeats 8000000 in
set_option maxRecDepth 100000 in
theorem read_flt (pb B : Nat) (st : St) (VQ VC VO VF VX : Value) (ov : List (Bun × Value)) (s : ByteArray) (w : World) (hP : PS w B pb st VQ VC VO VF VX ov) (hG : Glob w) (hs0 : 1 ≤ s.size) (hs : s.size ≤ 8192) (hlen : st.m.fs.length ≤ 10000)
    (hc : (Lib.cut s.data.toList [32]).1 = (wordK 5).data.toList) : Calls Tryz.prog 63 #[.pointer (some ⟨pb, 0, none⟩), .string s] w (MPost w B pb st s) := by
  obtain ⟨AVQ, cVQ, rfl⟩ := own_slice hP.rq
  obtain ⟨AVC, cVC, rfl⟩ := own_slice hP.rc
  obtain ⟨AVO, cVO, rfl⟩ := own_slice hP.ro
  obtain ⟨AVF, cVF, rfl⟩ := own_slice hP.rf
  obtain ⟨AVX, cVX, rfl⟩ := own_slice hP.rx
  obtain ⟨t, hsp⟩ := sp_of (s := s) (k := 5) (by decide) hs0 hc
  have HC := Lib.hid hc
  have HSP := Lib.hid hsp
  have HP := Lib.hid hP
  have hpB := hP.lt
  have hBl := hP.le
  have h8 := hP.g8
  have hl0 := hsp.len
  have hl2 := hsp.len2
  have hvVF := Lib.hid (fun g (e : ((.slice AVF st.m.fs.length cVF) : Value).ownBlock = some g) => (hP.rf.lt g e).2)
  have hask : askK 5 = 5 := rfl
  have HSE : Hid (wsK (min (5 + 1) (s.size + 1) - 1) s = wordK 5 :: t) := hsp.eq
  have HG := Lib.hid hG
  rw [hask] at hl0 hl2
  have HNX : Hid (∀ x, IsI s.data.toList x → ∃ f : Flt, x = .flt f ∧ InR [f.n, f.a, f.k] ∧ (f.u = -1 ∨ InR [f.u]) ∧ [itoaS f.n, itoaS f.a, itoaS f.k, untS f.u] = t) := fun x hx => by
    have hk := kind_of hx (by decide) (by decide) HC.out
    have hr := HSP.out.rest hk hx
    cases x with
    | flt f => exact ⟨f, rfl, hx.1.1, hx.1.2, hr⟩
    | node | con | ord | blk | otg | bnd => cases hk
  clear hP hsp hask hc hG
  by_cases h4 : t.length = 4
  rotate_left
  · have h4i : ((t.length : Int) != 4) = true := by simp; omega
    have HNO : Hid (∀ x, IsI s.data.toList x → fitM st x = false) := fun x hx => by
      obtain ⟨f, _, _, _, e⟩ := HNX.out x hx
      exact absurd (by rw [← e]; rfl) h4
    clear h4 HNX
    go_enter Tryz.func63, Tryz.ntmps63
    go_wp2_with fail
    refine (split_any s 5 (by omega) (by omega) hs0 (by omega) _ HG.out).mono ?_
    rw [HSE.out]
    rintro e w1 ⟨rfl, rfl⟩
    go_wp2_with fail
    go_ret
    exact ⟨false, rfl, Frm.of_below ((Below.refl _ w).alloc (Nat.le_refl _) _) hBl, fun _ => HNO.out, fun h => by cases h⟩
  have h4i : ((t.length : Int) != 4) = false := by simp; omega
  go_enter Tryz.func63, Tryz.ntmps63
  go_wp2_with fail
  refine (split_any s 5 (by omega) (by omega) hs0 (by omega) _ HG.out).mono ?_
  rw [HSE.out]
  generalize hM : min (5 + 1) (s.size + 1) = M at *
  have hM9 : M ≤ 6 := by omega
  have hM5 : 5 ≤ M := by omega
  clear hM hl2
  rintro e w1 ⟨rfl, hw1⟩
  have b1 : Below w.heap.size w w1 := by rw [hw1]; exact (Below.refl _ w).alloc (Nat.le_refl _) _
  have q1 : w1.heap[w.heap.size]? = some (.cells (Lib.cellsOf (wordK 5 :: t) M) 9 (0, 0)) := by rw [hw1]; exact heap_alloc_last _ _
  have z1 : w1.heap.size = w.heap.size + 1 := by rw [hw1]; simp
  clear hw1
  obtain ⟨t0, t1, t2, t3, rfl⟩ := list4B h4
  have k3 : (3 : Int) ≤ ((M - 1 : Nat) : Int) := by omega
  have k4 : (4 : Int) ≤ ((M - 1 : Nat) : Int) := by omega
  have hwds := wds_of q1 HSP.out hs
  have HWD := Lib.hid hwds
  have x3 := (hwds 3 (by simp)).2
  simp only [List.getD_cons_succ, List.getD_cons_zero, Nat.reduceAdd] at x3
  have zW := q1
  clear hwds h4 hl0
  go_wp2_with fail
  have b2 : Below w.heap.size w ((w1.alloc (.cells #[.int .i64 0, .int .i64 0, .int .i64 0, .int .i64 (-1)] 76)).alloc (.cells #[.pointer (some ⟨w.heap.size + 1, 0, none⟩), .pointer (some ⟨w.heap.size + 1, 1, none⟩), .pointer (some ⟨w.heap.size + 1, 2, none⟩)] 122)) := (b1.alloc b1.size _).alloc (by simp; omega) _
  have q2 : ((w1.alloc (.cells #[.int .i64 0, .int .i64 0, .int .i64 0, .int .i64 (-1)] 76)).alloc (.cells #[.pointer (some ⟨w.heap.size + 1, 0, none⟩), .pointer (some ⟨w.heap.size + 1, 1, none⟩), .pointer (some ⟨w.heap.size + 1, 2, none⟩)] 122)).heap[w.heap.size]? = some (.cells (Lib.cellsOf [wordK 5, t0, t1, t2, t3] M) 9 (0, 0)) := (Below.heap_alloc _ _ _ (by simp; omega)).trans ((Below.heap_alloc _ _ _ (by omega)).trans q1)
  have q3 : ((w1.alloc (.cells #[.int .i64 0, .int .i64 0, .int .i64 0, .int .i64 (-1)] 76)).alloc (.cells #[.pointer (some ⟨w.heap.size + 1, 0, none⟩), .pointer (some ⟨w.heap.size + 1, 1, none⟩), .pointer (some ⟨w.heap.size + 1, 2, none⟩)] 122)).heap[w.heap.size + 1]? = some (.cells #[.int .i64 0, .int .i64 0, .int .i64 0, .int .i64 (-1)] 76 (0, 0)) := by
    rw [Below.heap_alloc _ _ _ (by simp; omega), ← z1]; exact heap_alloc_last _ _
  have q4 : ((w1.alloc (.cells #[.int .i64 0, .int .i64 0, .int .i64 0, .int .i64 (-1)] 76)).alloc (.cells #[.pointer (some ⟨w.heap.size + 1, 0, none⟩), .pointer (some ⟨w.heap.size + 1, 1, none⟩), .pointer (some ⟨w.heap.size + 1, 2, none⟩)] 122)).heap[w.heap.size + 1 + 1]? = some (.cells #[.pointer (some ⟨w.heap.size + 1, 0, none⟩), .pointer (some ⟨w.heap.size + 1, 1, none⟩), .pointer (some ⟨w.heap.size + 1, 2, none⟩)] 122 (0, 0)) := by
    have := heap_alloc_last (w1.alloc (.cells #[.int .i64 0, .int .i64 0, .int .i64 0, .int .i64 (-1)] 76)) (.cells #[.pointer (some ⟨w.heap.size + 1, 0, none⟩), .pointer (some ⟨w.heap.size + 1, 1, none⟩), .pointer (some ⟨w.heap.size + 1, 2, none⟩)] 122)
    rw [show (w1.alloc (.cells #[.int .i64 0, .int .i64 0, .int .i64 0, .int .i64 (-1)] 76)).heap.size = w.heap.size + 1 + 1 by simp; omega] at this
    exact this
  have z2 : ((w1.alloc (.cells #[.int .i64 0, .int .i64 0, .int .i64 0, .int .i64 (-1)] 76)).alloc (.cells #[.pointer (some ⟨w.heap.size + 1, 0, none⟩), .pointer (some ⟨w.heap.size + 1, 1, none⟩), .pointer (some ⟨w.heap.size + 1, 2, none⟩)] 122)).heap.size = w.heap.size + 1 + 1 + 1 := by simp; omega
  have hG2 : Glob ((w1.alloc (.cells #[.int .i64 0, .int .i64 0, .int .i64 0, .int .i64 (-1)] 76)).alloc (.cells #[.pointer (some ⟨w.heap.size + 1, 0, none⟩), .pointer (some ⟨w.heap.size + 1, 1, none⟩), .pointer (some ⟨w.heap.size + 1, 2, none⟩)] 122)) := HG.out.below b2
  generalize ((w1.alloc (.cells #[.int .i64 0, .int .i64 0, .int .i64 0, .int .i64 (-1)] 76)).alloc (.cells #[.pointer (some ⟨w.heap.size + 1, 0, none⟩), .pointer (some ⟨w.heap.size + 1, 1, none⟩), .pointer (some ⟨w.heap.size + 1, 2, none⟩)] 122)) = w2 at *
  clear q1 b1 z1 zW x3 HWD
  have hw2 := wds_of q2 HSP.out hs
  have hw3 : ∀ j, j < [t0, t1, t2].length → ([t0, t1, t2].getD j ⟨#[]⟩).size ≤ 70000 ∧ w2.cell? ⟨w.heap.size, 1 + j, none⟩ = some (.string ([t0, t1, t2].getD j ⟨#[]⟩)) := fun j hj => by
    have h := hw2 j (by simp at hj ⊢; omega)
    match j, hj with
    | 0, _ => exact h
    | 1, _ => exact h
    | 2, _ => exact h
  have x3 := hw2 3 (by simp)
  have HX3 := Lib.hid x3
  clear x3 hw2
  refine (numbers_any w.heap.size 1 _ (w.heap.size + 1 + 1) [t0, t1, t2] (psOf (w.heap.size + 1) [0, 1, 2]) (List.replicate 3 0) w2 hG2 hw3 (by omega) (by simp) (by simp [psOf]) (psok_of q3 (by omega) (by decide)) (nst_of (os := [0, 1, 2]) q3 (fun o ho => by simp only [List.mem_cons, List.not_mem_nil, or_false] at ho; rcases ho with rfl | rfl | rfl <;> rfl)) (by omega) (ptr_of (ps := psOf (w.heap.size + 1) [0, 1, 2]) q4) (fun j hj => by rw [psOf_get _ _ j hj]; show _ ≠ w.heap.size + 1; omega) (fun j hj => by rw [psOf_get _ _ j hj]; show _ ≠ w.heap.size + 1; omega)).mono ?_
  rintro e w3 ⟨ok, vs, rfl, hn, hy, hno⟩
  obtain ⟨a, b, c, rfl⟩ := list3 hn.len
  have hz3 := hn.sz
  have hge : ∀ j, j < (psOf (w.heap.size + 1) [0, 1, 2]).length → w.heap.size ≤ ((psOf (w.heap.size + 1) [0, 1, 2]).getD j (0, 0)).1 := fun j hj => by rw [psOf_get _ _ j hj]; show w.heap.size ≤ w.heap.size + 1; omega
  have n0 : w3.cell? ⟨w.heap.size + 1, 0, none⟩ = some (.int .i64 a) := hn.at_ 0 (by simp [psOf])
  have n1 : w3.cell? ⟨w.heap.size + 1, 1, none⟩ = some (.int .i64 b) := hn.at_ 1 (by simp [psOf])
  have n2 : w3.cell? ⟨w.heap.size + 1, 2, none⟩ = some (.int .i64 c) := hn.at_ 2 (by simp [psOf])
  have n3 : w3.cell? ⟨w.heap.size + 1, 3, none⟩ = some (.int .i64 (-1)) := (hn.oth _ 3 (by omega) (fun j hj e => by
    rw [psOf_get _ _ j hj] at e
    have e2 := (Prod.mk.inj e).2
    match j, hj with
    | 0, _ => cases e2
    | 1, _ => cases e2
    | 2, _ => cases e2)).trans (by rw [cell_blk q3]; rfl)
  have nf : w3.frozen? ⟨w.heap.size + 1, 3, none⟩ = false := (hn.fz _ 3 (by omega)).trans (frozen_blk q3 3)
  have nx : t3.size ≤ 70000 ∧ w3.cell? ⟨w.heap.size, 4, none⟩ = some (.string t3) := ⟨HX3.out.1, (hn.oth _ 4 (by omega) (fun j hj e => by
    rw [psOf_get _ _ j hj] at e
    have e2 := (Prod.mk.inj e).1
    omega)).trans HX3.out.2⟩
  have P3 := HP.out.nst b2 hn hge
  have F3 := Frm.nst (pb := pb) hBl b2 hn hge
  have G3 : Glob w3 := hG2.nst hn (psok_of q3 (by omega) (by decide))
  have HP3 := Lib.hid P3
  have HK3 : Hid (∀ k, k < w.heap.size → w3.heap[k]? = w.heap[k]?) := fun k hk => (hn.blk k (by omega) (fun j hj e => by have := hge j hj; omega)).trans (b2.block k hk)
  have HF3 := Lib.hid F3
  have HG3 := Lib.hid G3
  have hN3 : Hid (ok = false → ∀ x, IsI s.data.toList x → fitM st x = false) := fun h x hx => by
    obtain ⟨f, _, h1, _, e⟩ := HNX.out x hx
    have e2 : [f.n, f.a, f.k].map itoaS = [t0, t1, t2] := by
      simp only [List.cons.injEq] at e
      simp only [List.map_cons, List.map_nil, e.1, e.2.1, e.2.2.1]
    exact absurd rfl (hno h _ (by rw [← e2]; exact of_nums h1))
  have hY3 : Hid (ok = true → InR [a, b, c] ∧ [t0, t1, t2] = [a, b, c].map itoaS) := fun h => nums_of (hy h)
  obtain ⟨i0, hi, hz0, hz1, hz2⟩ := info_parts info76
  have HI : Hid ((Tryz.prog.info? 76 = some i0) ∧ i0.zero = some _ ∧ i0.size = _ ∧ i0.bytes = _) := ⟨hi, hz0, hz1, hz2⟩
  clear hi hz0 hz1 hz2
  have hzL : w.heap.size + 1 < w3.heap.size := by omega
  have hz1 : w.heap.size < w3.heap.size := by omega
  clear hy hno hge hn b2 q2 q3 q4 hG2 hw3 HX3 P3 F3 G3 z2 hz3 HSE
  cases ok with
  | false =>
    have HNO := Lib.hid (hN3.out rfl)
    clear hY3 hN3
    have hP4 := HP3.out.below (Below.drew (Below.refl _ _))
    have F4 : Frm B pb w w3.drew := HF3.out.trans (Frm.of_below (Below.drew (Below.refl w3.heap.size w3)) hP4.le)
    go_wp2_with fail
    have m0 : w3.drew.cell? ⟨w.heap.size + 1, 0, none⟩ = some (.int .i64 a) := n0
    have m1 : w3.drew.cell? ⟨w.heap.size + 1, 1, none⟩ = some (.int .i64 b) := n1
    have m2 : w3.drew.cell? ⟨w.heap.size + 1, 2, none⟩ = some (.int .i64 c) := n2
    have m3 : w3.drew.cell? ⟨w.heap.size + 1, 3, none⟩ = some (.int .i64 (-1)) := n3
    clear n0 n1 n2 n3 nf nx
    have c0 := cell_blk hP4.blk 3
    simp only [List.getElem?_toArray, List.getElem?_cons_zero, List.getElem?_cons_succ] at c0
    refine wp_region_last (fun w' => w'.cell? ⟨pb, 3, none⟩ = some (.slice AVF st.m.fs.length cVF) ∧ w'.cell? ⟨(w.heap.size + 1), 0, none⟩ = some (.int .i64 a) ∧ w'.cell? ⟨(w.heap.size + 1), 1, none⟩ = some (.int .i64 b) ∧ w'.cell? ⟨(w.heap.size + 1), 2, none⟩ = some (.int .i64 c) ∧ w'.cell? ⟨(w.heap.size + 1), 3, none⟩ = some (.int .i64 (-1))) 12 (by kernel_rfl) ⟨c0, m0, m1, m2, m3⟩ (fun hHeld => ?_)
    (refine wpAnyK_take (i := 0) (v := ?_) rfl rfl (by kernel_rfl) (by kernel_rfl) (by kernel_rfl) (by kernel_rfl) (fun _ _ _ h => h) (Or.inl ⟨by kernel_rfl, fun w0 hSw => ?_⟩) hHeld ?_; rotate_left; (focus ((try dsimp only at hSw); simp only [List.getElem_toArray, List.getElem_cons_zero]; (first | (go_simp; done) | (go_simp; with_reducible rfl)))); (try simp only [List.getElem_toArray, List.getElem_cons_zero, Act.put, List.setIfInBounds_toArray, List.set_cons_zero, List.set_cons_succ]))
    (refine wpAnyK_take (i := 1) (v := ?_) rfl rfl (by kernel_rfl) (by kernel_rfl) (by kernel_rfl) (by kernel_rfl) (fun _ _ _ h => h) (Or.inl ⟨by kernel_rfl, fun w0 hSw => ?_⟩) hHeld ?_; rotate_left; (focus ((try dsimp only at hSw); simp only [List.getElem_toArray, List.getElem_cons_zero, List.getElem_cons_succ]; (first | (go_simp; done) | (go_simp; with_reducible rfl)))); (try simp only [List.getElem_toArray, List.getElem_cons_zero, List.getElem_cons_succ, Act.put, List.setIfInBounds_toArray, List.set_cons_zero, List.set_cons_succ]))
    (refine wpAnyK_take (i := 2) (v := ?_) rfl rfl (by kernel_rfl) (by kernel_rfl) (by kernel_rfl) (by kernel_rfl) (fun _ _ _ h => h) (Or.inl ⟨by kernel_rfl, fun w0 hSw => ?_⟩) hHeld ?_; rotate_left; (focus ((try dsimp only at hSw); simp only [List.getElem_toArray, List.getElem_cons_zero, List.getElem_cons_succ]; (first | (go_simp; done) | (go_simp; with_reducible rfl)))); (try simp only [List.getElem_toArray, List.getElem_cons_zero, List.getElem_cons_succ, Act.put, List.setIfInBounds_toArray, List.set_cons_zero, List.set_cons_succ]))
    (refine wpAnyK_take (i := 3) (v := ?_) rfl rfl (by kernel_rfl) (by kernel_rfl) (by kernel_rfl) (by kernel_rfl) (fun _ _ _ h => h) (Or.inl ⟨by kernel_rfl, fun w0 hSw => ?_⟩) hHeld ?_; rotate_left; (focus ((try dsimp only at hSw); simp only [List.getElem_toArray, List.getElem_cons_zero, List.getElem_cons_succ]; (first | (go_simp; done) | (go_simp; with_reducible rfl)))); (try simp only [List.getElem_toArray, List.getElem_cons_zero, List.getElem_cons_succ, Act.put, List.setIfInBounds_toArray, List.set_cons_zero, List.set_cons_succ]))
    (refine wpAnyK_take (i := 4) (v := ?_) rfl rfl (by kernel_rfl) (by kernel_rfl) (by kernel_rfl) (by kernel_rfl) (fun _ _ _ h => h) (Or.inl ⟨by kernel_rfl, fun w0 hSw => ?_⟩) hHeld ?_; rotate_left; (focus ((try dsimp only at hSw); simp only [List.getElem_toArray, List.getElem_cons_zero, List.getElem_cons_succ]; (first | (go_simp; done) | (go_simp; with_reducible rfl)))); (try simp only [List.getElem_toArray, List.getElem_cons_zero, List.getElem_cons_succ, Act.put, List.setIfInBounds_toArray, List.set_cons_zero, List.set_cons_succ]))
    (refine wpAnyK_take (i := 5) (v := ?_) rfl rfl (by kernel_rfl) (by kernel_rfl) (by kernel_rfl) (by kernel_rfl) (fun _ _ _ h => h) (Or.inl ⟨by kernel_rfl, fun w0 hSw => ?_⟩) hHeld ?_; rotate_left; (focus ((try dsimp only at hSw); simp only [List.getElem_toArray, List.getElem_cons_zero, List.getElem_cons_succ]; (first | (go_simp; done) | (go_simp; with_reducible rfl)))); (try simp only [List.getElem_toArray, List.getElem_cons_zero, List.getElem_cons_succ, Act.put, List.setIfInBounds_toArray, List.set_cons_zero, List.set_cons_succ]))
    (refine wpAnyK_take (i := 6) (v := ?_) rfl rfl (by kernel_rfl) (by kernel_rfl) (by kernel_rfl) (by kernel_rfl) (fun _ _ _ h => h) (Or.inl ⟨by kernel_rfl, fun w0 hSw => ?_⟩) hHeld ?_; rotate_left; (focus ((try dsimp only at hSw); simp only [List.getElem_toArray, List.getElem_cons_zero, List.getElem_cons_succ]; (first | (go_simp; done) | (go_simp; with_reducible rfl)))); (try simp only [List.getElem_toArray, List.getElem_cons_zero, List.getElem_cons_succ, Act.put, List.setIfInBounds_toArray, List.set_cons_zero, List.set_cons_succ]))
    (refine wpAnyK_one (j := 7) (by kernel_rfl) rfl (fun K hK => ?_); (try simp only [List.getElem_toArray, List.getElem_cons_zero, List.getElem_cons_succ]))
    go_simp
    have k1 := (show ((w3.drew.alloc (.cells #[.int .i64 a, .int .i64 b, .int .i64 c, .int .i64 (-1)] 76)).cell? ⟨pb, 3, none⟩ = some (.slice AVF st.m.fs.length cVF) ∧ (w3.drew.alloc (.cells #[.int .i64 a, .int .i64 b, .int .i64 c, .int .i64 (-1)] 76)).cell? ⟨(w.heap.size + 1), 0, none⟩ = some (.int .i64 a) ∧ (w3.drew.alloc (.cells #[.int .i64 a, .int .i64 b, .int .i64 c, .int .i64 (-1)] 76)).cell? ⟨(w.heap.size + 1), 1, none⟩ = some (.int .i64 b) ∧ (w3.drew.alloc (.cells #[.int .i64 a, .int .i64 b, .int .i64 c, .int .i64 (-1)] 76)).cell? ⟨(w.heap.size + 1), 2, none⟩ = some (.int .i64 c) ∧ (w3.drew.alloc (.cells #[.int .i64 a, .int .i64 b, .int .i64 c, .int .i64 (-1)] 76)).cell? ⟨(w.heap.size + 1), 3, none⟩ = some (.int .i64 (-1))) from ⟨(World.cell?_alloc_some _ _ _ (by rw [c0]; rfl)).trans c0, (World.cell?_alloc_some _ _ _ (by rw [m0]; rfl)).trans m0, (World.cell?_alloc_some _ _ _ (by rw [m1]; rfl)).trans m1, (World.cell?_alloc_some _ _ _ (by rw [m2]; rfl)).trans m2, (World.cell?_alloc_some _ _ _ (by rw [m3]; rfl)).trans m3⟩)
    refine hK.out _ _ (.inr k1) ?_
    clear hK K
    (try simp only [List.getElem_toArray, List.getElem_cons_zero, List.getElem_cons_succ, Act.put, List.setIfInBounds_toArray, List.set_cons_zero, List.set_cons_succ])
    (refine wpAnyK_one (j := 8) (by kernel_rfl) rfl (fun K hK => ?_); (try simp only [List.getElem_toArray, List.getElem_cons_zero, List.getElem_cons_succ]))
    rw [if_pos (by simp [Region.wanted])]
    refine wp_append_lies (w3.drew.alloc (.cells #[.int .i64 a, .int .i64 b, .int .i64 c, .int .i64 (-1)] 76)) (.tmp 39) (.tmp 41) 28 rfl B 76 i0 (.agg #[.int .i64 0, .int .i64 0, .int .i64 0, .int .i64 0]) 4 32 Tryz.underlying28 HI.out.1 HI.out.2.1 HI.out.2.2.1 HI.out.2.2.2 rfl (by decide) (.slice AVF st.m.fs.length cVF) st.m.fs.length (fltCells st.m.fs) (by kernel_rfl) (hP4.rf.alloc _) ⟨w3.heap.size, 0, none⟩ 1 1 [.int .i64 a, .int .i64 b, .int .i64 c, .int .i64 (-1)] (by kernel_rfl) rfl (World.news_of_block (heap_alloc_last _ _)) (by simp [Value.oneCell']) (by decide) (by unfold maxLen; omega) (by omega) (by have := hP4.le; simp at this ⊢; omega) (w3.heap.size + 1) (by simp) ?_
    intro g cap w6 hown6 hgrow6 _ hlt6
    obtain ⟨b6, hP7, F7, old7⟩ := hP4.appF (d := ⟨a, b, c, (-1)⟩) hgrow6 hown6
    have k0 := cell_blk b6 3
    have kf := frozen_blk b6 3
    have z0 := (World.cell?_of_block (a := ⟨(w.heap.size + 1), 0, none⟩) (old7 (w.heap.size + 1) hzL (fun e => by have := hvVF.out _ e; omega))).trans m0
    have z1 := (World.cell?_of_block (a := ⟨(w.heap.size + 1), 1, none⟩) (old7 (w.heap.size + 1) hzL (fun e => by have := hvVF.out _ e; omega))).trans m1
    have z2 := (World.cell?_of_block (a := ⟨(w.heap.size + 1), 2, none⟩) (old7 (w.heap.size + 1) hzL (fun e => by have := hvVF.out _ e; omega))).trans m2
    have z3 := (World.cell?_of_block (a := ⟨(w.heap.size + 1), 3, none⟩) (old7 (w.heap.size + 1) hzL (fun e => by have := hvVF.out _ e; omega))).trans m3
    simp only [List.getElem?_toArray, List.getElem?_cons_zero, List.getElem?_cons_succ] at k0
    refine hK.out _ _ (.inr ⟨k0, z0, z1, z2, z3⟩) ?_
    clear hK K hHeld k1 c0 m0 m1 m2 m3
    (try simp only [Act.put, List.setIfInBounds_toArray, List.set_cons_zero, List.set_cons_succ])
    (refine wpAnyK_one (j := 9) (by kernel_rfl) rfl (fun K hK => ?_); (try simp only [List.getElem_toArray, List.getElem_cons_zero, List.getElem_cons_succ]))
    go_simp
    refine hK.out _ _ (.inr ⟨k0, z0, z1, z2, z3⟩) ?_
    clear hK K
    (try simp only [List.getElem_toArray, List.getElem_cons_zero, List.getElem_cons_succ, Act.put, List.setIfInBounds_toArray, List.set_cons_zero, List.set_cons_succ])
    (refine wpAnyK_one (j := 10) (by kernel_rfl) rfl (fun K hK => ?_); (try simp only [List.getElem_toArray, List.getElem_cons_zero, List.getElem_cons_succ]))
    go_simp
    refine hK.out _ _ (.inr ⟨k0, z0, z1, z2, z3⟩) ?_
    clear hK K
    (try simp only [List.getElem_toArray, List.getElem_cons_zero, List.getElem_cons_succ, Act.put, List.setIfInBounds_toArray, List.set_cons_zero, List.set_cons_succ])
    (refine wpAnyK_one (j := 11) (by kernel_rfl) rfl (fun K hK => ?_); (try simp only [List.getElem_toArray, List.getElem_cons_zero, List.getElem_cons_succ]))
    go_simp
    refine hK.out _ _ (.inr ⟨k0, z0, z1, z2, z3⟩) ?_
    clear hK K
    (try simp only [List.getElem_toArray, List.getElem_cons_zero, List.getElem_cons_succ, Act.put, List.setIfInBounds_toArray, List.set_cons_zero, List.set_cons_succ])
    (refine wpAnyK_one (j := 12) (by kernel_rfl) rfl (fun K hK => ?_); (try simp only [List.getElem_toArray, List.getElem_cons_zero, List.getElem_cons_succ]))
    go_simp
    refine hK.out _ _ (.inl rfl) ?_
    clear hK K
    refine wpAnyK_done (by kernel_rfl) ?_ _
    go_wp2_with fail
    go_ret
    exact ⟨false, rfl, F4.trans F7, fun _ => HNO.out, fun h => by cases h⟩
  | true =>
    have hYY := hY3.out rfl
    have HYY := Lib.hid hYY
    clear hY3 hN3 hYY
    by_cases hnv : t3 = nevS
    · have hnq : (t3.toList == [110, 101, 118, 101, 114]) = true := by rw [hnv, ByteArray.toList_eq]; decide
      have HY : Hid (IsI s.data.toList (.flt ⟨a, b, c, -1⟩)) := by
        refine HSP.out.item rfl ?_ ⟨HYY.out.1, .inl rfl⟩
        show [itoaS a, itoaS b, itoaS c, untS (-1)] = _
        have e := HYY.out.2
        simp only [List.map_cons, List.map_nil, List.cons.injEq, and_true] at e
        rw [e.1, e.2.1, e.2.2, hnv]
        rfl
      clear hnv
      have hP4 := HP3.out.below (Below.drew (Below.refl _ _))
      have F4 : Frm B pb w w3.drew := HF3.out.trans (Frm.of_below (Below.drew (Below.refl w3.heap.size w3)) hP4.le)
      have nx2 := nx.2
      go_wp2_with fail
      have m0 : w3.drew.cell? ⟨w.heap.size + 1, 0, none⟩ = some (.int .i64 a) := n0
      have m1 : w3.drew.cell? ⟨w.heap.size + 1, 1, none⟩ = some (.int .i64 b) := n1
      have m2 : w3.drew.cell? ⟨w.heap.size + 1, 2, none⟩ = some (.int .i64 c) := n2
      have m3 : w3.drew.cell? ⟨w.heap.size + 1, 3, none⟩ = some (.int .i64 (-1)) := n3
      clear n0 n1 n2 n3 nf nx nx2
      have c0 := cell_blk hP4.blk 3
      simp only [List.getElem?_toArray, List.getElem?_cons_zero, List.getElem?_cons_succ] at c0
      refine wp_region_last (fun w' => w'.cell? ⟨pb, 3, none⟩ = some (.slice AVF st.m.fs.length cVF) ∧ w'.cell? ⟨(w.heap.size + 1), 0, none⟩ = some (.int .i64 a) ∧ w'.cell? ⟨(w.heap.size + 1), 1, none⟩ = some (.int .i64 b) ∧ w'.cell? ⟨(w.heap.size + 1), 2, none⟩ = some (.int .i64 c) ∧ w'.cell? ⟨(w.heap.size + 1), 3, none⟩ = some (.int .i64 (-1))) 12 (by kernel_rfl) ⟨c0, m0, m1, m2, m3⟩ (fun hHeld => ?_)
      (refine wpAnyK_take (i := 0) (v := ?_) rfl rfl (by kernel_rfl) (by kernel_rfl) (by kernel_rfl) (by kernel_rfl) (fun _ _ _ h => h) (Or.inl ⟨by kernel_rfl, fun w0 hSw => ?_⟩) hHeld ?_; rotate_left; (focus ((try dsimp only at hSw); simp only [List.getElem_toArray, List.getElem_cons_zero]; (first | (go_simp; done) | (go_simp; with_reducible rfl)))); (try simp only [List.getElem_toArray, List.getElem_cons_zero, Act.put, List.setIfInBounds_toArray, List.set_cons_zero, List.set_cons_succ]))
      (refine wpAnyK_take (i := 1) (v := ?_) rfl rfl (by kernel_rfl) (by kernel_rfl) (by kernel_rfl) (by kernel_rfl) (fun _ _ _ h => h) (Or.inl ⟨by kernel_rfl, fun w0 hSw => ?_⟩) hHeld ?_; rotate_left; (focus ((try dsimp only at hSw); simp only [List.getElem_toArray, List.getElem_cons_zero, List.getElem_cons_succ]; (first | (go_simp; done) | (go_simp; with_reducible rfl)))); (try simp only [List.getElem_toArray, List.getElem_cons_zero, List.getElem_cons_succ, Act.put, List.setIfInBounds_toArray, List.set_cons_zero, List.set_cons_succ]))
      (refine wpAnyK_take (i := 2) (v := ?_) rfl rfl (by kernel_rfl) (by kernel_rfl) (by kernel_rfl) (by kernel_rfl) (fun _ _ _ h => h) (Or.inl ⟨by kernel_rfl, fun w0 hSw => ?_⟩) hHeld ?_; rotate_left; (focus ((try dsimp only at hSw); simp only [List.getElem_toArray, List.getElem_cons_zero, List.getElem_cons_succ]; (first | (go_simp; done) | (go_simp; with_reducible rfl)))); (try simp only [List.getElem_toArray, List.getElem_cons_zero, List.getElem_cons_succ, Act.put, List.setIfInBounds_toArray, List.set_cons_zero, List.set_cons_succ]))
      (refine wpAnyK_take (i := 3) (v := ?_) rfl rfl (by kernel_rfl) (by kernel_rfl) (by kernel_rfl) (by kernel_rfl) (fun _ _ _ h => h) (Or.inl ⟨by kernel_rfl, fun w0 hSw => ?_⟩) hHeld ?_; rotate_left; (focus ((try dsimp only at hSw); simp only [List.getElem_toArray, List.getElem_cons_zero, List.getElem_cons_succ]; (first | (go_simp; done) | (go_simp; with_reducible rfl)))); (try simp only [List.getElem_toArray, List.getElem_cons_zero, List.getElem_cons_succ, Act.put, List.setIfInBounds_toArray, List.set_cons_zero, List.set_cons_succ]))
      (refine wpAnyK_take (i := 4) (v := ?_) rfl rfl (by kernel_rfl) (by kernel_rfl) (by kernel_rfl) (by kernel_rfl) (fun _ _ _ h => h) (Or.inl ⟨by kernel_rfl, fun w0 hSw => ?_⟩) hHeld ?_; rotate_left; (focus ((try dsimp only at hSw); simp only [List.getElem_toArray, List.getElem_cons_zero, List.getElem_cons_succ]; (first | (go_simp; done) | (go_simp; with_reducible rfl)))); (try simp only [List.getElem_toArray, List.getElem_cons_zero, List.getElem_cons_succ, Act.put, List.setIfInBounds_toArray, List.set_cons_zero, List.set_cons_succ]))
      (refine wpAnyK_take (i := 5) (v := ?_) rfl rfl (by kernel_rfl) (by kernel_rfl) (by kernel_rfl) (by kernel_rfl) (fun _ _ _ h => h) (Or.inl ⟨by kernel_rfl, fun w0 hSw => ?_⟩) hHeld ?_; rotate_left; (focus ((try dsimp only at hSw); simp only [List.getElem_toArray, List.getElem_cons_zero, List.getElem_cons_succ]; (first | (go_simp; done) | (go_simp; with_reducible rfl)))); (try simp only [List.getElem_toArray, List.getElem_cons_zero, List.getElem_cons_succ, Act.put, List.setIfInBounds_toArray, List.set_cons_zero, List.set_cons_succ]))
      (refine wpAnyK_take (i := 6) (v := ?_) rfl rfl (by kernel_rfl) (by kernel_rfl) (by kernel_rfl) (by kernel_rfl) (fun _ _ _ h => h) (Or.inl ⟨by kernel_rfl, fun w0 hSw => ?_⟩) hHeld ?_; rotate_left; (focus ((try dsimp only at hSw); simp only [List.getElem_toArray, List.getElem_cons_zero, List.getElem_cons_succ]; (first | (go_simp; done) | (go_simp; with_reducible rfl)))); (try simp only [List.getElem_toArray, List.getElem_cons_zero, List.getElem_cons_succ, Act.put, List.setIfInBounds_toArray, List.set_cons_zero, List.set_cons_succ]))
      (refine wpAnyK_one (j := 7) (by kernel_rfl) rfl (fun K hK => ?_); (try simp only [List.getElem_toArray, List.getElem_cons_zero, List.getElem_cons_succ]))
      go_simp
      have k1 := (show ((w3.drew.alloc (.cells #[.int .i64 a, .int .i64 b, .int .i64 c, .int .i64 (-1)] 76)).cell? ⟨pb, 3, none⟩ = some (.slice AVF st.m.fs.length cVF) ∧ (w3.drew.alloc (.cells #[.int .i64 a, .int .i64 b, .int .i64 c, .int .i64 (-1)] 76)).cell? ⟨(w.heap.size + 1), 0, none⟩ = some (.int .i64 a) ∧ (w3.drew.alloc (.cells #[.int .i64 a, .int .i64 b, .int .i64 c, .int .i64 (-1)] 76)).cell? ⟨(w.heap.size + 1), 1, none⟩ = some (.int .i64 b) ∧ (w3.drew.alloc (.cells #[.int .i64 a, .int .i64 b, .int .i64 c, .int .i64 (-1)] 76)).cell? ⟨(w.heap.size + 1), 2, none⟩ = some (.int .i64 c) ∧ (w3.drew.alloc (.cells #[.int .i64 a, .int .i64 b, .int .i64 c, .int .i64 (-1)] 76)).cell? ⟨(w.heap.size + 1), 3, none⟩ = some (.int .i64 (-1))) from ⟨(World.cell?_alloc_some _ _ _ (by rw [c0]; rfl)).trans c0, (World.cell?_alloc_some _ _ _ (by rw [m0]; rfl)).trans m0, (World.cell?_alloc_some _ _ _ (by rw [m1]; rfl)).trans m1, (World.cell?_alloc_some _ _ _ (by rw [m2]; rfl)).trans m2, (World.cell?_alloc_some _ _ _ (by rw [m3]; rfl)).trans m3⟩)
      refine hK.out _ _ (.inr k1) ?_
      clear hK K
      (try simp only [List.getElem_toArray, List.getElem_cons_zero, List.getElem_cons_succ, Act.put, List.setIfInBounds_toArray, List.set_cons_zero, List.set_cons_succ])
      (refine wpAnyK_one (j := 8) (by kernel_rfl) rfl (fun K hK => ?_); (try simp only [List.getElem_toArray, List.getElem_cons_zero, List.getElem_cons_succ]))
      rw [if_pos (by simp [Region.wanted])]
      refine wp_append_lies (w3.drew.alloc (.cells #[.int .i64 a, .int .i64 b, .int .i64 c, .int .i64 (-1)] 76)) (.tmp 39) (.tmp 41) 28 rfl B 76 i0 (.agg #[.int .i64 0, .int .i64 0, .int .i64 0, .int .i64 0]) 4 32 Tryz.underlying28 HI.out.1 HI.out.2.1 HI.out.2.2.1 HI.out.2.2.2 rfl (by decide) (.slice AVF st.m.fs.length cVF) st.m.fs.length (fltCells st.m.fs) (by kernel_rfl) (hP4.rf.alloc _) ⟨w3.heap.size, 0, none⟩ 1 1 [.int .i64 a, .int .i64 b, .int .i64 c, .int .i64 (-1)] (by kernel_rfl) rfl (World.news_of_block (heap_alloc_last _ _)) (by simp [Value.oneCell']) (by decide) (by unfold maxLen; omega) (by omega) (by have := hP4.le; simp at this ⊢; omega) (w3.heap.size + 1) (by simp) ?_
      intro g cap w6 hown6 hgrow6 _ hlt6
      obtain ⟨b6, hP7, F7, old7⟩ := hP4.appF (d := ⟨a, b, c, (-1)⟩) hgrow6 hown6
      have k0 := cell_blk b6 3
      have kf := frozen_blk b6 3
      have z0 := (World.cell?_of_block (a := ⟨(w.heap.size + 1), 0, none⟩) (old7 (w.heap.size + 1) hzL (fun e => by have := hvVF.out _ e; omega))).trans m0
      have z1 := (World.cell?_of_block (a := ⟨(w.heap.size + 1), 1, none⟩) (old7 (w.heap.size + 1) hzL (fun e => by have := hvVF.out _ e; omega))).trans m1
      have z2 := (World.cell?_of_block (a := ⟨(w.heap.size + 1), 2, none⟩) (old7 (w.heap.size + 1) hzL (fun e => by have := hvVF.out _ e; omega))).trans m2
      have z3 := (World.cell?_of_block (a := ⟨(w.heap.size + 1), 3, none⟩) (old7 (w.heap.size + 1) hzL (fun e => by have := hvVF.out _ e; omega))).trans m3
      simp only [List.getElem?_toArray, List.getElem?_cons_zero, List.getElem?_cons_succ] at k0
      refine hK.out _ _ (.inr ⟨k0, z0, z1, z2, z3⟩) ?_
      clear hK K hHeld k1 c0 m0 m1 m2 m3
      (try simp only [Act.put, List.setIfInBounds_toArray, List.set_cons_zero, List.set_cons_succ])
      (refine wpAnyK_one (j := 9) (by kernel_rfl) rfl (fun K hK => ?_); (try simp only [List.getElem_toArray, List.getElem_cons_zero, List.getElem_cons_succ]))
      go_simp
      refine hK.out _ _ (.inr ⟨k0, z0, z1, z2, z3⟩) ?_
      clear hK K
      (try simp only [List.getElem_toArray, List.getElem_cons_zero, List.getElem_cons_succ, Act.put, List.setIfInBounds_toArray, List.set_cons_zero, List.set_cons_succ])
      (refine wpAnyK_one (j := 10) (by kernel_rfl) rfl (fun K hK => ?_); (try simp only [List.getElem_toArray, List.getElem_cons_zero, List.getElem_cons_succ]))
      go_simp
      refine hK.out _ _ (.inr ⟨k0, z0, z1, z2, z3⟩) ?_
      clear hK K
      (try simp only [List.getElem_toArray, List.getElem_cons_zero, List.getElem_cons_succ, Act.put, List.setIfInBounds_toArray, List.set_cons_zero, List.set_cons_succ])
      (refine wpAnyK_one (j := 11) (by kernel_rfl) rfl (fun K hK => ?_); (try simp only [List.getElem_toArray, List.getElem_cons_zero, List.getElem_cons_succ]))
      go_simp
      refine hK.out _ _ (.inr ⟨k0, z0, z1, z2, z3⟩) ?_
      clear hK K
      (try simp only [List.getElem_toArray, List.getElem_cons_zero, List.getElem_cons_succ, Act.put, List.setIfInBounds_toArray, List.set_cons_zero, List.set_cons_succ])
      (refine wpAnyK_one (j := 12) (by kernel_rfl) rfl (fun K hK => ?_); (try simp only [List.getElem_toArray, List.getElem_cons_zero, List.getElem_cons_succ]))
      go_simp
      refine hK.out _ _ (.inl rfl) ?_
      clear hK K
      refine wpAnyK_done (by kernel_rfl) ?_ _
      go_wp2_with fail
      go_ret
      exact ⟨true, rfl, F4.trans F7, fun h => (by cases h), fun _ => ⟨_, _, _, _, _, _, _, HY.out, rfl, hP7⟩⟩
    · have hnq : (t3.toList == [110, 101, 118, 101, 114]) = false := by
        rw [beq_eq_false_iff_ne, ByteArray.toList_eq]
        exact fun h => hnv ((bs_ext h).trans rfl)
      have HNV := Lib.hid hnv
      have nx2 := nx.2
      clear hnv
      go_wp2_with fail
      have b4 : Below w3.heap.size w3 (w3.alloc (.cells #[.pointer (some ⟨w.heap.size + 1, 3, none⟩)] 122)) := (Below.refl _ w3).alloc (Nat.le_refl _) _
      have r0 : (w3.alloc (.cells #[.pointer (some ⟨w.heap.size + 1, 3, none⟩)] 122)).cell? ⟨w.heap.size + 1, 0, none⟩ = some (.int .i64 a) := (b4.cell (p := ⟨w.heap.size + 1, 0, none⟩) hzL).trans n0
      have r1 : (w3.alloc (.cells #[.pointer (some ⟨w.heap.size + 1, 3, none⟩)] 122)).cell? ⟨w.heap.size + 1, 1, none⟩ = some (.int .i64 b) := (b4.cell (p := ⟨w.heap.size + 1, 1, none⟩) hzL).trans n1
      have r2 : (w3.alloc (.cells #[.pointer (some ⟨w.heap.size + 1, 3, none⟩)] 122)).cell? ⟨w.heap.size + 1, 2, none⟩ = some (.int .i64 c) := (b4.cell (p := ⟨w.heap.size + 1, 2, none⟩) hzL).trans n2
      have r3 : (w3.alloc (.cells #[.pointer (some ⟨w.heap.size + 1, 3, none⟩)] 122)).cell? ⟨w.heap.size + 1, 3, none⟩ = some (.int .i64 (-1)) := (b4.cell (p := ⟨w.heap.size + 1, 3, none⟩) hzL).trans n3
      have rf : (w3.alloc (.cells #[.pointer (some ⟨w.heap.size + 1, 3, none⟩)] 122)).frozen? ⟨w.heap.size + 1, 3, none⟩ = false := (b4.frozen (p := ⟨w.heap.size + 1, 3, none⟩) hzL).trans nf
      have rx : (w3.alloc (.cells #[.pointer (some ⟨w.heap.size + 1, 3, none⟩)] 122)).cell? ⟨w.heap.size, 4, none⟩ = some (.string t3) := (b4.cell (p := ⟨w.heap.size, 4, none⟩) hz1).trans nx2
      have rp := heap_alloc_last w3 (.cells #[.pointer (some ⟨w.heap.size + 1, 3, none⟩)] 122)
      have rG : Glob (w3.alloc (.cells #[.pointer (some ⟨w.heap.size + 1, 3, none⟩)] 122)) := HG3.out.below b4
      have rz : (w3.alloc (.cells #[.pointer (some ⟨w.heap.size + 1, 3, none⟩)] 122)).heap.size = w3.heap.size + 1 := by simp
      have HP4 := Lib.hid (HP3.out.below b4)
      have hk04 : Hid (∀ k, k < w.heap.size → (w3.alloc (.cells #[.pointer (some ⟨w.heap.size + 1, 3, none⟩)] 122)).heap[k]? = w.heap[k]?) := fun k hk => (b4.block k (by omega)).trans (HK3.out k hk)
      have HF4 := Lib.hid (HF3.out.trans (Frm.of_below (pb := pb) b4 HP3.out.le))
      generalize (w3.alloc (.cells #[.pointer (some ⟨w.heap.size + 1, 3, none⟩)] 122)) = w4 at *
      clear n0 n1 n2 n3 nf nx2 b4
      have hpo : PsOk w4 (psOf (w.heap.size + 1) [3]) := psok_cells (by omega) (fun o ho => by rw [List.mem_singleton.1 ho]; exact rf) (by omega) (by decide)
      have hge4 : ∀ j, j < (psOf (w.heap.size + 1) [3]).length → w.heap.size ≤ ((psOf (w.heap.size + 1) [3]).getD j (0, 0)).1 := fun j hj => by rw [psOf_get _ _ j hj]; show w.heap.size ≤ w.heap.size + 1; omega
      refine (numbers_any w.heap.size 4 _ w3.heap.size [t3] (psOf (w.heap.size + 1) [3]) [-1] w4 rG (fun j hj => by obtain rfl : j = 0 := (by simp at hj; exact hj); exact ⟨nx.1, rx⟩) (by omega) (by simp) (by simp [psOf]) hpo (NSt.start (by simp [psOf]) (fun j hj => by obtain rfl : j = 0 := (by simp [psOf] at hj; exact hj); exact r3)) (by omega) (ptr_of (ps := psOf (w.heap.size + 1) [3]) rp) (fun j hj => by rw [psOf_get _ _ j hj]; show _ ≠ w.heap.size + 1; omega) (fun j hj => by rw [psOf_get _ _ j hj]; show _ ≠ w.heap.size + 1; omega)).mono ?_
      rintro e w5 ⟨ok, vs, rfl, hn, hy, hno⟩
      obtain ⟨u, rfl⟩ := list1 hn.len
      have o3 : w5.cell? ⟨w.heap.size + 1, 3, none⟩ = some (.int .i64 u) := hn.at_ 0 (by simp [psOf])
      have ho : ∀ o, o < 3 → w5.cell? ⟨w.heap.size + 1, o, none⟩ = w4.cell? ⟨w.heap.size + 1, o, none⟩ := fun o h => hn.oth _ o (by omega) (fun j hj e => by
        rw [psOf_get _ _ j hj] at e
        obtain rfl : j = 0 := by simp [psOf] at hj; exact hj
        have e2 := (Prod.mk.inj e).2
        have : o = 3 := e2
        omega)
      have o0 := (ho 0 (by omega)).trans r0
      have o1 := (ho 1 (by omega)).trans r1
      have o2 := (ho 2 (by omega)).trans r2
      have hB4 : B ≤ w4.heap.size := HP4.out.le
      have P5 : PS w5 B pb st (.slice AVQ st.m.q.length cVQ) (.slice AVC st.m.cs.length cVC) (.slice AVO ov.length cVO) (.slice AVF st.m.fs.length cVF) (.slice AVX st.m.xs.length cVX) ov := by
        have hk : ∀ k, k < w.heap.size → w5.heap[k]? = w4.heap[k]? := fun k hk => hn.blk k (by omega) (fun j hj e => by have := hge4 j hj; omega)
        exact HP.out.keep (Nat.le_trans (by omega) hn.sz) (fun k hk2 => (hk k hk2).trans (hk04.out k hk2))
      have F5 : Frm B pb w w5 := by
        refine ⟨hn.os.trans HF4.out.os, hn.tape.trans HF4.out.tape, hn.output.trans HF4.out.output, Nat.le_trans (by omega) hn.sz, fun k h1 hne => (hn.blk k (by omega) (fun j hj e => by have := hge4 j hj; omega)).trans (HF4.out.block k h1 hne), fun k o ho2 hc2 => (hn.blk k (by have := blk_lt ho2; omega) (fun j hj e => by have := hge4 j hj; have := blk_lt ho2; omega)).trans (HF4.out.other k o ho2 hc2)⟩
      have HNO : Hid (ok = false → ∀ x, IsI s.data.toList x → fitM st x = false) := fun h x hx => by
        obtain ⟨f, _, _, h2, e⟩ := HNX.out x hx
        simp only [List.cons.injEq, and_true] at e
        rcases h2 with h2 | h2
        · exact absurd (e.2.2.2.symm.trans (by rw [h2]; rfl)) HNV.out
        · have hne : f.u ≠ -1 := fun e9 => by have := (h2 f.u (by simp)).1; omega
          have e4 : untS f.u = itoaS f.u := if_neg hne
          exact absurd rfl (hno h [f.u] (by rw [← e.2.2.2, e4]; exact of_nums h2))
      have HY : Hid (ok = true → IsI s.data.toList (.flt ⟨a, b, c, u⟩)) := fun h => by
        obtain ⟨h1, h2⟩ := nums_of (hy h)
        have hne : u ≠ -1 := fun e9 => by have := (h1 u (by simp)).1; omega
        refine HSP.out.item rfl ?_ ⟨HYY.out.1, .inr h1⟩
        show [itoaS a, itoaS b, itoaS c, untS u] = _
        have e := HYY.out.2
        simp only [List.map_cons, List.map_nil, List.cons.injEq, and_true] at e h2
        rw [e.1, e.2.1, e.2.2, h2, show untS u = itoaS u from if_neg hne]
      have hP4 := P5.below (Below.drew (Below.refl _ _))
      have F6 : Frm B pb w w5.drew := F5.trans (Frm.of_below (Below.drew (Below.refl w5.heap.size w5)) hP4.le)
      have hzL5 : w.heap.size + 1 < w5.heap.size := by have := hn.sz; omega
      clear hy hno hge4 hn r0 r1 r2 r3 rf rx rp rG rz hpo ho P5 F5 hzL nx hz1
      have hzL := hzL5
      clear hzL5
      go_wp2_with fail
      have m0 : w5.drew.cell? ⟨w.heap.size + 1, 0, none⟩ = some (.int .i64 a) := o0
      have m1 : w5.drew.cell? ⟨w.heap.size + 1, 1, none⟩ = some (.int .i64 b) := o1
      have m2 : w5.drew.cell? ⟨w.heap.size + 1, 2, none⟩ = some (.int .i64 c) := o2
      have m3 : w5.drew.cell? ⟨w.heap.size + 1, 3, none⟩ = some (.int .i64 u) := o3
      clear o0 o1 o2 o3
      have c0 := cell_blk hP4.blk 3
      simp only [List.getElem?_toArray, List.getElem?_cons_zero, List.getElem?_cons_succ] at c0
      refine wp_region_last (fun w' => w'.cell? ⟨pb, 3, none⟩ = some (.slice AVF st.m.fs.length cVF) ∧ w'.cell? ⟨(w.heap.size + 1), 0, none⟩ = some (.int .i64 a) ∧ w'.cell? ⟨(w.heap.size + 1), 1, none⟩ = some (.int .i64 b) ∧ w'.cell? ⟨(w.heap.size + 1), 2, none⟩ = some (.int .i64 c) ∧ w'.cell? ⟨(w.heap.size + 1), 3, none⟩ = some (.int .i64 u)) 12 (by kernel_rfl) ⟨c0, m0, m1, m2, m3⟩ (fun hHeld => ?_)
      (refine wpAnyK_take (i := 0) (v := ?_) rfl rfl (by kernel_rfl) (by kernel_rfl) (by kernel_rfl) (by kernel_rfl) (fun _ _ _ h => h) (Or.inl ⟨by kernel_rfl, fun w0 hSw => ?_⟩) hHeld ?_; rotate_left; (focus ((try dsimp only at hSw); simp only [List.getElem_toArray, List.getElem_cons_zero]; (first | (go_simp; done) | (go_simp; with_reducible rfl)))); (try simp only [List.getElem_toArray, List.getElem_cons_zero, Act.put, List.setIfInBounds_toArray, List.set_cons_zero, List.set_cons_succ]))
      (refine wpAnyK_take (i := 1) (v := ?_) rfl rfl (by kernel_rfl) (by kernel_rfl) (by kernel_rfl) (by kernel_rfl) (fun _ _ _ h => h) (Or.inl ⟨by kernel_rfl, fun w0 hSw => ?_⟩) hHeld ?_; rotate_left; (focus ((try dsimp only at hSw); simp only [List.getElem_toArray, List.getElem_cons_zero, List.getElem_cons_succ]; (first | (go_simp; done) | (go_simp; with_reducible rfl)))); (try simp only [List.getElem_toArray, List.getElem_cons_zero, List.getElem_cons_succ, Act.put, List.setIfInBounds_toArray, List.set_cons_zero, List.set_cons_succ]))
      (refine wpAnyK_take (i := 2) (v := ?_) rfl rfl (by kernel_rfl) (by kernel_rfl) (by kernel_rfl) (by kernel_rfl) (fun _ _ _ h => h) (Or.inl ⟨by kernel_rfl, fun w0 hSw => ?_⟩) hHeld ?_; rotate_left; (focus ((try dsimp only at hSw); simp only [List.getElem_toArray, List.getElem_cons_zero, List.getElem_cons_succ]; (first | (go_simp; done) | (go_simp; with_reducible rfl)))); (try simp only [List.getElem_toArray, List.getElem_cons_zero, List.getElem_cons_succ, Act.put, List.setIfInBounds_toArray, List.set_cons_zero, List.set_cons_succ]))
      (refine wpAnyK_take (i := 3) (v := ?_) rfl rfl (by kernel_rfl) (by kernel_rfl) (by kernel_rfl) (by kernel_rfl) (fun _ _ _ h => h) (Or.inl ⟨by kernel_rfl, fun w0 hSw => ?_⟩) hHeld ?_; rotate_left; (focus ((try dsimp only at hSw); simp only [List.getElem_toArray, List.getElem_cons_zero, List.getElem_cons_succ]; (first | (go_simp; done) | (go_simp; with_reducible rfl)))); (try simp only [List.getElem_toArray, List.getElem_cons_zero, List.getElem_cons_succ, Act.put, List.setIfInBounds_toArray, List.set_cons_zero, List.set_cons_succ]))
      (refine wpAnyK_take (i := 4) (v := ?_) rfl rfl (by kernel_rfl) (by kernel_rfl) (by kernel_rfl) (by kernel_rfl) (fun _ _ _ h => h) (Or.inl ⟨by kernel_rfl, fun w0 hSw => ?_⟩) hHeld ?_; rotate_left; (focus ((try dsimp only at hSw); simp only [List.getElem_toArray, List.getElem_cons_zero, List.getElem_cons_succ]; (first | (go_simp; done) | (go_simp; with_reducible rfl)))); (try simp only [List.getElem_toArray, List.getElem_cons_zero, List.getElem_cons_succ, Act.put, List.setIfInBounds_toArray, List.set_cons_zero, List.set_cons_succ]))
      (refine wpAnyK_take (i := 5) (v := ?_) rfl rfl (by kernel_rfl) (by kernel_rfl) (by kernel_rfl) (by kernel_rfl) (fun _ _ _ h => h) (Or.inl ⟨by kernel_rfl, fun w0 hSw => ?_⟩) hHeld ?_; rotate_left; (focus ((try dsimp only at hSw); simp only [List.getElem_toArray, List.getElem_cons_zero, List.getElem_cons_succ]; (first | (go_simp; done) | (go_simp; with_reducible rfl)))); (try simp only [List.getElem_toArray, List.getElem_cons_zero, List.getElem_cons_succ, Act.put, List.setIfInBounds_toArray, List.set_cons_zero, List.set_cons_succ]))
      (refine wpAnyK_take (i := 6) (v := ?_) rfl rfl (by kernel_rfl) (by kernel_rfl) (by kernel_rfl) (by kernel_rfl) (fun _ _ _ h => h) (Or.inl ⟨by kernel_rfl, fun w0 hSw => ?_⟩) hHeld ?_; rotate_left; (focus ((try dsimp only at hSw); simp only [List.getElem_toArray, List.getElem_cons_zero, List.getElem_cons_succ]; (first | (go_simp; done) | (go_simp; with_reducible rfl)))); (try simp only [List.getElem_toArray, List.getElem_cons_zero, List.getElem_cons_succ, Act.put, List.setIfInBounds_toArray, List.set_cons_zero, List.set_cons_succ]))
      (refine wpAnyK_one (j := 7) (by kernel_rfl) rfl (fun K hK => ?_); (try simp only [List.getElem_toArray, List.getElem_cons_zero, List.getElem_cons_succ]))
      go_simp
      have k1 := (show ((w5.drew.alloc (.cells #[.int .i64 a, .int .i64 b, .int .i64 c, .int .i64 u] 76)).cell? ⟨pb, 3, none⟩ = some (.slice AVF st.m.fs.length cVF) ∧ (w5.drew.alloc (.cells #[.int .i64 a, .int .i64 b, .int .i64 c, .int .i64 u] 76)).cell? ⟨(w.heap.size + 1), 0, none⟩ = some (.int .i64 a) ∧ (w5.drew.alloc (.cells #[.int .i64 a, .int .i64 b, .int .i64 c, .int .i64 u] 76)).cell? ⟨(w.heap.size + 1), 1, none⟩ = some (.int .i64 b) ∧ (w5.drew.alloc (.cells #[.int .i64 a, .int .i64 b, .int .i64 c, .int .i64 u] 76)).cell? ⟨(w.heap.size + 1), 2, none⟩ = some (.int .i64 c) ∧ (w5.drew.alloc (.cells #[.int .i64 a, .int .i64 b, .int .i64 c, .int .i64 u] 76)).cell? ⟨(w.heap.size + 1), 3, none⟩ = some (.int .i64 u)) from ⟨(World.cell?_alloc_some _ _ _ (by rw [c0]; rfl)).trans c0, (World.cell?_alloc_some _ _ _ (by rw [m0]; rfl)).trans m0, (World.cell?_alloc_some _ _ _ (by rw [m1]; rfl)).trans m1, (World.cell?_alloc_some _ _ _ (by rw [m2]; rfl)).trans m2, (World.cell?_alloc_some _ _ _ (by rw [m3]; rfl)).trans m3⟩)
      refine hK.out _ _ (.inr k1) ?_
      clear hK K
      (try simp only [List.getElem_toArray, List.getElem_cons_zero, List.getElem_cons_succ, Act.put, List.setIfInBounds_toArray, List.set_cons_zero, List.set_cons_succ])
      (refine wpAnyK_one (j := 8) (by kernel_rfl) rfl (fun K hK => ?_); (try simp only [List.getElem_toArray, List.getElem_cons_zero, List.getElem_cons_succ]))
      rw [if_pos (by simp [Region.wanted])]
      refine wp_append_lies (w5.drew.alloc (.cells #[.int .i64 a, .int .i64 b, .int .i64 c, .int .i64 u] 76)) (.tmp 39) (.tmp 41) 28 rfl B 76 i0 (.agg #[.int .i64 0, .int .i64 0, .int .i64 0, .int .i64 0]) 4 32 Tryz.underlying28 HI.out.1 HI.out.2.1 HI.out.2.2.1 HI.out.2.2.2 rfl (by decide) (.slice AVF st.m.fs.length cVF) st.m.fs.length (fltCells st.m.fs) (by kernel_rfl) (hP4.rf.alloc _) ⟨w5.heap.size, 0, none⟩ 1 1 [.int .i64 a, .int .i64 b, .int .i64 c, .int .i64 u] (by kernel_rfl) rfl (World.news_of_block (heap_alloc_last _ _)) (by simp [Value.oneCell']) (by decide) (by unfold maxLen; omega) (by omega) (by have := hP4.le; simp at this ⊢; omega) (w5.heap.size + 1) (by simp) ?_
      intro g cap w6 hown6 hgrow6 _ hlt6
      obtain ⟨b6, hP7, F7, old7⟩ := hP4.appF (d := ⟨a, b, c, u⟩) hgrow6 hown6
      have k0 := cell_blk b6 3
      have kf := frozen_blk b6 3
      have z0 := (World.cell?_of_block (a := ⟨(w.heap.size + 1), 0, none⟩) (old7 (w.heap.size + 1) hzL (fun e => by have := hvVF.out _ e; omega))).trans m0
      have z1 := (World.cell?_of_block (a := ⟨(w.heap.size + 1), 1, none⟩) (old7 (w.heap.size + 1) hzL (fun e => by have := hvVF.out _ e; omega))).trans m1
      have z2 := (World.cell?_of_block (a := ⟨(w.heap.size + 1), 2, none⟩) (old7 (w.heap.size + 1) hzL (fun e => by have := hvVF.out _ e; omega))).trans m2
      have z3 := (World.cell?_of_block (a := ⟨(w.heap.size + 1), 3, none⟩) (old7 (w.heap.size + 1) hzL (fun e => by have := hvVF.out _ e; omega))).trans m3
      simp only [List.getElem?_toArray, List.getElem?_cons_zero, List.getElem?_cons_succ] at k0
      refine hK.out _ _ (.inr ⟨k0, z0, z1, z2, z3⟩) ?_
      clear hK K hHeld k1 c0 m0 m1 m2 m3
      (try simp only [Act.put, List.setIfInBounds_toArray, List.set_cons_zero, List.set_cons_succ])
      (refine wpAnyK_one (j := 9) (by kernel_rfl) rfl (fun K hK => ?_); (try simp only [List.getElem_toArray, List.getElem_cons_zero, List.getElem_cons_succ]))
      go_simp
      refine hK.out _ _ (.inr ⟨k0, z0, z1, z2, z3⟩) ?_
      clear hK K
      (try simp only [List.getElem_toArray, List.getElem_cons_zero, List.getElem_cons_succ, Act.put, List.setIfInBounds_toArray, List.set_cons_zero, List.set_cons_succ])
      (refine wpAnyK_one (j := 10) (by kernel_rfl) rfl (fun K hK => ?_); (try simp only [List.getElem_toArray, List.getElem_cons_zero, List.getElem_cons_succ]))
      go_simp
      refine hK.out _ _ (.inr ⟨k0, z0, z1, z2, z3⟩) ?_
      clear hK K
      (try simp only [List.getElem_toArray, List.getElem_cons_zero, List.getElem_cons_succ, Act.put, List.setIfInBounds_toArray, List.set_cons_zero, List.set_cons_succ])
      (refine wpAnyK_one (j := 11) (by kernel_rfl) rfl (fun K hK => ?_); (try simp only [List.getElem_toArray, List.getElem_cons_zero, List.getElem_cons_succ]))
      go_simp
      refine hK.out _ _ (.inr ⟨k0, z0, z1, z2, z3⟩) ?_
      clear hK K
      (try simp only [List.getElem_toArray, List.getElem_cons_zero, List.getElem_cons_succ, Act.put, List.setIfInBounds_toArray, List.set_cons_zero, List.set_cons_succ])
      (refine wpAnyK_one (j := 12) (by kernel_rfl) rfl (fun K hK => ?_); (try simp only [List.getElem_toArray, List.getElem_cons_zero, List.getElem_cons_succ]))
      go_simp
      refine hK.out _ _ (.inl rfl) ?_
      clear hK K
      refine wpAnyK_done (by kernel_rfl) ?_ _
      go_wp2_with fail
      go_ret
      exact ⟨ok, rfl, F6.trans F7, HNO.out, fun h => ⟨_, _, _, _, _, _, _, HY.out h, rfl, hP7⟩⟩
end Go.Proofs.YtmcgddlblhinlaaGreatDoor

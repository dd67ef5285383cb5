/- The reader of orders' lines. -/
import Derived.Test.YtmcgddlblhinlaaGreatDoorH12
import Derived.Deep.DrawnRows
import Derived.Deep.WholeRow
namespace Go.Proofs.YtmcgddlblhinlaaGreatDoor
open Go.RowKit
attribute [local go_sem ↓] Go.wp_at_zero Go.wp_at_succ
theorem info50 : (Tryz.prog.info? 50).map (fun i => (i.zero, i.size, i.bytes)) = some (some (.agg #[.int .i64 0, .int .i64 0, .int .i64 0, .int .i64 0, .int .i64 0, .int .i64 0, .int .i64 0, .int .i64 0, .int .i64 0, .int .i64 0, .slice none 0 0, .string ⟨#[]⟩]), 12, 120) := by kernel_rfl
theorem rest_ord {x : Bun} {t0 t1 t2 t3 t4 t5 t6 t7 : ByteArray} (h : (Item.ord x).rest = [t0, t1, t2, t3, t4, t5, t6, t7]) : (bunNums x).map itoaS = [t0, t1, t2, t3, t4, t5, t6] ∧ quoteS x.py = t7 := by
  simp only [Item.rest, bunNums, List.map_cons, List.map_nil, List.cons_append, List.nil_append, List.cons.injEq, and_true] at h
  obtain ⟨h0, h1, h2, h3, h4, h5, h6, h7⟩ := h
  exact ⟨by simp only [bunNums, List.map_cons, List.map_nil, h0, h1, h2, h3, h4, h5, h6], h7⟩
set_option maxHeartbeats 8000000 in
set_option maxRecDepth 100000 in
theorem read_ord (pb B : Nat) (st : St) (VQ VC VO VF VX : Value) (ov : List (Bun × Value)) (s : ByteArray) (w : World) (hP : PS w B pb st VQ VC VO VF VX ov) (hG : Glob w) (hs0 : 1 ≤ s.size) (hs : s.size ≤ 8192) (hlen : ov.length ≤ 10000)
    (hc : (Lib.cut s.data.toList [32]).1 = (wordK 3).data.toList) : Calls Tryz.prog 61 #[.pointer (some ⟨pb, 0, none⟩), .string s] w (MPost w B pb st s) := by
  obtain ⟨AVQ, cVQ, rfl⟩ := own_slice hP.rq
  obtain ⟨AVC, cVC, rfl⟩ := own_slice hP.rc
  obtain ⟨AVO, cVO, rfl⟩ := own_slice hP.ro
  obtain ⟨AVF, cVF, rfl⟩ := own_slice hP.rf
  obtain ⟨AVX, cVX, rfl⟩ := own_slice hP.rx
  obtain ⟨t, hsp⟩ := sp_of (s := s) (k := 3) (by decide) hs0 hc
  have HC := Lib.hid hc
  have HSP := Lib.hid hsp
  have HP := Lib.hid hP
  have hpB := hP.lt
  have hBl := hP.le
  have h8 := hP.g8
  have hl0 := hsp.len
  have hl2 := hsp.len2
  have hvVO := Lib.hid (fun g (e : ((.slice AVO ov.length cVO) : Value).ownBlock = some g) => (hP.ro.lt g e).2)
  have hask : askK 3 = 8 := rfl
  have HSE : Hid (wsK (min (8 + 1) (s.size + 1) - 1) s = wordK 3 :: t) := hsp.eq
  have HG := Lib.hid hG
  rw [hask] at hl0 hl2
  have HNX : Hid (∀ x, IsI s.data.toList x → ∃ f : Bun, x = .ord f ∧ InR (bunNums f) ∧ f.py.size ≤ 4096 ∧ (Item.ord f).rest = t) := fun x hx => by
    have hk := kind_of hx (by decide) (by decide) HC.out
    have hr := HSP.out.rest hk hx
    cases x with
    | ord f => exact ⟨f, rfl, hx.1.1, hx.1.2.2.2.2.2, hr⟩
    | node | con | flt | blk | otg | bnd => cases hk
  clear hP hsp hask hc hG
  by_cases h4 : t.length = 8
  rotate_left
  · have h4i : ((t.length : Int) != 8) = true := by simp; omega
    have HNO : Hid (∀ x, IsI s.data.toList x → fitM st x = false) := fun x hx => by
      obtain ⟨f, _, _, _, e⟩ := HNX.out x hx
      exact absurd (by rw [← e]; simp [Item.rest, bunNums]) h4
    clear h4 HNX
    go_enter Tryz.func61, Tryz.ntmps61
    go_wp2_with fail
    refine (split_any s 8 (by omega) (by omega) hs0 (by omega) _ HG.out).mono ?_
    rw [HSE.out]
    rintro e w1 ⟨rfl, rfl⟩
    go_wp2_with fail
    go_ret
    exact ⟨false, rfl, Frm.of_below ((Below.refl _ w).alloc (Nat.le_refl _) _) hBl, fun _ => HNO.out, fun h => by cases h⟩
  have h4i : ((t.length : Int) != 8) = false := by simp; omega
  go_enter Tryz.func61, Tryz.ntmps61
  go_wp2_with fail
  refine (split_any s 8 (by omega) (by omega) hs0 (by omega) _ HG.out).mono ?_
  rw [HSE.out]
  generalize hM : min (8 + 1) (s.size + 1) = M at *
  have hM9 : M ≤ 9 := by omega
  have hM5 : 9 ≤ M := by omega
  clear hM hl2
  rintro e w1 ⟨rfl, hw1⟩
  have b1 : Below w.heap.size w w1 := by rw [hw1]; exact (Below.refl _ w).alloc (Nat.le_refl _) _
  have q1 : w1.heap[w.heap.size]? = some (.cells (Lib.cellsOf (wordK 3 :: t) M) 9 (0, 0)) := by rw [hw1]; exact heap_alloc_last _ _
  have z1 : w1.heap.size = w.heap.size + 1 := by rw [hw1]; simp
  clear hw1
  obtain ⟨t0, t1, t2, t3, t4, t5, t6, t7, rfl⟩ := list8B h4
  have k3 : (7 : Int) ≤ ((M - 1 : Nat) : Int) := by omega
  have k4 : (8 : Int) ≤ ((M - 1 : Nat) : Int) := by omega
  clear h4 hl0
  go_wp2_with fail
  have b2 : Below w.heap.size w ((w1.alloc (.cells #[.int .i64 0, .int .i64 0, .int .i64 0, .int .i64 0, .int .i64 0, .int .i64 1, .int .i64 0, .int .i64 0, .int .i64 0, .int .i64 0, .slice none 0 0, .string ⟨#[]⟩] 50)).alloc (.cells #[.pointer (some ⟨w.heap.size + 1, 0, none⟩), .pointer (some ⟨w.heap.size + 1, 1, none⟩), .pointer (some ⟨w.heap.size + 1, 2, none⟩), .pointer (some ⟨w.heap.size + 1, 6, none⟩), .pointer (some ⟨w.heap.size + 1, 7, none⟩), .pointer (some ⟨w.heap.size + 1, 8, none⟩), .pointer (some ⟨w.heap.size + 1, 9, none⟩)] 122)) := (b1.alloc b1.size _).alloc (by simp; omega) _
  have q2 : ((w1.alloc (.cells #[.int .i64 0, .int .i64 0, .int .i64 0, .int .i64 0, .int .i64 0, .int .i64 1, .int .i64 0, .int .i64 0, .int .i64 0, .int .i64 0, .slice none 0 0, .string ⟨#[]⟩] 50)).alloc (.cells #[.pointer (some ⟨w.heap.size + 1, 0, none⟩), .pointer (some ⟨w.heap.size + 1, 1, none⟩), .pointer (some ⟨w.heap.size + 1, 2, none⟩), .pointer (some ⟨w.heap.size + 1, 6, none⟩), .pointer (some ⟨w.heap.size + 1, 7, none⟩), .pointer (some ⟨w.heap.size + 1, 8, none⟩), .pointer (some ⟨w.heap.size + 1, 9, none⟩)] 122)).heap[w.heap.size]? = some (.cells (Lib.cellsOf (wordK 3 :: [t0, t1, t2, t3, t4, t5, t6, t7]) M) 9 (0, 0)) := (Below.heap_alloc _ _ _ (by simp; omega)).trans ((Below.heap_alloc _ _ _ (by omega)).trans q1)
  have q3 : ((w1.alloc (.cells #[.int .i64 0, .int .i64 0, .int .i64 0, .int .i64 0, .int .i64 0, .int .i64 1, .int .i64 0, .int .i64 0, .int .i64 0, .int .i64 0, .slice none 0 0, .string ⟨#[]⟩] 50)).alloc (.cells #[.pointer (some ⟨w.heap.size + 1, 0, none⟩), .pointer (some ⟨w.heap.size + 1, 1, none⟩), .pointer (some ⟨w.heap.size + 1, 2, none⟩), .pointer (some ⟨w.heap.size + 1, 6, none⟩), .pointer (some ⟨w.heap.size + 1, 7, none⟩), .pointer (some ⟨w.heap.size + 1, 8, none⟩), .pointer (some ⟨w.heap.size + 1, 9, none⟩)] 122)).heap[w.heap.size + 1]? = some (.cells #[.int .i64 0, .int .i64 0, .int .i64 0, .int .i64 0, .int .i64 0, .int .i64 1, .int .i64 0, .int .i64 0, .int .i64 0, .int .i64 0, .slice none 0 0, .string ⟨#[]⟩] 50 (0, 0)) := by
    rw [Below.heap_alloc _ _ _ (by simp; omega), ← z1]; exact heap_alloc_last _ _
  have q4 : ((w1.alloc (.cells #[.int .i64 0, .int .i64 0, .int .i64 0, .int .i64 0, .int .i64 0, .int .i64 1, .int .i64 0, .int .i64 0, .int .i64 0, .int .i64 0, .slice none 0 0, .string ⟨#[]⟩] 50)).alloc (.cells #[.pointer (some ⟨w.heap.size + 1, 0, none⟩), .pointer (some ⟨w.heap.size + 1, 1, none⟩), .pointer (some ⟨w.heap.size + 1, 2, none⟩), .pointer (some ⟨w.heap.size + 1, 6, none⟩), .pointer (some ⟨w.heap.size + 1, 7, none⟩), .pointer (some ⟨w.heap.size + 1, 8, none⟩), .pointer (some ⟨w.heap.size + 1, 9, none⟩)] 122)).heap[w.heap.size + 1 + 1]? = some (.cells #[.pointer (some ⟨w.heap.size + 1, 0, none⟩), .pointer (some ⟨w.heap.size + 1, 1, none⟩), .pointer (some ⟨w.heap.size + 1, 2, none⟩), .pointer (some ⟨w.heap.size + 1, 6, none⟩), .pointer (some ⟨w.heap.size + 1, 7, none⟩), .pointer (some ⟨w.heap.size + 1, 8, none⟩), .pointer (some ⟨w.heap.size + 1, 9, none⟩)] 122 (0, 0)) := by
    have := heap_alloc_last (w1.alloc (.cells #[.int .i64 0, .int .i64 0, .int .i64 0, .int .i64 0, .int .i64 0, .int .i64 1, .int .i64 0, .int .i64 0, .int .i64 0, .int .i64 0, .slice none 0 0, .string ⟨#[]⟩] 50)) (.cells #[.pointer (some ⟨w.heap.size + 1, 0, none⟩), .pointer (some ⟨w.heap.size + 1, 1, none⟩), .pointer (some ⟨w.heap.size + 1, 2, none⟩), .pointer (some ⟨w.heap.size + 1, 6, none⟩), .pointer (some ⟨w.heap.size + 1, 7, none⟩), .pointer (some ⟨w.heap.size + 1, 8, none⟩), .pointer (some ⟨w.heap.size + 1, 9, none⟩)] 122)
    rw [show (w1.alloc (.cells #[.int .i64 0, .int .i64 0, .int .i64 0, .int .i64 0, .int .i64 0, .int .i64 1, .int .i64 0, .int .i64 0, .int .i64 0, .int .i64 0, .slice none 0 0, .string ⟨#[]⟩] 50)).heap.size = w.heap.size + 1 + 1 by simp; omega] at this
    exact this
  have z2 : ((w1.alloc (.cells #[.int .i64 0, .int .i64 0, .int .i64 0, .int .i64 0, .int .i64 0, .int .i64 1, .int .i64 0, .int .i64 0, .int .i64 0, .int .i64 0, .slice none 0 0, .string ⟨#[]⟩] 50)).alloc (.cells #[.pointer (some ⟨w.heap.size + 1, 0, none⟩), .pointer (some ⟨w.heap.size + 1, 1, none⟩), .pointer (some ⟨w.heap.size + 1, 2, none⟩), .pointer (some ⟨w.heap.size + 1, 6, none⟩), .pointer (some ⟨w.heap.size + 1, 7, none⟩), .pointer (some ⟨w.heap.size + 1, 8, none⟩), .pointer (some ⟨w.heap.size + 1, 9, none⟩)] 122)).heap.size = w.heap.size + 1 + 1 + 1 := by simp; omega
  have hG2 : Glob ((w1.alloc (.cells #[.int .i64 0, .int .i64 0, .int .i64 0, .int .i64 0, .int .i64 0, .int .i64 1, .int .i64 0, .int .i64 0, .int .i64 0, .int .i64 0, .slice none 0 0, .string ⟨#[]⟩] 50)).alloc (.cells #[.pointer (some ⟨w.heap.size + 1, 0, none⟩), .pointer (some ⟨w.heap.size + 1, 1, none⟩), .pointer (some ⟨w.heap.size + 1, 2, none⟩), .pointer (some ⟨w.heap.size + 1, 6, none⟩), .pointer (some ⟨w.heap.size + 1, 7, none⟩), .pointer (some ⟨w.heap.size + 1, 8, none⟩), .pointer (some ⟨w.heap.size + 1, 9, none⟩)] 122)) := HG.out.below b2
  generalize ((w1.alloc (.cells #[.int .i64 0, .int .i64 0, .int .i64 0, .int .i64 0, .int .i64 0, .int .i64 1, .int .i64 0, .int .i64 0, .int .i64 0, .int .i64 0, .slice none 0 0, .string ⟨#[]⟩] 50)).alloc (.cells #[.pointer (some ⟨w.heap.size + 1, 0, none⟩), .pointer (some ⟨w.heap.size + 1, 1, none⟩), .pointer (some ⟨w.heap.size + 1, 2, none⟩), .pointer (some ⟨w.heap.size + 1, 6, none⟩), .pointer (some ⟨w.heap.size + 1, 7, none⟩), .pointer (some ⟨w.heap.size + 1, 8, none⟩), .pointer (some ⟨w.heap.size + 1, 9, none⟩)] 122)) = w2 at *
  clear q1 b1 z1
  have hw2 := wds_of q2 HSP.out hs
  have hw3 : ∀ j, j < [t0, t1, t2, t3, t4, t5, t6].length → ([t0, t1, t2, t3, t4, t5, t6].getD j ⟨#[]⟩).size ≤ 70000 ∧ w2.cell? ⟨w.heap.size, 1 + j, none⟩ = some (.string ([t0, t1, t2, t3, t4, t5, t6].getD j ⟨#[]⟩)) := fun j hj => by
    have h := hw2 j (by simp at hj ⊢; omega)
    match j, hj with
    | 0, _ => exact h
    | 1, _ => exact h
    | 2, _ => exact h
    | 3, _ => exact h
    | 4, _ => exact h
    | 5, _ => exact h
    | 6, _ => exact h
  have HX3 := Lib.hid (hw2 7 (by simp))
  clear hw2
  refine (numbers_any w.heap.size 1 _ (w.heap.size + 1 + 1) [t0, t1, t2, t3, t4, t5, t6] (psOf (w.heap.size + 1) [0, 1, 2, 6, 7, 8, 9]) (List.replicate 7 0) w2 hG2 hw3 (by omega) (by simp) (by simp [psOf]) (psok_of q3 (by omega) (by decide)) (nst_of (os := [0, 1, 2, 6, 7, 8, 9]) q3 (fun o ho => by simp only [List.mem_cons, List.not_mem_nil, or_false] at ho; rcases ho with rfl | rfl | rfl | rfl | rfl | rfl | rfl <;> rfl)) (by omega) (ptr_of (ps := psOf (w.heap.size + 1) [0, 1, 2, 6, 7, 8, 9]) q4) (fun j hj => by rw [psOf_get _ _ j hj]; show _ ≠ w.heap.size + 1; omega) (fun j hj => by rw [psOf_get _ _ j hj]; show _ ≠ w.heap.size + 1; omega)).mono ?_
  rintro e w3 ⟨ok, vs, rfl, hn, hy, hno⟩
  obtain ⟨v0, v1, v2, v3, v4, v5, v6, rfl⟩ := list7 hn.len
  have hz3 := hn.sz
  have hge : ∀ j, j < (psOf (w.heap.size + 1) [0, 1, 2, 6, 7, 8, 9]).length → w.heap.size ≤ ((psOf (w.heap.size + 1) [0, 1, 2, 6, 7, 8, 9]).getD j (0, 0)).1 := fun j hj => by rw [psOf_get _ _ j hj]; show w.heap.size ≤ w.heap.size + 1; omega
  have n0 : w3.cell? ⟨w.heap.size + 1, 0, none⟩ = some (.int .i64 v0) := hn.at_ 0 (by simp [psOf])
  have n1 : w3.cell? ⟨w.heap.size + 1, 1, none⟩ = some (.int .i64 v1) := hn.at_ 1 (by simp [psOf])
  have n2 : w3.cell? ⟨w.heap.size + 1, 2, none⟩ = some (.int .i64 v2) := hn.at_ 2 (by simp [psOf])
  have n6 : w3.cell? ⟨w.heap.size + 1, 6, none⟩ = some (.int .i64 v3) := hn.at_ 3 (by simp [psOf])
  have n7 : w3.cell? ⟨w.heap.size + 1, 7, none⟩ = some (.int .i64 v4) := hn.at_ 4 (by simp [psOf])
  have n8 : w3.cell? ⟨w.heap.size + 1, 8, none⟩ = some (.int .i64 v5) := hn.at_ 5 (by simp [psOf])
  have n9 : w3.cell? ⟨w.heap.size + 1, 9, none⟩ = some (.int .i64 v6) := hn.at_ 6 (by simp [psOf])
  have noff : ∀ o, o ∉ [0, 1, 2, 6, 7, 8, 9] → w3.cell? ⟨w.heap.size + 1, o, none⟩ = w2.cell? ⟨w.heap.size + 1, o, none⟩ := fun o ho => hn.oth _ o (by omega) (fun j hj e => by
    rw [psOf_get _ _ j hj] at e
    have e2 : o = [0, 1, 2, 6, 7, 8, 9].getD j 0 := (Prod.mk.inj e).2
    have hj' : j < [0, 1, 2, 6, 7, 8, 9].length := by simpa [psOf] using hj
    apply ho
    rw [e2]
    have e3 : [0, 1, 2, 6, 7, 8, 9].getD j 0 = [0, 1, 2, 6, 7, 8, 9][j] := by simp only [List.getD, List.getElem?_eq_getElem hj', Option.getD_some]
    rw [e3]
    exact List.getElem_mem _)
  have n3 := (noff 3 (by decide)).trans (by rw [cell_blk q3]; rfl : w2.cell? ⟨w.heap.size + 1, 3, none⟩ = some (.int .i64 0))
  have n4 := (noff 4 (by decide)).trans (by rw [cell_blk q3]; rfl : w2.cell? ⟨w.heap.size + 1, 4, none⟩ = some (.int .i64 0))
  have n5 := (noff 5 (by decide)).trans (by rw [cell_blk q3]; rfl : w2.cell? ⟨w.heap.size + 1, 5, none⟩ = some (.int .i64 1))
  have n10 := (noff 10 (by decide)).trans (by rw [cell_blk q3]; rfl : w2.cell? ⟨w.heap.size + 1, 10, none⟩ = some (.slice none 0 0))
  have n11 := (noff 11 (by decide)).trans (by rw [cell_blk q3]; rfl : w2.cell? ⟨w.heap.size + 1, 11, none⟩ = some (.string ⟨#[]⟩))
  have nf : w3.frozen? ⟨w.heap.size + 1, 11, none⟩ = false := (hn.fz _ 11 (by omega)).trans (frozen_blk q3 11)
  have nx : w3.cell? ⟨w.heap.size, 8, none⟩ = some (.string t7) := (hn.oth _ 8 (by omega) (fun j hj e => by
    rw [psOf_get _ _ j hj] at e
    have e2 := (Prod.mk.inj e).1
    omega)).trans HX3.out.2
  have nxs : t7.size ≤ 70000 := HX3.out.1
  have HK3 : Hid (∀ k, k < w.heap.size → w3.heap[k]? = w.heap[k]?) := fun k hk => (hn.blk k (by omega) (fun j hj e => by have := hge j hj; omega)).trans (b2.block k hk)
  have HF3 := Lib.hid (Frm.nst (pb := pb) hBl b2 hn hge)
  have hN3 : Hid (ok = false → ∀ x, IsI s.data.toList x → fitM st x = false) := fun h x hx => by
    obtain ⟨f, _, h1, _, e⟩ := HNX.out x hx
    exact absurd rfl (hno h _ (by rw [← (rest_ord e).1]; exact of_nums h1))
  have hY3 : Hid (ok = true → InR [v0, v1, v2, v3, v4, v5, v6] ∧ [t0, t1, t2, t3, t4, t5, t6] = [v0, v1, v2, v3, v4, v5, v6].map itoaS) := fun h => nums_of (hy h)
  obtain ⟨i0, hi, hz0, hz1, hz2⟩ := info_parts info50
  have HI : Hid ((Tryz.prog.info? 50 = some i0) ∧ i0.zero = some _ ∧ i0.size = _ ∧ i0.bytes = _) := ⟨hi, hz0, hz1, hz2⟩
  clear hi hz0 hz1 hz2
  have hzL : w.heap.size + 1 < w3.heap.size := by omega
  have hz1 : w.heap.size < w3.heap.size := by omega
  clear hy hno hge hn b2 q2 q3 q4 hG2 hw3 HX3 z2 hz3 HSE noff
  go_wp2_with fail
  refine (unq_any t7 nxs w3).mono ?_
  rintro e w4 ⟨rfl, b4⟩
  have hU : Hid ((∃ u : ByteArray, IsU t7.data.toList u.data.toList ∧ (⟨(unqR t7.data.toList).1.toArray⟩ : ByteArray) = u ∧ (unqR t7.data.toList).2 = 0) ∨ ((∀ u, ¬ IsU t7.data.toList u) ∧ (unqR t7.data.toList).2 = 3)) := by
    show _ ∨ _
    rcases unqR_cases t7.data.toList with ⟨u, hu, e⟩ | ⟨hu, e⟩
    · exact .inl ⟨⟨u.toArray⟩, hu, by rw [e], by rw [e]⟩
    · exact .inr ⟨hu, by rw [e]⟩
  generalize (⟨(unqR t7.data.toList).1.toArray⟩ : ByteArray) = pl at *
  generalize (unqR t7.data.toList).2 = er at *
  have r0 := (b4.cell (p := ⟨w.heap.size + 1, 0, none⟩) hzL).trans n0
  have r1 := (b4.cell (p := ⟨w.heap.size + 1, 1, none⟩) hzL).trans n1
  have r2 := (b4.cell (p := ⟨w.heap.size + 1, 2, none⟩) hzL).trans n2
  have r3 := (b4.cell (p := ⟨w.heap.size + 1, 3, none⟩) hzL).trans n3
  have r4 := (b4.cell (p := ⟨w.heap.size + 1, 4, none⟩) hzL).trans n4
  have r5 := (b4.cell (p := ⟨w.heap.size + 1, 5, none⟩) hzL).trans n5
  have r6 := (b4.cell (p := ⟨w.heap.size + 1, 6, none⟩) hzL).trans n6
  have r7 := (b4.cell (p := ⟨w.heap.size + 1, 7, none⟩) hzL).trans n7
  have r8 := (b4.cell (p := ⟨w.heap.size + 1, 8, none⟩) hzL).trans n8
  have r9 := (b4.cell (p := ⟨w.heap.size + 1, 9, none⟩) hzL).trans n9
  have r10 := (b4.cell (p := ⟨w.heap.size + 1, 10, none⟩) hzL).trans n10
  have r11 := (b4.cell (p := ⟨w.heap.size + 1, 11, none⟩) hzL).trans n11
  have rf := (b4.frozen (p := ⟨w.heap.size + 1, 11, none⟩) hzL).trans nf
  have HK4 : Hid (∀ k, k < w.heap.size → w4.heap[k]? = w.heap[k]?) := fun k hk => (b4.block k (by omega)).trans (HK3.out k hk)
  have HF4 := Lib.hid (HF3.out.trans (Frm.of_below (pb := pb) b4 (by omega)))
  have hz4 := b4.size
  clear n0 n1 n2 n3 n4 n5 n6 n7 n8 n9 n10 n11 nf nx b4
  go_wp2_with fail
  have s0 := (World.cell?_setCell_other w4 ⟨w.heap.size + 1, 11, none⟩ ⟨w.heap.size + 1, 0, none⟩ (.string pl) (by simp)).trans r0
  have s1 := (World.cell?_setCell_other w4 ⟨w.heap.size + 1, 11, none⟩ ⟨w.heap.size + 1, 1, none⟩ (.string pl) (by simp)).trans r1
  have s2 := (World.cell?_setCell_other w4 ⟨w.heap.size + 1, 11, none⟩ ⟨w.heap.size + 1, 2, none⟩ (.string pl) (by simp)).trans r2
  have s3 := (World.cell?_setCell_other w4 ⟨w.heap.size + 1, 11, none⟩ ⟨w.heap.size + 1, 3, none⟩ (.string pl) (by simp)).trans r3
  have s4 := (World.cell?_setCell_other w4 ⟨w.heap.size + 1, 11, none⟩ ⟨w.heap.size + 1, 4, none⟩ (.string pl) (by simp)).trans r4
  have s5 := (World.cell?_setCell_other w4 ⟨w.heap.size + 1, 11, none⟩ ⟨w.heap.size + 1, 5, none⟩ (.string pl) (by simp)).trans r5
  have s6 := (World.cell?_setCell_other w4 ⟨w.heap.size + 1, 11, none⟩ ⟨w.heap.size + 1, 6, none⟩ (.string pl) (by simp)).trans r6
  have s7 := (World.cell?_setCell_other w4 ⟨w.heap.size + 1, 11, none⟩ ⟨w.heap.size + 1, 7, none⟩ (.string pl) (by simp)).trans r7
  have s8 := (World.cell?_setCell_other w4 ⟨w.heap.size + 1, 11, none⟩ ⟨w.heap.size + 1, 8, none⟩ (.string pl) (by simp)).trans r8
  have s9 := (World.cell?_setCell_other w4 ⟨w.heap.size + 1, 11, none⟩ ⟨w.heap.size + 1, 9, none⟩ (.string pl) (by simp)).trans r9
  have s10 := (World.cell?_setCell_other w4 ⟨w.heap.size + 1, 11, none⟩ ⟨w.heap.size + 1, 10, none⟩ (.string pl) (by simp)).trans r10
  have s11 := World.cell?_setCell_same w4 ⟨w.heap.size + 1, 11, none⟩ (.string pl) r11
  have hk5 : ∀ k, k < w.heap.size → (w4.setCell ⟨w.heap.size + 1, 11, none⟩ (.string pl)).heap[k]? = w.heap[k]? := fun k hk => (Below.heap_setCell w4 ⟨w.heap.size + 1, 11, none⟩ _ k (by show k ≠ w.heap.size + 1; omega)).trans (HK4.out k hk)
  have hz5 : (w4.setCell ⟨w.heap.size + 1, 11, none⟩ (.string pl)).heap.size = w4.heap.size := by simp
  have P5 : PS (w4.setCell ⟨w.heap.size + 1, 11, none⟩ (.string pl)) B pb st (.slice AVQ st.m.q.length cVQ) (.slice AVC st.m.cs.length cVC) (.slice AVO ov.length cVO) (.slice AVF st.m.fs.length cVF) (.slice AVX st.m.xs.length cVX) ov := HP.out.keep (by rw [hz5]; omega) hk5
  have F5 : Frm B pb w (w4.setCell ⟨w.heap.size + 1, 11, none⟩ (.string pl)) := ⟨HF4.out.os, HF4.out.tape, HF4.out.output, by rw [hz5]; omega, fun k h1 hn => (Below.heap_setCell w4 ⟨w.heap.size + 1, 11, none⟩ _ k (by show k ≠ w.heap.size + 1; omega)).trans (HF4.out.block k h1 hn), fun k o ho hc2 => (Below.heap_setCell w4 ⟨w.heap.size + 1, 11, none⟩ _ k (by have := blk_lt ho; show k ≠ w.heap.size + 1; omega)).trans (HF4.out.other k o ho hc2)⟩
  generalize (w4.setCell ⟨w.heap.size + 1, 11, none⟩ (.string pl)) = w5 at *
  have hP4 := P5.below (Below.drew (Below.refl _ _))
  have F6 : Frm B pb w w5.drew := F5.trans (Frm.of_below (Below.drew (Below.refl w5.heap.size w5)) hP4.le)
  have hzL5 : w.heap.size + 1 < w5.heap.size := by omega
  have m0 : w5.drew.cell? ⟨(w.heap.size + 1), 0, none⟩ = some (.int .i64 v0) := s0
  have m1 : w5.drew.cell? ⟨(w.heap.size + 1), 1, none⟩ = some (.int .i64 v1) := s1
  have m2 : w5.drew.cell? ⟨(w.heap.size + 1), 2, none⟩ = some (.int .i64 v2) := s2
  have m3 : w5.drew.cell? ⟨(w.heap.size + 1), 3, none⟩ = some (.int .i64 0) := s3
  have m4 : w5.drew.cell? ⟨(w.heap.size + 1), 4, none⟩ = some (.int .i64 0) := s4
  have m5 : w5.drew.cell? ⟨(w.heap.size + 1), 5, none⟩ = some (.int .i64 1) := s5
  have m6 : w5.drew.cell? ⟨(w.heap.size + 1), 6, none⟩ = some (.int .i64 v3) := s6
  have m7 : w5.drew.cell? ⟨(w.heap.size + 1), 7, none⟩ = some (.int .i64 v4) := s7
  have m8 : w5.drew.cell? ⟨(w.heap.size + 1), 8, none⟩ = some (.int .i64 v5) := s8
  have m9 : w5.drew.cell? ⟨(w.heap.size + 1), 9, none⟩ = some (.int .i64 v6) := s9
  have m10 : w5.drew.cell? ⟨(w.heap.size + 1), 10, none⟩ = some (.slice none 0 0) := s10
  have m11 : w5.drew.cell? ⟨(w.heap.size + 1), 11, none⟩ = some (.string pl) := s11
  clear r0 r1 r2 r3 r4 r5 r6 r7 r8 r9 r10 r11 rf s0 s1 s2 s3 s4 s5 s6 s7 s8 s9 s10 s11 hk5 hz5 P5 F5 hzL hz1 hz4
  have hzL := hzL5
  clear hzL5
  have c0 := cell_blk hP4.blk 2
  simp only [List.getElem?_toArray, List.getElem?_cons_zero, List.getElem?_cons_succ] at c0
  refine wp_region_last (fun w' => w'.cell? ⟨pb, 2, none⟩ = some (.slice AVO ov.length cVO) ∧ w'.cell? ⟨(w.heap.size + 1), 0, none⟩ = some (.int .i64 v0) ∧ w'.cell? ⟨(w.heap.size + 1), 1, none⟩ = some (.int .i64 v1) ∧ w'.cell? ⟨(w.heap.size + 1), 2, none⟩ = some (.int .i64 v2) ∧ w'.cell? ⟨(w.heap.size + 1), 3, none⟩ = some (.int .i64 0) ∧ w'.cell? ⟨(w.heap.size + 1), 4, none⟩ = some (.int .i64 0) ∧ w'.cell? ⟨(w.heap.size + 1), 5, none⟩ = some (.int .i64 1) ∧ w'.cell? ⟨(w.heap.size + 1), 6, none⟩ = some (.int .i64 v3) ∧ w'.cell? ⟨(w.heap.size + 1), 7, none⟩ = some (.int .i64 v4) ∧ w'.cell? ⟨(w.heap.size + 1), 8, none⟩ = some (.int .i64 v5) ∧ w'.cell? ⟨(w.heap.size + 1), 9, none⟩ = some (.int .i64 v6) ∧ w'.cell? ⟨(w.heap.size + 1), 10, none⟩ = some (.slice none 0 0) ∧ w'.cell? ⟨(w.heap.size + 1), 11, none⟩ = some (.string pl)) 12 (by kernel_rfl) ⟨c0, m0, m1, m2, m3, m4, m5, m6, m7, m8, m9, m10, m11⟩ (fun hHeld => ?_)
  (refine wpAnyK_take (i := 0) (v := ?_) rfl rfl (by kernel_rfl) (by kernel_rfl) (by kernel_rfl) (by kernel_rfl) (fun _ _ _ h => h) (Or.inl ⟨by kernel_rfl, fun w0 hSw => ?_⟩) hHeld ?_; rotate_left; (focus ((try dsimp only at hSw); simp only [List.getElem_toArray, List.getElem_cons_zero]; (first | (go_simp; done) | (go_simp; with_reducible rfl)))); (try simp only [List.getElem_toArray, List.getElem_cons_zero, Act.put, List.setIfInBounds_toArray, List.set_cons_zero, List.set_cons_succ]))
  (refine wpAnyK_take (i := 1) (v := ?_) rfl rfl (by kernel_rfl) (by kernel_rfl) (by kernel_rfl) (by kernel_rfl) (fun _ _ _ h => h) (Or.inl ⟨by kernel_rfl, fun w0 hSw => ?_⟩) hHeld ?_; rotate_left; (focus ((try dsimp only at hSw); simp only [List.getElem_toArray, List.getElem_cons_zero, List.getElem_cons_succ]; (first | (go_simp; done) | (go_simp; with_reducible rfl)))); (try simp only [List.getElem_toArray, List.getElem_cons_zero, List.getElem_cons_succ, Act.put, List.setIfInBounds_toArray, List.set_cons_zero, List.set_cons_succ]))
  (refine wpAnyK_take (i := 2) (v := ?_) rfl rfl (by kernel_rfl) (by kernel_rfl) (by kernel_rfl) (by kernel_rfl) (fun _ _ _ h => h) (Or.inl ⟨by kernel_rfl, fun w0 hSw => ?_⟩) hHeld ?_; rotate_left; (focus ((try dsimp only at hSw); simp only [List.getElem_toArray, List.getElem_cons_zero, List.getElem_cons_succ]; (first | (go_simp; done) | (go_simp; with_reducible rfl)))); (try simp only [List.getElem_toArray, List.getElem_cons_zero, List.getElem_cons_succ, Act.put, List.setIfInBounds_toArray, List.set_cons_zero, List.set_cons_succ]))
  (refine wpAnyK_take (i := 3) (v := ?_) rfl rfl (by kernel_rfl) (by kernel_rfl) (by kernel_rfl) (by kernel_rfl) (fun _ _ _ h => h) (Or.inl ⟨by kernel_rfl, fun w0 hSw => ?_⟩) hHeld ?_; rotate_left; (focus ((try dsimp only at hSw); simp only [List.getElem_toArray, List.getElem_cons_zero, List.getElem_cons_succ]; (first | (go_simp; done) | (go_simp; with_reducible rfl)))); (try simp only [List.getElem_toArray, List.getElem_cons_zero, List.getElem_cons_succ, Act.put, List.setIfInBounds_toArray, List.set_cons_zero, List.set_cons_succ]))
  (refine wpAnyK_take (i := 4) (v := ?_) rfl rfl (by kernel_rfl) (by kernel_rfl) (by kernel_rfl) (by kernel_rfl) (fun _ _ _ h => h) (Or.inl ⟨by kernel_rfl, fun w0 hSw => ?_⟩) hHeld ?_; rotate_left; (focus ((try dsimp only at hSw); simp only [List.getElem_toArray, List.getElem_cons_zero, List.getElem_cons_succ]; (first | (go_simp; done) | (go_simp; with_reducible rfl)))); (try simp only [List.getElem_toArray, List.getElem_cons_zero, List.getElem_cons_succ, Act.put, List.setIfInBounds_toArray, List.set_cons_zero, List.set_cons_succ]))
  (refine wpAnyK_take (i := 5) (v := ?_) rfl rfl (by kernel_rfl) (by kernel_rfl) (by kernel_rfl) (by kernel_rfl) (fun _ _ _ h => h) (Or.inl ⟨by kernel_rfl, fun w0 hSw => ?_⟩) hHeld ?_; rotate_left; (focus ((try dsimp only at hSw); simp only [List.getElem_toArray, List.getElem_cons_zero, List.getElem_cons_succ]; (first | (go_simp; done) | (go_simp; with_reducible rfl)))); (try simp only [List.getElem_toArray, List.getElem_cons_zero, List.getElem_cons_succ, Act.put, List.setIfInBounds_toArray, List.set_cons_zero, List.set_cons_succ]))
  (refine wpAnyK_take (i := 6) (v := ?_) rfl rfl (by kernel_rfl) (by kernel_rfl) (by kernel_rfl) (by kernel_rfl) (fun _ _ _ h => h) (Or.inl ⟨by kernel_rfl, fun w0 hSw => ?_⟩) hHeld ?_; rotate_left; (focus ((try dsimp only at hSw); simp only [List.getElem_toArray, List.getElem_cons_zero, List.getElem_cons_succ]; (first | (go_simp; done) | (go_simp; with_reducible rfl)))); (try simp only [List.getElem_toArray, List.getElem_cons_zero, List.getElem_cons_succ, Act.put, List.setIfInBounds_toArray, List.set_cons_zero, List.set_cons_succ]))
  (refine wpAnyK_one (j := 7) (by kernel_rfl) rfl (fun K hK => ?_); (try simp only [List.getElem_toArray, List.getElem_cons_zero, List.getElem_cons_succ]))
  go_simp
  have k1 := (show ((w5.drew.alloc (.cells #[.int .i64 v0, .int .i64 v1, .int .i64 v2, .int .i64 0, .int .i64 0, .int .i64 1, .int .i64 v3, .int .i64 v4, .int .i64 v5, .int .i64 v6, .slice none 0 0, .string pl] 50)).cell? ⟨pb, 2, none⟩ = some (.slice AVO ov.length cVO) ∧ (w5.drew.alloc (.cells #[.int .i64 v0, .int .i64 v1, .int .i64 v2, .int .i64 0, .int .i64 0, .int .i64 1, .int .i64 v3, .int .i64 v4, .int .i64 v5, .int .i64 v6, .slice none 0 0, .string pl] 50)).cell? ⟨(w.heap.size + 1), 0, none⟩ = some (.int .i64 v0) ∧ (w5.drew.alloc (.cells #[.int .i64 v0, .int .i64 v1, .int .i64 v2, .int .i64 0, .int .i64 0, .int .i64 1, .int .i64 v3, .int .i64 v4, .int .i64 v5, .int .i64 v6, .slice none 0 0, .string pl] 50)).cell? ⟨(w.heap.size + 1), 1, none⟩ = some (.int .i64 v1) ∧ (w5.drew.alloc (.cells #[.int .i64 v0, .int .i64 v1, .int .i64 v2, .int .i64 0, .int .i64 0, .int .i64 1, .int .i64 v3, .int .i64 v4, .int .i64 v5, .int .i64 v6, .slice none 0 0, .string pl] 50)).cell? ⟨(w.heap.size + 1), 2, none⟩ = some (.int .i64 v2) ∧ (w5.drew.alloc (.cells #[.int .i64 v0, .int .i64 v1, .int .i64 v2, .int .i64 0, .int .i64 0, .int .i64 1, .int .i64 v3, .int .i64 v4, .int .i64 v5, .int .i64 v6, .slice none 0 0, .string pl] 50)).cell? ⟨(w.heap.size + 1), 3, none⟩ = some (.int .i64 0) ∧ (w5.drew.alloc (.cells #[.int .i64 v0, .int .i64 v1, .int .i64 v2, .int .i64 0, .int .i64 0, .int .i64 1, .int .i64 v3, .int .i64 v4, .int .i64 v5, .int .i64 v6, .slice none 0 0, .string pl] 50)).cell? ⟨(w.heap.size + 1), 4, none⟩ = some (.int .i64 0) ∧ (w5.drew.alloc (.cells #[.int .i64 v0, .int .i64 v1, .int .i64 v2, .int .i64 0, .int .i64 0, .int .i64 1, .int .i64 v3, .int .i64 v4, .int .i64 v5, .int .i64 v6, .slice none 0 0, .string pl] 50)).cell? ⟨(w.heap.size + 1), 5, none⟩ = some (.int .i64 1) ∧ (w5.drew.alloc (.cells #[.int .i64 v0, .int .i64 v1, .int .i64 v2, .int .i64 0, .int .i64 0, .int .i64 1, .int .i64 v3, .int .i64 v4, .int .i64 v5, .int .i64 v6, .slice none 0 0, .string pl] 50)).cell? ⟨(w.heap.size + 1), 6, none⟩ = some (.int .i64 v3) ∧ (w5.drew.alloc (.cells #[.int .i64 v0, .int .i64 v1, .int .i64 v2, .int .i64 0, .int .i64 0, .int .i64 1, .int .i64 v3, .int .i64 v4, .int .i64 v5, .int .i64 v6, .slice none 0 0, .string pl] 50)).cell? ⟨(w.heap.size + 1), 7, none⟩ = some (.int .i64 v4) ∧ (w5.drew.alloc (.cells #[.int .i64 v0, .int .i64 v1, .int .i64 v2, .int .i64 0, .int .i64 0, .int .i64 1, .int .i64 v3, .int .i64 v4, .int .i64 v5, .int .i64 v6, .slice none 0 0, .string pl] 50)).cell? ⟨(w.heap.size + 1), 8, none⟩ = some (.int .i64 v5) ∧ (w5.drew.alloc (.cells #[.int .i64 v0, .int .i64 v1, .int .i64 v2, .int .i64 0, .int .i64 0, .int .i64 1, .int .i64 v3, .int .i64 v4, .int .i64 v5, .int .i64 v6, .slice none 0 0, .string pl] 50)).cell? ⟨(w.heap.size + 1), 9, none⟩ = some (.int .i64 v6) ∧ (w5.drew.alloc (.cells #[.int .i64 v0, .int .i64 v1, .int .i64 v2, .int .i64 0, .int .i64 0, .int .i64 1, .int .i64 v3, .int .i64 v4, .int .i64 v5, .int .i64 v6, .slice none 0 0, .string pl] 50)).cell? ⟨(w.heap.size + 1), 10, none⟩ = some (.slice none 0 0) ∧ (w5.drew.alloc (.cells #[.int .i64 v0, .int .i64 v1, .int .i64 v2, .int .i64 0, .int .i64 0, .int .i64 1, .int .i64 v3, .int .i64 v4, .int .i64 v5, .int .i64 v6, .slice none 0 0, .string pl] 50)).cell? ⟨(w.heap.size + 1), 11, none⟩ = some (.string pl)) from ⟨(World.cell?_alloc_some _ _ _ (by rw [c0]; rfl)).trans c0, (World.cell?_alloc_some _ _ _ (by rw [m0]; rfl)).trans m0, (World.cell?_alloc_some _ _ _ (by rw [m1]; rfl)).trans m1, (World.cell?_alloc_some _ _ _ (by rw [m2]; rfl)).trans m2, (World.cell?_alloc_some _ _ _ (by rw [m3]; rfl)).trans m3, (World.cell?_alloc_some _ _ _ (by rw [m4]; rfl)).trans m4, (World.cell?_alloc_some _ _ _ (by rw [m5]; rfl)).trans m5, (World.cell?_alloc_some _ _ _ (by rw [m6]; rfl)).trans m6, (World.cell?_alloc_some _ _ _ (by rw [m7]; rfl)).trans m7, (World.cell?_alloc_some _ _ _ (by rw [m8]; rfl)).trans m8, (World.cell?_alloc_some _ _ _ (by rw [m9]; rfl)).trans m9, (World.cell?_alloc_some _ _ _ (by rw [m10]; rfl)).trans m10, (World.cell?_alloc_some _ _ _ (by rw [m11]; rfl)).trans m11⟩)
  refine hK.out _ _ (.inr k1) ?_
  clear hK K
  (try simp only [List.getElem_toArray, List.getElem_cons_zero, List.getElem_cons_succ, Act.put, List.setIfInBounds_toArray, List.set_cons_zero, List.set_cons_succ])
  (refine wpAnyK_one (j := 8) (by kernel_rfl) rfl (fun K hK => ?_); (try simp only [List.getElem_toArray, List.getElem_cons_zero, List.getElem_cons_succ]))
  rw [if_pos (by simp [Region.wanted])]
  refine wp_append_lies (w5.drew.alloc (.cells #[.int .i64 v0, .int .i64 v1, .int .i64 v2, .int .i64 0, .int .i64 0, .int .i64 1, .int .i64 v3, .int .i64 v4, .int .i64 v5, .int .i64 v6, .slice none 0 0, .string pl] 50)) (.tmp 46) (.tmp 48) 27 rfl B 50 i0 (.agg #[.int .i64 0, .int .i64 0, .int .i64 0, .int .i64 0, .int .i64 0, .int .i64 0, .int .i64 0, .int .i64 0, .int .i64 0, .int .i64 0, .slice none 0 0, .string ⟨#[]⟩]) 12 120 Tryz.underlying27 HI.out.1 HI.out.2.1 HI.out.2.2.1 HI.out.2.2.2 rfl (by decide) (.slice AVO ov.length cVO) ov.length (bunCells ov) (by kernel_rfl) (hP4.ro.alloc _) ⟨w5.heap.size, 0, none⟩ 1 1 [.int .i64 v0, .int .i64 v1, .int .i64 v2, .int .i64 0, .int .i64 0, .int .i64 1, .int .i64 v3, .int .i64 v4, .int .i64 v5, .int .i64 v6, .slice none 0 0, .string pl] (by kernel_rfl) rfl (World.news_of_block (heap_alloc_last _ _)) (by simp [Value.oneCell']) (by decide) (by unfold maxLen; omega) (by omega) (by have := hP4.le; simp at this ⊢; omega) (w5.heap.size + 1) (by simp) ?_
  intro g cap w6 hown6 hgrow6 _ hlt6
  obtain ⟨b6, hP7, F7, old7⟩ := hP4.appO (d := ⟨v0, v1, v2, 0, 0, 1, v3, v4, v5, v6, [], pl⟩) rfl hgrow6 hown6
  have k0 := cell_blk b6 2
  have kf := frozen_blk b6 2
  have z0 := (World.cell?_of_block (a := ⟨(w.heap.size + 1), 0, none⟩) (old7 (w.heap.size + 1) hzL (fun e => by have := hvVO.out _ e; omega))).trans m0
  have z1 := (World.cell?_of_block (a := ⟨(w.heap.size + 1), 1, none⟩) (old7 (w.heap.size + 1) hzL (fun e => by have := hvVO.out _ e; omega))).trans m1
  have z2 := (World.cell?_of_block (a := ⟨(w.heap.size + 1), 2, none⟩) (old7 (w.heap.size + 1) hzL (fun e => by have := hvVO.out _ e; omega))).trans m2
  have z3 := (World.cell?_of_block (a := ⟨(w.heap.size + 1), 3, none⟩) (old7 (w.heap.size + 1) hzL (fun e => by have := hvVO.out _ e; omega))).trans m3
  have z4 := (World.cell?_of_block (a := ⟨(w.heap.size + 1), 4, none⟩) (old7 (w.heap.size + 1) hzL (fun e => by have := hvVO.out _ e; omega))).trans m4
  have z5 := (World.cell?_of_block (a := ⟨(w.heap.size + 1), 5, none⟩) (old7 (w.heap.size + 1) hzL (fun e => by have := hvVO.out _ e; omega))).trans m5
  have z6 := (World.cell?_of_block (a := ⟨(w.heap.size + 1), 6, none⟩) (old7 (w.heap.size + 1) hzL (fun e => by have := hvVO.out _ e; omega))).trans m6
  have z7 := (World.cell?_of_block (a := ⟨(w.heap.size + 1), 7, none⟩) (old7 (w.heap.size + 1) hzL (fun e => by have := hvVO.out _ e; omega))).trans m7
  have z8 := (World.cell?_of_block (a := ⟨(w.heap.size + 1), 8, none⟩) (old7 (w.heap.size + 1) hzL (fun e => by have := hvVO.out _ e; omega))).trans m8
  have z9 := (World.cell?_of_block (a := ⟨(w.heap.size + 1), 9, none⟩) (old7 (w.heap.size + 1) hzL (fun e => by have := hvVO.out _ e; omega))).trans m9
  have z10 := (World.cell?_of_block (a := ⟨(w.heap.size + 1), 10, none⟩) (old7 (w.heap.size + 1) hzL (fun e => by have := hvVO.out _ e; omega))).trans m10
  have z11 := (World.cell?_of_block (a := ⟨(w.heap.size + 1), 11, none⟩) (old7 (w.heap.size + 1) hzL (fun e => by have := hvVO.out _ e; omega))).trans m11
  simp only [List.getElem?_toArray, List.getElem?_cons_zero, List.getElem?_cons_succ] at k0
  refine hK.out _ _ (.inr ⟨k0, z0, z1, z2, z3, z4, z5, z6, z7, z8, z9, z10, z11⟩) ?_
  clear hK K hHeld k1 c0 m0 m1 m2 m3 m4 m5 m6 m7 m8 m9 m10 m11
  (try simp only [Act.put, List.setIfInBounds_toArray, List.set_cons_zero, List.set_cons_succ])
  (refine wpAnyK_one (j := 9) (by kernel_rfl) rfl (fun K hK => ?_); (try simp only [List.getElem_toArray, List.getElem_cons_zero, List.getElem_cons_succ]))
  go_simp
  refine hK.out _ _ (.inr ⟨k0, z0, z1, z2, z3, z4, z5, z6, z7, z8, z9, z10, z11⟩) ?_
  clear hK K
  (try simp only [List.getElem_toArray, List.getElem_cons_zero, List.getElem_cons_succ, Act.put, List.setIfInBounds_toArray, List.set_cons_zero, List.set_cons_succ])
  (refine wpAnyK_one (j := 10) (by kernel_rfl) rfl (fun K hK => ?_); (try simp only [List.getElem_toArray, List.getElem_cons_zero, List.getElem_cons_succ]))
  go_simp
  refine hK.out _ _ (.inr ⟨k0, z0, z1, z2, z3, z4, z5, z6, z7, z8, z9, z10, z11⟩) ?_
  clear hK K
  (try simp only [List.getElem_toArray, List.getElem_cons_zero, List.getElem_cons_succ, Act.put, List.setIfInBounds_toArray, List.set_cons_zero, List.set_cons_succ])
  (refine wpAnyK_one (j := 11) (by kernel_rfl) rfl (fun K hK => ?_); (try simp only [List.getElem_toArray, List.getElem_cons_zero, List.getElem_cons_succ]))
  go_simp
  refine hK.out _ _ (.inr ⟨k0, z0, z1, z2, z3, z4, z5, z6, z7, z8, z9, z10, z11⟩) ?_
  clear hK K
  (try simp only [List.getElem_toArray, List.getElem_cons_zero, List.getElem_cons_succ, Act.put, List.setIfInBounds_toArray, List.set_cons_zero, List.set_cons_succ])
  (refine wpAnyK_one (j := 12) (by kernel_rfl) rfl (fun K hK => ?_); (try simp only [List.getElem_toArray, List.getElem_cons_zero, List.getElem_cons_succ]))
  go_simp
  refine hK.out _ _ (.inl rfl) ?_
  clear hK K
  refine wpAnyK_done (by kernel_rfl) ?_ _
  cases ok with
  | false =>
    have HNO := Lib.hid (hN3.out rfl)
    go_wp2_with fail
    go_ret
    exact ⟨false, rfl, F6.trans F7, fun _ => HNO.out, fun h => by cases h⟩
  | true =>
    obtain ⟨hr7, he7⟩ := hY3.out rfl
    have HR7 := Lib.hid hr7
    have HE7 := Lib.hid he7
    clear hr7 he7
    rcases hU.out with ⟨u, hu, hpu, he⟩ | ⟨hu, he⟩
    · have HY : Hid (IsI s.data.toList (.ord ⟨v0, v1, v2, 0, 0, 1, v3, v4, v5, v6, [], pl⟩)) := by
        subst hpu
        refine HSP.out.item rfl ?_ ⟨HR7.out, rfl, rfl, rfl, rfl, hu.2⟩
        show [v0, v1, v2, v3, v4, v5, v6].map itoaS ++ [quoteS pl] = _
        rw [← HE7.out]
        have e : quoteS pl = t7 := (bs_ext hu.1.symm).symm
        rw [e]; rfl
      have hei : (er == 0) = true := by simp [he]
      clear hu hpu he
      go_wp2_with fail
      go_ret
      exact ⟨true, rfl, F6.trans F7, fun h => (by cases h), fun _ => ⟨_, _, _, _, _, _, _, HY.out, rfl, hP7⟩⟩
    · have hei : (er == 0) = false := by simp [he]
      have HNO : Hid (∀ x, IsI s.data.toList x → fitM st x = false) := fun x hx => by
        obtain ⟨f, _, h1, h2, e⟩ := HNX.out x hx
        exact absurd ⟨by rw [← (rest_ord e).2]; rfl, h2⟩ (hu f.py.data.toList)
      clear hu he
      go_wp2_with fail
      go_ret
      exact ⟨false, rfl, F6.trans F7, fun _ => HNO.out, fun h => by cases h⟩
end Go.Proofs.YtmcgddlblhinlaaGreatDoor

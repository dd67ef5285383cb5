/- The reader of blocks' lines. -/
import Derived.Test.YtmcgddlblhinlaaGreatDoorM40
namespace Go.Proofs.YtmcgddlblhinlaaGreatDoor
open Go.RowKit
attribute [local go_sem ↓] Go.wp_at_zero Go.wp_at_succ
set_option maxHeartbeats 8000000 in
set_option maxRecDepth 100000 in
theorem read_blk (pb B : Nat) (st : St) (VQ VC VO VF VX : Value) (ov : List (Bun × Value)) (s : ByteArray) (w : World) (hP : PS w B pb st VQ VC VO VF VX ov) (hG : Glob w) (hs0 : 1 ≤ s.size) (hs : s.size ≤ 8192) (hlen : ov.length ≤ 10000) (hbl : ∀ i, i < ov.length → (ov.getD i BZ).1.bl.length ≤ 10000) (hos : st.k = 3 ∨ st.k = 4 → 0 < ov.length)
    (hc : (Lib.cut s.data.toList [32]).1 = (wordK 4).data.toList) : Calls Tryz.prog 62 #[.pointer (some ⟨pb, 0, none⟩), .string s] w (MPost w B pb st s) := by
  obtain ⟨AVQ, cVQ, rfl⟩ := own_slice hP.rq
  obtain ⟨AVC, cVC, rfl⟩ := own_slice hP.rc
  obtain ⟨AVF, cVF, rfl⟩ := own_slice hP.rf
  obtain ⟨AVX, cVX, rfl⟩ := own_slice hP.rx
  obtain ⟨t, hsp⟩ := sp_of (s := s) (k := 4) (by decide) hs0 hc
  have HC := Lib.hid hc
  have HSP := Lib.hid hsp
  have HP := Lib.hid hP
  have hpB := hP.lt
  have hBl := hP.le
  have h8 := hP.g8
  have hl0 := hsp.len
  have hl2 := hsp.len2
  have hask : askK 4 = 3 := rfl
  have HSE : Hid (wsK (min (3 + 1) (s.size + 1) - 1) s = wordK 4 :: t) := hsp.eq
  have HG := Lib.hid hG
  rw [hask] at hl0 hl2
  have HNX : Hid (∀ x, IsI s.data.toList x → ∃ f : Blk, x = .blk f ∧ InR [f.k, f.f] ∧ f.d.size ≤ 4096 ∧ (Item.blk f).rest = t) := fun x hx => by
    have hk := kind_of hx (by decide) (by decide) HC.out
    have hr := HSP.out.rest hk hx
    cases x with
    | blk f => exact ⟨f, rfl, hx.1.1, hx.1.2, hr⟩
    | node | con | flt | ord | otg | bnd => cases hk
  have bl7 := cell_blk hP.blk 7
  simp only [List.getElem?_toArray, List.getElem?_cons_zero, List.getElem?_cons_succ] at bl7
  have hplw : pb < w.heap.size := Nat.lt_of_lt_of_le hP.lt hP.le
  by_cases h4 : t.length = 3
  rotate_left
  · have h4i : ((t.length : Int) != 3) = true := by simp; omega
    have HNO : Hid (∀ x, IsI s.data.toList x → fitM st x = false) := fun x hx => by
      obtain ⟨f, _, _, _, e⟩ := HNX.out x hx
      exact absurd (by rw [← e]; simp [Item.rest]) h4
    clear h4 HNX hP hsp hask hc hG hos hbl
    go_enter Tryz.func62, Tryz.ntmps62
    go_wp2_with fail
    refine (split_any s 3 (by omega) (by omega) hs0 (by omega) _ HG.out).mono ?_
    rw [HSE.out]
    rintro e w1 ⟨rfl, rfl⟩
    go_wp2_with fail
    go_ret
    exact ⟨false, rfl, Frm.of_below ((Below.refl _ w).alloc (Nat.le_refl _) _) hBl, fun _ => HNO.out, fun h => by cases h⟩
  have h4i : ((t.length : Int) != 3) = false := by simp; omega
  by_cases hk34 : st.k = 3 ∨ st.k = 4
  rotate_left
  · have HNO : Hid (∀ x, IsI s.data.toList x → fitM st x = false) := fun x hx => by
      obtain ⟨f, rfl, _, _, e⟩ := HNX.out x hx
      exact decide_eq_false hk34
    have e3 : ((wordK st.k).toList == [111, 114, 100, 101, 114]) = false := by
      rw [beq_eq_false_iff_ne, ByteArray.toList_eq]
      intro e
      by_cases hr : 1 ≤ st.k ∧ st.k ≤ 7
      · exact hk34 (.inl (wordK_inj st.k 3 hr.1 hr.2 (by decide) (by decide) e))
      · have e9 : (wordK st.k).data.toList = [] := by
          unfold wordK
          split <;> first | rfl | omega
        rw [e9] at e; cases e
    have e4 : ((wordK st.k).toList == [98, 108, 111, 99, 107]) = false := by
      rw [beq_eq_false_iff_ne, ByteArray.toList_eq]
      intro e
      by_cases hr : 1 ≤ st.k ∧ st.k ≤ 7
      · exact hk34 (.inr (wordK_inj st.k 4 hr.1 hr.2 (by decide) (by decide) e))
      · have e9 : (wordK st.k).data.toList = [] := by
          unfold wordK
          split <;> first | rfl | omega
        rw [e9] at e; cases e
    clear h4 HNX hP hsp hask hc hG hos hk34 hbl
    generalize wordK st.k = lw at *
    go_enter Tryz.func62, Tryz.ntmps62
    go_wp2_with fail
    refine (split_any s 3 (by omega) (by omega) hs0 (by omega) _ HG.out).mono ?_
    rw [HSE.out]
    rintro e w1 ⟨rfl, hw1⟩
    have b1 : Below w.heap.size w w1 := by rw [hw1]; exact (Below.refl _ w).alloc (Nat.le_refl _) _
    have bl8 := (b1.cell (p := ⟨pb, 7, none⟩) hplw).trans bl7
    clear hw1
    go_wp2_with fail
    go_ret
    exact ⟨false, rfl, Frm.of_below b1 hBl, fun _ => HNO.out, fun h => by cases h⟩
  obtain ⟨m, hmm⟩ : ∃ m, ov.length = m + 1 := ⟨ov.length - 1, by have := hos hk34; omega⟩
  have hHM := Lib.hid hmm
  have hml : m < ov.length := by omega
  have hrb := hP.rb m hml
  have hbm := hbl m hml
  obtain ⟨⟨d0, Vl⟩, hlv⟩ : ∃ p, ov.getD m BZ = p := ⟨_, rfl⟩
  rw [hlv] at hrb hbm
  dsimp only at hrb hbm
  obtain ⟨Ab, cb, rfl⟩ := own_slice hrb
  obtain ⟨nb, hnb⟩ : ∃ nb, d0.bl.length = nb := ⟨_, rfl⟩
  rw [hnb] at hrb hbm hlv
  have HLV : Hid (ov.getD m BZ = (d0, .slice Ab nb cb) ∧ d0.bl.length = nb) := ⟨hlv, hnb⟩
  obtain ⟨go, cO, hVO, hgoB, hgoL⟩ := hP.ro.form (by omega)
  subst hVO
  have hcell := (hP.ro.cellAt (m * 12 + 10) (by omega)).trans (bunCells_get ov m hml)
  rw [hlv] at hcell
  have bl2 := cell_blk hP.blk 2
  simp only [List.getElem?_toArray, List.getElem?_cons_zero, List.getElem?_cons_succ] at bl2
  have hvb := Lib.hid (fun g (e : (.slice Ab nb cb : Value).ownBlock = some g) => (hrb.lt g e).2)
  have HC2 := Lib.hid hcell
  have HB2 := Lib.hid bl2
  have HB7 := Lib.hid bl7
  clear hP hsp hask hc hG hos hbl hmm hrb hlv hnb hcell bl2 bl7
  clear h4i
  have h4i : ((t.length : Int) != 3) = false := by simp; omega
  have HK34 := Lib.hid hk34
  go_enter Tryz.func62, Tryz.ntmps62
  go_wp2_with fail
  refine (split_any s 3 (by omega) (by omega) hs0 (by omega) _ HG.out).mono ?_
  rw [HSE.out]
  generalize hM : min (3 + 1) (s.size + 1) = M at *
  have hM9 : M ≤ 4 := by omega
  have hM5 : 4 ≤ M := by omega
  clear hM hl2
  rintro e w1 ⟨rfl, hw1⟩
  have b1 : Below w.heap.size w w1 := by rw [hw1]; exact (Below.refl _ w).alloc (Nat.le_refl _) _
  have q1 : w1.heap[w.heap.size]? = some (.cells (Lib.cellsOf (wordK 4 :: t) M) 9 (0, 0)) := by rw [hw1]; exact heap_alloc_last _ _
  have z1 : w1.heap.size = w.heap.size + 1 := by rw [hw1]; simp
  have bl8 := (b1.cell (p := ⟨pb, 7, none⟩) hplw).trans HB7.out
  clear hw1
  obtain ⟨t0, t1, t2, rfl⟩ := list3B h4
  have k3 : (2 : Int) ≤ ((M - 1 : Nat) : Int) := by omega
  have k4 : (3 : Int) ≤ ((M - 1 : Nat) : Int) := by omega
  clear h4 hl0
  have hw1k : w1.cell? ⟨pb, 7, none⟩ = some (.string ordS) ∨ w1.cell? ⟨pb, 7, none⟩ = some (.string blkS) := by
    rcases hk34 with h | h
    · left; rw [bl8, h]; rfl
    · right; rw [bl8, h]; rfl
  clear hk34 bl8
  unfold ordS blkS at hw1k
  rcases hw1k with bl8 | bl8
  all_goals
    go_wp2_with fail
    have b2 : Below w.heap.size w ((w1.alloc (.cells #[.int .i64 0, .int .i64 0, .string ⟨#[]⟩] 102)).alloc (.cells #[.pointer (some ⟨w.heap.size + 1, 0, none⟩), .pointer (some ⟨w.heap.size + 1, 1, none⟩)] 122)) := (b1.alloc b1.size _).alloc (by simp; omega) _
    have q2 : ((w1.alloc (.cells #[.int .i64 0, .int .i64 0, .string ⟨#[]⟩] 102)).alloc (.cells #[.pointer (some ⟨w.heap.size + 1, 0, none⟩), .pointer (some ⟨w.heap.size + 1, 1, none⟩)] 122)).heap[w.heap.size]? = some (.cells (Lib.cellsOf (wordK 4 :: [t0, t1, t2]) M) 9 (0, 0)) := (Below.heap_alloc _ _ _ (by simp; omega)).trans ((Below.heap_alloc _ _ _ (by omega)).trans q1)
    have q3 : ((w1.alloc (.cells #[.int .i64 0, .int .i64 0, .string ⟨#[]⟩] 102)).alloc (.cells #[.pointer (some ⟨w.heap.size + 1, 0, none⟩), .pointer (some ⟨w.heap.size + 1, 1, none⟩)] 122)).heap[w.heap.size + 1]? = some (.cells #[.int .i64 0, .int .i64 0, .string ⟨#[]⟩] 102 (0, 0)) := by
      rw [Below.heap_alloc _ _ _ (by simp; omega), ← z1]; exact heap_alloc_last _ _
    have q4 : ((w1.alloc (.cells #[.int .i64 0, .int .i64 0, .string ⟨#[]⟩] 102)).alloc (.cells #[.pointer (some ⟨w.heap.size + 1, 0, none⟩), .pointer (some ⟨w.heap.size + 1, 1, none⟩)] 122)).heap[w.heap.size + 1 + 1]? = some (.cells #[.pointer (some ⟨w.heap.size + 1, 0, none⟩), .pointer (some ⟨w.heap.size + 1, 1, none⟩)] 122 (0, 0)) := by
      have := heap_alloc_last (w1.alloc (.cells #[.int .i64 0, .int .i64 0, .string ⟨#[]⟩] 102)) (.cells #[.pointer (some ⟨w.heap.size + 1, 0, none⟩), .pointer (some ⟨w.heap.size + 1, 1, none⟩)] 122)
      rw [show (w1.alloc (.cells #[.int .i64 0, .int .i64 0, .string ⟨#[]⟩] 102)).heap.size = w.heap.size + 1 + 1 by simp; omega] at this
      exact this
    have z2 : ((w1.alloc (.cells #[.int .i64 0, .int .i64 0, .string ⟨#[]⟩] 102)).alloc (.cells #[.pointer (some ⟨w.heap.size + 1, 0, none⟩), .pointer (some ⟨w.heap.size + 1, 1, none⟩)] 122)).heap.size = w.heap.size + 1 + 1 + 1 := by simp; omega
    have hG2 : Glob ((w1.alloc (.cells #[.int .i64 0, .int .i64 0, .string ⟨#[]⟩] 102)).alloc (.cells #[.pointer (some ⟨w.heap.size + 1, 0, none⟩), .pointer (some ⟨w.heap.size + 1, 1, none⟩)] 122)) := HG.out.below b2
    generalize ((w1.alloc (.cells #[.int .i64 0, .int .i64 0, .string ⟨#[]⟩] 102)).alloc (.cells #[.pointer (some ⟨w.heap.size + 1, 0, none⟩), .pointer (some ⟨w.heap.size + 1, 1, none⟩)] 122)) = w2 at *
    clear q1 b1 z1 bl8
    have hw2 := wds_of q2 HSP.out hs
    have hw3 : ∀ j, j < [t0, t1].length → ([t0, t1].getD j ⟨#[]⟩).size ≤ 70000 ∧ w2.cell? ⟨w.heap.size, 1 + j, none⟩ = some (.string ([t0, t1].getD j ⟨#[]⟩)) := fun j hj => by
      have h := hw2 j (by simp at hj ⊢; omega)
      match j, hj with
      | 0, _ => exact h
      | 1, _ => exact h
    have HX3 := Lib.hid (hw2 2 (by simp))
    clear hw2
    refine (numbers_any w.heap.size 1 _ (w.heap.size + 1 + 1) [t0, t1] (psOf (w.heap.size + 1) [0, 1]) (List.replicate 2 0) w2 hG2 hw3 (by omega) (by simp) (by simp [psOf]) (psok_of q3 (by omega) (by decide)) (nst_of (os := [0, 1]) q3 (fun o ho => by simp only [List.mem_cons, List.not_mem_nil, or_false] at ho; rcases ho with rfl | rfl <;> rfl)) (by omega) (ptr_of (ps := psOf (w.heap.size + 1) [0, 1]) q4) (fun j hj => by rw [psOf_get _ _ j hj]; show _ ≠ w.heap.size + 1; omega) (fun j hj => by rw [psOf_get _ _ j hj]; show _ ≠ w.heap.size + 1; omega)).mono ?_
    rintro e w3 ⟨ok, vs, rfl, hn, hy, hno⟩
    obtain ⟨v0, v1, rfl⟩ := list2 hn.len
    have hz3 := hn.sz
    have hge : ∀ j, j < (psOf (w.heap.size + 1) [0, 1]).length → w.heap.size ≤ ((psOf (w.heap.size + 1) [0, 1]).getD j (0, 0)).1 := fun j hj => by rw [psOf_get _ _ j hj]; show w.heap.size ≤ w.heap.size + 1; omega
    have n0 : w3.cell? ⟨w.heap.size + 1, 0, none⟩ = some (.int .i64 v0) := hn.at_ 0 (by simp [psOf])
    have n1 : w3.cell? ⟨w.heap.size + 1, 1, none⟩ = some (.int .i64 v1) := hn.at_ 1 (by simp [psOf])
    have n2 : w3.cell? ⟨w.heap.size + 1, 2, none⟩ = some (.string ⟨#[]⟩) := (hn.oth _ 2 (by omega) (fun j hj e => by
      rw [psOf_get _ _ j hj] at e
      have e2 := (Prod.mk.inj e).2
      match j, hj with
      | 0, _ => cases e2
      | 1, _ => cases e2)).trans (by rw [cell_blk q3]; rfl)
    have nf : w3.frozen? ⟨w.heap.size + 1, 2, none⟩ = false := (hn.fz _ 2 (by omega)).trans (frozen_blk q3 2)
    have nx : w3.cell? ⟨w.heap.size, 3, none⟩ = some (.string t2) := (hn.oth _ 3 (by omega) (fun j hj e => by
      rw [psOf_get _ _ j hj] at e
      have e2 := (Prod.mk.inj e).1
      omega)).trans HX3.out.2
    have nxs : t2.size ≤ 70000 := HX3.out.1
    have HK3 : Hid (∀ k, k < w.heap.size → w3.heap[k]? = w.heap[k]?) := fun k hk => (hn.blk k (by omega) (fun j hj e => by have := hge j hj; omega)).trans (b2.block k hk)
    have HF3 := Lib.hid (Frm.nst (pb := pb) hBl b2 hn hge)
    have hN3 : Hid (ok = false → ∀ x, IsI s.data.toList x → fitM st x = false) := fun h x hx => by
      obtain ⟨f, _, h1, _, e⟩ := HNX.out x hx
      exact absurd rfl (hno h _ (by rw [← (rest_blk e).1]; exact of_nums h1))
    have hY3 : Hid (ok = true → InR [v0, v1] ∧ [t0, t1] = [v0, v1].map itoaS) := fun h => nums_of (hy h)
    obtain ⟨i0, hi, hz0, hz1, hz2⟩ := info_parts info102
    have HI : Hid ((Tryz.prog.info? 102 = some i0) ∧ i0.zero = some _ ∧ i0.size = _ ∧ i0.bytes = _) := ⟨hi, hz0, hz1, hz2⟩
    clear hi hz0 hz1 hz2
    have hzL : w.heap.size + 1 < w3.heap.size := by omega
    have hz1 : w.heap.size < w3.heap.size := by omega
    clear hy hno hge hn b2 q2 q3 q4 hG2 hw3 HX3 z2 hz3
    go_wp2_with fail
    refine (unq_any t2 nxs w3).mono ?_
    rintro e w4 ⟨rfl, b4⟩
    have hU : Hid ((∃ u : ByteArray, IsU t2.data.toList u.data.toList ∧ (⟨(unqR t2.data.toList).1.toArray⟩ : ByteArray) = u ∧ (unqR t2.data.toList).2 = 0) ∨ ((∀ u, ¬ IsU t2.data.toList u) ∧ (unqR t2.data.toList).2 = 3)) := by
      show _ ∨ _
      rcases unqR_cases t2.data.toList with ⟨u, hu, e⟩ | ⟨hu, e⟩
      · exact .inl ⟨⟨u.toArray⟩, hu, by rw [e], by rw [e]⟩
      · exact .inr ⟨hu, by rw [e]⟩
    generalize (⟨(unqR t2.data.toList).1.toArray⟩ : ByteArray) = pl at *
    generalize (unqR t2.data.toList).2 = er at *
    have r0 := (b4.cell (p := ⟨w.heap.size + 1, 0, none⟩) hzL).trans n0
    have r1 := (b4.cell (p := ⟨w.heap.size + 1, 1, none⟩) hzL).trans n1
    have r2 := (b4.cell (p := ⟨w.heap.size + 1, 2, none⟩) hzL).trans n2
    have rf := (b4.frozen (p := ⟨w.heap.size + 1, 2, none⟩) hzL).trans nf
    have HK4 : Hid (∀ k, k < w.heap.size → w4.heap[k]? = w.heap[k]?) := fun k hk => (b4.block k (by omega)).trans (HK3.out k hk)
    have HF4 := Lib.hid (HF3.out.trans (Frm.of_below (pb := pb) b4 (by omega)))
    have hz4 := b4.size
    clear n0 n1 n2 nf nx b4
    go_wp2_with fail
    have s0 := (World.cell?_setCell_other w4 ⟨w.heap.size + 1, 2, none⟩ ⟨w.heap.size + 1, 0, none⟩ (.string pl) (by simp)).trans r0
    have s1 := (World.cell?_setCell_other w4 ⟨w.heap.size + 1, 2, none⟩ ⟨w.heap.size + 1, 1, none⟩ (.string pl) (by simp)).trans r1
    have s2 := World.cell?_setCell_same w4 ⟨w.heap.size + 1, 2, none⟩ (.string pl) r2
    have hk5 : ∀ k, k < w.heap.size → (w4.setCell ⟨w.heap.size + 1, 2, none⟩ (.string pl)).heap[k]? = w.heap[k]? := fun k hk => (Below.heap_setCell w4 ⟨w.heap.size + 1, 2, none⟩ _ k (by show k ≠ w.heap.size + 1; omega)).trans (HK4.out k hk)
    have hz5 : (w4.setCell ⟨w.heap.size + 1, 2, none⟩ (.string pl)).heap.size = w4.heap.size := by simp
    have P5 : PS (w4.setCell ⟨w.heap.size + 1, 2, none⟩ (.string pl)) B pb st (.slice AVQ st.m.q.length cVQ) (.slice AVC st.m.cs.length cVC) (.slice (some ⟨go, 0, none⟩) ov.length cO) (.slice AVF st.m.fs.length cVF) (.slice AVX st.m.xs.length cVX) ov := HP.out.keep (by rw [hz5]; omega) hk5
    have F5 : Frm B pb w (w4.setCell ⟨w.heap.size + 1, 2, none⟩ (.string pl)) := ⟨HF4.out.os, HF4.out.tape, HF4.out.output, by rw [hz5]; omega, fun k h1 hn => (Below.heap_setCell w4 ⟨w.heap.size + 1, 2, none⟩ _ k (by show k ≠ w.heap.size + 1; omega)).trans (HF4.out.block k h1 hn), fun k o ho hc2 => (Below.heap_setCell w4 ⟨w.heap.size + 1, 2, none⟩ _ k (by have := blk_lt ho; show k ≠ w.heap.size + 1; omega)).trans (HF4.out.other k o ho hc2)⟩
    generalize (w4.setCell ⟨w.heap.size + 1, 2, none⟩ (.string pl)) = w5 at *
    have c2 : w5.cell? ⟨pb, 2, none⟩ = some (.slice (some ⟨go, 0, none⟩) (m + 1) cO) := by
      rw [← hHM.out]
      exact (World.cell?_of_block (a := ⟨pb, 2, none⟩) (hk5 pb hplw)).trans HB2.out
    have cg := (World.cell?_of_block (a := ⟨go, m * 12 + 10, none⟩) (hk5 go hgoL)).trans HC2.out
    have hm9 : m + 1 ≤ 10000 := by rw [← hHM.out]; exact hlen
    have hwr : IntKind.i64.wrap ((m : Int) + 1 - 1) = m := by rw [IntWalk.i64_in _ (by omega)]; omega
    have hm0 : (0 : Int) ≤ m := by omega
    have hm1 : (m : Int) < (m : Int) + 1 := by omega
    have hzL5 : w.heap.size + 1 < w5.heap.size := by omega
    clear r0 r1 r2 rf hk5 hz5 hzL hz1 hz4 HK3 HK4 HF3 HF4
    go_quiet (fail)
    have b7 : Below w5.heap.size w5 (w5.drewN nq) := below_drewN (Below.refl _ _) nq
    have m0 : (w5.drewN nq).drew.cell? ⟨(w.heap.size + 1), 0, none⟩ = some (.int .i64 v0) := s0
    have m1 : (w5.drewN nq).drew.cell? ⟨(w.heap.size + 1), 1, none⟩ = some (.int .i64 v1) := s1
    have m2 : (w5.drewN nq).drew.cell? ⟨(w.heap.size + 1), 2, none⟩ = some (.string pl) := s2
    have c0 : (w5.drewN nq).drew.cell? ⟨go, m * 12 + 10, none⟩ = some (.slice Ab nb cb) := cg
    have hP4 := (P5.below b7).below (Below.drew (Below.refl _ _))
    have F6 : Frm B pb w (w5.drewN nq).drew := (F5.trans (Frm.of_below b7 P5.le)).trans (Frm.of_below (Below.drew (Below.refl (w5.drewN nq).heap.size (w5.drewN nq))) hP4.le)
    have hzL : w.heap.size + 1 < (w5.drewN nq).heap.size := hzL5
    generalize w5.drewN nq = w7 at *
    clear b7 s0 s1 s2 cg c2 P5 F5 hzL5 hwr
    have hRB := hP4.rb m hml
    rw [HLV.out.1] at hRB
    dsimp only at hRB
    rw [HLV.out.2] at hRB
    have hmm := hHM.out
    have HRB := Lib.hid hRB
    have HMM := Lib.hid hmm
    clear hRB hmm
    go_wp2_with fail
    have hRB := HRB.out
    have hmm := HMM.out
    refine wp_region_last (fun w' => w'.cell? ⟨go, m * 12 + 10, none⟩ = some (.slice Ab nb cb) ∧ w'.cell? ⟨(w.heap.size + 1), 0, none⟩ = some (.int .i64 v0) ∧ w'.cell? ⟨(w.heap.size + 1), 1, none⟩ = some (.int .i64 v1) ∧ w'.cell? ⟨(w.heap.size + 1), 2, none⟩ = some (.string pl)) 10 (by kernel_rfl) ⟨c0, m0, m1, m2⟩ (fun hHeld => ?_)
    (refine wpAnyK_take (i := 0) (v := ?_) rfl rfl (by kernel_rfl) (by kernel_rfl) (by kernel_rfl) (by kernel_rfl) (fun _ _ _ h => h) (Or.inl ⟨by kernel_rfl, fun w0 hSw => ?_⟩) hHeld ?_; rotate_left; (focus ((try dsimp only at hSw); simp only [List.getElem_toArray, List.getElem_cons_zero]; (first | (go_simp; done) | (go_simp; with_reducible rfl)))); (try simp only [List.getElem_toArray, List.getElem_cons_zero, Act.put, List.setIfInBounds_toArray, List.set_cons_zero, List.set_cons_succ]))
    (refine wpAnyK_take (i := 1) (v := ?_) rfl rfl (by kernel_rfl) (by kernel_rfl) (by kernel_rfl) (by kernel_rfl) (fun _ _ _ h => h) (Or.inl ⟨by kernel_rfl, fun w0 hSw => ?_⟩) hHeld ?_; rotate_left; (focus ((try dsimp only at hSw); simp only [List.getElem_toArray, List.getElem_cons_zero, List.getElem_cons_succ]; (first | (go_simp; done) | (go_simp; with_reducible rfl)))); (try simp only [List.getElem_toArray, List.getElem_cons_zero, List.getElem_cons_succ, Act.put, List.setIfInBounds_toArray, List.set_cons_zero, List.set_cons_succ]))
    (refine wpAnyK_take (i := 2) (v := ?_) rfl rfl (by kernel_rfl) (by kernel_rfl) (by kernel_rfl) (by kernel_rfl) (fun _ _ _ h => h) (Or.inl ⟨by kernel_rfl, fun w0 hSw => ?_⟩) hHeld ?_; rotate_left; (focus ((try dsimp only at hSw); simp only [List.getElem_toArray, List.getElem_cons_zero, List.getElem_cons_succ]; (first | (go_simp; done) | (go_simp; with_reducible rfl)))); (try simp only [List.getElem_toArray, List.getElem_cons_zero, List.getElem_cons_succ, Act.put, List.setIfInBounds_toArray, List.set_cons_zero, List.set_cons_succ]))
    (refine wpAnyK_take (i := 3) (v := ?_) rfl rfl (by kernel_rfl) (by kernel_rfl) (by kernel_rfl) (by kernel_rfl) (fun _ _ _ h => h) (Or.inl ⟨by kernel_rfl, fun w0 hSw => ?_⟩) hHeld ?_; rotate_left; (focus ((try dsimp only at hSw); simp only [List.getElem_toArray, List.getElem_cons_zero, List.getElem_cons_succ]; (first | (go_simp; done) | (go_simp; with_reducible rfl)))); (try simp only [List.getElem_toArray, List.getElem_cons_zero, List.getElem_cons_succ, Act.put, List.setIfInBounds_toArray, List.set_cons_zero, List.set_cons_succ]))
    (refine wpAnyK_take (i := 4) (v := ?_) rfl rfl (by kernel_rfl) (by kernel_rfl) (by kernel_rfl) (by kernel_rfl) (fun _ _ _ h => h) (Or.inl ⟨by kernel_rfl, fun w0 hSw => ?_⟩) hHeld ?_; rotate_left; (focus ((try dsimp only at hSw); simp only [List.getElem_toArray, List.getElem_cons_zero, List.getElem_cons_succ]; (first | (go_simp; done) | (go_simp; with_reducible rfl)))); (try simp only [List.getElem_toArray, List.getElem_cons_zero, List.getElem_cons_succ, Act.put, List.setIfInBounds_toArray, List.set_cons_zero, List.set_cons_succ]))
    (refine wpAnyK_take (i := 5) (v := ?_) rfl rfl (by kernel_rfl) (by kernel_rfl) (by kernel_rfl) (by kernel_rfl) (fun _ _ _ h => h) (Or.inl ⟨by kernel_rfl, fun w0 hSw => ?_⟩) hHeld ?_; rotate_left; (focus ((try dsimp only at hSw); simp only [List.getElem_toArray, List.getElem_cons_zero, List.getElem_cons_succ]; (first | (go_simp; done) | (go_simp; with_reducible rfl)))); (try simp only [List.getElem_toArray, List.getElem_cons_zero, List.getElem_cons_succ, Act.put, List.setIfInBounds_toArray, List.set_cons_zero, List.set_cons_succ]))
    (refine wpAnyK_one (j := 6) (by kernel_rfl) rfl (fun K hK => ?_); (try simp only [List.getElem_toArray, List.getElem_cons_zero, List.getElem_cons_succ]))
    go_simp
    have k1 := (show ((w7.drew.alloc (.cells #[.int .i64 v0, .int .i64 v1, .string pl] 102)).cell? ⟨go, m * 12 + 10, none⟩ = some (.slice Ab nb cb) ∧ (w7.drew.alloc (.cells #[.int .i64 v0, .int .i64 v1, .string pl] 102)).cell? ⟨(w.heap.size + 1), 0, none⟩ = some (.int .i64 v0) ∧ (w7.drew.alloc (.cells #[.int .i64 v0, .int .i64 v1, .string pl] 102)).cell? ⟨(w.heap.size + 1), 1, none⟩ = some (.int .i64 v1) ∧ (w7.drew.alloc (.cells #[.int .i64 v0, .int .i64 v1, .string pl] 102)).cell? ⟨(w.heap.size + 1), 2, none⟩ = some (.string pl)) from ⟨(World.cell?_alloc_some _ _ _ (by rw [c0]; rfl)).trans c0, (World.cell?_alloc_some _ _ _ (by rw [m0]; rfl)).trans m0, (World.cell?_alloc_some _ _ _ (by rw [m1]; rfl)).trans m1, (World.cell?_alloc_some _ _ _ (by rw [m2]; rfl)).trans m2⟩)
    refine hK.out _ _ (.inr k1) ?_
    clear hK K
    (try simp only [List.getElem_toArray, List.getElem_cons_zero, List.getElem_cons_succ, Act.put, List.setIfInBounds_toArray, List.set_cons_zero, List.set_cons_succ])
    (refine wpAnyK_one (j := 7) (by kernel_rfl) rfl (fun K hK => ?_); (try simp only [List.getElem_toArray, List.getElem_cons_zero, List.getElem_cons_succ]))
    rw [if_pos (by simp [Region.wanted])]
    refine wp_append_lies (w7.drew.alloc (.cells #[.int .i64 v0, .int .i64 v1, .string pl] 102)) (.tmp 62) (.tmp 64) 48 rfl B 102 i0 (.agg #[.int .i64 0, .int .i64 0, .string ⟨#[]⟩]) 3 32 Tryz.underlying48 HI.out.1 HI.out.2.1 HI.out.2.2.1 HI.out.2.2.2 rfl (by decide) (.slice Ab nb cb) nb (blkCells d0.bl) (by kernel_rfl) (hRB.alloc _) ⟨w7.heap.size, 0, none⟩ 1 1 [.int .i64 v0, .int .i64 v1, .string pl] (by kernel_rfl) rfl (World.news_of_block (heap_alloc_last _ _)) (by simp [Value.oneCell']) (by decide) (by unfold maxLen; omega) (by omega) (by have := hP4.le; simp at this ⊢; omega) (w7.heap.size + 1) (by simp) ?_
    intro g cap w6 hown6 hgrow6 hat6 hlt6
    obtain ⟨k0, kf, hP7, F7, old7⟩ := hP4.appB (go := go) (cO := cO) (m := m) (x := ⟨v0, v1, pl⟩) (g := g) (cap := cap) rfl hmm HLV.out hgrow6 hown6 hat6
    have z0 := (World.cell?_of_block (a := ⟨(w.heap.size + 1), 0, none⟩) (old7 (w.heap.size + 1) hzL (fun e => by have := hvb.out _ e; omega))).trans m0
    have z1 := (World.cell?_of_block (a := ⟨(w.heap.size + 1), 1, none⟩) (old7 (w.heap.size + 1) hzL (fun e => by have := hvb.out _ e; omega))).trans m1
    have z2 := (World.cell?_of_block (a := ⟨(w.heap.size + 1), 2, none⟩) (old7 (w.heap.size + 1) hzL (fun e => by have := hvb.out _ e; omega))).trans m2
    refine hK.out _ _ (.inr ⟨k0, z0, z1, z2⟩) ?_
    clear hK K hHeld k1 c0 m0 m1 m2
    (try simp only [Act.put, List.setIfInBounds_toArray, List.set_cons_zero, List.set_cons_succ])
    (refine wpAnyK_one (j := 8) (by kernel_rfl) rfl (fun K hK => ?_); (try simp only [List.getElem_toArray, List.getElem_cons_zero, List.getElem_cons_succ]))
    go_simp
    refine hK.out _ _ (.inr ⟨k0, z0, z1, z2⟩) ?_
    clear hK K
    (try simp only [List.getElem_toArray, List.getElem_cons_zero, List.getElem_cons_succ, Act.put, List.setIfInBounds_toArray, List.set_cons_zero, List.set_cons_succ])
    (refine wpAnyK_one (j := 9) (by kernel_rfl) rfl (fun K hK => ?_); (try simp only [List.getElem_toArray, List.getElem_cons_zero, List.getElem_cons_succ]))
    go_simp
    refine hK.out _ _ (.inr ⟨k0, z0, z1, z2⟩) ?_
    clear hK K
    (try simp only [List.getElem_toArray, List.getElem_cons_zero, List.getElem_cons_succ, Act.put, List.setIfInBounds_toArray, List.set_cons_zero, List.set_cons_succ])
    (refine wpAnyK_one (j := 10) (by kernel_rfl) rfl (fun K hK => ?_); (try simp only [List.getElem_toArray, List.getElem_cons_zero, List.getElem_cons_succ]))
    go_simp
    refine hK.out _ _ (.inl rfl) ?_
    clear hK K
    refine wpAnyK_done (by kernel_rfl) ?_ _
    clear hRB hmm
    cases ok with
    | false =>
      have HNO := Lib.hid (hN3.out rfl)
      go_wp2_with fail
      go_ret
      exact ⟨false, rfl, F6.trans F7, fun _ => HNO.out, fun h => by cases h⟩
    | true =>
      obtain ⟨hr7, he7⟩ := hY3.out rfl
      have HR7 := Lib.hid hr7
      have HE7 := Lib.hid he7
      clear hr7 he7
      rcases hU.out with ⟨u, hu, hpu, he⟩ | ⟨hu, he⟩
      · have HY : Hid (IsI s.data.toList (.blk ⟨v0, v1, pl⟩) ∧ fitM st (.blk ⟨v0, v1, pl⟩) = true) := by
          subst hpu
          refine ⟨HSP.out.item rfl ?_ ⟨HR7.out, hu.2⟩, decide_eq_true HK34.out⟩
          show [v0, v1].map itoaS ++ [quoteS pl] = _
          rw [← HE7.out]
          have e : quoteS pl = t2 := (bs_ext hu.1.symm).symm
          rw [e]; rfl
        have hei : (er == 0) = true := by simp [he]
        clear hu hpu he
        go_wp2_with fail
        go_ret
        exact ⟨true, rfl, F6.trans F7, fun h => (by cases h), fun _ => ⟨_, _, _, _, _, _, _, HY.out.1, HY.out.2, hP7⟩⟩
      · have hei : (er == 0) = false := by simp [he]
        have HNO : Hid (∀ x, IsI s.data.toList x → fitM st x = false) := fun x hx => by
          obtain ⟨f, _, h1, h2, e⟩ := HNX.out x hx
          exact absurd ⟨by rw [← (rest_blk e).2]; rfl, h2⟩ (hu f.d.data.toList)
        clear hu he
        go_wp2_with fail
        go_ret
        exact ⟨false, rfl, F6.trans F7, fun _ => HNO.out, fun h => by cases h⟩
end Go.Proofs.YtmcgddlblhinlaaGreatDoor

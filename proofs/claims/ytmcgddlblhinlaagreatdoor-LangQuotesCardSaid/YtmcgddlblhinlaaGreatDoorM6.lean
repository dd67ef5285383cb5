/- The reader of outage lines. -/
import Derived.Test.YtmcgddlblhinlaaGreatDoorH12
import Derived.Deep.DrawnRows
import Derived.Deep.WholeRow
namespace Go.Proofs.YtmcgddlblhinlaaGreatDoor
open Go.RowKit
attribute [local go_sem ↓] Go.wp_at_zero Go.wp_at_succ
theorem info43 : (Tryz.prog.info? 43).map (fun i => (i.zero, i.size, i.bytes)) = some (some (.agg #[.int .i64 0, .int .i64 0, .int .i64 0]), 3, 24) := by kernel_rfl
set_option maxHeartbeats 8000000 in
set_option maxRecDepth 100000 in
theorem read_otg (pb B : Nat) (st : St) (VQ VC VO VF VX : Value) (ov : List (Bun × Value)) (s : ByteArray) (w : World) (hP : PS w B pb st VQ VC VO VF VX ov) (hG : Glob w) (hs0 : 1 ≤ s.size) (hs : s.size ≤ 8192) (hlen : st.m.xs.length ≤ 10000)
    (hc : (Lib.cut s.data.toList [32]).1 = (wordK 6).data.toList) : Calls Tryz.prog 64 #[.pointer (some ⟨pb, 0, none⟩), .string s] w (MPost w B pb st s) := by
  obtain ⟨AVQ, cVQ, rfl⟩ := own_slice hP.rq
  obtain ⟨AVC, cVC, rfl⟩ := own_slice hP.rc
  obtain ⟨AVO, cVO, rfl⟩ := own_slice hP.ro
  obtain ⟨AVF, cVF, rfl⟩ := own_slice hP.rf
  obtain ⟨AVX, cVX, rfl⟩ := own_slice hP.rx
  obtain ⟨t, hsp⟩ := sp_of (s := s) (k := 6) (by decide) hs0 hc
  have HC := Lib.hid hc
  have HSP := Lib.hid hsp
  have HP := Lib.hid hP
  have hpB := hP.lt
  have hBl := hP.le
  have h8 := hP.g8
  have hl0 := hsp.len
  have hvVX := Lib.hid (fun g (e : ((.slice AVX st.m.xs.length cVX) : Value).ownBlock = some g) => (hP.rx.lt g e).2)
  have hask : askK 6 = 4 := rfl
  have HSE : Hid (wsK (min (4 + 1) (s.size + 1) - 1) s = wordK 6 :: t) := hsp.eq
  have hG1 := Lib.hid (hG.below ((Below.refl _ w).alloc (Nat.le_refl _) (.cells #[.int .i64 0, .int .i64 0, .int .i64 0] 43)))
  rw [hask] at hl0
  clear hP hsp hask hc
  go_enter Tryz.func64, Tryz.ntmps64
  go_wp2_with fail
  refine (split_any s 4 (by omega) (by omega) hs0 (by omega) _ hG1.out).mono ?_
  rw [HSE.out]
  rintro e w1 ⟨rfl, hw1⟩
  have b01 : Below (w.alloc (.cells #[.int .i64 0, .int .i64 0, .int .i64 0] 43)).heap.size (w.alloc (.cells #[.int .i64 0, .int .i64 0, .int .i64 0] 43)) w1 := by rw [hw1]; exact (Below.refl _ _).alloc (Nat.le_refl _) _
  have b1 : Below w.heap.size w w1 := by rw [hw1]; exact ((Below.refl _ w).alloc (Nat.le_refl _) _).alloc (by simp) _
  have q1 : w1.heap[w.heap.size]? = some (.cells #[.int .i64 0, .int .i64 0, .int .i64 0] 43 (0, 0)) := by rw [hw1, Below.heap_alloc _ _ _ (by simp)]; exact heap_alloc_last _ _
  have q2 : w1.heap[w.heap.size + 1]? = some (.cells (Lib.cellsOf (wordK 6 :: t) (min (4 + 1) (s.size + 1))) 9 (0, 0)) := by
    rw [hw1]
    have := heap_alloc_last (w.alloc (.cells #[.int .i64 0, .int .i64 0, .int .i64 0] 43)) (.cells (Lib.cellsOf (wordK 6 :: t) (min (4 + 1) (s.size + 1))) 9)
    simpa using this
  have z1 : w1.heap.size = w.heap.size + 1 + 1 := by rw [hw1]; simp
  clear hw1
  simp only [World.size_alloc]
  go_wp2_with fail
  have b2 := b1.alloc b1.size (.cells #[.pointer (some ⟨w.heap.size, 0, none⟩), .pointer (some ⟨w.heap.size, 1, none⟩), .pointer (some ⟨w.heap.size, 2, none⟩)] 122)
  have q3 : (w1.alloc (.cells #[.pointer (some ⟨w.heap.size, 0, none⟩), .pointer (some ⟨w.heap.size, 1, none⟩), .pointer (some ⟨w.heap.size, 2, none⟩)] 122)).heap[w.heap.size]? = some (.cells #[.int .i64 0, .int .i64 0, .int .i64 0] 43 (0, 0)) := (Below.heap_alloc _ _ _ (by omega)).trans q1
  have q4 : (w1.alloc (.cells #[.pointer (some ⟨w.heap.size, 0, none⟩), .pointer (some ⟨w.heap.size, 1, none⟩), .pointer (some ⟨w.heap.size, 2, none⟩)] 122)).heap[w.heap.size + 1]? = some (.cells (Lib.cellsOf (wordK 6 :: t) (min (4 + 1) (s.size + 1))) 9 (0, 0)) := (Below.heap_alloc _ _ _ (by omega)).trans q2
  have q5 : (w1.alloc (.cells #[.pointer (some ⟨w.heap.size, 0, none⟩), .pointer (some ⟨w.heap.size, 1, none⟩), .pointer (some ⟨w.heap.size, 2, none⟩)] 122)).heap[w1.heap.size]? = some (.cells #[.pointer (some ⟨w.heap.size, 0, none⟩), .pointer (some ⟨w.heap.size, 1, none⟩), .pointer (some ⟨w.heap.size, 2, none⟩)] 122 (0, 0)) := heap_alloc_last _ _
  rw [z1] at q5
  have z2 : (w1.alloc (.cells #[.pointer (some ⟨w.heap.size, 0, none⟩), .pointer (some ⟨w.heap.size, 1, none⟩), .pointer (some ⟨w.heap.size, 2, none⟩)] 122)).heap.size = w.heap.size + 1 + 1 + 1 := by simp; omega
  have hG2 : Glob (w1.alloc (.cells #[.pointer (some ⟨w.heap.size, 0, none⟩), .pointer (some ⟨w.heap.size, 1, none⟩), .pointer (some ⟨w.heap.size, 2, none⟩)] 122)) := (hG1.out.below b01).below ((Below.refl _ w1).alloc (Nat.le_refl _) _)
  generalize w1.alloc (.cells #[.pointer (some ⟨w.heap.size, 0, none⟩), .pointer (some ⟨w.heap.size, 1, none⟩), .pointer (some ⟨w.heap.size, 2, none⟩)] 122) = w2 at *
  clear q1 q2 b1 z1 b01
  refine (numbers_any (w.heap.size + 1) 1 _ (w.heap.size + 1 + 1) t (psOf w.heap.size [0, 1, 2]) (List.replicate 3 0) w2 hG2 (wds_of q4 HSP.out hs) (by omega) (by omega) (by simp [psOf]) (psok_of q3 (by omega) (by decide)) (nst_of (os := [0, 1, 2]) q3 (fun o ho => by simp only [List.mem_cons, List.not_mem_nil, or_false] at ho; rcases ho with rfl | rfl | rfl <;> rfl)) (by omega) (ptr_of (ps := psOf w.heap.size [0, 1, 2]) q5) (fun j hj => by rw [psOf_get _ _ j hj]; show _ ≠ w.heap.size; omega) (fun j hj => by rw [psOf_get _ _ j hj]; show _ ≠ w.heap.size; omega)).mono ?_
  rintro e w3 ⟨ok, vs, rfl, hn, hy, hno⟩
  obtain ⟨a, b, c, rfl⟩ := list3 hn.len
  have m0 : w3.drew.cell? ⟨w.heap.size, 0, none⟩ = some (.int .i64 a) := hn.at_ 0 (by simp [psOf])
  have m1 : w3.drew.cell? ⟨w.heap.size, 1, none⟩ = some (.int .i64 b) := hn.at_ 1 (by simp [psOf])
  have m2 : w3.drew.cell? ⟨w.heap.size, 2, none⟩ = some (.int .i64 c) := hn.at_ 2 (by simp [psOf])
  have hge : ∀ j, j < (psOf w.heap.size [0, 1, 2]).length → w.heap.size ≤ ((psOf w.heap.size [0, 1, 2]).getD j (0, 0)).1 := fun j hj => by rw [psOf_get _ _ j hj]; exact Nat.le_refl _
  have hP4 := (HP.out.nst b2 hn hge).below (Below.drew (Below.refl _ _))
  have F4 : Frm B pb w w3.drew := (Frm.nst hBl b2 hn hge).trans (Frm.of_below (Below.drew (Below.refl w3.heap.size w3)) hP4.le)
  have hz3 : w.heap.size < w3.heap.size := Nat.lt_of_lt_of_le (show w.heap.size < w2.heap.size by omega) hn.sz
  have HY : Hid (ok = true → IsI s.data.toList (.otg ⟨a, b, c⟩)) := fun h => by
    obtain ⟨h1, h2⟩ := nums_of (hy h)
    exact HSP.out.item rfl h2.symm h1
  have HNO : Hid (ok = false → ∀ x, IsI s.data.toList x → fitM st x = false) := fun h x hx => by
    have hk := kind_of hx (by decide) (by decide) HC.out
    have hr := HSP.out.rest hk hx
    cases x with
    | otg d => exact absurd rfl (hno h _ (by rw [← hr]; exact of_nums hx.1))
    | node | con | ord | blk | flt | bnd => cases hk
  clear hy hno hge hn b2 q3 q4 q5 hG2 z2 hG1 HSE
  obtain ⟨i0, hi, hz0, hz1, hz2⟩ := info_parts info43
  have HI : Hid ((Tryz.prog.info? 43 = some i0) ∧ i0.zero = some _ ∧ i0.size = _ ∧ i0.bytes = _) := ⟨hi, hz0, hz1, hz2⟩
  clear hi hz0 hz1 hz2
  go_wp2_with fail
  have c0 := cell_blk hP4.blk 4
  simp only [List.getElem?_toArray, List.getElem?_cons_zero, List.getElem?_cons_succ] at c0
  refine wp_region_last (fun w' => w'.cell? ⟨pb, 4, none⟩ = some (.slice AVX st.m.xs.length cVX) ∧ w'.cell? ⟨w.heap.size, 0, none⟩ = some (.int .i64 a) ∧ w'.cell? ⟨w.heap.size, 1, none⟩ = some (.int .i64 b) ∧ w'.cell? ⟨w.heap.size, 2, none⟩ = some (.int .i64 c)) 12 (by kernel_rfl) ⟨c0, m0, m1, m2⟩ (fun hHeld => ?_)
  (refine wpAnyK_take (i := 0) (v := ?_) rfl rfl (by kernel_rfl) (by kernel_rfl) (by kernel_rfl) (by kernel_rfl) (fun _ _ _ h => h) (Or.inl ⟨by kernel_rfl, fun w0 hSw => ?_⟩) hHeld ?_; rotate_left; (focus ((try dsimp only at hSw); simp only [List.getElem_toArray, List.getElem_cons_zero]; (first | (go_simp; done) | (go_simp; with_reducible rfl)))); (try simp only [List.getElem_toArray, List.getElem_cons_zero, Act.put, List.setIfInBounds_toArray, List.set_cons_zero, List.set_cons_succ]))
  (refine wpAnyK_take (i := 1) (v := ?_) rfl rfl (by kernel_rfl) (by kernel_rfl) (by kernel_rfl) (by kernel_rfl) (fun _ _ _ h => h) (Or.inl ⟨by kernel_rfl, fun w0 hSw => ?_⟩) hHeld ?_; rotate_left; (focus ((try dsimp only at hSw); simp only [List.getElem_toArray, List.getElem_cons_zero, List.getElem_cons_succ]; (first | (go_simp; done) | (go_simp; with_reducible rfl)))); (try simp only [List.getElem_toArray, List.getElem_cons_zero, List.getElem_cons_succ, Act.put, List.setIfInBounds_toArray, List.set_cons_zero, List.set_cons_succ]))
  (refine wpAnyK_take (i := 2) (v := ?_) rfl rfl (by kernel_rfl) (by kernel_rfl) (by kernel_rfl) (by kernel_rfl) (fun _ _ _ h => h) (Or.inl ⟨by kernel_rfl, fun w0 hSw => ?_⟩) hHeld ?_; rotate_left; (focus ((try dsimp only at hSw); simp only [List.getElem_toArray, List.getElem_cons_zero, List.getElem_cons_succ]; (first | (go_simp; done) | (go_simp; with_reducible rfl)))); (try simp only [List.getElem_toArray, List.getElem_cons_zero, List.getElem_cons_succ, Act.put, List.setIfInBounds_toArray, List.set_cons_zero, List.set_cons_succ]))
  (refine wpAnyK_take (i := 3) (v := ?_) rfl rfl (by kernel_rfl) (by kernel_rfl) (by kernel_rfl) (by kernel_rfl) (fun _ _ _ h => h) (Or.inl ⟨by kernel_rfl, fun w0 hSw => ?_⟩) hHeld ?_; rotate_left; (focus ((try dsimp only at hSw); simp only [List.getElem_toArray, List.getElem_cons_zero, List.getElem_cons_succ]; (first | (go_simp; done) | (go_simp; with_reducible rfl)))); (try simp only [List.getElem_toArray, List.getElem_cons_zero, List.getElem_cons_succ, Act.put, List.setIfInBounds_toArray, List.set_cons_zero, List.set_cons_succ]))
  (refine wpAnyK_take (i := 4) (v := ?_) rfl rfl (by kernel_rfl) (by kernel_rfl) (by kernel_rfl) (by kernel_rfl) (fun _ _ _ h => h) (Or.inl ⟨by kernel_rfl, fun w0 hSw => ?_⟩) hHeld ?_; rotate_left; (focus ((try dsimp only at hSw); simp only [List.getElem_toArray, List.getElem_cons_zero, List.getElem_cons_succ]; (first | (go_simp; done) | (go_simp; with_reducible rfl)))); (try simp only [List.getElem_toArray, List.getElem_cons_zero, List.getElem_cons_succ, Act.put, List.setIfInBounds_toArray, List.set_cons_zero, List.set_cons_succ]))
  (refine wpAnyK_take (i := 5) (v := ?_) rfl rfl (by kernel_rfl) (by kernel_rfl) (by kernel_rfl) (by kernel_rfl) (fun _ _ _ h => h) (Or.inl ⟨by kernel_rfl, fun w0 hSw => ?_⟩) hHeld ?_; rotate_left; (focus ((try dsimp only at hSw); simp only [List.getElem_toArray, List.getElem_cons_zero, List.getElem_cons_succ]; (first | (go_simp; done) | (go_simp; with_reducible rfl)))); (try simp only [List.getElem_toArray, List.getElem_cons_zero, List.getElem_cons_succ, Act.put, List.setIfInBounds_toArray, List.set_cons_zero, List.set_cons_succ]))
  (refine wpAnyK_take (i := 6) (v := ?_) rfl rfl (by kernel_rfl) (by kernel_rfl) (by kernel_rfl) (by kernel_rfl) (fun _ _ _ h => h) (Or.inl ⟨by kernel_rfl, fun w0 hSw => ?_⟩) hHeld ?_; rotate_left; (focus ((try dsimp only at hSw); simp only [List.getElem_toArray, List.getElem_cons_zero, List.getElem_cons_succ]; (first | (go_simp; done) | (go_simp; with_reducible rfl)))); (try simp only [List.getElem_toArray, List.getElem_cons_zero, List.getElem_cons_succ, Act.put, List.setIfInBounds_toArray, List.set_cons_zero, List.set_cons_succ]))
  (refine wpAnyK_one (j := 7) (by kernel_rfl) rfl (fun K hK => ?_); (try simp only [List.getElem_toArray, List.getElem_cons_zero, List.getElem_cons_succ]))
  go_simp
  have k1 := (show ((w3.drew.alloc (.cells #[.int .i64 a, .int .i64 b, .int .i64 c] 43)).cell? ⟨pb, 4, none⟩ = some (.slice AVX st.m.xs.length cVX) ∧ (w3.drew.alloc (.cells #[.int .i64 a, .int .i64 b, .int .i64 c] 43)).cell? ⟨w.heap.size, 0, none⟩ = some (.int .i64 a) ∧ (w3.drew.alloc (.cells #[.int .i64 a, .int .i64 b, .int .i64 c] 43)).cell? ⟨w.heap.size, 1, none⟩ = some (.int .i64 b) ∧ (w3.drew.alloc (.cells #[.int .i64 a, .int .i64 b, .int .i64 c] 43)).cell? ⟨w.heap.size, 2, none⟩ = some (.int .i64 c)) from ⟨(World.cell?_alloc_some _ _ _ (by rw [c0]; rfl)).trans c0, (World.cell?_alloc_some _ _ _ (by rw [m0]; rfl)).trans m0, (World.cell?_alloc_some _ _ _ (by rw [m1]; rfl)).trans m1, (World.cell?_alloc_some _ _ _ (by rw [m2]; rfl)).trans m2⟩)
  refine hK.out _ _ (.inr k1) ?_
  clear hK K
  (try simp only [List.getElem_toArray, List.getElem_cons_zero, List.getElem_cons_succ, Act.put, List.setIfInBounds_toArray, List.set_cons_zero, List.set_cons_succ])
  (refine wpAnyK_one (j := 8) (by kernel_rfl) rfl (fun K hK => ?_); (try simp only [List.getElem_toArray, List.getElem_cons_zero, List.getElem_cons_succ]))
  rw [if_pos (by simp [Region.wanted])]
  refine wp_append_lies (w3.drew.alloc (.cells #[.int .i64 a, .int .i64 b, .int .i64 c] 43)) (.tmp 19) (.tmp 21) 29 rfl B 43 i0 (.agg #[.int .i64 0, .int .i64 0, .int .i64 0]) 3 24 Tryz.underlying29 HI.out.1 HI.out.2.1 HI.out.2.2.1 HI.out.2.2.2 rfl (by decide) (.slice AVX st.m.xs.length cVX) st.m.xs.length (otgCells st.m.xs) (by kernel_rfl) (hP4.rx.alloc _) ⟨w3.heap.size, 0, none⟩ 1 1 [.int .i64 a, .int .i64 b, .int .i64 c] (by kernel_rfl) rfl (World.news_of_block (heap_alloc_last _ _)) (by simp [Value.oneCell']) (by decide) (by unfold maxLen; omega) (by omega) (by have := hP4.le; simp at this ⊢; omega) (w3.heap.size + 1) (by simp) ?_
  intro g cap w6 hown6 hgrow6 _ hlt6
  obtain ⟨b6, hP7, F7, old7⟩ := hP4.appX (d := ⟨a, b, c⟩) hgrow6 hown6
  have k0 := cell_blk b6 4
  have kf := frozen_blk b6 4
  have z0 := (World.cell?_of_block (a := ⟨w.heap.size, 0, none⟩) (old7 w.heap.size hz3 (fun e => by have := hvVX.out _ e; omega))).trans m0
  have z1 := (World.cell?_of_block (a := ⟨w.heap.size, 1, none⟩) (old7 w.heap.size hz3 (fun e => by have := hvVX.out _ e; omega))).trans m1
  have z2 := (World.cell?_of_block (a := ⟨w.heap.size, 2, none⟩) (old7 w.heap.size hz3 (fun e => by have := hvVX.out _ e; omega))).trans m2
  simp only [List.getElem?_toArray, List.getElem?_cons_zero, List.getElem?_cons_succ] at k0
  refine hK.out _ _ (.inr ⟨k0, z0, z1, z2⟩) ?_
  clear hK K hHeld k1 c0 m0 m1 m2
  (try simp only [Act.put, List.setIfInBounds_toArray, List.set_cons_zero, List.set_cons_succ])
  (refine wpAnyK_one (j := 9) (by kernel_rfl) rfl (fun K hK => ?_); (try simp only [List.getElem_toArray, List.getElem_cons_zero, List.getElem_cons_succ]))
  go_simp
  refine hK.out _ _ (.inr ⟨k0, z0, z1, z2⟩) ?_
  clear hK K
  (try simp only [List.getElem_toArray, List.getElem_cons_zero, List.getElem_cons_succ, Act.put, List.setIfInBounds_toArray, List.set_cons_zero, List.set_cons_succ])
  (refine wpAnyK_one (j := 10) (by kernel_rfl) rfl (fun K hK => ?_); (try simp only [List.getElem_toArray, List.getElem_cons_zero, List.getElem_cons_succ]))
  go_simp
  refine hK.out _ _ (.inr ⟨k0, z0, z1, z2⟩) ?_
  clear hK K
  (try simp only [List.getElem_toArray, List.getElem_cons_zero, List.getElem_cons_succ, Act.put, List.setIfInBounds_toArray, List.set_cons_zero, List.set_cons_succ])
  (refine wpAnyK_one (j := 11) (by kernel_rfl) rfl (fun K hK => ?_); (try simp only [List.getElem_toArray, List.getElem_cons_zero, List.getElem_cons_succ]))
  go_simp
  refine hK.out _ _ (.inr ⟨k0, z0, z1, z2⟩) ?_
  clear hK K
  (try simp only [List.getElem_toArray, List.getElem_cons_zero, List.getElem_cons_succ, Act.put, List.setIfInBounds_toArray, List.set_cons_zero, List.set_cons_succ])
  (refine wpAnyK_one (j := 12) (by kernel_rfl) rfl (fun K hK => ?_); (try simp only [List.getElem_toArray, List.getElem_cons_zero, List.getElem_cons_succ]))
  go_simp
  refine hK.out _ _ (.inl rfl) ?_
  clear hK K
  refine wpAnyK_done (by kernel_rfl) ?_ _

  go_wp2_with fail
  go_ret
  exact ⟨ok, rfl, F4.trans F7, HNO.out, fun h => ⟨.otg ⟨a, b, c⟩, _, _, _, _, _, _, HY.out h, rfl, hP7⟩⟩
end Go.Proofs.YtmcgddlblhinlaaGreatDoor

/- LangLines. -/
import Derived.Test.YtmcgddlblhinlaaGreatDoorH22
import Derived.Test.YtmcgddlblhinlaaGreatDoorH25
import Derived.Lib.AppendZeros
namespace Go.Proofs.YtmcgddlblhinlaaGreatDoor
open Go.RowKit
set_option maxRecDepth 100000 in
set_option maxHeartbeats 16000000 in
theorem lines_any (VQ VC VO VF VX : Value) (m : Mis) (x : Otg) (w : World) (hM : MisAt w w.heap.size VQ VC VO VF VX m) (hG : Glob w) : Calls Tryz.prog 6 #[.agg #[VQ, VC, VO, VF, VX, .bool m.bd], .agg #[.int .i64 x.c, .int .i64 x.f, .int .i64 x.t]] w fun e w' => e = .returned (.bool true) ∧ Below w.heap.size w w' := by
  have HG := Lib.hid hG
  have HI := Lib.hid hM
  clear hG
  obtain ⟨gq, gc, go, gf, gx⟩ := hM
  obtain ⟨A1, c1, rfl, hc1, hm1, -⟩ := gq
  obtain ⟨A2, c2, rfl, hc2, hm2, -⟩ := gc
  obtain ⟨A3, c3, rfl, hc3, hm3, hA3⟩ := go
  obtain ⟨A4, c4, rfl, hc4, hm4, -⟩ := gf
  obtain ⟨A5, c5, rfl, hc5, hm5, hA5⟩ := gx
  unfold maxLen at hm1 hm2 hm3 hm4 hm5
  have HA3 := Lib.hid hA3
  have HA5 := Lib.hid hA5
  clear hA3 hA5
  obtain ⟨i0, hi, hz0, hz1, hz2⟩ := info_parts info43
  have HI43 : Hid ((Tryz.prog.info? 43 = some i0) ∧ i0.zero = some _ ∧ i0.size = _ ∧ i0.bytes = _) := ⟨hi, hz0, hz1, hz2⟩
  clear hi hz0 hz1 hz2
  go_enter Tryz.func6, Tryz.ntmps6
  go_wp2_with fail
  have m0 : ((w.alloc (.cells #[.slice A1 m.q.length c1, .slice A2 m.cs.length c2, .slice A3 m.os.length c3, .slice A4 m.fs.length c4, .slice A5 m.xs.length c5, .bool m.bd] 31)).alloc (.cells #[.int .i64 x.c, .int .i64 x.f, .int .i64 x.t] 43)).cell? ⟨w.heap.size, 0, none⟩ = some (.slice A1 m.q.length c1) := by simp [go_sem]
  have m1 : ((w.alloc (.cells #[.slice A1 m.q.length c1, .slice A2 m.cs.length c2, .slice A3 m.os.length c3, .slice A4 m.fs.length c4, .slice A5 m.xs.length c5, .bool m.bd] 31)).alloc (.cells #[.int .i64 x.c, .int .i64 x.f, .int .i64 x.t] 43)).cell? ⟨w.heap.size, 1, none⟩ = some (.slice A2 m.cs.length c2) := by simp [go_sem]
  have m2 : ((w.alloc (.cells #[.slice A1 m.q.length c1, .slice A2 m.cs.length c2, .slice A3 m.os.length c3, .slice A4 m.fs.length c4, .slice A5 m.xs.length c5, .bool m.bd] 31)).alloc (.cells #[.int .i64 x.c, .int .i64 x.f, .int .i64 x.t] 43)).cell? ⟨w.heap.size, 2, none⟩ = some (.slice A3 m.os.length c3) := by simp [go_sem]
  have m3 : ((w.alloc (.cells #[.slice A1 m.q.length c1, .slice A2 m.cs.length c2, .slice A3 m.os.length c3, .slice A4 m.fs.length c4, .slice A5 m.xs.length c5, .bool m.bd] 31)).alloc (.cells #[.int .i64 x.c, .int .i64 x.f, .int .i64 x.t] 43)).cell? ⟨w.heap.size, 3, none⟩ = some (.slice A4 m.fs.length c4) := by simp [go_sem]
  have m4 : ((w.alloc (.cells #[.slice A1 m.q.length c1, .slice A2 m.cs.length c2, .slice A3 m.os.length c3, .slice A4 m.fs.length c4, .slice A5 m.xs.length c5, .bool m.bd] 31)).alloc (.cells #[.int .i64 x.c, .int .i64 x.f, .int .i64 x.t] 43)).cell? ⟨w.heap.size, 4, none⟩ = some (.slice A5 m.xs.length c5) := by simp [go_sem]
  have m5 : ((w.alloc (.cells #[.slice A1 m.q.length c1, .slice A2 m.cs.length c2, .slice A3 m.os.length c3, .slice A4 m.fs.length c4, .slice A5 m.xs.length c5, .bool m.bd] 31)).alloc (.cells #[.int .i64 x.c, .int .i64 x.f, .int .i64 x.t] 43)).cell? ⟨w.heap.size, 5, none⟩ = some (.bool m.bd) := by simp [go_sem]
  have o0 : ((w.alloc (.cells #[.slice A1 m.q.length c1, .slice A2 m.cs.length c2, .slice A3 m.os.length c3, .slice A4 m.fs.length c4, .slice A5 m.xs.length c5, .bool m.bd] 31)).alloc (.cells #[.int .i64 x.c, .int .i64 x.f, .int .i64 x.t] 43)).cell? ⟨w.heap.size + 1, 0, none⟩ = some (.int .i64 x.c) := by simp [go_sem]
  have o1 : ((w.alloc (.cells #[.slice A1 m.q.length c1, .slice A2 m.cs.length c2, .slice A3 m.os.length c3, .slice A4 m.fs.length c4, .slice A5 m.xs.length c5, .bool m.bd] 31)).alloc (.cells #[.int .i64 x.c, .int .i64 x.f, .int .i64 x.t] 43)).cell? ⟨w.heap.size + 1, 1, none⟩ = some (.int .i64 x.f) := by simp [go_sem]
  have o2 : ((w.alloc (.cells #[.slice A1 m.q.length c1, .slice A2 m.cs.length c2, .slice A3 m.os.length c3, .slice A4 m.fs.length c4, .slice A5 m.xs.length c5, .bool m.bd] 31)).alloc (.cells #[.int .i64 x.c, .int .i64 x.f, .int .i64 x.t] 43)).cell? ⟨w.heap.size + 1, 2, none⟩ = some (.int .i64 x.t) := by simp [go_sem]
  have hb0 : Below w.heap.size w ((w.alloc (.cells #[.slice A1 m.q.length c1, .slice A2 m.cs.length c2, .slice A3 m.os.length c3, .slice A4 m.fs.length c4, .slice A5 m.xs.length c5, .bool m.bd] 31)).alloc (.cells #[.int .i64 x.c, .int .i64 x.f, .int .i64 x.t] 43)) := by (repeat' (first | (with_reducible exact Below.refl _ _) | (with_reducible refine Below.alloc ?_ ?_ _) | (with_reducible refine Below.drew ?_) | (with_reducible refine below_drewN ?_ _) | (with_reducible refine Below.setCell ?_ ?_ _) | (with_reducible refine Below.trans ?_ (Below.mono (by assumption) ?_)) | (with_reducible exact Nat.le_refl _) | omega | (simp; omega) | (simp; done)))
  have hz0 : ((w.alloc (.cells #[.slice A1 m.q.length c1, .slice A2 m.cs.length c2, .slice A3 m.os.length c3, .slice A4 m.fs.length c4, .slice A5 m.xs.length c5, .bool m.bd] 31)).alloc (.cells #[.int .i64 x.c, .int .i64 x.f, .int .i64 x.t] 43)).heap.size = w.heap.size + 1 + 1 := by simp
  have hk0 : ((w.alloc (.cells #[.slice A1 m.q.length c1, .slice A2 m.cs.length c2, .slice A3 m.os.length c3, .slice A4 m.fs.length c4, .slice A5 m.xs.length c5, .bool m.bd] 31)).alloc (.cells #[.int .i64 x.c, .int .i64 x.f, .int .i64 x.t] 43)).heap[w.heap.size]? = some (.cells #[.slice A1 m.q.length c1, .slice A2 m.cs.length c2, .slice A3 m.os.length c3, .slice A4 m.fs.length c4, .slice A5 m.xs.length c5, .bool m.bd] 31) := by
    rw [Below.heap_alloc _ _ _ (by simp)]; exact heap_alloc_last _ _
  generalize ((w.alloc (.cells #[.slice A1 m.q.length c1, .slice A2 m.cs.length c2, .slice A3 m.os.length c3, .slice A4 m.fs.length c4, .slice A5 m.xs.length c5, .bool m.bd] 31)).alloc (.cells #[.int .i64 x.c, .int .i64 x.f, .int .i64 x.t] 43)) = v0 at *
  have HS0 : Hid (∀ W, Below v0.heap.size v0 W → W.cell? ⟨w.heap.size, 0, none⟩ = some (.slice A1 m.q.length c1) ∧ W.cell? ⟨w.heap.size, 1, none⟩ = some (.slice A2 m.cs.length c2) ∧ W.cell? ⟨w.heap.size, 2, none⟩ = some (.slice A3 m.os.length c3) ∧ W.cell? ⟨w.heap.size, 3, none⟩ = some (.slice A4 m.fs.length c4) ∧ W.cell? ⟨w.heap.size, 4, none⟩ = some (.slice A5 m.xs.length c5) ∧ W.cell? ⟨w.heap.size, 5, none⟩ = some (.bool m.bd) ∧ W.cell? ⟨w.heap.size + 1, 0, none⟩ = some (.int .i64 x.c) ∧ W.cell? ⟨w.heap.size + 1, 1, none⟩ = some (.int .i64 x.f) ∧ W.cell? ⟨w.heap.size + 1, 2, none⟩ = some (.int .i64 x.t)) := fun W h => by
    have e : ∀ b k, b < v0.heap.size → W.cell? ⟨b, k, none⟩ = v0.cell? ⟨b, k, none⟩ := fun b k hk => h.cell (p := ⟨b, k, none⟩) hk
    exact ⟨(e _ _ (by omega)).trans m0, (e _ _ (by omega)).trans m1, (e _ _ (by omega)).trans m2, (e _ _ (by omega)).trans m3, (e _ _ (by omega)).trans m4, (e _ _ (by omega)).trans m5, (e _ _ (by omega)).trans o0, (e _ _ (by omega)).trans o1, (e _ _ (by omega)).trans o2⟩
  have HFZ : Hid (∀ W, Below v0.heap.size v0 W → W.frozen? ⟨w.heap.size, 4, none⟩ = false) := fun W h => frozen_blk ((h.block w.heap.size (by omega)).trans hk0) 4
  have HK0 := Lib.hid hk0
  clear m0 m1 m2 m3 m4 m5 o0 o1 o2 hk0
  refine (greatS_any _ _ _ _ _ m ⟨#[]⟩ v0 (HI.out.on hb0)).mono ?_
  rintro e w1 ⟨⟨g, rfl, -⟩, b1⟩
  cases g with
  | true =>
    go_wp2_with fail
    refine (awake_any w1 (glob_on HG.out (hb0.trans (b1.mono hb0.size)))).mono ?_
    rintro e wz ⟨rfl, hbz⟩
    have hBz := hb0.trans ((b1.trans (hbz.mono b1.size)).mono hb0.size)
    clear hbz
    go_wp2_with fail
    go_ret
    exact ⟨rfl, hBz⟩
  | false =>
  obtain ⟨q0, q1, q2, q3, q4, q5, r0, r1, r2⟩ := HS0.out w1 b1
  have hl1 : w.heap.size + 1 < w1.heap.size := by have := b1.size; omega
  have M1 := (HI.out.on hb0).on b1
  go_wp2_with fail
  refine (print_any _ _ _ _ _ m w1 M1 (glob_on HG.out (hb0.trans (b1.mono hb0.size)))).mono ?_
  by_cases hE : misE m = 0
  rotate_left
  · rw [show printR m = (⟨#[]⟩, 1) from if_pos hE]
    clear hE
    rintro e w2 ⟨rfl, hb2⟩
    have b2 := b1.trans (hb2.mono b1.size)
    clear hb2 b1 M1
    go_wp2_with fail
    refine (awake_any w2 (glob_on HG.out (hb0.trans (b2.mono hb0.size)))).mono ?_
    rintro e wz ⟨rfl, hbz⟩
    have hBz := hb0.trans ((b2.trans (hbz.mono b2.size)).mono hb0.size)
    clear hbz
    go_wp2_with fail
    go_ret
    exact ⟨rfl, hBz⟩
  by_cases hL : 8192 < (printL m).length
  · rw [show printR m = (⟨#[]⟩, 4) by rw [printR, if_neg (by simp [hE]), if_pos hL]]
    clear hE hL
    rintro e w2 ⟨rfl, hb2⟩
    have b2 := b1.trans (hb2.mono b1.size)
    clear hb2 b1 M1
    go_wp2_with fail
    refine (awake_any w2 (glob_on HG.out (hb0.trans (b2.mono hb0.size)))).mono ?_
    rintro e wz ⟨rfl, hbz⟩
    have hBz := hb0.trans ((b2.trans (hbz.mono b2.size)).mono hb0.size)
    clear hbz
    go_wp2_with fail
    go_ret
    exact ⟨rfl, hBz⟩
  rw [show printR m = (⟨(printL m).toArray⟩, 0) by rw [printR, if_neg (by simp [hE]), if_neg hL]]
  have hok := mis_ok hE
  have hql := hok.q.1
  have hcl := hok.c.1
  have hol := hok.o.1
  have hfl := hok.f.1
  have hxl := hok.x.1
  have HBL := Lib.hid (blkN_le (fun y hy => (hok.o.2 y hy).bl))
  have HIO := Lib.hid (items_ok hok)
  have HCN : Hid (Lib.countB ⟨(printL m).toArray⟩ ⟨#[10]⟩ = m.q.length + m.cs.length + m.os.length + m.fs.length + m.xs.length + blkN m.os m.os.length + (if m.bd = true then 1 else 0)) := by
    show _ = _
    rw [← items_len, ← lines_count _ HIO.out]
    exact Lib.count_one 10 _
  have HSF : Hid (Lib.hasSuffix (⟨(printL m).toArray⟩ : ByteArray).data.toList [10] = true) := lines_end (xs := itemsM m) (fun h => by
    have h1 := items_len m
    rw [h] at h1
    have h2 : planE m.q m.cs = 0 := plan_zero hE
    unfold planE at h2
    split at h2
    · cases h2
    · simp at h1; omega)
  have HTR : Hid (Lib.trimSuffix (⟨(printL m).toArray⟩ : ByteArray).data.toList (tailL m) = linesL (headI m)) := trim_tail m
  have hSz : (⟨(printL m).toArray⟩ : ByteArray).size ≤ 8192 := by show (printL m).length ≤ _; omega
  clear hE hL hok
  generalize (⟨(printL m).toArray⟩ : ByteArray) = S at *
  rintro e w2 ⟨rfl, hb2⟩
  have br := b1.trans (hb2.mono b1.size)
  clear hb2 b1 M1
  clear q0 q1 q2 q3 q4 q5 r0 r1 r2
  obtain ⟨q0, q1, q2, q3, q4, q5, r0, r1, r2⟩ := HS0.out w2 br
  have hl2 : w.heap.size + 1 < w2.heap.size := by have := br.size; omega
  go_wp2_with fail
  go_loopw [7, 52] (fun z i wr => ∃ k : Nat, k ≤ m.os.length ∧ i = .int .i64 k ∧ (∃ zz : Int, z = .int .i64 zz ∧ zz = ((m.q.length : Int) + m.cs.length + m.os.length + m.fs.length + m.xs.length) + (blkN m.os k : Int)) ∧ Below v0.heap.size v0 wr) (fun _ i _ => m.os.length - (intOf i).toNat)
  case atStart => exact ⟨0, by omega, rfl, ⟨_, rfl, by rw [show blkN m.os 0 = 0 from rfl]; simp⟩, br⟩
  case round =>
    clear q0 q1 q2 q3 q4 q5 r0 r1 r2 br
    obtain ⟨k, hk, rfl, ⟨zz, rfl, hzv⟩, br⟩ := hrel
    obtain ⟨q0, q1, q2, q3, q4, q5, r0, r1, r2⟩ := HS0.out wr br
    have hzr := br.size
    have hlr : w.heap.size + 1 < wr.heap.size := by omega
    have hbk := HBL.out k hk
    by_cases hlt : k < m.os.length
    · obtain ⟨b, o, rfl, hb, hcell⟩ := HA3.out (by omega)
      have hx := hcell k hlt
      have hbr : b < wr.heap.size := by omega
      have HST := Lib.hid (blkN_succ m.os k hlt)
      have hbk2 := HBL.out (k + 1) hlt
      rw [HST.out] at hbk2
      clear hcell
      generalize m.os.getD k Bun.zero = y at *
      obtain ⟨x0, x1, x2, x3, x4, x5, x6, x7, x8, x9, ⟨V, x10, hV⟩, x11⟩ := hx.below (hb0.trans (br.mono hb0.size)) hb
      obtain ⟨AB, cB, rfl, hcB, hmB, -⟩ := hV
      have i1 : 0 ≤ zz ∧ zz ≤ 1000 := by omega
      go_wp2_with fail
      go_roundw
      case rel => exact ⟨k + 1, by omega, by go_num, ⟨_, rfl, by rw [HST.out]; omega⟩, br.alloc hzr _⟩
      case measure => simp [intOf]; omega
    · obtain rfl : k = m.os.length := by omega
      rw [hzv]
      have hg1 := (glob_on HG.out (hb0.trans (br.mono hb0.size))).1
      obtain ⟨mx, hmx⟩ := hg1
      cases hbd : m.bd
      · have HCN2 : Hid (((Lib.countB S ⟨#[10]⟩ : Nat) : Int) = ((m.q.length : Int) + m.cs.length + m.os.length + m.fs.length + m.xs.length) + (blkN m.os m.os.length : Int)) := by
          show _ = _; have := HCN.out; simp [hbd] at this; rw [this]; omega
        go_wp2_with fail
        refine (Tryz.strings_Count_any S ⟨#[10]⟩ mx wr (by omega) hmx (by decide)).mono ?_
        rintro e wr ⟨rfl, rfl⟩
        rw [HCN2.out]
        go_wp2_with fail
        refine (Tryz.strings_HasSuffix S ⟨#[10]⟩ wr (by omega)).mono ?_
        rintro e wr ⟨rfl, rfl⟩
        rw [show Lib.hasSuffix S.data.toList (⟨#[10]⟩ : ByteArray).data.toList = true from HSF.out]
        go_wp2_with fail
        have HSd := HS0.out wr.drew (Below.drew br)
        have hzd : v0.heap.size ≤ wr.drew.heap.size := hzr
        refine wp_region_last (fun w' => w'.cell? ⟨w.heap.size, 0, none⟩ = some (.slice A1 m.q.length c1) ∧ w'.cell? ⟨w.heap.size, 1, none⟩ = some (.slice A2 m.cs.length c2) ∧ w'.cell? ⟨w.heap.size, 2, none⟩ = some (.slice A3 m.os.length c3) ∧ w'.cell? ⟨w.heap.size, 3, none⟩ = some (.slice A4 m.fs.length c4) ∧ w'.cell? ⟨w.heap.size, 4, none⟩ = some (.slice A5 m.xs.length c5) ∧ w'.cell? ⟨w.heap.size, 5, none⟩ = some (.bool m.bd) ∧ w'.cell? ⟨w.heap.size + 1, 0, none⟩ = some (.int .i64 x.c) ∧ w'.cell? ⟨w.heap.size + 1, 1, none⟩ = some (.int .i64 x.f) ∧ w'.cell? ⟨w.heap.size + 1, 2, none⟩ = some (.int .i64 x.t)) 13 (by kernel_rfl) HSd (fun hHeld => ?_)
        (refine wpAnyK_take (i := 0) (v := ?_) rfl rfl (by kernel_rfl) (by kernel_rfl) (by kernel_rfl) (by kernel_rfl) (fun _ _ _ h => h) (Or.inl ⟨by kernel_rfl, fun w0 hSw => ?_⟩) hHeld ?_; rotate_left; (focus ((try dsimp only at hSw); simp only [List.getElem_toArray, List.getElem_cons_zero]; (first | (go_simp; done) | (go_simp; with_reducible rfl)))); (try simp only [List.getElem_toArray, List.getElem_cons_zero, Act.put, List.setIfInBounds_toArray, List.set_cons_zero, List.set_cons_succ]))
        (refine wpAnyK_take (i := 1) (v := ?_) rfl rfl (by kernel_rfl) (by kernel_rfl) (by kernel_rfl) (by kernel_rfl) (fun _ _ _ h => h) (Or.inl ⟨by kernel_rfl, fun w0 hSw => ?_⟩) hHeld ?_; rotate_left; (focus ((try dsimp only at hSw); simp only [List.getElem_toArray, List.getElem_cons_zero, List.getElem_cons_succ]; (first | (go_simp; done) | (go_simp; with_reducible rfl)))); (try simp only [List.getElem_toArray, List.getElem_cons_zero, List.getElem_cons_succ, Act.put, List.setIfInBounds_toArray, List.set_cons_zero, List.set_cons_succ]))
        (refine wpAnyK_take (i := 2) (v := ?_) rfl rfl (by kernel_rfl) (by kernel_rfl) (by kernel_rfl) (by kernel_rfl) (fun _ _ _ h => h) (Or.inl ⟨by kernel_rfl, fun w0 hSw => ?_⟩) hHeld ?_; rotate_left; (focus ((try dsimp only at hSw); simp only [List.getElem_toArray, List.getElem_cons_zero, List.getElem_cons_succ]; (first | (go_simp; done) | (go_simp; with_reducible rfl)))); (try simp only [List.getElem_toArray, List.getElem_cons_zero, List.getElem_cons_succ, Act.put, List.setIfInBounds_toArray, List.set_cons_zero, List.set_cons_succ]))
        (refine wpAnyK_take (i := 3) (v := ?_) rfl rfl (by kernel_rfl) (by kernel_rfl) (by kernel_rfl) (by kernel_rfl) (fun _ _ _ h => h) (Or.inl ⟨by kernel_rfl, fun w0 hSw => ?_⟩) hHeld ?_; rotate_left; (focus ((try dsimp only at hSw); simp only [List.getElem_toArray, List.getElem_cons_zero, List.getElem_cons_succ]; (first | (go_simp; done) | (go_simp; with_reducible rfl)))); (try simp only [List.getElem_toArray, List.getElem_cons_zero, List.getElem_cons_succ, Act.put, List.setIfInBounds_toArray, List.set_cons_zero, List.set_cons_succ]))
        (refine wpAnyK_take (i := 4) (v := ?_) rfl rfl (by kernel_rfl) (by kernel_rfl) (by kernel_rfl) (by kernel_rfl) (fun _ _ _ h => h) (Or.inl ⟨by kernel_rfl, fun w0 hSw => ?_⟩) hHeld ?_; rotate_left; (focus ((try dsimp only at hSw); simp only [List.getElem_toArray, List.getElem_cons_zero, List.getElem_cons_succ]; (first | (go_simp; done) | (go_simp; with_reducible rfl)))); (try simp only [List.getElem_toArray, List.getElem_cons_zero, List.getElem_cons_succ, Act.put, List.setIfInBounds_toArray, List.set_cons_zero, List.set_cons_succ]))
        (refine wpAnyK_take (i := 5) (v := ?_) rfl rfl (by kernel_rfl) (by kernel_rfl) (by kernel_rfl) (by kernel_rfl) (fun _ _ _ h => h) (Or.inl ⟨by kernel_rfl, fun w0 hSw => ?_⟩) hHeld ?_; rotate_left; (focus ((try dsimp only at hSw); simp only [List.getElem_toArray, List.getElem_cons_zero, List.getElem_cons_succ]; (first | (go_simp; done) | (go_simp; with_reducible rfl)))); (try simp only [List.getElem_toArray, List.getElem_cons_zero, List.getElem_cons_succ, Act.put, List.setIfInBounds_toArray, List.set_cons_zero, List.set_cons_succ]))
        (refine wpAnyK_take (i := 6) (v := ?_) rfl rfl (by kernel_rfl) (by kernel_rfl) (by kernel_rfl) (by kernel_rfl) (fun _ _ _ h => h) (Or.inl ⟨by kernel_rfl, fun w0 hSw => ?_⟩) hHeld ?_; rotate_left; (focus ((try dsimp only at hSw); simp only [List.getElem_toArray, List.getElem_cons_zero, List.getElem_cons_succ]; (first | (go_simp; done) | (go_simp; with_reducible rfl)))); (try simp only [List.getElem_toArray, List.getElem_cons_zero, List.getElem_cons_succ, Act.put, List.setIfInBounds_toArray, List.set_cons_zero, List.set_cons_succ]))
        (refine wpAnyK_take (i := 7) (v := ?_) rfl rfl (by kernel_rfl) (by kernel_rfl) (by kernel_rfl) (by kernel_rfl) (fun _ _ _ h => h) (Or.inl ⟨by kernel_rfl, fun w0 hSw => ?_⟩) hHeld ?_; rotate_left; (focus ((try dsimp only at hSw); simp only [List.getElem_toArray, List.getElem_cons_zero, List.getElem_cons_succ]; (first | (go_simp; done) | (go_simp; with_reducible rfl)))); (try simp only [List.getElem_toArray, List.getElem_cons_zero, List.getElem_cons_succ, Act.put, List.setIfInBounds_toArray, List.set_cons_zero, List.set_cons_succ]))
        (refine wpAnyK_take (i := 8) (v := ?_) rfl rfl (by kernel_rfl) (by kernel_rfl) (by kernel_rfl) (by kernel_rfl) (fun _ _ _ h => h) (Or.inl ⟨by kernel_rfl, fun w0 hSw => ?_⟩) hHeld ?_; rotate_left; (focus ((try dsimp only at hSw); simp only [List.getElem_toArray, List.getElem_cons_zero, List.getElem_cons_succ]; (first | (go_simp; done) | (go_simp; with_reducible rfl)))); (try simp only [List.getElem_toArray, List.getElem_cons_zero, List.getElem_cons_succ, Act.put, List.setIfInBounds_toArray, List.set_cons_zero, List.set_cons_succ]))
        (refine wpAnyK_take (i := 9) (v := ?_) rfl rfl (by kernel_rfl) (by kernel_rfl) (by kernel_rfl) (by kernel_rfl) (fun _ _ _ h => h) (Or.inl ⟨by kernel_rfl, fun w0 hSw => ?_⟩) hHeld ?_; rotate_left; (focus ((try dsimp only at hSw); simp only [List.getElem_toArray, List.getElem_cons_zero, List.getElem_cons_succ]; (first | (go_simp; done) | (go_simp; with_reducible rfl)))); (try simp only [List.getElem_toArray, List.getElem_cons_zero, List.getElem_cons_succ, Act.put, List.setIfInBounds_toArray, List.set_cons_zero, List.set_cons_succ]))
        (refine wpAnyK_one (j := 10) (by kernel_rfl) rfl (fun K hK => ?_); (try simp only [List.getElem_toArray, List.getElem_cons_zero, List.getElem_cons_succ]))
        go_simp
        have hb1 := (Below.drew br).alloc hzd (.cells #[.int .i64 x.c, .int .i64 x.f, .int .i64 x.t] 43)
        refine hK.out _ _ (.inr (HS0.out _ hb1)) ?_
        clear hK K
        (try simp only [List.getElem_toArray, List.getElem_cons_zero, List.getElem_cons_succ, Act.put, List.setIfInBounds_toArray, List.set_cons_zero, List.set_cons_succ])
        (refine wpAnyK_one (j := 11) (by kernel_rfl) rfl (fun K hK => ?_); (try simp only [List.getElem_toArray, List.getElem_cons_zero, List.getElem_cons_succ]))
        rw [if_pos (by simp [Region.wanted])]
        have hOA : 0 < m.xs.length → ∃ b o, A5 = some ⟨b, o, none⟩ ∧ ∀ j, j < m.xs.length → OtgAt (wr.drew.alloc (.cells #[.int .i64 x.c, .int .i64 x.f, .int .i64 x.t] 43)) (wr.drew.alloc (.cells #[.int .i64 x.c, .int .i64 x.f, .int .i64 x.t] 43)).heap.size b (o + j * 3) (m.xs.getD j Otg.zero) := fun hp => by
          obtain ⟨b, o, h1, h2, h3⟩ := HA5.out hp
          exact ⟨b, o, h1, fun j hj => (h3 j hj).below (hb0.trans (hb1.mono hb0.size)) h2⟩
        obtain ⟨v', w', hrun, ⟨A6, c6, rfl⟩, hfresh, hb2⟩ := app_otg (wr.drew.alloc (.cells #[.int .i64 x.c, .int .i64 x.f, .int .i64 x.t] 43)) A5 m.xs x 29 wr.drew.heap.size 1 i0 HI43.out.1 HI43.out.2.1 HI43.out.2.2.1 HI43.out.2.2.2 hOA hxl (heap_alloc_last _ _)
        have b3 := hb1.trans (hb2.mono hb1.size)
        refine Lib.wp_append_run (wr.drew.alloc (.cells #[.int .i64 x.c, .int .i64 x.f, .int .i64 x.t] 43)) (.tmp 83) (.tmp 85) 29 29 rfl _ _ (by kernel_rfl) (by kernel_rfl) _ w' hrun ?_
        refine hK.out _ _ (.inr (HS0.out _ b3)) ?_
        clear hK K hHeld
        (try simp only [Act.put, List.setIfInBounds_toArray, List.set_cons_zero, List.set_cons_succ])
        (refine wpAnyK_one (j := 12) (by kernel_rfl) rfl (fun K hK => ?_); (try simp only [List.getElem_toArray, List.getElem_cons_zero, List.getElem_cons_succ]))
        go_simp
        refine hK.out _ _ (.inr (HS0.out _ b3)) ?_
        clear hK K
        (try simp only [List.getElem_toArray, List.getElem_cons_zero, List.getElem_cons_succ, Act.put, List.setIfInBounds_toArray, List.set_cons_zero, List.set_cons_succ])
        (refine wpAnyK_one (j := 13) (by kernel_rfl) rfl (fun K hK => ?_); (try simp only [List.getElem_toArray, List.getElem_cons_zero, List.getElem_cons_succ]))
        clear q0 q1 q2 q3 q4 q5 r0 r1 r2
        obtain ⟨q0, q1, q2, q3, q4, q5, r0, r1, r2⟩ := HS0.out w' b3
        have hlb : w.heap.size < w'.heap.size := by have := b3.size; omega
        have hfz : w'.frozen? ⟨w.heap.size, 4, none⟩ = false := HFZ.out w' b3
        go_simp
        refine hK.out _ _ (.inl rfl) ?_
        clear hK K
        refine wpAnyK_done (by kernel_rfl) ?_ _
        have hk9 := heap_set (i := 4) ((b3.block w.heap.size (by omega)).trans HK0.out) (.slice A6 (m.xs.length + 1) c6)
        have bT : Below w.heap.size w (w'.setCell ⟨w.heap.size, 4, none⟩ (.slice A6 (m.xs.length + 1) c6)) := (hb0.trans (b3.mono hb0.size)).setCell (p := ⟨w.heap.size, 4, none⟩) (Nat.le_refl _) _
        have hMX := (HI.out.below bT).more bT.size
        have hOX := hfresh (w'.setCell ⟨w.heap.size, 4, none⟩ (.slice A6 (m.xs.length + 1) c6)) (by simp [World.setCell]) (fun k hk _ => Below.heap_setCell w' ⟨w.heap.size, 4, none⟩ _ k (by show k ≠ w.heap.size; have := hb1.size; omega))
        generalize (w'.setCell ⟨w.heap.size, 4, none⟩ (.slice A6 (m.xs.length + 1) c6)) = W9 at *
        have M9 : MisAt W9 W9.heap.size (.slice A1 m.q.length c1) (.slice A2 m.cs.length c2) (.slice A3 m.os.length c3) (.slice A4 m.fs.length c4) (.slice A6 (m.xs.length + 1) c6) { m with xs := m.xs ++ [x] } := ⟨hMX.q, hMX.c, hMX.o, hMX.f, hOX⟩
        simp only [List.setIfInBounds_toArray, List.set_cons_zero, List.set_cons_succ] at hk9
        clear q0 q1 q2 q3 q4 q5 r0 r1 r2 hMX hOX hfresh hrun hfz hlb
        have p0 := cell_blk hk9 0
        have p1 := cell_blk hk9 1
        have p2 := cell_blk hk9 2
        have p3 := cell_blk hk9 3
        have p4 := cell_blk hk9 4
        have p5 := cell_blk hk9 5
        simp only [List.getElem?_toArray, List.getElem?_cons_zero, List.getElem?_cons_succ] at p0 p1 p2 p3 p4 p5
        have hl9 := blk_lt hk9
        obtain ⟨mm, hmm⟩ : ∃ mm : Mis, mm = { m with xs := m.xs ++ [x] } := ⟨_, rfl⟩
        have HPR := print_any (.slice A1 m.q.length c1) (.slice A2 m.cs.length c2) (.slice A3 m.os.length c3) (.slice A4 m.fs.length c4) (.slice A6 (m.xs.length + 1) c6) mm W9 (by rw [hmm]; exact M9) (glob_on HG.out bT)
        rw [show mm.bd = false by rw [hmm]; exact hbd] at HPR
        have HPQ := Lib.hid HPR
        have HMM := Lib.hid hmm
        clear HPR hmm
        go_wp2_with fail
        refine HPQ.out.mono ?_
        rw [HMM.out]
        by_cases hE : misE { m with xs := m.xs ++ [x] } = 0
        rotate_left
        · rw [show printR { m with xs := m.xs ++ [x] } = (⟨#[]⟩, 1) from if_pos hE]
          clear hE
          rintro e w2 ⟨rfl, hb2⟩
          have b2 := bT.trans (hb2.mono bT.size)
          clear hb2
          go_wp2_with fail
          refine (awake_any w2 (glob_on HG.out b2)).mono ?_
          rintro e wz ⟨rfl, hbz⟩
          have hBz := b2.trans (hbz.mono b2.size)
          clear hbz
          go_wp2_with fail
          go_ret
          exact ⟨rfl, hBz⟩
        by_cases hL : 8192 < (printL { m with xs := m.xs ++ [x] }).length
        · rw [show printR { m with xs := m.xs ++ [x] } = (⟨#[]⟩, 4) by rw [printR, if_neg (by simp [hE]), if_pos hL]]
          clear hE hL
          rintro e w2 ⟨rfl, hb2⟩
          have b2 := bT.trans (hb2.mono bT.size)
          clear hb2
          go_wp2_with fail
          refine (awake_any w2 (glob_on HG.out b2)).mono ?_
          rintro e wz ⟨rfl, hbz⟩
          have hBz := b2.trans (hbz.mono b2.size)
          clear hbz
          go_wp2_with fail
          go_ret
          exact ⟨rfl, hBz⟩
        rw [show printR { m with xs := m.xs ++ [x] } = (⟨(printL { m with xs := m.xs ++ [x] }).toArray⟩, 0) by rw [printR, if_neg (by simp [hE]), if_neg hL]]
        have hok2 := mis_ok hE
        have hInR : InR [x.c, x.f, x.t] := hok2.x.2 x (by simp)
        have HP : Hid (Lib.hasPrefix (⟨(printL { m with xs := m.xs ++ [x] }).toArray⟩ : ByteArray).data.toList ((⟨(linesL (headI m)).toArray⟩ : ByteArray) ++ ⟨#[111, 117, 116, 97, 103, 101, 32]⟩).data.toList = true) := by
          show _ = _
          have e : ((⟨(linesL (headI m)).toArray⟩ : ByteArray) ++ ⟨#[111, 117, 116, 97, 103, 101, 32]⟩).data.toList = linesL (headI m) ++ [111, 117, 116, 97, 103, 101, 32] := by simp
          rw [e]; exact more_prefix m x
        have HSx : Hid (Lib.hasSuffix (⟨(printL { m with xs := m.xs ++ [x] }).toArray⟩ : ByteArray).data.toList (⟨#[]⟩ : ByteArray).data.toList = true) := by
          show _ = _
          have e8 : (⟨#[]⟩ : ByteArray).data.toList = tailL m := by unfold tailL; rw [hbd]; rfl
          rw [e8]; exact more_suffix m x
        have HCt : Hid (Lib.countB ((⟨(printL { m with xs := m.xs ++ [x] }).toArray⟩ : ByteArray).extract (⟨(linesL (headI m)).toArray⟩ : ByteArray).size (⟨(printL { m with xs := m.xs ++ [x] }).toArray⟩ : ByteArray).size) ⟨#[10]⟩ = 1 + 0 / 8) := by
          show Lib.count _ [10] = _
          rw [Lib.count_one, Lib.extract_to_end]
          have h1 := more_count (m := m) hInR
          have e8 : (tailL m).length = 0 := by unfold tailL; rw [hbd]; rfl
          rw [e8] at h1
          exact h1
        have hTs : (⟨(printL { m with xs := m.xs ++ [x] }).toArray⟩ : ByteArray).size ≤ 8192 := by show (printL _).length ≤ _; omega
        have hS2 : (⟨(linesL (headI m)).toArray⟩ : ByteArray).size ≤ (⟨(printL { m with xs := m.xs ++ [x] }).toArray⟩ : ByteArray).size := by
          show (linesL (headI m)).length ≤ (printL { m with xs := m.xs ++ [x] }).length
          rw [print_more, List.length_append]; omega
        have HTQ : Hid ((⟨(Lib.trimSuffix S.data.toList (⟨#[]⟩ : ByteArray).data.toList).toArray⟩ : ByteArray) = ⟨(linesL (headI m)).toArray⟩) := by
          show _ = _
          have e8 : (⟨#[]⟩ : ByteArray).data.toList = tailL m := by unfold tailL; rw [hbd]; rfl
          rw [e8, HTR.out]
        clear hE hL hok2 hInR
        generalize (⟨(printL { m with xs := m.xs ++ [x] }).toArray⟩ : ByteArray) = T at *
        generalize (⟨(linesL (headI m)).toArray⟩ : ByteArray) = S2 at *
        rintro e w2 ⟨rfl, hb2⟩
        have b2 := bT.trans (hb2.mono bT.size)
        have p5 := (hb2.cell (p := ⟨w.heap.size, 5, none⟩) hl9).trans p5
        have hl2 : w.heap.size < w2.heap.size := Nat.lt_of_lt_of_le hl9 hb2.size
        have hgm := (glob_on HG.out b2).1
        obtain ⟨my, hmy⟩ := hgm
        clear hb2 p0 p1 p2 p3 p4
        go_wp2_with fail
        refine (Tryz.strings_TrimSuffix S ⟨#[]⟩ w2 (by omega)).mono ?_
        rintro e w3 ⟨rfl, rfl⟩
        rw [HTQ.out]
        go_wp2_with fail
        refine (Tryz.strings_HasPrefix T _ w3).mono ?_
        rintro e w4 ⟨rfl, rfl⟩
        rw [HP.out]
        go_wp2_with fail
        refine (Tryz.strings_HasSuffix T ⟨#[]⟩ w4 (by omega)).mono ?_
        rintro e w5 ⟨rfl, rfl⟩
        rw [HSx.out]
        go_wp2_with fail
        refine (Tryz.strings_Count_any _ ⟨#[10]⟩ my w5 (by rw [ByteArray.size_extract]; omega) hmy (by decide)).mono ?_
        rintro e w6 ⟨rfl, rfl⟩
        rw [HCt.out]
        go_wp2_with fail
        refine (awake_any w6 (glob_on HG.out b2)).mono ?_
        rintro e wz ⟨rfl, hbz⟩
        have hBz := b2.trans (hbz.mono b2.size)
        clear hbz
        go_wp2_with fail
        go_ret
        exact ⟨rfl, hBz⟩
      · have HCN2 : Hid (((Lib.countB S ⟨#[10]⟩ : Nat) : Int) = ((m.q.length : Int) + m.cs.length + m.os.length + m.fs.length + m.xs.length) + (blkN m.os m.os.length : Int) + 1) := by
          show _ = _; have := HCN.out; simp [hbd] at this; rw [this]; omega
        go_wp2_with fail
        refine (Tryz.strings_Count_any S ⟨#[10]⟩ mx wr (by omega) hmx (by decide)).mono ?_
        rintro e wr ⟨rfl, rfl⟩
        rw [HCN2.out]
        go_wp2_with fail
        refine (Tryz.strings_HasSuffix S ⟨#[10]⟩ wr (by omega)).mono ?_
        rintro e wr ⟨rfl, rfl⟩
        rw [show Lib.hasSuffix S.data.toList (⟨#[10]⟩ : ByteArray).data.toList = true from HSF.out]
        go_wp2_with fail
        have HSd := HS0.out wr.drew (Below.drew br)
        have hzd : v0.heap.size ≤ wr.drew.heap.size := hzr
        refine wp_region_last (fun w' => w'.cell? ⟨w.heap.size, 0, none⟩ = some (.slice A1 m.q.length c1) ∧ w'.cell? ⟨w.heap.size, 1, none⟩ = some (.slice A2 m.cs.length c2) ∧ w'.cell? ⟨w.heap.size, 2, none⟩ = some (.slice A3 m.os.length c3) ∧ w'.cell? ⟨w.heap.size, 3, none⟩ = some (.slice A4 m.fs.length c4) ∧ w'.cell? ⟨w.heap.size, 4, none⟩ = some (.slice A5 m.xs.length c5) ∧ w'.cell? ⟨w.heap.size, 5, none⟩ = some (.bool m.bd) ∧ w'.cell? ⟨w.heap.size + 1, 0, none⟩ = some (.int .i64 x.c) ∧ w'.cell? ⟨w.heap.size + 1, 1, none⟩ = some (.int .i64 x.f) ∧ w'.cell? ⟨w.heap.size + 1, 2, none⟩ = some (.int .i64 x.t)) 13 (by kernel_rfl) HSd (fun hHeld => ?_)
        (refine wpAnyK_take (i := 0) (v := ?_) rfl rfl (by kernel_rfl) (by kernel_rfl) (by kernel_rfl) (by kernel_rfl) (fun _ _ _ h => h) (Or.inl ⟨by kernel_rfl, fun w0 hSw => ?_⟩) hHeld ?_; rotate_left; (focus ((try dsimp only at hSw); simp only [List.getElem_toArray, List.getElem_cons_zero]; (first | (go_simp; done) | (go_simp; with_reducible rfl)))); (try simp only [List.getElem_toArray, List.getElem_cons_zero, Act.put, List.setIfInBounds_toArray, List.set_cons_zero, List.set_cons_succ]))
        (refine wpAnyK_take (i := 1) (v := ?_) rfl rfl (by kernel_rfl) (by kernel_rfl) (by kernel_rfl) (by kernel_rfl) (fun _ _ _ h => h) (Or.inl ⟨by kernel_rfl, fun w0 hSw => ?_⟩) hHeld ?_; rotate_left; (focus ((try dsimp only at hSw); simp only [List.getElem_toArray, List.getElem_cons_zero, List.getElem_cons_succ]; (first | (go_simp; done) | (go_simp; with_reducible rfl)))); (try simp only [List.getElem_toArray, List.getElem_cons_zero, List.getElem_cons_succ, Act.put, List.setIfInBounds_toArray, List.set_cons_zero, List.set_cons_succ]))
        (refine wpAnyK_take (i := 2) (v := ?_) rfl rfl (by kernel_rfl) (by kernel_rfl) (by kernel_rfl) (by kernel_rfl) (fun _ _ _ h => h) (Or.inl ⟨by kernel_rfl, fun w0 hSw => ?_⟩) hHeld ?_; rotate_left; (focus ((try dsimp only at hSw); simp only [List.getElem_toArray, List.getElem_cons_zero, List.getElem_cons_succ]; (first | (go_simp; done) | (go_simp; with_reducible rfl)))); (try simp only [List.getElem_toArray, List.getElem_cons_zero, List.getElem_cons_succ, Act.put, List.setIfInBounds_toArray, List.set_cons_zero, List.set_cons_succ]))
        (refine wpAnyK_take (i := 3) (v := ?_) rfl rfl (by kernel_rfl) (by kernel_rfl) (by kernel_rfl) (by kernel_rfl) (fun _ _ _ h => h) (Or.inl ⟨by kernel_rfl, fun w0 hSw => ?_⟩) hHeld ?_; rotate_left; (focus ((try dsimp only at hSw); simp only [List.getElem_toArray, List.getElem_cons_zero, List.getElem_cons_succ]; (first | (go_simp; done) | (go_simp; with_reducible rfl)))); (try simp only [List.getElem_toArray, List.getElem_cons_zero, List.getElem_cons_succ, Act.put, List.setIfInBounds_toArray, List.set_cons_zero, List.set_cons_succ]))
        (refine wpAnyK_take (i := 4) (v := ?_) rfl rfl (by kernel_rfl) (by kernel_rfl) (by kernel_rfl) (by kernel_rfl) (fun _ _ _ h => h) (Or.inl ⟨by kernel_rfl, fun w0 hSw => ?_⟩) hHeld ?_; rotate_left; (focus ((try dsimp only at hSw); simp only [List.getElem_toArray, List.getElem_cons_zero, List.getElem_cons_succ]; (first | (go_simp; done) | (go_simp; with_reducible rfl)))); (try simp only [List.getElem_toArray, List.getElem_cons_zero, List.getElem_cons_succ, Act.put, List.setIfInBounds_toArray, List.set_cons_zero, List.set_cons_succ]))
        (refine wpAnyK_take (i := 5) (v := ?_) rfl rfl (by kernel_rfl) (by kernel_rfl) (by kernel_rfl) (by kernel_rfl) (fun _ _ _ h => h) (Or.inl ⟨by kernel_rfl, fun w0 hSw => ?_⟩) hHeld ?_; rotate_left; (focus ((try dsimp only at hSw); simp only [List.getElem_toArray, List.getElem_cons_zero, List.getElem_cons_succ]; (first | (go_simp; done) | (go_simp; with_reducible rfl)))); (try simp only [List.getElem_toArray, List.getElem_cons_zero, List.getElem_cons_succ, Act.put, List.setIfInBounds_toArray, List.set_cons_zero, List.set_cons_succ]))
        (refine wpAnyK_take (i := 6) (v := ?_) rfl rfl (by kernel_rfl) (by kernel_rfl) (by kernel_rfl) (by kernel_rfl) (fun _ _ _ h => h) (Or.inl ⟨by kernel_rfl, fun w0 hSw => ?_⟩) hHeld ?_; rotate_left; (focus ((try dsimp only at hSw); simp only [List.getElem_toArray, List.getElem_cons_zero, List.getElem_cons_succ]; (first | (go_simp; done) | (go_simp; with_reducible rfl)))); (try simp only [List.getElem_toArray, List.getElem_cons_zero, List.getElem_cons_succ, Act.put, List.setIfInBounds_toArray, List.set_cons_zero, List.set_cons_succ]))
        (refine wpAnyK_take (i := 7) (v := ?_) rfl rfl (by kernel_rfl) (by kernel_rfl) (by kernel_rfl) (by kernel_rfl) (fun _ _ _ h => h) (Or.inl ⟨by kernel_rfl, fun w0 hSw => ?_⟩) hHeld ?_; rotate_left; (focus ((try dsimp only at hSw); simp only [List.getElem_toArray, List.getElem_cons_zero, List.getElem_cons_succ]; (first | (go_simp; done) | (go_simp; with_reducible rfl)))); (try simp only [List.getElem_toArray, List.getElem_cons_zero, List.getElem_cons_succ, Act.put, List.setIfInBounds_toArray, List.set_cons_zero, List.set_cons_succ]))
        (refine wpAnyK_take (i := 8) (v := ?_) rfl rfl (by kernel_rfl) (by kernel_rfl) (by kernel_rfl) (by kernel_rfl) (fun _ _ _ h => h) (Or.inl ⟨by kernel_rfl, fun w0 hSw => ?_⟩) hHeld ?_; rotate_left; (focus ((try dsimp only at hSw); simp only [List.getElem_toArray, List.getElem_cons_zero, List.getElem_cons_succ]; (first | (go_simp; done) | (go_simp; with_reducible rfl)))); (try simp only [List.getElem_toArray, List.getElem_cons_zero, List.getElem_cons_succ, Act.put, List.setIfInBounds_toArray, List.set_cons_zero, List.set_cons_succ]))
        (refine wpAnyK_take (i := 9) (v := ?_) rfl rfl (by kernel_rfl) (by kernel_rfl) (by kernel_rfl) (by kernel_rfl) (fun _ _ _ h => h) (Or.inl ⟨by kernel_rfl, fun w0 hSw => ?_⟩) hHeld ?_; rotate_left; (focus ((try dsimp only at hSw); simp only [List.getElem_toArray, List.getElem_cons_zero, List.getElem_cons_succ]; (first | (go_simp; done) | (go_simp; with_reducible rfl)))); (try simp only [List.getElem_toArray, List.getElem_cons_zero, List.getElem_cons_succ, Act.put, List.setIfInBounds_toArray, List.set_cons_zero, List.set_cons_succ]))
        (refine wpAnyK_one (j := 10) (by kernel_rfl) rfl (fun K hK => ?_); (try simp only [List.getElem_toArray, List.getElem_cons_zero, List.getElem_cons_succ]))
        go_simp
        have hb1 := (Below.drew br).alloc hzd (.cells #[.int .i64 x.c, .int .i64 x.f, .int .i64 x.t] 43)
        refine hK.out _ _ (.inr (HS0.out _ hb1)) ?_
        clear hK K
        (try simp only [List.getElem_toArray, List.getElem_cons_zero, List.getElem_cons_succ, Act.put, List.setIfInBounds_toArray, List.set_cons_zero, List.set_cons_succ])
        (refine wpAnyK_one (j := 11) (by kernel_rfl) rfl (fun K hK => ?_); (try simp only [List.getElem_toArray, List.getElem_cons_zero, List.getElem_cons_succ]))
        rw [if_pos (by simp [Region.wanted])]
        have hOA : 0 < m.xs.length → ∃ b o, A5 = some ⟨b, o, none⟩ ∧ ∀ j, j < m.xs.length → OtgAt (wr.drew.alloc (.cells #[.int .i64 x.c, .int .i64 x.f, .int .i64 x.t] 43)) (wr.drew.alloc (.cells #[.int .i64 x.c, .int .i64 x.f, .int .i64 x.t] 43)).heap.size b (o + j * 3) (m.xs.getD j Otg.zero) := fun hp => by
          obtain ⟨b, o, h1, h2, h3⟩ := HA5.out hp
          exact ⟨b, o, h1, fun j hj => (h3 j hj).below (hb0.trans (hb1.mono hb0.size)) h2⟩
        obtain ⟨v', w', hrun, ⟨A6, c6, rfl⟩, hfresh, hb2⟩ := app_otg (wr.drew.alloc (.cells #[.int .i64 x.c, .int .i64 x.f, .int .i64 x.t] 43)) A5 m.xs x 29 wr.drew.heap.size 1 i0 HI43.out.1 HI43.out.2.1 HI43.out.2.2.1 HI43.out.2.2.2 hOA hxl (heap_alloc_last _ _)
        have b3 := hb1.trans (hb2.mono hb1.size)
        refine Lib.wp_append_run (wr.drew.alloc (.cells #[.int .i64 x.c, .int .i64 x.f, .int .i64 x.t] 43)) (.tmp 83) (.tmp 85) 29 29 rfl _ _ (by kernel_rfl) (by kernel_rfl) _ w' hrun ?_
        refine hK.out _ _ (.inr (HS0.out _ b3)) ?_
        clear hK K hHeld
        (try simp only [Act.put, List.setIfInBounds_toArray, List.set_cons_zero, List.set_cons_succ])
        (refine wpAnyK_one (j := 12) (by kernel_rfl) rfl (fun K hK => ?_); (try simp only [List.getElem_toArray, List.getElem_cons_zero, List.getElem_cons_succ]))
        go_simp
        refine hK.out _ _ (.inr (HS0.out _ b3)) ?_
        clear hK K
        (try simp only [List.getElem_toArray, List.getElem_cons_zero, List.getElem_cons_succ, Act.put, List.setIfInBounds_toArray, List.set_cons_zero, List.set_cons_succ])
        (refine wpAnyK_one (j := 13) (by kernel_rfl) rfl (fun K hK => ?_); (try simp only [List.getElem_toArray, List.getElem_cons_zero, List.getElem_cons_succ]))
        clear q0 q1 q2 q3 q4 q5 r0 r1 r2
        obtain ⟨q0, q1, q2, q3, q4, q5, r0, r1, r2⟩ := HS0.out w' b3
        have hlb : w.heap.size < w'.heap.size := by have := b3.size; omega
        have hfz : w'.frozen? ⟨w.heap.size, 4, none⟩ = false := HFZ.out w' b3
        go_simp
        refine hK.out _ _ (.inl rfl) ?_
        clear hK K
        refine wpAnyK_done (by kernel_rfl) ?_ _
        have hk9 := heap_set (i := 4) ((b3.block w.heap.size (by omega)).trans HK0.out) (.slice A6 (m.xs.length + 1) c6)
        have bT : Below w.heap.size w (w'.setCell ⟨w.heap.size, 4, none⟩ (.slice A6 (m.xs.length + 1) c6)) := (hb0.trans (b3.mono hb0.size)).setCell (p := ⟨w.heap.size, 4, none⟩) (Nat.le_refl _) _
        have hMX := (HI.out.below bT).more bT.size
        have hOX := hfresh (w'.setCell ⟨w.heap.size, 4, none⟩ (.slice A6 (m.xs.length + 1) c6)) (by simp [World.setCell]) (fun k hk _ => Below.heap_setCell w' ⟨w.heap.size, 4, none⟩ _ k (by show k ≠ w.heap.size; have := hb1.size; omega))
        generalize (w'.setCell ⟨w.heap.size, 4, none⟩ (.slice A6 (m.xs.length + 1) c6)) = W9 at *
        have M9 : MisAt W9 W9.heap.size (.slice A1 m.q.length c1) (.slice A2 m.cs.length c2) (.slice A3 m.os.length c3) (.slice A4 m.fs.length c4) (.slice A6 (m.xs.length + 1) c6) { m with xs := m.xs ++ [x] } := ⟨hMX.q, hMX.c, hMX.o, hMX.f, hOX⟩
        simp only [List.setIfInBounds_toArray, List.set_cons_zero, List.set_cons_succ] at hk9
        clear q0 q1 q2 q3 q4 q5 r0 r1 r2 hMX hOX hfresh hrun hfz hlb
        have p0 := cell_blk hk9 0
        have p1 := cell_blk hk9 1
        have p2 := cell_blk hk9 2
        have p3 := cell_blk hk9 3
        have p4 := cell_blk hk9 4
        have p5 := cell_blk hk9 5
        simp only [List.getElem?_toArray, List.getElem?_cons_zero, List.getElem?_cons_succ] at p0 p1 p2 p3 p4 p5
        have hl9 := blk_lt hk9
        obtain ⟨mm, hmm⟩ : ∃ mm : Mis, mm = { m with xs := m.xs ++ [x] } := ⟨_, rfl⟩
        have HPR := print_any (.slice A1 m.q.length c1) (.slice A2 m.cs.length c2) (.slice A3 m.os.length c3) (.slice A4 m.fs.length c4) (.slice A6 (m.xs.length + 1) c6) mm W9 (by rw [hmm]; exact M9) (glob_on HG.out bT)
        rw [show mm.bd = true by rw [hmm]; exact hbd] at HPR
        have HPQ := Lib.hid HPR
        have HMM := Lib.hid hmm
        clear HPR hmm
        go_wp2_with fail
        refine HPQ.out.mono ?_
        rw [HMM.out]
        by_cases hE : misE { m with xs := m.xs ++ [x] } = 0
        rotate_left
        · rw [show printR { m with xs := m.xs ++ [x] } = (⟨#[]⟩, 1) from if_pos hE]
          clear hE
          rintro e w2 ⟨rfl, hb2⟩
          have b2 := bT.trans (hb2.mono bT.size)
          clear hb2
          go_wp2_with fail
          refine (awake_any w2 (glob_on HG.out b2)).mono ?_
          rintro e wz ⟨rfl, hbz⟩
          have hBz := b2.trans (hbz.mono b2.size)
          clear hbz
          go_wp2_with fail
          go_ret
          exact ⟨rfl, hBz⟩
        by_cases hL : 8192 < (printL { m with xs := m.xs ++ [x] }).length
        · rw [show printR { m with xs := m.xs ++ [x] } = (⟨#[]⟩, 4) by rw [printR, if_neg (by simp [hE]), if_pos hL]]
          clear hE hL
          rintro e w2 ⟨rfl, hb2⟩
          have b2 := bT.trans (hb2.mono bT.size)
          clear hb2
          go_wp2_with fail
          refine (awake_any w2 (glob_on HG.out b2)).mono ?_
          rintro e wz ⟨rfl, hbz⟩
          have hBz := b2.trans (hbz.mono b2.size)
          clear hbz
          go_wp2_with fail
          go_ret
          exact ⟨rfl, hBz⟩
        rw [show printR { m with xs := m.xs ++ [x] } = (⟨(printL { m with xs := m.xs ++ [x] }).toArray⟩, 0) by rw [printR, if_neg (by simp [hE]), if_neg hL]]
        have hok2 := mis_ok hE
        have hInR : InR [x.c, x.f, x.t] := hok2.x.2 x (by simp)
        have HP : Hid (Lib.hasPrefix (⟨(printL { m with xs := m.xs ++ [x] }).toArray⟩ : ByteArray).data.toList ((⟨(linesL (headI m)).toArray⟩ : ByteArray) ++ ⟨#[111, 117, 116, 97, 103, 101, 32]⟩).data.toList = true) := by
          show _ = _
          have e : ((⟨(linesL (headI m)).toArray⟩ : ByteArray) ++ ⟨#[111, 117, 116, 97, 103, 101, 32]⟩).data.toList = linesL (headI m) ++ [111, 117, 116, 97, 103, 101, 32] := by simp
          rw [e]; exact more_prefix m x
        have HSx : Hid (Lib.hasSuffix (⟨(printL { m with xs := m.xs ++ [x] }).toArray⟩ : ByteArray).data.toList (⟨#[98, 111, 117, 110, 100, 101, 100, 10]⟩ : ByteArray).data.toList = true) := by
          show _ = _
          have e8 : (⟨#[98, 111, 117, 110, 100, 101, 100, 10]⟩ : ByteArray).data.toList = tailL m := by unfold tailL; rw [hbd]; rfl
          rw [e8]; exact more_suffix m x
        have HCt : Hid (Lib.countB ((⟨(printL { m with xs := m.xs ++ [x] }).toArray⟩ : ByteArray).extract (⟨(linesL (headI m)).toArray⟩ : ByteArray).size (⟨(printL { m with xs := m.xs ++ [x] }).toArray⟩ : ByteArray).size) ⟨#[10]⟩ = 1 + 8 / 8) := by
          show Lib.count _ [10] = _
          rw [Lib.count_one, Lib.extract_to_end]
          have h1 := more_count (m := m) hInR
          have e8 : (tailL m).length = 8 := by unfold tailL; rw [hbd]; rfl
          rw [e8] at h1
          exact h1
        have hTs : (⟨(printL { m with xs := m.xs ++ [x] }).toArray⟩ : ByteArray).size ≤ 8192 := by show (printL _).length ≤ _; omega
        have hS2 : (⟨(linesL (headI m)).toArray⟩ : ByteArray).size ≤ (⟨(printL { m with xs := m.xs ++ [x] }).toArray⟩ : ByteArray).size := by
          show (linesL (headI m)).length ≤ (printL { m with xs := m.xs ++ [x] }).length
          rw [print_more, List.length_append]; omega
        have HTQ : Hid ((⟨(Lib.trimSuffix S.data.toList (⟨#[98, 111, 117, 110, 100, 101, 100, 10]⟩ : ByteArray).data.toList).toArray⟩ : ByteArray) = ⟨(linesL (headI m)).toArray⟩) := by
          show _ = _
          have e8 : (⟨#[98, 111, 117, 110, 100, 101, 100, 10]⟩ : ByteArray).data.toList = tailL m := by unfold tailL; rw [hbd]; rfl
          rw [e8, HTR.out]
        clear hE hL hok2 hInR
        generalize (⟨(printL { m with xs := m.xs ++ [x] }).toArray⟩ : ByteArray) = T at *
        generalize (⟨(linesL (headI m)).toArray⟩ : ByteArray) = S2 at *
        rintro e w2 ⟨rfl, hb2⟩
        have b2 := bT.trans (hb2.mono bT.size)
        have p5 := (hb2.cell (p := ⟨w.heap.size, 5, none⟩) hl9).trans p5
        have hl2 : w.heap.size < w2.heap.size := Nat.lt_of_lt_of_le hl9 hb2.size
        have hgm := (glob_on HG.out b2).1
        obtain ⟨my, hmy⟩ := hgm
        clear hb2 p0 p1 p2 p3 p4
        go_wp2_with fail
        refine (Tryz.strings_TrimSuffix S ⟨#[98, 111, 117, 110, 100, 101, 100, 10]⟩ w2 (by omega)).mono ?_
        rintro e w3 ⟨rfl, rfl⟩
        rw [HTQ.out]
        go_wp2_with fail
        refine (Tryz.strings_HasPrefix T _ w3).mono ?_
        rintro e w4 ⟨rfl, rfl⟩
        rw [HP.out]
        go_wp2_with fail
        refine (Tryz.strings_HasSuffix T ⟨#[98, 111, 117, 110, 100, 101, 100, 10]⟩ w4 (by omega)).mono ?_
        rintro e w5 ⟨rfl, rfl⟩
        rw [HSx.out]
        go_wp2_with fail
        refine (Tryz.strings_Count_any _ ⟨#[10]⟩ my w5 (by rw [ByteArray.size_extract]; omega) hmy (by decide)).mono ?_
        rintro e w6 ⟨rfl, rfl⟩
        rw [HCt.out]
        go_wp2_with fail
        refine (awake_any w6 (glob_on HG.out b2)).mono ?_
        rintro e wz ⟨rfl, hbz⟩
        have hBz := b2.trans (hbz.mono b2.size)
        clear hbz
        go_wp2_with fail
        go_ret
        exact ⟨rfl, hBz⟩
end Go.Proofs.YtmcgddlblhinlaaGreatDoor

/- The law: NetworkMissions (3). -/
import Derived.Test.YtclkjjdfdndplaaGreatDoorA11
import Derived.Test.YtclkjjdfdndplaaGreatDoorB5
import Derived.Test.YtclkjjdfdndplaaGreatDoorH20
import Derived.Test.YtclkjjdfdndplaaGreatDoorMh
namespace Go.Proofs.YtclkjjdfdndplaaGreatDoor
open Go.RowKit
set_option maxRecDepth 100000 in
set_option maxHeartbeats 16000000 in
theorem law_good (VQ VC VO VF VX : Value) (m : Mis) (w : World) (hM : MisAt w w.heap.size VQ VC VO VF VX m) (hw : 3 ≤ w.heap.size) (hE : misE m = 0) : Calls Tryz.prog 3 #[.agg #[VQ, VC, VO, VF, VX, .bool m.bd]] w fun e w' => e = .returned (.bool true) ∧ Below w.heap.size w w' := by
  have HM := Lib.hid hM
  obtain ⟨⟨A1, c1, rfl, -⟩, ⟨A2, c2, rfl, -⟩, ⟨A3, c3, rfl, -⟩, ⟨A4, c4, rfl, -⟩, ⟨A5, c5, rfl, -⟩⟩ := hM
  go_enter Tryz.func3, Tryz.ntmps3
  go_wp2_with fail
  have hbw : Below w.heap.size w (w.alloc (.cells #[.slice A1 m.q.length c1, .slice A2 m.cs.length c2, .slice A3 m.os.length c3, .slice A4 m.fs.length c4, .slice A5 m.xs.length c5, .bool m.bd] 30)) := by (repeat' (first | (with_reducible exact Below.refl _ _) | (with_reducible refine Below.alloc ?_ ?_ _) | (with_reducible refine Below.drew ?_) | (with_reducible refine below_drewN ?_ _) | (with_reducible refine Below.setCell ?_ ?_ _) | (with_reducible refine Below.trans ?_ (Below.mono (by assumption) ?_)) | (with_reducible exact Nat.le_refl _) | omega | (simp; omega) | (simp; done)))
  have RW00 := Lib.hid (heap_alloc_last w (.cells #[.slice A1 m.q.length c1, .slice A2 m.cs.length c2, .slice A3 m.os.length c3, .slice A4 m.fs.length c4, .slice A5 m.xs.length c5, .bool m.bd] 30))
  have hlt0 : w.heap.size < (w.alloc (.cells #[.slice A1 m.q.length c1, .slice A2 m.cs.length c2, .slice A3 m.os.length c3, .slice A4 m.fs.length c4, .slice A5 m.xs.length c5, .bool m.bd] 30)).heap.size := by simp
  generalize w.alloc (.cells #[.slice A1 m.q.length c1, .slice A2 m.cs.length c2, .slice A3 m.os.length c3, .slice A4 m.fs.length c4, .slice A5 m.xs.length c5, .bool m.bd] 30) = v0 at *
  have HX : Hid (∀ W, Below v0.heap.size v0 W → W.cell? ⟨w.heap.size, 0, none⟩ = some (.slice A1 m.q.length c1) ∧ W.cell? ⟨w.heap.size, 1, none⟩ = some (.slice A2 m.cs.length c2) ∧ W.cell? ⟨w.heap.size, 2, none⟩ = some (.slice A3 m.os.length c3) ∧ W.cell? ⟨w.heap.size, 3, none⟩ = some (.slice A4 m.fs.length c4) ∧ W.cell? ⟨w.heap.size, 4, none⟩ = some (.slice A5 m.xs.length c5) ∧ W.cell? ⟨w.heap.size, 5, none⟩ = some (.bool m.bd)) := fun W h => by
    have e : ∀ i, W.cell? ⟨w.heap.size, i, none⟩ = (#[.slice A1 m.q.length c1, .slice A2 m.cs.length c2, .slice A3 m.os.length c3, .slice A4 m.fs.length c4, .slice A5 m.xs.length c5, .bool m.bd] : Array Value)[i]? := fun i => (h.cell (p := ⟨w.heap.size, i, none⟩) hlt0).trans (Eng.World.cell_of RW00.out i)
    exact ⟨(e 0).trans rfl, (e 1).trans rfl, (e 2).trans rfl, (e 3).trans rfl, (e 4).trans rfl, (e 5).trans rfl⟩
  have HM0 := Lib.hid (HM.out.on hbw)
  refine (great24 _ _ _ _ _ m v0 HM0.out).mono ?_
  rintro e w1 ⟨⟨b, rfl⟩, hb1⟩
  obtain ⟨x0, x1, x2, x3, x4, x5⟩ := HX.out w1 hb1
  cases b with
  | true =>
    have hB1 : Below w.heap.size w w1 := hbw.trans (hb1.mono (by omega))
    go_wp2_with fail
    refine (top_any w1 (Nat.le_trans hw hB1.size)).mono ?_
    rintro e w2 ⟨rfl, hb2⟩
    go_wp2_with fail
    go_ret
    exact ⟨rfl, hB1.trans (hb2.mono hB1.size)⟩
  | false =>
  have HM1 := Lib.hid (HM0.out.on hb1)
  go_wp2_with fail
  have HEQ := Lib.hid hE
  refine (new_ok _ _ _ _ _ m w1 HM1.out hE).mono ?_
  rintro e w2 ⟨VN, VE, VA, rfl, hN, hI, hV, hb2⟩
  obtain ⟨AN, cN, rfl, -⟩ : ∃ A c, VN = .slice A m.q.length c ∧ True := by obtain ⟨A, c, e, -⟩ := hN; exact ⟨A, c, e, trivial⟩
  obtain ⟨AE, cE, rfl, -⟩ : ∃ A c, VE = .slice A m.q.length c ∧ True := by obtain ⟨A, c, e, -⟩ := hI; rw [List.length_replicate] at e; exact ⟨A, c, e, trivial⟩
  obtain ⟨AA, cA, rfl, -⟩ : ∃ A c, VA = .slice A (agL m).length c ∧ True := by obtain ⟨A, c, e, -⟩ := hV; exact ⟨A, c, e, trivial⟩
  dsimp only [netV]
  have h2 := bt hb1 hb2
  have hz2 := hb2.size
  clear x0 x1 x2 x3 x4 x5
  obtain ⟨x0, x1, x2, x3, x4, x5⟩ := HX.out (w2.alloc (.cells #[.slice A1 m.q.length c1, .slice A2 m.cs.length c2, .slice A3 m.os.length c3, .slice A4 m.fs.length c4, .slice A5 m.xs.length c5, .bool m.bd, .int .i64 0, .int .i64 0, .slice A1 m.q.length c1, .slice A2 m.cs.length c2, .slice none 0 0, .slice none 0 0, .slice AN m.q.length cN, .slice AE m.q.length cE, .slice none 0 0, .slice AA (agL m).length cA, .slice none 0 0] 42)) (h2.alloc h2.size _)
  go_wp2_with fail
  have h3 : Below v0.heap.size v0 (w2.alloc (.cells #[.slice A1 m.q.length c1, .slice A2 m.cs.length c2, .slice A3 m.os.length c3, .slice A4 m.fs.length c4, .slice A5 m.xs.length c5, .bool m.bd, .int .i64 0, .int .i64 0, .slice A1 m.q.length c1, .slice A2 m.cs.length c2, .slice none 0 0, .slice none 0 0, .slice AN m.q.length cN, .slice AE m.q.length cE, .slice none 0 0, .slice AA (agL m).length cA, .slice none 0 0] 42)) := h2.alloc h2.size _
  have RW1 := Lib.hid (heap_alloc_last w2 (.cells #[.slice A1 m.q.length c1, .slice A2 m.cs.length c2, .slice A3 m.os.length c3, .slice A4 m.fs.length c4, .slice A5 m.xs.length c5, .bool m.bd, .int .i64 0, .int .i64 0, .slice A1 m.q.length c1, .slice A2 m.cs.length c2, .slice none 0 0, .slice none 0 0, .slice AN m.q.length cN, .slice AE m.q.length cE, .slice none 0 0, .slice AA (agL m).length cA, .slice none 0 0] 42))
  have h23 : Below w2.heap.size w2 (w2.alloc (.cells #[.slice A1 m.q.length c1, .slice A2 m.cs.length c2, .slice A3 m.os.length c3, .slice A4 m.fs.length c4, .slice A5 m.xs.length c5, .bool m.bd, .int .i64 0, .int .i64 0, .slice A1 m.q.length c1, .slice A2 m.cs.length c2, .slice none 0 0, .slice none 0 0, .slice AN m.q.length cN, .slice AE m.q.length cE, .slice none 0 0, .slice AA (agL m).length cA, .slice none 0 0] 42)) := (Below.refl _ _).alloc (Nat.le_refl _) _
  have hs3 : (w2.alloc (.cells #[.slice A1 m.q.length c1, .slice A2 m.cs.length c2, .slice A3 m.os.length c3, .slice A4 m.fs.length c4, .slice A5 m.xs.length c5, .bool m.bd, .int .i64 0, .int .i64 0, .slice A1 m.q.length c1, .slice A2 m.cs.length c2, .slice none 0 0, .slice none 0 0, .slice AN m.q.length cN, .slice AE m.q.length cE, .slice none 0 0, .slice AA (agL m).length cA, .slice none 0 0] 42)).heap.size = w2.heap.size + 1 := by simp
  clear x0 x1 x2 x3 x4 x5
  generalize w2.alloc (.cells #[.slice A1 m.q.length c1, .slice A2 m.cs.length c2, .slice A3 m.os.length c3, .slice A4 m.fs.length c4, .slice A5 m.xs.length c5, .bool m.bd, .int .i64 0, .int .i64 0, .slice A1 m.q.length c1, .slice A2 m.cs.length c2, .slice none 0 0, .slice none 0 0, .slice AN m.q.length cN, .slice AE m.q.length cE, .slice none 0 0, .slice AA (agL m).length cA, .slice none 0 0] 42) = v3 at *
  have HM3 := Lib.hid (HM0.out.on h3)
  have HN3 := Lib.hid ((hN.below h23).more h23.size)
  have HI3 := Lib.hid ((hI.below h23).more h23.size)
  have HV3 := Lib.hid ((hV.below h23).more h23.size)
  clear hN hI hV
  refine (rnew_ok _ _ _ _ _ m v3 HM3.out hE).mono ?_
  rintro e w4 ⟨UN, UE, UA, rfl, hN, hI, hV, hb4⟩
  obtain ⟨BN, dN, rfl, -⟩ : ∃ A c, UN = .slice A m.q.length c ∧ True := by obtain ⟨A, c, e, -⟩ := hN; exact ⟨A, c, e, trivial⟩
  obtain ⟨BE, dE, rfl, -⟩ : ∃ A c, UE = .slice A m.q.length c ∧ True := by obtain ⟨A, c, e, -⟩ := hI; rw [List.length_replicate] at e; exact ⟨A, c, e, trivial⟩
  obtain ⟨BA, dA, rfl, -⟩ : ∃ A c, UA = .slice A (agL m).length c ∧ True := by obtain ⟨A, c, e, -⟩ := hV; exact ⟨A, c, e, trivial⟩
  dsimp only [netV]
  have h4 := bt h3 hb4
  have hz4 := hb4.size
  go_wp2_with fail
  have h5 : Below v0.heap.size v0 (w4.alloc (.cells #[.slice A1 m.q.length c1, .slice A2 m.cs.length c2, .slice A3 m.os.length c3, .slice A4 m.fs.length c4, .slice A5 m.xs.length c5, .bool m.bd, .int .i64 0, .int .i64 0, .slice A1 m.q.length c1, .slice A2 m.cs.length c2, .slice none 0 0, .slice none 0 0, .slice BN m.q.length dN, .slice BE m.q.length dE, .slice none 0 0, .slice BA (agL m).length dA, .slice none 0 0] 42)) := h4.alloc h4.size _
  have RW2 := Lib.hid (heap_alloc_last w4 (.cells #[.slice A1 m.q.length c1, .slice A2 m.cs.length c2, .slice A3 m.os.length c3, .slice A4 m.fs.length c4, .slice A5 m.xs.length c5, .bool m.bd, .int .i64 0, .int .i64 0, .slice A1 m.q.length c1, .slice A2 m.cs.length c2, .slice none 0 0, .slice none 0 0, .slice BN m.q.length dN, .slice BE m.q.length dE, .slice none 0 0, .slice BA (agL m).length dA, .slice none 0 0] 42))
  have h45 : Below w4.heap.size w4 (w4.alloc (.cells #[.slice A1 m.q.length c1, .slice A2 m.cs.length c2, .slice A3 m.os.length c3, .slice A4 m.fs.length c4, .slice A5 m.xs.length c5, .bool m.bd, .int .i64 0, .int .i64 0, .slice A1 m.q.length c1, .slice A2 m.cs.length c2, .slice none 0 0, .slice none 0 0, .slice BN m.q.length dN, .slice BE m.q.length dE, .slice none 0 0, .slice BA (agL m).length dA, .slice none 0 0] 42)) := (Below.refl _ _).alloc (Nat.le_refl _) _
  have RW15 := Lib.hid ((h45.block w2.heap.size (by omega)).trans ((hb4.block w2.heap.size (by omega)).trans RW1.out))
  have hs5 : (w4.alloc (.cells #[.slice A1 m.q.length c1, .slice A2 m.cs.length c2, .slice A3 m.os.length c3, .slice A4 m.fs.length c4, .slice A5 m.xs.length c5, .bool m.bd, .int .i64 0, .int .i64 0, .slice A1 m.q.length c1, .slice A2 m.cs.length c2, .slice none 0 0, .slice none 0 0, .slice BN m.q.length dN, .slice BE m.q.length dE, .slice none 0 0, .slice BA (agL m).length dA, .slice none 0 0] 42)).heap.size = w4.heap.size + 1 := by simp
  clear RW1
  generalize w4.alloc (.cells #[.slice A1 m.q.length c1, .slice A2 m.cs.length c2, .slice A3 m.os.length c3, .slice A4 m.fs.length c4, .slice A5 m.xs.length c5, .bool m.bd, .int .i64 0, .int .i64 0, .slice A1 m.q.length c1, .slice A2 m.cs.length c2, .slice none 0 0, .slice none 0 0, .slice BN m.q.length dN, .slice BE m.q.length dE, .slice none 0 0, .slice BA (agL m).length dA, .slice none 0 0] 42) = v5 at *
  have RW0 := Lib.hid ((h5.block w.heap.size hlt0).trans RW00.out)
  have hz0 := h2.size
  have HM5 := Lib.hid (HM0.out.on h5)
  have h35 : Below v3.heap.size v3 v5 := hb4.trans (h45.mono hz4)
  have HN5 := Lib.hid ((HN3.out.below h35).more h35.size)
  have HI5 := Lib.hid ((HI3.out.below h35).more h35.size)
  have HV5 := Lib.hid ((HV3.out.below h35).more h35.size)
  have HN6 := Lib.hid ((hN.below h45).more h45.size)
  have HI6 := Lib.hid ((hI.below h45).more h45.size)
  have HV6 := Lib.hid ((hV.below h45).more h45.size)
  clear hN hI hV HN3 HI3 HV3
  have g0 : ∀ W, Below v5.heap.size v5 W → W.rangeAt w.heap.size 0 (#[.slice A1 m.q.length c1, .slice A2 m.cs.length c2, .slice A3 m.os.length c3, .slice A4 m.fs.length c4, .slice A5 m.xs.length c5, .bool m.bd] : Array Value).toList := fun W h j v hv => by
    have e : W.heap[w.heap.size]? = _ := (h.block w.heap.size (by omega)).trans RW0.out
    rw [Nat.zero_add, cell_blk e]
    match j, hv with
    | 0, hv => simpa using hv
    | 1, hv => simpa using hv
    | 2, hv => simpa using hv
    | 3, hv => simpa using hv
    | 4, hv => simpa using hv
    | 5, hv => simpa using hv
    | n + 6, hv => simp at hv
  have g1 : ∀ W, Below v5.heap.size v5 W → W.rangeAt w2.heap.size 0 (#[.slice A1 m.q.length c1, .slice A2 m.cs.length c2, .slice A3 m.os.length c3, .slice A4 m.fs.length c4, .slice A5 m.xs.length c5, .bool m.bd, .int .i64 0, .int .i64 0, .slice A1 m.q.length c1, .slice A2 m.cs.length c2, .slice none 0 0, .slice none 0 0, .slice AN m.q.length cN, .slice AE m.q.length cE, .slice none 0 0, .slice AA (agL m).length cA, .slice none 0 0] : Array Value).toList := fun W h j v hv => by
    have e : W.heap[w2.heap.size]? = _ := (h.block w2.heap.size (by omega)).trans RW15.out
    rw [Nat.zero_add, cell_blk e]
    match j, hv with
    | 0, hv => simpa using hv
    | 1, hv => simpa using hv
    | 2, hv => simpa using hv
    | 3, hv => simpa using hv
    | 4, hv => simpa using hv
    | 5, hv => simpa using hv
    | 6, hv => simpa using hv
    | 7, hv => simpa using hv
    | 8, hv => simpa using hv
    | 9, hv => simpa using hv
    | 10, hv => simpa using hv
    | 11, hv => simpa using hv
    | 12, hv => simpa using hv
    | 13, hv => simpa using hv
    | 14, hv => simpa using hv
    | 15, hv => simpa using hv
    | 16, hv => simpa using hv
    | n + 17, hv => simp at hv
  have g2 : ∀ W, Below v5.heap.size v5 W → W.rangeAt w4.heap.size 0 (#[.slice A1 m.q.length c1, .slice A2 m.cs.length c2, .slice A3 m.os.length c3, .slice A4 m.fs.length c4, .slice A5 m.xs.length c5, .bool m.bd, .int .i64 0, .int .i64 0, .slice A1 m.q.length c1, .slice A2 m.cs.length c2, .slice none 0 0, .slice none 0 0, .slice BN m.q.length dN, .slice BE m.q.length dE, .slice none 0 0, .slice BA (agL m).length dA, .slice none 0 0] : Array Value).toList := fun W h j v hv => by
    have e : W.heap[w4.heap.size]? = _ := (h.block w4.heap.size (by omega)).trans RW2.out
    rw [Nat.zero_add, cell_blk e]
    match j, hv with
    | 0, hv => simpa using hv
    | 1, hv => simpa using hv
    | 2, hv => simpa using hv
    | 3, hv => simpa using hv
    | 4, hv => simpa using hv
    | 5, hv => simpa using hv
    | 6, hv => simpa using hv
    | 7, hv => simpa using hv
    | 8, hv => simpa using hv
    | 9, hv => simpa using hv
    | 10, hv => simpa using hv
    | 11, hv => simpa using hv
    | 12, hv => simpa using hv
    | 13, hv => simpa using hv
    | 14, hv => simpa using hv
    | 15, hv => simpa using hv
    | 16, hv => simpa using hv
    | n + 17, hv => simp at hv
  refine wp_region_held_drew (S := fun w' => Below v5.heap.size v5 w') (by kernel_rfl) (Below.drew (Below.refl _ _)) (fun hHeld => ?_)
  refine wpAnyH_take (i := 0) (v := .agg #[.slice A1 m.q.length c1, .slice A2 m.cs.length c2, .slice A3 m.os.length c3, .slice A4 m.fs.length c4, .slice A5 m.xs.length c5, .bool m.bd]) rfl (by kernel_rfl) (by kernel_rfl) (by kernel_rfl) (fun _ _ _ h => h) (yieldsIf_load_mid (by kernel_rfl) 30 (.tmp 1) rfl w.heap.size 0 rfl (#[.slice A1 m.q.length c1, .slice A2 m.cs.length c2, .slice A3 m.os.length c3, .slice A4 m.fs.length c4, .slice A5 m.xs.length c5, .bool m.bd] : Array Value).toList _ (fun W h => g0 W h) Tryz.underlying30 rfl (by kernel_rfl)) hHeld ?_
  (try simp only [List.getElem_toArray, List.getElem_cons_zero, Act.put, List.setIfInBounds_toArray, List.set_cons_zero, List.set_cons_succ])
  refine wpAnyH_take (i := 2) (v := .agg #[.slice A1 m.q.length c1, .slice A2 m.cs.length c2, .slice A3 m.os.length c3, .slice A4 m.fs.length c4, .slice A5 m.xs.length c5, .bool m.bd]) rfl (by kernel_rfl) (by kernel_rfl) (by kernel_rfl) (fun _ _ _ h => h) (yieldsIf_load_mid (by kernel_rfl) 30 (.tmp 1) rfl w.heap.size 0 rfl (#[.slice A1 m.q.length c1, .slice A2 m.cs.length c2, .slice A3 m.os.length c3, .slice A4 m.fs.length c4, .slice A5 m.xs.length c5, .bool m.bd] : Array Value).toList _ (fun W h => g0 W h) Tryz.underlying30 rfl (by kernel_rfl)) hHeld ?_
  (try simp only [List.getElem_toArray, List.getElem_cons_zero, List.getElem_cons_succ, Act.put, List.setIfInBounds_toArray, List.set_cons_zero, List.set_cons_succ])
  refine wpAnyH_ready (rs := [1]) (by kernel_rfl) (by simp) ?_
  refine AllReadyH.cons rfl (fun K hK => ?_) AllReadyH.nil
  simp only [List.getElem_toArray, List.getElem_cons_zero, List.getElem_cons_succ]
  go_simp
  have k6 : Below v5.heap.size v5 v5.drew := Below.drew (Below.refl _ _)
  refine (mis_any _ _ _ _ _ m v5.drew (HM5.out.on k6)).mono ?_
  rintro e w7 ⟨rfl, hb7⟩
  have k7 : Below v5.heap.size v5 w7 := k6.trans hb7
  go_wp2_with fail
  refine hK.out _ _ k7 (fun hH2 => ?_)
  clear hK K hHeld
  have hHeld := hH2
  clear hH2
  (try simp only [List.getElem_toArray, List.getElem_cons_zero, List.getElem_cons_succ, Act.put, List.setIfInBounds_toArray, List.set_cons_zero, List.set_cons_succ])
  refine wpAnyH_ready (rs := [3]) (by kernel_rfl) (by simp) ?_
  refine AllReadyH.cons rfl (fun K hK => ?_) AllReadyH.nil
  simp only [List.getElem_toArray, List.getElem_cons_zero, List.getElem_cons_succ]
  go_simp
  refine (rmis_any _ _ _ _ _ m w7 (HM5.out.on k7)).mono ?_
  rintro e w8 ⟨rfl, hb8⟩
  have k8 : Below v5.heap.size v5 w8 := k7.trans (hb8.mono k7.size)
  go_wp2_with fail
  refine hK.out _ _ k8 (fun hH2 => ?_)
  clear hK K hHeld
  have hHeld := hH2
  clear hH2
  (try simp only [List.getElem_toArray, List.getElem_cons_zero, List.getElem_cons_succ, Act.put, List.setIfInBounds_toArray, List.set_cons_zero, List.set_cons_succ])
  (try rw [HEQ.out])
  (refine wpAnyH_take (i := 4) (v := ?_) rfl (by kernel_rfl) (by kernel_rfl) (by kernel_rfl) (fun _ _ _ h => h) (Or.inl ⟨by kernel_rfl, fun w0 hSw => ?_⟩) hHeld ?_; rotate_left; (focus ((try dsimp only at hSw); simp only [List.getElem_toArray, List.getElem_cons_zero, List.getElem_cons_succ]; (first | (go_simp; done) | (go_simp; with_reducible rfl)))); (try simp only [List.getElem_toArray, List.getElem_cons_zero, List.getElem_cons_succ, Act.put, List.setIfInBounds_toArray, List.set_cons_zero, List.set_cons_succ]))
  (refine wpAnyH_take (i := 5) (v := ?_) rfl (by kernel_rfl) (by kernel_rfl) (by kernel_rfl) (fun _ _ _ h => h) (Or.inl ⟨by kernel_rfl, fun w0 hSw => ?_⟩) hHeld ?_; rotate_left; (focus ((try dsimp only at hSw); simp only [List.getElem_toArray, List.getElem_cons_zero, List.getElem_cons_succ]; (first | (go_simp; done) | (go_simp; with_reducible rfl)))); (try simp only [List.getElem_toArray, List.getElem_cons_zero, List.getElem_cons_succ, Act.put, List.setIfInBounds_toArray, List.set_cons_zero, List.set_cons_succ]))
  refine wpAnyH_take (i := 6) (v := .agg #[.slice A1 m.q.length c1, .slice A2 m.cs.length c2, .slice A3 m.os.length c3, .slice A4 m.fs.length c4, .slice A5 m.xs.length c5, .bool m.bd, .int .i64 0, .int .i64 0, .slice A1 m.q.length c1, .slice A2 m.cs.length c2, .slice none 0 0, .slice none 0 0, .slice AN m.q.length cN, .slice AE m.q.length cE, .slice none 0 0, .slice AA (agL m).length cA, .slice none 0 0]) rfl (by kernel_rfl) (by kernel_rfl) (by kernel_rfl) (fun _ _ _ h => h) (yieldsIf_load_mid (by kernel_rfl) 42 (.tmp 3) rfl w2.heap.size 0 rfl (#[.slice A1 m.q.length c1, .slice A2 m.cs.length c2, .slice A3 m.os.length c3, .slice A4 m.fs.length c4, .slice A5 m.xs.length c5, .bool m.bd, .int .i64 0, .int .i64 0, .slice A1 m.q.length c1, .slice A2 m.cs.length c2, .slice none 0 0, .slice none 0 0, .slice AN m.q.length cN, .slice AE m.q.length cE, .slice none 0 0, .slice AA (agL m).length cA, .slice none 0 0] : Array Value).toList _ (fun W h => g1 W h) Tryz.underlying42 rfl (by kernel_rfl)) hHeld ?_
  (try simp only [List.getElem_toArray, List.getElem_cons_zero, List.getElem_cons_succ, Act.put, List.setIfInBounds_toArray, List.set_cons_zero, List.set_cons_succ])
  refine wpAnyH_take (i := 7) (v := .agg #[.slice A1 m.q.length c1, .slice A2 m.cs.length c2, .slice A3 m.os.length c3, .slice A4 m.fs.length c4, .slice A5 m.xs.length c5, .bool m.bd, .int .i64 0, .int .i64 0, .slice A1 m.q.length c1, .slice A2 m.cs.length c2, .slice none 0 0, .slice none 0 0, .slice BN m.q.length dN, .slice BE m.q.length dE, .slice none 0 0, .slice BA (agL m).length dA, .slice none 0 0]) rfl (by kernel_rfl) (by kernel_rfl) (by kernel_rfl) (fun _ _ _ h => h) (yieldsIf_load_mid (by kernel_rfl) 42 (.tmp 5) rfl w4.heap.size 0 rfl (#[.slice A1 m.q.length c1, .slice A2 m.cs.length c2, .slice A3 m.os.length c3, .slice A4 m.fs.length c4, .slice A5 m.xs.length c5, .bool m.bd, .int .i64 0, .int .i64 0, .slice A1 m.q.length c1, .slice A2 m.cs.length c2, .slice none 0 0, .slice none 0 0, .slice BN m.q.length dN, .slice BE m.q.length dE, .slice none 0 0, .slice BA (agL m).length dA, .slice none 0 0] : Array Value).toList _ (fun W h => g2 W h) Tryz.underlying42 rfl (by kernel_rfl)) hHeld ?_
  (try simp only [List.getElem_toArray, List.getElem_cons_zero, List.getElem_cons_succ, Act.put, List.setIfInBounds_toArray, List.set_cons_zero, List.set_cons_succ])
  refine wpAnyH_ready (rs := [8]) (by kernel_rfl) (by simp) ?_
  refine AllReadyH.cons rfl (fun K hK => ?_) AllReadyH.nil
  simp only [List.getElem_toArray, List.getElem_cons_zero, List.getElem_cons_succ]
  go_simp
  have hsm := (same10 _ _ _ _ _ _ _ _ _ _ _ m (agL m) w8 (HM5.out.on k8) ((HN5.out.below k8).more k8.size) ((HN6.out.below k8).more k8.size) ((HI5.out.below k8).more k8.size) ((HI6.out.below k8).more k8.size) ((HV5.out.below k8).more k8.size) ((HV6.out.below k8).more k8.size))
  simp only [netV] at hsm
  refine hsm.mono ?_
  rintro e w9 ⟨rfl, hb9⟩
  have k9 : Below v5.heap.size v5 w9 := k8.trans (hb9.mono k8.size)
  clear hsm
  go_wp2_with fail
  refine hK.out _ _ k9 (fun hH2 => ?_)
  clear hK K hHeld
  have hHeld := hH2
  clear hH2
  (try simp only [List.getElem_toArray, List.getElem_cons_zero, List.getElem_cons_succ, Act.put, List.setIfInBounds_toArray, List.set_cons_zero, List.set_cons_succ])
  (refine wpAnyH_take (i := 9) (v := ?_) rfl (by kernel_rfl) (by kernel_rfl) (by kernel_rfl) (fun _ _ _ h => h) (Or.inl ⟨by kernel_rfl, fun w0 hSw => ?_⟩) hHeld ?_; rotate_left; (focus ((try dsimp only at hSw); simp only [List.getElem_toArray, List.getElem_cons_zero, List.getElem_cons_succ]; (first | (go_simp; done) | (go_simp; with_reducible rfl)))); (try simp only [List.getElem_toArray, List.getElem_cons_zero, List.getElem_cons_succ, Act.put, List.setIfInBounds_toArray, List.set_cons_zero, List.set_cons_succ]))
  (refine wpAnyH_take (i := 10) (v := ?_) rfl (by kernel_rfl) (by kernel_rfl) (by kernel_rfl) (fun _ _ _ h => h) (Or.inl ⟨by kernel_rfl, fun w0 hSw => ?_⟩) hHeld ?_; rotate_left; (focus ((try dsimp only at hSw); simp only [List.getElem_toArray, List.getElem_cons_zero, List.getElem_cons_succ]; (first | (go_simp; done) | (go_simp; with_reducible rfl)))); (try simp only [List.getElem_toArray, List.getElem_cons_zero, List.getElem_cons_succ, Act.put, List.setIfInBounds_toArray, List.set_cons_zero, List.set_cons_succ]))
  (refine wpAnyH_take (i := 11) (v := ?_) rfl (by kernel_rfl) (by kernel_rfl) (by kernel_rfl) (fun _ _ _ h => h) (Or.inl ⟨by kernel_rfl, fun w0 hSw => ?_⟩) hHeld ?_; rotate_left; (focus ((try dsimp only at hSw); simp only [List.getElem_toArray, List.getElem_cons_zero, List.getElem_cons_succ]; (first | (go_simp; done) | (go_simp; with_reducible rfl)))); (try simp only [List.getElem_toArray, List.getElem_cons_zero, List.getElem_cons_succ, Act.put, List.setIfInBounds_toArray, List.set_cons_zero, List.set_cons_succ]))
  (refine wpAnyH_take (i := 12) (v := ?_) rfl (by kernel_rfl) (by kernel_rfl) (by kernel_rfl) (fun _ _ _ h => h) (Or.inl ⟨by kernel_rfl, fun w0 hSw => ?_⟩) hHeld ?_; rotate_left; (focus ((try dsimp only at hSw); simp only [List.getElem_toArray, List.getElem_cons_zero, List.getElem_cons_succ]; (first | (go_simp; done) | (go_simp; with_reducible rfl)))); (try simp only [List.getElem_toArray, List.getElem_cons_zero, List.getElem_cons_succ, Act.put, List.setIfInBounds_toArray, List.set_cons_zero, List.set_cons_succ]))
  (refine wpAnyH_take (i := 13) (v := ?_) rfl (by kernel_rfl) (by kernel_rfl) (by kernel_rfl) (fun _ _ _ h => h) (Or.inl ⟨by kernel_rfl, fun w0 hSw => ?_⟩) hHeld ?_; rotate_left; (focus ((try dsimp only at hSw); simp only [List.getElem_toArray, List.getElem_cons_zero, List.getElem_cons_succ]; (first | (go_simp; done) | (go_simp; with_reducible rfl)))); (try simp only [List.getElem_toArray, List.getElem_cons_zero, List.getElem_cons_succ, Act.put, List.setIfInBounds_toArray, List.set_cons_zero, List.set_cons_succ]))
  (refine wpAnyH_take (i := 14) (v := ?_) rfl (by kernel_rfl) (by kernel_rfl) (by kernel_rfl) (fun _ _ _ h => h) (Or.inl ⟨by kernel_rfl, fun w0 hSw => ?_⟩) hHeld ?_; rotate_left; (focus ((try dsimp only at hSw); simp only [List.getElem_toArray, List.getElem_cons_zero, List.getElem_cons_succ]; (first | (go_simp; done) | (go_simp; with_reducible rfl)))); (try simp only [List.getElem_toArray, List.getElem_cons_zero, List.getElem_cons_succ, Act.put, List.setIfInBounds_toArray, List.set_cons_zero, List.set_cons_succ]))
  (refine wpAnyH_take (i := 15) (v := ?_) rfl (by kernel_rfl) (by kernel_rfl) (by kernel_rfl) (fun _ _ _ h => h) (Or.inl ⟨by kernel_rfl, fun w0 hSw => ?_⟩) hHeld ?_; rotate_left; (focus ((try dsimp only at hSw); simp only [List.getElem_toArray, List.getElem_cons_zero, List.getElem_cons_succ]; (first | (go_simp; done) | (go_simp; with_reducible rfl)))); (try simp only [List.getElem_toArray, List.getElem_cons_zero, List.getElem_cons_succ, Act.put, List.setIfInBounds_toArray, List.set_cons_zero, List.set_cons_succ]))
  refine wpAnyH_done (by kernel_rfl) ?_ _
  have hB9 : Below w.heap.size w w9 := hbw.trans ((h5.trans (k9.mono h5.size)).mono (by omega))
  have HV59 := Lib.hid ((HV5.out.below k9).more k9.size)
  have r1 := g1 w9 k9
  go_wp2_with (refine wpList_load_mid rfl 42 (.tmp 3) rfl w2.heap.size 0 rfl (#[.slice A1 m.q.length c1, .slice A2 m.cs.length c2, .slice A3 m.os.length c3, .slice A4 m.fs.length c4, .slice A5 m.xs.length c5, .bool m.bd, .int .i64 0, .int .i64 0, .slice A1 m.q.length c1, .slice A2 m.cs.length c2, .slice none 0 0, .slice none 0 0, .slice AN m.q.length cN, .slice AE m.q.length cE, .slice none 0 0, .slice AA (agL m).length cA, .slice none 0 0] : Array Value).toList _ r1 Tryz.underlying42 rfl (by kernel_rfl) ?_)
  have hnx := next_any (.slice A1 m.q.length c1) (.slice A2 m.cs.length c2) (.slice A3 m.os.length c3) (.slice A4 m.fs.length c4) (.slice A5 m.xs.length c5) (.slice AN m.q.length cN) (.slice AE m.q.length cE) (.slice AA (agL m).length cA) m.bd (agL m) w9 HV59.out
  simp only [netV] at hnx
  refine hnx.mono ?_
  rintro e w10 ⟨rfl, hb10⟩
  clear hnx r1
  have k10 : Below v5.heap.size v5 w10 := k9.trans (hb10.mono k9.size)
  obtain ⟨y, bb, hy⟩ : ∃ (y : Ev) (bb : Bool), nextR (agL m) = .tuple #[.agg #[.int .i64 y.t, .int .i64 y.k, .int .i64 y.n], .bool bb] := by
    cases agL m with
    | nil => exact ⟨Ev.zero, false, rfl⟩
    | cons a t => exact ⟨a, true, rfl⟩
  have HY := Lib.hid hy
  rw [hy]
  clear hy
  have k11 : Below v5.heap.size v5 (w10.alloc (.cells #[.int .i64 y.t, .int .i64 y.k, .int .i64 y.n] 49)) := k10.alloc k10.size _
  have r2 := g2 (w10.alloc (.cells #[.int .i64 y.t, .int .i64 y.k, .int .i64 y.n] 49)) k11
  go_wp2_with (refine wpList_load_mid rfl 42 (.tmp 5) rfl w4.heap.size 0 rfl (#[.slice A1 m.q.length c1, .slice A2 m.cs.length c2, .slice A3 m.os.length c3, .slice A4 m.fs.length c4, .slice A5 m.xs.length c5, .bool m.bd, .int .i64 0, .int .i64 0, .slice A1 m.q.length c1, .slice A2 m.cs.length c2, .slice none 0 0, .slice none 0 0, .slice BN m.q.length dN, .slice BE m.q.length dE, .slice none 0 0, .slice BA (agL m).length dA, .slice none 0 0] : Array Value).toList _ r2 Tryz.underlying42 rfl (by kernel_rfl) ?_)
  have d0 : (w10.alloc (.cells #[.int .i64 y.t, .int .i64 y.k, .int .i64 y.n] 49)).cell? ⟨w10.heap.size, 0, none⟩ = some (.int .i64 y.t) := by simp [go_sem]
  have d1 : (w10.alloc (.cells #[.int .i64 y.t, .int .i64 y.k, .int .i64 y.n] 49)).cell? ⟨w10.heap.size, 1, none⟩ = some (.int .i64 y.k) := by simp [go_sem]
  have d2 : (w10.alloc (.cells #[.int .i64 y.t, .int .i64 y.k, .int .i64 y.n] 49)).cell? ⟨w10.heap.size, 2, none⟩ = some (.int .i64 y.n) := by simp [go_sem]
  have hs11 : w10.heap.size < (w10.alloc (.cells #[.int .i64 y.t, .int .i64 y.k, .int .i64 y.n] 49)).heap.size := by simp
  clear r2
  generalize w10.alloc (.cells #[.int .i64 y.t, .int .i64 y.k, .int .i64 y.n] 49) = v11 at *
  have HV61 := Lib.hid ((HV6.out.below k11).more k11.size)
  have hny := rnext_any (.slice A1 m.q.length c1) (.slice A2 m.cs.length c2) (.slice A3 m.os.length c3) (.slice A4 m.fs.length c4) (.slice A5 m.xs.length c5) (.slice BN m.q.length dN) (.slice BE m.q.length dE) (.slice BA (agL m).length dA) m.bd (agL m) v11 HV61.out
  simp only [netV] at hny
  refine hny.mono ?_
  rw [HY.out]
  rintro e w12 ⟨rfl, hb12⟩
  clear hny
  have c0 : ∀ o, (w12.alloc o).cell? ⟨w10.heap.size, 0, none⟩ = some (.int .i64 y.t) := fun o => (World.cell?_alloc_lt w12 o ⟨w10.heap.size, 0, none⟩ (by have := hb12.size; show w10.heap.size < _; omega)).trans ((hb12.cell (p := ⟨w10.heap.size, 0, none⟩) hs11).trans d0)
  have c1' : ∀ o, (w12.alloc o).cell? ⟨w10.heap.size, 1, none⟩ = some (.int .i64 y.k) := fun o => (World.cell?_alloc_lt w12 o ⟨w10.heap.size, 1, none⟩ (by have := hb12.size; show w10.heap.size < _; omega)).trans ((hb12.cell (p := ⟨w10.heap.size, 1, none⟩) hs11).trans d1)
  have c2' : ∀ o, (w12.alloc o).cell? ⟨w10.heap.size, 2, none⟩ = some (.int .i64 y.n) := fun o => (World.cell?_alloc_lt w12 o ⟨w10.heap.size, 2, none⟩ (by have := hb12.size; show w10.heap.size < _; omega)).trans ((hb12.cell (p := ⟨w10.heap.size, 2, none⟩) hs11).trans d2)
  have k12 : Below v5.heap.size v5 w12 := k11.trans (hb12.mono k11.size)
  have hB12 : Below w.heap.size w w12 := hbw.trans ((h5.trans (k12.mono h5.size)).mono (by omega))
  have heq : ∀ W, (binOp .eql 49 (.agg #[.int .i64 y.t, .int .i64 y.k, .int .i64 y.n]) (.agg #[.int .i64 y.t, .int .i64 y.k, .int .i64 y.n])).run Tryz.prog W = .ok (.bool true) W := fun W => by rw [eql3]; simp
  have qb : (bb == bb) = true := by simp
  go_wp2_with fail
  refine (top_any _ (Nat.le_trans hw (Nat.le_trans hB12.size (by simp)))).mono ?_
  rintro e w14 ⟨rfl, hb14⟩
  go_wp2_with fail
  go_ret
  exact ⟨rfl, (hB12.alloc hB12.size (.cells #[.int .i64 y.t, .int .i64 y.k, .int .i64 y.n] 49)).trans (hb14.mono (by have := hB12.size; simp; omega))⟩
set_option maxRecDepth 100000 in
set_option maxHeartbeats 16000000 in
theorem law_bad (VQ VC VO VF VX : Value) (m : Mis) (w : World) (hM : MisAt w w.heap.size VQ VC VO VF VX m) (hw : 3 ≤ w.heap.size) (hE : misE m ≠ 0) : Calls Tryz.prog 3 #[.agg #[VQ, VC, VO, VF, VX, .bool m.bd]] w fun e w' => e = .returned (.bool true) ∧ Below w.heap.size w w' := by
  have HM := Lib.hid hM
  obtain ⟨⟨A1, c1, rfl, -⟩, ⟨A2, c2, rfl, -⟩, ⟨A3, c3, rfl, -⟩, ⟨A4, c4, rfl, -⟩, ⟨A5, c5, rfl, -⟩⟩ := hM
  go_enter Tryz.func3, Tryz.ntmps3
  go_wp2_with fail
  have hbw : Below w.heap.size w (w.alloc (.cells #[.slice A1 m.q.length c1, .slice A2 m.cs.length c2, .slice A3 m.os.length c3, .slice A4 m.fs.length c4, .slice A5 m.xs.length c5, .bool m.bd] 30)) := by (repeat' (first | (with_reducible exact Below.refl _ _) | (with_reducible refine Below.alloc ?_ ?_ _) | (with_reducible refine Below.drew ?_) | (with_reducible refine below_drewN ?_ _) | (with_reducible refine Below.setCell ?_ ?_ _) | (with_reducible refine Below.trans ?_ (Below.mono (by assumption) ?_)) | (with_reducible exact Nat.le_refl _) | omega | (simp; omega) | (simp; done)))
  have RW00 := Lib.hid (heap_alloc_last w (.cells #[.slice A1 m.q.length c1, .slice A2 m.cs.length c2, .slice A3 m.os.length c3, .slice A4 m.fs.length c4, .slice A5 m.xs.length c5, .bool m.bd] 30))
  have hlt0 : w.heap.size < (w.alloc (.cells #[.slice A1 m.q.length c1, .slice A2 m.cs.length c2, .slice A3 m.os.length c3, .slice A4 m.fs.length c4, .slice A5 m.xs.length c5, .bool m.bd] 30)).heap.size := by simp
  generalize w.alloc (.cells #[.slice A1 m.q.length c1, .slice A2 m.cs.length c2, .slice A3 m.os.length c3, .slice A4 m.fs.length c4, .slice A5 m.xs.length c5, .bool m.bd] 30) = v0 at *
  have HX : Hid (∀ W, Below v0.heap.size v0 W → W.cell? ⟨w.heap.size, 0, none⟩ = some (.slice A1 m.q.length c1) ∧ W.cell? ⟨w.heap.size, 1, none⟩ = some (.slice A2 m.cs.length c2) ∧ W.cell? ⟨w.heap.size, 2, none⟩ = some (.slice A3 m.os.length c3) ∧ W.cell? ⟨w.heap.size, 3, none⟩ = some (.slice A4 m.fs.length c4) ∧ W.cell? ⟨w.heap.size, 4, none⟩ = some (.slice A5 m.xs.length c5) ∧ W.cell? ⟨w.heap.size, 5, none⟩ = some (.bool m.bd)) := fun W h => by
    have e : ∀ i, W.cell? ⟨w.heap.size, i, none⟩ = (#[.slice A1 m.q.length c1, .slice A2 m.cs.length c2, .slice A3 m.os.length c3, .slice A4 m.fs.length c4, .slice A5 m.xs.length c5, .bool m.bd] : Array Value)[i]? := fun i => (h.cell (p := ⟨w.heap.size, i, none⟩) hlt0).trans (Eng.World.cell_of RW00.out i)
    exact ⟨(e 0).trans rfl, (e 1).trans rfl, (e 2).trans rfl, (e 3).trans rfl, (e 4).trans rfl, (e 5).trans rfl⟩
  have HM0 := Lib.hid (HM.out.on hbw)
  refine (great24 _ _ _ _ _ m v0 HM0.out).mono ?_
  rintro e w1 ⟨⟨b, rfl⟩, hb1⟩
  obtain ⟨x0, x1, x2, x3, x4, x5⟩ := HX.out w1 hb1
  cases b with
  | true =>
    have hB1 : Below w.heap.size w w1 := hbw.trans (hb1.mono (by omega))
    go_wp2_with fail
    refine (top_any w1 (Nat.le_trans hw hB1.size)).mono ?_
    rintro e w2 ⟨rfl, hb2⟩
    go_wp2_with fail
    go_ret
    exact ⟨rfl, hB1.trans (hb2.mono hB1.size)⟩
  | false =>
  have HM1 := Lib.hid (HM0.out.on hb1)
  go_wp2_with fail
  have HNE : Hid (misE m ≠ 0) := hE
  refine (new_bad _ _ _ _ _ m w1 HM1.out hE).mono ?_
  rintro e w2 ⟨rfl, hb2⟩
  dsimp only [netZ]
  have h2 := bt hb1 hb2
  have hz2 := hb2.size
  clear x0 x1 x2 x3 x4 x5
  obtain ⟨x0, x1, x2, x3, x4, x5⟩ := HX.out (w2.alloc (.cells #[.slice none 0 0, .slice none 0 0, .slice none 0 0, .slice none 0 0, .slice none 0 0, .bool false, .int .i64 0, .int .i64 0, .slice none 0 0, .slice none 0 0, .slice none 0 0, .slice none 0 0, .slice none 0 0, .slice none 0 0, .slice none 0 0, .slice none 0 0, .slice none 0 0] 42)) (h2.alloc h2.size _)
  go_wp2_with fail
  have h3 : Below v0.heap.size v0 (w2.alloc (.cells #[.slice none 0 0, .slice none 0 0, .slice none 0 0, .slice none 0 0, .slice none 0 0, .bool false, .int .i64 0, .int .i64 0, .slice none 0 0, .slice none 0 0, .slice none 0 0, .slice none 0 0, .slice none 0 0, .slice none 0 0, .slice none 0 0, .slice none 0 0, .slice none 0 0] 42)) := h2.alloc h2.size _
  have RW1 := Lib.hid (heap_alloc_last w2 (.cells #[.slice none 0 0, .slice none 0 0, .slice none 0 0, .slice none 0 0, .slice none 0 0, .bool false, .int .i64 0, .int .i64 0, .slice none 0 0, .slice none 0 0, .slice none 0 0, .slice none 0 0, .slice none 0 0, .slice none 0 0, .slice none 0 0, .slice none 0 0, .slice none 0 0] 42))
  have h23 : Below w2.heap.size w2 (w2.alloc (.cells #[.slice none 0 0, .slice none 0 0, .slice none 0 0, .slice none 0 0, .slice none 0 0, .bool false, .int .i64 0, .int .i64 0, .slice none 0 0, .slice none 0 0, .slice none 0 0, .slice none 0 0, .slice none 0 0, .slice none 0 0, .slice none 0 0, .slice none 0 0, .slice none 0 0] 42)) := (Below.refl _ _).alloc (Nat.le_refl _) _
  have hs3 : (w2.alloc (.cells #[.slice none 0 0, .slice none 0 0, .slice none 0 0, .slice none 0 0, .slice none 0 0, .bool false, .int .i64 0, .int .i64 0, .slice none 0 0, .slice none 0 0, .slice none 0 0, .slice none 0 0, .slice none 0 0, .slice none 0 0, .slice none 0 0, .slice none 0 0, .slice none 0 0] 42)).heap.size = w2.heap.size + 1 := by simp
  clear x0 x1 x2 x3 x4 x5
  generalize w2.alloc (.cells #[.slice none 0 0, .slice none 0 0, .slice none 0 0, .slice none 0 0, .slice none 0 0, .bool false, .int .i64 0, .int .i64 0, .slice none 0 0, .slice none 0 0, .slice none 0 0, .slice none 0 0, .slice none 0 0, .slice none 0 0, .slice none 0 0, .slice none 0 0, .slice none 0 0] 42) = v3 at *
  have HM3 := Lib.hid (HM0.out.on h3)
  refine (rnew_bad _ _ _ _ _ m v3 HM3.out hE).mono ?_
  rintro e w4 ⟨rfl, hb4⟩
  dsimp only [netZ]
  have h4 := bt h3 hb4
  have hz4 := hb4.size
  go_wp2_with fail
  have h5 : Below v0.heap.size v0 (w4.alloc (.cells #[.slice none 0 0, .slice none 0 0, .slice none 0 0, .slice none 0 0, .slice none 0 0, .bool false, .int .i64 0, .int .i64 0, .slice none 0 0, .slice none 0 0, .slice none 0 0, .slice none 0 0, .slice none 0 0, .slice none 0 0, .slice none 0 0, .slice none 0 0, .slice none 0 0] 42)) := h4.alloc h4.size _
  have RW2 := Lib.hid (heap_alloc_last w4 (.cells #[.slice none 0 0, .slice none 0 0, .slice none 0 0, .slice none 0 0, .slice none 0 0, .bool false, .int .i64 0, .int .i64 0, .slice none 0 0, .slice none 0 0, .slice none 0 0, .slice none 0 0, .slice none 0 0, .slice none 0 0, .slice none 0 0, .slice none 0 0, .slice none 0 0] 42))
  have h45 : Below w4.heap.size w4 (w4.alloc (.cells #[.slice none 0 0, .slice none 0 0, .slice none 0 0, .slice none 0 0, .slice none 0 0, .bool false, .int .i64 0, .int .i64 0, .slice none 0 0, .slice none 0 0, .slice none 0 0, .slice none 0 0, .slice none 0 0, .slice none 0 0, .slice none 0 0, .slice none 0 0, .slice none 0 0] 42)) := (Below.refl _ _).alloc (Nat.le_refl _) _
  have RW15 := Lib.hid ((h45.block w2.heap.size (by omega)).trans ((hb4.block w2.heap.size (by omega)).trans RW1.out))
  have hs5 : (w4.alloc (.cells #[.slice none 0 0, .slice none 0 0, .slice none 0 0, .slice none 0 0, .slice none 0 0, .bool false, .int .i64 0, .int .i64 0, .slice none 0 0, .slice none 0 0, .slice none 0 0, .slice none 0 0, .slice none 0 0, .slice none 0 0, .slice none 0 0, .slice none 0 0, .slice none 0 0] 42)).heap.size = w4.heap.size + 1 := by simp
  clear RW1
  generalize w4.alloc (.cells #[.slice none 0 0, .slice none 0 0, .slice none 0 0, .slice none 0 0, .slice none 0 0, .bool false, .int .i64 0, .int .i64 0, .slice none 0 0, .slice none 0 0, .slice none 0 0, .slice none 0 0, .slice none 0 0, .slice none 0 0, .slice none 0 0, .slice none 0 0, .slice none 0 0] 42) = v5 at *
  have RW0 := Lib.hid ((h5.block w.heap.size hlt0).trans RW00.out)
  have hz0 := h2.size
  have HM5 := Lib.hid (HM0.out.on h5)
  have g0 : ∀ W, Below v5.heap.size v5 W → W.rangeAt w.heap.size 0 (#[.slice A1 m.q.length c1, .slice A2 m.cs.length c2, .slice A3 m.os.length c3, .slice A4 m.fs.length c4, .slice A5 m.xs.length c5, .bool m.bd] : Array Value).toList := fun W h j v hv => by
    have e : W.heap[w.heap.size]? = _ := (h.block w.heap.size (by omega)).trans RW0.out
    rw [Nat.zero_add, cell_blk e]
    match j, hv with
    | 0, hv => simpa using hv
    | 1, hv => simpa using hv
    | 2, hv => simpa using hv
    | 3, hv => simpa using hv
    | 4, hv => simpa using hv
    | 5, hv => simpa using hv
    | n + 6, hv => simp at hv
  have g1 : ∀ W, Below v5.heap.size v5 W → W.rangeAt w2.heap.size 0 (#[.slice none 0 0, .slice none 0 0, .slice none 0 0, .slice none 0 0, .slice none 0 0, .bool false, .int .i64 0, .int .i64 0, .slice none 0 0, .slice none 0 0, .slice none 0 0, .slice none 0 0, .slice none 0 0, .slice none 0 0, .slice none 0 0, .slice none 0 0, .slice none 0 0] : Array Value).toList := fun W h j v hv => by
    have e : W.heap[w2.heap.size]? = _ := (h.block w2.heap.size (by omega)).trans RW15.out
    rw [Nat.zero_add, cell_blk e]
    match j, hv with
    | 0, hv => simpa using hv
    | 1, hv => simpa using hv
    | 2, hv => simpa using hv
    | 3, hv => simpa using hv
    | 4, hv => simpa using hv
    | 5, hv => simpa using hv
    | 6, hv => simpa using hv
    | 7, hv => simpa using hv
    | 8, hv => simpa using hv
    | 9, hv => simpa using hv
    | 10, hv => simpa using hv
    | 11, hv => simpa using hv
    | 12, hv => simpa using hv
    | 13, hv => simpa using hv
    | 14, hv => simpa using hv
    | 15, hv => simpa using hv
    | 16, hv => simpa using hv
    | n + 17, hv => simp at hv
  have g2 : ∀ W, Below v5.heap.size v5 W → W.rangeAt w4.heap.size 0 (#[.slice none 0 0, .slice none 0 0, .slice none 0 0, .slice none 0 0, .slice none 0 0, .bool false, .int .i64 0, .int .i64 0, .slice none 0 0, .slice none 0 0, .slice none 0 0, .slice none 0 0, .slice none 0 0, .slice none 0 0, .slice none 0 0, .slice none 0 0, .slice none 0 0] : Array Value).toList := fun W h j v hv => by
    have e : W.heap[w4.heap.size]? = _ := (h.block w4.heap.size (by omega)).trans RW2.out
    rw [Nat.zero_add, cell_blk e]
    match j, hv with
    | 0, hv => simpa using hv
    | 1, hv => simpa using hv
    | 2, hv => simpa using hv
    | 3, hv => simpa using hv
    | 4, hv => simpa using hv
    | 5, hv => simpa using hv
    | 6, hv => simpa using hv
    | 7, hv => simpa using hv
    | 8, hv => simpa using hv
    | 9, hv => simpa using hv
    | 10, hv => simpa using hv
    | 11, hv => simpa using hv
    | 12, hv => simpa using hv
    | 13, hv => simpa using hv
    | 14, hv => simpa using hv
    | 15, hv => simpa using hv
    | 16, hv => simpa using hv
    | n + 17, hv => simp at hv
  refine wp_region_held_drew (S := fun w' => Below v5.heap.size v5 w') (by kernel_rfl) (Below.drew (Below.refl _ _)) (fun hHeld => ?_)
  refine wpAnyH_take (i := 0) (v := .agg #[.slice A1 m.q.length c1, .slice A2 m.cs.length c2, .slice A3 m.os.length c3, .slice A4 m.fs.length c4, .slice A5 m.xs.length c5, .bool m.bd]) rfl (by kernel_rfl) (by kernel_rfl) (by kernel_rfl) (fun _ _ _ h => h) (yieldsIf_load_mid (by kernel_rfl) 30 (.tmp 1) rfl w.heap.size 0 rfl (#[.slice A1 m.q.length c1, .slice A2 m.cs.length c2, .slice A3 m.os.length c3, .slice A4 m.fs.length c4, .slice A5 m.xs.length c5, .bool m.bd] : Array Value).toList _ (fun W h => g0 W h) Tryz.underlying30 rfl (by kernel_rfl)) hHeld ?_
  (try simp only [List.getElem_toArray, List.getElem_cons_zero, Act.put, List.setIfInBounds_toArray, List.set_cons_zero, List.set_cons_succ])
  refine wpAnyH_take (i := 2) (v := .agg #[.slice A1 m.q.length c1, .slice A2 m.cs.length c2, .slice A3 m.os.length c3, .slice A4 m.fs.length c4, .slice A5 m.xs.length c5, .bool m.bd]) rfl (by kernel_rfl) (by kernel_rfl) (by kernel_rfl) (fun _ _ _ h => h) (yieldsIf_load_mid (by kernel_rfl) 30 (.tmp 1) rfl w.heap.size 0 rfl (#[.slice A1 m.q.length c1, .slice A2 m.cs.length c2, .slice A3 m.os.length c3, .slice A4 m.fs.length c4, .slice A5 m.xs.length c5, .bool m.bd] : Array Value).toList _ (fun W h => g0 W h) Tryz.underlying30 rfl (by kernel_rfl)) hHeld ?_
  (try simp only [List.getElem_toArray, List.getElem_cons_zero, List.getElem_cons_succ, Act.put, List.setIfInBounds_toArray, List.set_cons_zero, List.set_cons_succ])
  refine wpAnyH_ready (rs := [1]) (by kernel_rfl) (by simp) ?_
  refine AllReadyH.cons rfl (fun K hK => ?_) AllReadyH.nil
  simp only [List.getElem_toArray, List.getElem_cons_zero, List.getElem_cons_succ]
  go_simp
  have k6 : Below v5.heap.size v5 v5.drew := Below.drew (Below.refl _ _)
  refine (mis_any _ _ _ _ _ m v5.drew (HM5.out.on k6)).mono ?_
  rintro e w7 ⟨rfl, hb7⟩
  have k7 : Below v5.heap.size v5 w7 := k6.trans hb7
  go_wp2_with fail
  refine hK.out _ _ k7 (fun hH2 => ?_)
  clear hK K hHeld
  have hHeld := hH2
  clear hH2
  (try simp only [List.getElem_toArray, List.getElem_cons_zero, List.getElem_cons_succ, Act.put, List.setIfInBounds_toArray, List.set_cons_zero, List.set_cons_succ])
  refine wpAnyH_ready (rs := [3]) (by kernel_rfl) (by simp) ?_
  refine AllReadyH.cons rfl (fun K hK => ?_) AllReadyH.nil
  simp only [List.getElem_toArray, List.getElem_cons_zero, List.getElem_cons_succ]
  go_simp
  refine (rmis_any _ _ _ _ _ m w7 (HM5.out.on k7)).mono ?_
  rintro e w8 ⟨rfl, hb8⟩
  have k8 : Below v5.heap.size v5 w8 := k7.trans (hb8.mono k7.size)
  go_wp2_with fail
  refine hK.out _ _ k8 (fun hH2 => ?_)
  clear hK K hHeld
  have hHeld := hH2
  clear hH2
  (try simp only [List.getElem_toArray, List.getElem_cons_zero, List.getElem_cons_succ, Act.put, List.setIfInBounds_toArray, List.set_cons_zero, List.set_cons_succ])
  generalize hee : misE m = er at *
  have qE : (er != 0) = true := by simpa using HNE.out
  clear hee
  (refine wpAnyH_take (i := 4) (v := ?_) rfl (by kernel_rfl) (by kernel_rfl) (by kernel_rfl) (fun _ _ _ h => h) (Or.inl ⟨by kernel_rfl, fun w0 hSw => ?_⟩) hHeld ?_; rotate_left; (focus ((try dsimp only at hSw); simp only [List.getElem_toArray, List.getElem_cons_zero, List.getElem_cons_succ]; (first | (go_simp; done) | (go_simp; with_reducible rfl)))); (try simp only [List.getElem_toArray, List.getElem_cons_zero, List.getElem_cons_succ, Act.put, List.setIfInBounds_toArray, List.set_cons_zero, List.set_cons_succ]))
  (refine wpAnyH_take (i := 5) (v := ?_) rfl (by kernel_rfl) (by kernel_rfl) (by kernel_rfl) (fun _ _ _ h => h) (Or.inl ⟨by kernel_rfl, fun w0 hSw => ?_⟩) hHeld ?_; rotate_left; (focus ((try dsimp only at hSw); simp only [List.getElem_toArray, List.getElem_cons_zero, List.getElem_cons_succ]; (first | (go_simp; done) | (go_simp; with_reducible rfl)))); (try simp only [List.getElem_toArray, List.getElem_cons_zero, List.getElem_cons_succ, Act.put, List.setIfInBounds_toArray, List.set_cons_zero, List.set_cons_succ]))
  refine wpAnyH_take (i := 6) (v := .agg #[.slice none 0 0, .slice none 0 0, .slice none 0 0, .slice none 0 0, .slice none 0 0, .bool false, .int .i64 0, .int .i64 0, .slice none 0 0, .slice none 0 0, .slice none 0 0, .slice none 0 0, .slice none 0 0, .slice none 0 0, .slice none 0 0, .slice none 0 0, .slice none 0 0]) rfl (by kernel_rfl) (by kernel_rfl) (by kernel_rfl) (fun _ _ _ h => h) (yieldsIf_load_mid (by kernel_rfl) 42 (.tmp 3) rfl w2.heap.size 0 rfl (#[.slice none 0 0, .slice none 0 0, .slice none 0 0, .slice none 0 0, .slice none 0 0, .bool false, .int .i64 0, .int .i64 0, .slice none 0 0, .slice none 0 0, .slice none 0 0, .slice none 0 0, .slice none 0 0, .slice none 0 0, .slice none 0 0, .slice none 0 0, .slice none 0 0] : Array Value).toList _ (fun W h => g1 W h) Tryz.underlying42 rfl (by kernel_rfl)) hHeld ?_
  (try simp only [List.getElem_toArray, List.getElem_cons_zero, List.getElem_cons_succ, Act.put, List.setIfInBounds_toArray, List.set_cons_zero, List.set_cons_succ])
  refine wpAnyH_take (i := 7) (v := .agg #[.slice none 0 0, .slice none 0 0, .slice none 0 0, .slice none 0 0, .slice none 0 0, .bool false, .int .i64 0, .int .i64 0, .slice none 0 0, .slice none 0 0, .slice none 0 0, .slice none 0 0, .slice none 0 0, .slice none 0 0, .slice none 0 0, .slice none 0 0, .slice none 0 0]) rfl (by kernel_rfl) (by kernel_rfl) (by kernel_rfl) (fun _ _ _ h => h) (yieldsIf_load_mid (by kernel_rfl) 42 (.tmp 5) rfl w4.heap.size 0 rfl (#[.slice none 0 0, .slice none 0 0, .slice none 0 0, .slice none 0 0, .slice none 0 0, .bool false, .int .i64 0, .int .i64 0, .slice none 0 0, .slice none 0 0, .slice none 0 0, .slice none 0 0, .slice none 0 0, .slice none 0 0, .slice none 0 0, .slice none 0 0, .slice none 0 0] : Array Value).toList _ (fun W h => g2 W h) Tryz.underlying42 rfl (by kernel_rfl)) hHeld ?_
  (try simp only [List.getElem_toArray, List.getElem_cons_zero, List.getElem_cons_succ, Act.put, List.setIfInBounds_toArray, List.set_cons_zero, List.set_cons_succ])
  refine wpAnyH_ready (rs := [8]) (by kernel_rfl) (by simp) ?_
  refine AllReadyH.cons rfl (fun K hK => ?_) AllReadyH.nil
  simp only [List.getElem_toArray, List.getElem_cons_zero, List.getElem_cons_succ]
  go_simp
  have hsm := (same10 _ _ _ _ _ _ _ _ _ _ _ Mis.zero [] w8 (misAt_zero _ _) (nds_nil _ _) (nds_nil _ _) (ints_nil _ _) (ints_nil _ _) (Sl.nil _ _ _ _ _) (Sl.nil _ _ _ _ _))
  simp only [netV, Mis.zero] at hsm
  refine hsm.mono ?_
  rintro e w9 ⟨rfl, hb9⟩
  have k9 : Below v5.heap.size v5 w9 := k8.trans (hb9.mono k8.size)
  clear hsm
  go_wp2_with fail
  refine hK.out _ _ k9 (fun hH2 => ?_)
  clear hK K hHeld
  have hHeld := hH2
  clear hH2
  (try simp only [List.getElem_toArray, List.getElem_cons_zero, List.getElem_cons_succ, Act.put, List.setIfInBounds_toArray, List.set_cons_zero, List.set_cons_succ])
  (refine wpAnyH_take (i := 9) (v := ?_) rfl (by kernel_rfl) (by kernel_rfl) (by kernel_rfl) (fun _ _ _ h => h) (Or.inl ⟨by kernel_rfl, fun w0 hSw => ?_⟩) hHeld ?_; rotate_left; (focus ((try dsimp only at hSw); simp only [List.getElem_toArray, List.getElem_cons_zero, List.getElem_cons_succ]; (first | (go_simp; done) | (go_simp; with_reducible rfl)))); (try simp only [List.getElem_toArray, List.getElem_cons_zero, List.getElem_cons_succ, Act.put, List.setIfInBounds_toArray, List.set_cons_zero, List.set_cons_succ]))
  (refine wpAnyH_take (i := 10) (v := ?_) rfl (by kernel_rfl) (by kernel_rfl) (by kernel_rfl) (fun _ _ _ h => h) (Or.inl ⟨by kernel_rfl, fun w0 hSw => ?_⟩) hHeld ?_; rotate_left; (focus ((try dsimp only at hSw); simp only [List.getElem_toArray, List.getElem_cons_zero, List.getElem_cons_succ]; (first | (go_simp; done) | (go_simp; with_reducible rfl)))); (try simp only [List.getElem_toArray, List.getElem_cons_zero, List.getElem_cons_succ, Act.put, List.setIfInBounds_toArray, List.set_cons_zero, List.set_cons_succ]))
  (refine wpAnyH_take (i := 11) (v := ?_) rfl (by kernel_rfl) (by kernel_rfl) (by kernel_rfl) (fun _ _ _ h => h) (Or.inl ⟨by kernel_rfl, fun w0 hSw => ?_⟩) hHeld ?_; rotate_left; (focus ((try dsimp only at hSw); simp only [List.getElem_toArray, List.getElem_cons_zero, List.getElem_cons_succ]; (first | (go_simp; done) | (go_simp; with_reducible rfl)))); (try simp only [List.getElem_toArray, List.getElem_cons_zero, List.getElem_cons_succ, Act.put, List.setIfInBounds_toArray, List.set_cons_zero, List.set_cons_succ]))
  (refine wpAnyH_take (i := 12) (v := ?_) rfl (by kernel_rfl) (by kernel_rfl) (by kernel_rfl) (fun _ _ _ h => h) (Or.inl ⟨by kernel_rfl, fun w0 hSw => ?_⟩) hHeld ?_; rotate_left; (focus ((try dsimp only at hSw); simp only [List.getElem_toArray, List.getElem_cons_zero, List.getElem_cons_succ]; (first | (go_simp; done) | (go_simp; with_reducible rfl)))); (try simp only [List.getElem_toArray, List.getElem_cons_zero, List.getElem_cons_succ, Act.put, List.setIfInBounds_toArray, List.set_cons_zero, List.set_cons_succ]))
  (refine wpAnyH_take (i := 13) (v := ?_) rfl (by kernel_rfl) (by kernel_rfl) (by kernel_rfl) (fun _ _ _ h => h) (Or.inl ⟨by kernel_rfl, fun w0 hSw => ?_⟩) hHeld ?_; rotate_left; (focus ((try dsimp only at hSw); simp only [List.getElem_toArray, List.getElem_cons_zero, List.getElem_cons_succ]; (first | (go_simp; done) | (go_simp; with_reducible rfl)))); (try simp only [List.getElem_toArray, List.getElem_cons_zero, List.getElem_cons_succ, Act.put, List.setIfInBounds_toArray, List.set_cons_zero, List.set_cons_succ]))
  (refine wpAnyH_take (i := 14) (v := ?_) rfl (by kernel_rfl) (by kernel_rfl) (by kernel_rfl) (fun _ _ _ h => h) (Or.inl ⟨by kernel_rfl, fun w0 hSw => ?_⟩) hHeld ?_; rotate_left; (focus ((try dsimp only at hSw); simp only [List.getElem_toArray, List.getElem_cons_zero, List.getElem_cons_succ]; (first | (go_simp; done) | (go_simp; with_reducible rfl)))); (try simp only [List.getElem_toArray, List.getElem_cons_zero, List.getElem_cons_succ, Act.put, List.setIfInBounds_toArray, List.set_cons_zero, List.set_cons_succ]))
  (refine wpAnyH_take (i := 15) (v := ?_) rfl (by kernel_rfl) (by kernel_rfl) (by kernel_rfl) (fun _ _ _ h => h) (Or.inl ⟨by kernel_rfl, fun w0 hSw => ?_⟩) hHeld ?_; rotate_left; (focus ((try dsimp only at hSw); simp only [List.getElem_toArray, List.getElem_cons_zero, List.getElem_cons_succ]; (first | (go_simp; done) | (go_simp; with_reducible rfl)))); (try simp only [List.getElem_toArray, List.getElem_cons_zero, List.getElem_cons_succ, Act.put, List.setIfInBounds_toArray, List.set_cons_zero, List.set_cons_succ]))
  refine wpAnyH_done (by kernel_rfl) ?_ _
  have hB9 : Below w.heap.size w w9 := hbw.trans ((h5.trans (k9.mono h5.size)).mono (by omega))
  go_wp2_with fail
  refine (top_any w9 (Nat.le_trans hw hB9.size)).mono ?_
  rintro e w10 ⟨rfl, hb10⟩
  go_wp2_with fail
  go_ret
  exact ⟨rfl, hB9.trans (hb10.mono hB9.size)⟩
theorem law_any (VQ VC VO VF VX : Value) (m : Mis) (w : World) (hM : MisAt w w.heap.size VQ VC VO VF VX m) (hw : 3 ≤ w.heap.size) : Calls Tryz.prog 3 #[.agg #[VQ, VC, VO, VF, VX, .bool m.bd]] w fun e w' => e = .returned (.bool true) ∧ Below w.heap.size w w' := by
  by_cases hE : misE m = 0
  · exact law_good VQ VC VO VF VX m w hM hw hE
  · exact law_bad VQ VC VO VF VX m w hM hw hE
end Go.Proofs.YtclkjjdfdndplaaGreatDoor

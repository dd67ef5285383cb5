/- LangRoundTrip. -/
import Derived.Test.YtmcgddlblhinlaaGreatDoorH22
import Derived.Test.YtmcgddlblhinlaaGreatDoorH24
namespace Go.Proofs.YtmcgddlblhinlaaGreatDoor
open Go.RowKit
theorem scan_ge : ∀ (f : Nat) (l : List UInt8) (st : St) (k n : Int), scanM st (linesT f k l) = .error n → k ≤ n
  | 0, l, st, k, n, h => by cases h
  | f + 1, l, st, k, n, h => by
    by_cases hl : l = []
    · subst hl; rw [linesT_nil] at h; cases h
    rw [linesT_succ, if_neg hl, scanM] at h
    cases hr : readS st (lineOf l) with
    | none => simp only [hr] at h; cases h; exact Int.le_refl _
    | some st1 =>
      simp only [hr] at h
      have := scan_ge f _ _ _ _ h
      omega
theorem consE_ne3 {n : Int} : ∀ (cs pre : List Con), consE n pre cs ≠ 3
  | [], _ => by simp [consE]
  | c :: t, pre => by
    have ih := consE_ne3 (n := n) t (pre ++ [c])
    have h1 : conE c ≠ 3 := by unfold conE; repeat' split
                               all_goals decide
    rw [consE]
    repeat' split
    all_goals first | assumption | decide
theorem bksE1_ne3 : ∀ l : List Blk, bksE1 l ≠ 3
  | [] => by simp [bksE1]
  | b :: t => by
    have ih := bksE1_ne3 t
    have h1 : blE b ≠ 3 := by unfold blE; repeat' split
                              all_goals decide
    rw [bksE1]
    split
    · exact h1
    · exact ih
theorem ordE_ne3 (p : List Bun) (n : Int) (x : Bun) : ordE p n x ≠ 3 := by
  have h1 : idE x.s x.c x.q x.o x.t ≠ 3 := by unfold idE; repeat' split
                                              all_goals decide
  have h2 : epE x.dk x.dn ≠ 3 := by unfold epE; repeat' split
                                    all_goals decide
  have h3 : flE x.t x.fl ≠ 3 := by unfold flE; repeat' split
                                   all_goals decide
  have h4 : bksE x.bl ≠ 3 := by
    have := bksE1_ne3 x.bl
    unfold bksE; repeat' split
    all_goals first | assumption | decide
  have h5 : pyE x.py.size x.o x.t ≠ 3 := by unfold pyE; repeat' split
                                            all_goals decide
  have h6 : bunE x ≠ 3 := by
    unfold bunE
    repeat' split
    all_goals first | assumption | decide
  unfold ordE
  repeat' split
  all_goals first | assumption | decide
theorem ordsE_ne3 {n : Int} : ∀ (os pre : List Bun), ordsE n pre os ≠ 3
  | [], _ => by simp [ordsE]
  | x :: t, pre => by
    have ih := ordsE_ne3 (n := n) t (pre ++ [x])
    have h1 := ordE_ne3 pre n x
    rw [ordsE]
    split
    · exact h1
    · exact ih
theorem mis_ne3 (m : Mis) : misE m ≠ 3 := by
  have h1 : planE m.q m.cs ≠ 3 := by
    have := consE_ne3 (n := m.q.length) m.cs []
    unfold planE
    repeat' split
    all_goals first | assumption | decide
  have h2 := ordsE_ne3 (n := m.q.length) m.os []
  unfold misE
  repeat' split
  all_goals first | assumption | decide
theorem parse_err {s : ByteArray} (h : (parseR s).2.2 ≠ 0) : (parseR s).1 = Mis.zero ∧ (((parseR s).2.2 = 3 ∧ 0 < (parseR s).2.1) ∨ ((parseR s).2.2 ≠ 3 ∧ (parseR s).2.1 = 0)) := by
  unfold parseR at h ⊢
  by_cases hs : 8192 < s.size
  · rw [if_pos hs]; exact ⟨rfl, .inr ⟨by decide, rfl⟩⟩
  rw [if_neg hs] at h ⊢
  cases hsc : scanM St.zero (linesT s.data.toList.length 1 s.data.toList) with
  | error n => exact ⟨rfl, .inl ⟨rfl, by have := scan_ge _ _ _ _ _ hsc; show 0 < n; omega⟩⟩
  | ok st =>
    rw [hsc] at h
    simp only at h ⊢
    by_cases hE : misE st.m = 0
    · rw [if_neg (by simp [hE])] at h; exact absurd rfl h
    · rw [if_pos hE]
      exact ⟨rfl, .inr ⟨mis_ne3 _, rfl⟩⟩
theorem parse_okp {s : ByteArray} (h : (parseR s).2.2 = 0) : printR (parseR s).1 = (s, 0) ∧ (parseR s).2.1 = 0 ∧ misE (parseR s).1 = 0 := by
  obtain ⟨h1, h2, h3, h4⟩ := print_parse h
  refine ⟨?_, h2, h1⟩
  have h5 : (printL (parseR s).1).length = s.size := by rw [h3]; rfl
  rw [printR, if_neg (by simp [h1]), if_neg (by omega), h3]
set_option maxRecDepth 100000 in
set_option maxHeartbeats 16000000 in
theorem round_any (VQ VC VO VF VX : Value) (m : Mis) (s : ByteArray) (w : World) (hM : MisAt w w.heap.size VQ VC VO VF VX m) (hG : Glob w) : Calls Tryz.prog 4 #[.agg #[VQ, VC, VO, VF, VX, .bool m.bd], .string s] w fun e w' => e = .returned (.bool true) ∧ Below w.heap.size w w' := by
  have HG := Lib.hid hG
  have HI := Lib.hid hM
  clear hG
  obtain ⟨gq, gc, go, gf, gx⟩ := hM
  obtain ⟨A1, c1, rfl, -⟩ := gq
  obtain ⟨A2, c2, rfl, -⟩ := gc
  obtain ⟨A3, c3, rfl, -⟩ := go
  obtain ⟨A4, c4, rfl, -⟩ := gf
  obtain ⟨A5, c5, rfl, -⟩ := gx
  go_enter Tryz.func4, Tryz.ntmps4
  go_wp2_with fail
  have m0 : (w.alloc (.cells #[.slice A1 m.q.length c1, .slice A2 m.cs.length c2, .slice A3 m.os.length c3, .slice A4 m.fs.length c4, .slice A5 m.xs.length c5, .bool m.bd] 31)).cell? ⟨w.heap.size, 0, none⟩ = some (.slice A1 m.q.length c1) := by simp [go_sem]
  have m1 : (w.alloc (.cells #[.slice A1 m.q.length c1, .slice A2 m.cs.length c2, .slice A3 m.os.length c3, .slice A4 m.fs.length c4, .slice A5 m.xs.length c5, .bool m.bd] 31)).cell? ⟨w.heap.size, 1, none⟩ = some (.slice A2 m.cs.length c2) := by simp [go_sem]
  have m2 : (w.alloc (.cells #[.slice A1 m.q.length c1, .slice A2 m.cs.length c2, .slice A3 m.os.length c3, .slice A4 m.fs.length c4, .slice A5 m.xs.length c5, .bool m.bd] 31)).cell? ⟨w.heap.size, 2, none⟩ = some (.slice A3 m.os.length c3) := by simp [go_sem]
  have m3 : (w.alloc (.cells #[.slice A1 m.q.length c1, .slice A2 m.cs.length c2, .slice A3 m.os.length c3, .slice A4 m.fs.length c4, .slice A5 m.xs.length c5, .bool m.bd] 31)).cell? ⟨w.heap.size, 3, none⟩ = some (.slice A4 m.fs.length c4) := by simp [go_sem]
  have m4 : (w.alloc (.cells #[.slice A1 m.q.length c1, .slice A2 m.cs.length c2, .slice A3 m.os.length c3, .slice A4 m.fs.length c4, .slice A5 m.xs.length c5, .bool m.bd] 31)).cell? ⟨w.heap.size, 4, none⟩ = some (.slice A5 m.xs.length c5) := by simp [go_sem]
  have m5 : (w.alloc (.cells #[.slice A1 m.q.length c1, .slice A2 m.cs.length c2, .slice A3 m.os.length c3, .slice A4 m.fs.length c4, .slice A5 m.xs.length c5, .bool m.bd] 31)).cell? ⟨w.heap.size, 5, none⟩ = some (.bool m.bd) := by simp [go_sem]
  have hb0 : Below w.heap.size w (w.alloc (.cells #[.slice A1 m.q.length c1, .slice A2 m.cs.length c2, .slice A3 m.os.length c3, .slice A4 m.fs.length c4, .slice A5 m.xs.length c5, .bool m.bd] 31)) := (Below.refl _ w).alloc (Nat.le_refl _) _
  have hz0 : (w.alloc (.cells #[.slice A1 m.q.length c1, .slice A2 m.cs.length c2, .slice A3 m.os.length c3, .slice A4 m.fs.length c4, .slice A5 m.xs.length c5, .bool m.bd] 31)).heap.size = w.heap.size + 1 := by simp
  generalize w.alloc (.cells #[.slice A1 m.q.length c1, .slice A2 m.cs.length c2, .slice A3 m.os.length c3, .slice A4 m.fs.length c4, .slice A5 m.xs.length c5, .bool m.bd] 31) = v0 at *
  have HS0 : Hid (∀ W, Below v0.heap.size v0 W → W.cell? ⟨w.heap.size, 0, none⟩ = some (.slice A1 m.q.length c1) ∧ W.cell? ⟨w.heap.size, 1, none⟩ = some (.slice A2 m.cs.length c2) ∧ W.cell? ⟨w.heap.size, 2, none⟩ = some (.slice A3 m.os.length c3) ∧ W.cell? ⟨w.heap.size, 3, none⟩ = some (.slice A4 m.fs.length c4) ∧ W.cell? ⟨w.heap.size, 4, none⟩ = some (.slice A5 m.xs.length c5) ∧ W.cell? ⟨w.heap.size, 5, none⟩ = some (.bool m.bd)) := fun W h => by
    have e : ∀ k, W.cell? ⟨w.heap.size, k, none⟩ = v0.cell? ⟨w.heap.size, k, none⟩ := fun k => h.cell (p := ⟨w.heap.size, k, none⟩) (by show w.heap.size < v0.heap.size; omega)
    exact ⟨(e _).trans m0, (e _).trans m1, (e _).trans m2, (e _).trans m3, (e _).trans m4, (e _).trans m5⟩
  clear m0 m1 m2 m3 m4 m5
  refine (greatS_any _ _ _ _ _ m s v0 (HI.out.on hb0)).mono ?_
  rintro e w1 ⟨⟨g, rfl, -⟩, b1⟩
  cases g with
  | true =>
    go_wp2_with fail
    refine (awake_any w1 (glob_on HG.out (hb0.trans (b1.mono hb0.size)))).mono ?_
    rintro e wz ⟨rfl, hbz⟩
    have hBz := hb0.trans ((b1.trans (hbz.mono b1.size)).mono hb0.size)
    clear hbz
    go_wp2_with fail
    go_ret
    exact ⟨rfl, hBz⟩
  | false =>
  obtain ⟨q0, q1, q2, q3, q4, q5⟩ := HS0.out w1 b1
  have hl1 : w.heap.size < w1.heap.size := by have := b1.size; omega
  have M1 := (HI.out.on hb0).on b1
  go_wp2_with fail
  refine (print_any _ _ _ _ _ m w1 M1 (glob_on HG.out (hb0.trans (b1.mono hb0.size)))).mono ?_
  by_cases hE : misE m = 0
  rotate_left
  · rw [show printR m = (⟨#[]⟩, 1) from if_pos hE]
    have qE : (misE m == 0) = false := by simpa using hE
    clear hE
    rintro e w2 ⟨rfl, hb2⟩
    have b2 := b1.trans (hb2.mono b1.size)
    clear hb2 b1 M1
    go_wp2_with fail
    refine (parse_any ⟨#[]⟩ w2 (glob_on HG.out (hb0.trans (b2.mono hb0.size)))).mono ?_
    unfold ParsePost
    generalize parseR ⟨#[]⟩ = R1
    obtain ⟨m1, i1, f1⟩ := R1
    dsimp only
    rintro e w3 ⟨VQ, VC, VO, VF, VX, rfl, hM, hb3⟩
    have b3 := b2.trans (hb3.mono b2.size)
    clear hb3 b2
    obtain ⟨gq, gc, go, gf, gx⟩ := hM
    obtain ⟨D1, k1, rfl, -⟩ := gq
    obtain ⟨D2, k2, rfl, -⟩ := gc
    obtain ⟨D3, k3, rfl, -⟩ := go
    obtain ⟨D4, k4, rfl, -⟩ := gf
    obtain ⟨D5, k5, rfl, -⟩ := gx
    have h7 : (w3.alloc (.cells #[.slice D1 m1.q.length k1, .slice D2 m1.cs.length k2, .slice D3 m1.os.length k3, .slice D4 m1.fs.length k4, .slice D5 m1.xs.length k5, .bool m1.bd] 31)).heap[w3.heap.size]? = some (.cells #[.slice D1 m1.q.length k1, .slice D2 m1.cs.length k2, .slice D3 m1.os.length k3, .slice D4 m1.fs.length k4, .slice D5 m1.xs.length k5, .bool m1.bd] 31 (0, 0)) := heap_alloc_last _ _
    have b4 := b3.alloc b3.size (.cells #[.slice D1 m1.q.length k1, .slice D2 m1.cs.length k2, .slice D3 m1.os.length k3, .slice D4 m1.fs.length k4, .slice D5 m1.xs.length k5, .bool m1.bd] 31)
    have h8 : v0.heap.size ≤ w3.heap.size := b3.size
    have hl7 : w3.heap.size < (w3.alloc (.cells #[.slice D1 m1.q.length k1, .slice D2 m1.cs.length k2, .slice D3 m1.os.length k3, .slice D4 m1.fs.length k4, .slice D5 m1.xs.length k5, .bool m1.bd] 31)).heap.size := by simp
    clear q0 q1 q2 q3 q4 q5
    obtain ⟨q0, q1, q2, q3, q4, q5⟩ := HS0.out w3 b3
    have hl3 : w.heap.size < w3.heap.size := by omega
    go_wp2_with fail
    have M4 := (HI.out.on hb0).on b4
    generalize hW : (w3.alloc (.cells #[.slice D1 m1.q.length k1, .slice D2 m1.cs.length k2, .slice D3 m1.os.length k3, .slice D4 m1.fs.length k4, .slice D5 m1.xs.length k5, .bool m1.bd] 31)) = w4 at *
    generalize w3.heap.size = n7 at *
    refine (mis_any _ _ _ _ _ m w4 M4).mono ?_
    rintro e W ⟨rfl, hb5⟩
    have b := b4.trans (hb5.mono b4.size)
    have h7 := (hb5.block n7 hl7).trans h7
    clear hb5 M4 b4 q0 q1 q2 q3 q4 q5 b3 hW hl7
    generalize misE m = er0 at *
    go_wp2_with fail
    refine (parse2_any s W (glob_on HG.out (hb0.trans (b.mono hb0.size)))).mono ?_
    unfold ParseP2
    have HPE := Lib.hid (parse_err (s := s))
    have HPO := Lib.hid (parse_okp (s := s))
    generalize parseR s = R at *
    obtain ⟨mm, n, er⟩ := R
    dsimp only at HPE HPO ⊢
    rintro e W2 ⟨VQ, VC, VO, VF, VX, rfl, hM, hb2⟩
    have hM0 := hM W2 (Nat.le_refl _) (fun _ _ _ => rfl)
    have HM := Lib.hid hM
    have b2 := b.trans (hb2.mono b.size)
    have h72 := (hb2.block n7 (blk_lt h7)).trans h7
    have hnW := blk_lt h7
    clear hM hb2 h7
    obtain ⟨gq, gc, go, gf, gx⟩ := hM0
    obtain ⟨E1, d1, rfl, -⟩ := gq
    obtain ⟨E2, d2, rfl, -⟩ := gc
    obtain ⟨E3, d3, rfl, -⟩ := go
    obtain ⟨E4, d4, rfl, -⟩ := gf
    obtain ⟨E5, d5, rfl, -⟩ := gx
    have p0 := cell_blk h72 0
    have p1 := cell_blk h72 1
    have p2 := cell_blk h72 2
    have p3 := cell_blk h72 3
    have p4 := cell_blk h72 4
    have p5 := cell_blk h72 5
    simp only [List.getElem?_toArray, List.getElem?_cons_zero, List.getElem?_cons_succ] at p0 p1 p2 p3 p4 p5
    have f0 := frozen_blk h72 0
    have f1 := frozen_blk h72 1
    have f2 := frozen_blk h72 2
    have f3 := frozen_blk h72 3
    have f4 := frozen_blk h72 4
    have f5 := frozen_blk h72 5
    have hz7 := blk_lt h72
    by_cases her : er = 0
    · subst her
      obtain ⟨hpr, rfl, hmE⟩ := HPO.out rfl
      have HPR := Lib.hid hpr
      have HME := Lib.hid hmE
      clear HPE HPO hpr hmE
      go_wp2_with fail
      have e1 : ((((((W2.setCell ⟨n7, 0, none⟩ (.slice E1 mm.q.length d1)).setCell ⟨n7, 1, none⟩ (.slice E2 mm.cs.length d2)).setCell ⟨n7, 2, none⟩ (.slice E3 mm.os.length d3)).setCell ⟨n7, 3, none⟩ (.slice E4 mm.fs.length d4)).setCell ⟨n7, 4, none⟩ (.slice E5 mm.xs.length d5)).setCell ⟨n7, 5, none⟩ (.bool mm.bd)).heap[n7]? = some (.cells #[.slice E1 mm.q.length d1, .slice E2 mm.cs.length d2, .slice E3 mm.os.length d3, .slice E4 mm.fs.length d4, .slice E5 mm.xs.length d5, .bool mm.bd] 31 (0, 0)) := by
        have := heap_set (i := 5) (heap_set (i := 4) (heap_set (i := 3) (heap_set (i := 2) (heap_set (i := 1) (heap_set (i := 0) h72 (.slice E1 mm.q.length d1)) (.slice E2 mm.cs.length d2)) (.slice E3 mm.os.length d3)) (.slice E4 mm.fs.length d4)) (.slice E5 mm.xs.length d5)) (.bool mm.bd)
        simpa using this
      have e2 : Below v0.heap.size v0 ((((((W2.setCell ⟨n7, 0, none⟩ (.slice E1 mm.q.length d1)).setCell ⟨n7, 1, none⟩ (.slice E2 mm.cs.length d2)).setCell ⟨n7, 2, none⟩ (.slice E3 mm.os.length d3)).setCell ⟨n7, 3, none⟩ (.slice E4 mm.fs.length d4)).setCell ⟨n7, 4, none⟩ (.slice E5 mm.xs.length d5)).setCell ⟨n7, 5, none⟩ (.bool mm.bd)) := by
        have z : ∀ {X : World} (i : Nat) (v : Value), Below v0.heap.size v0 X → Below v0.heap.size v0 (X.setCell ⟨n7, i, none⟩ v) := fun i v h => h.setCell (p := ⟨n7, i, none⟩) (by show v0.heap.size ≤ n7; omega) v
        exact z 5 _ (z 4 _ (z 3 _ (z 2 _ (z 1 _ (z 0 _ b2)))))
      have e4 : ((((((W2.setCell ⟨n7, 0, none⟩ (.slice E1 mm.q.length d1)).setCell ⟨n7, 1, none⟩ (.slice E2 mm.cs.length d2)).setCell ⟨n7, 2, none⟩ (.slice E3 mm.os.length d3)).setCell ⟨n7, 3, none⟩ (.slice E4 mm.fs.length d4)).setCell ⟨n7, 4, none⟩ (.slice E5 mm.xs.length d5)).setCell ⟨n7, 5, none⟩ (.bool mm.bd)).heap.size = W2.heap.size := by simp [World.setCell]
      have e3 := HM.out ((((((W2.setCell ⟨n7, 0, none⟩ (.slice E1 mm.q.length d1)).setCell ⟨n7, 1, none⟩ (.slice E2 mm.cs.length d2)).setCell ⟨n7, 2, none⟩ (.slice E3 mm.os.length d3)).setCell ⟨n7, 3, none⟩ (.slice E4 mm.fs.length d4)).setCell ⟨n7, 4, none⟩ (.slice E5 mm.xs.length d5)).setCell ⟨n7, 5, none⟩ (.bool mm.bd)) (by rw [e4]; exact Nat.le_refl _) (fun k hk _ => by
        have n0 : ∀ (X : World) (v : Value) (i : Nat), (X.setCell ⟨n7, i, none⟩ v).heap[k]? = X.heap[k]? := fun X v i => Below.heap_setCell X ⟨n7, i, none⟩ v k (by show k ≠ n7; omega)
        rw [n0, n0, n0, n0, n0, n0])
      generalize ((((((W2.setCell ⟨n7, 0, none⟩ (.slice E1 mm.q.length d1)).setCell ⟨n7, 1, none⟩ (.slice E2 mm.cs.length d2)).setCell ⟨n7, 2, none⟩ (.slice E3 mm.os.length d3)).setCell ⟨n7, 3, none⟩ (.slice E4 mm.fs.length d4)).setCell ⟨n7, 4, none⟩ (.slice E5 mm.xs.length d5)).setCell ⟨n7, 5, none⟩ (.bool mm.bd)) = W3 at *
      have hz3 : n7 < W3.heap.size := blk_lt e1
      refine (print_any _ _ _ _ _ mm W3 e3 (glob_on HG.out (hb0.trans (e2.mono hb0.size)))).mono ?_
      rw [HPR.out]
      rintro e W4 ⟨rfl, hb4⟩
      have b4 := e2.trans (hb4.mono e2.size)
      have h74 := (hb4.block n7 hz3).trans e1
      have M4 := e3.on hb4
      clear p0 p1 p2 p3 p4 p5 f0 f1 f2 f3 f4 f5 hb4 e1 e2 e3
      have p0 := cell_blk h74 0
      have p1 := cell_blk h74 1
      have p2 := cell_blk h74 2
      have p3 := cell_blk h74 3
      have p4 := cell_blk h74 4
      have p5 := cell_blk h74 5
      simp only [List.getElem?_toArray, List.getElem?_cons_zero, List.getElem?_cons_succ] at p0 p1 p2 p3 p4 p5
      have hz4 := blk_lt h74
      go_wp2_with fail
      refine (mis_any _ _ _ _ _ mm W4 M4).mono ?_
      rw [HME.out]
      rintro e W5 ⟨rfl, hb5⟩
      have b5 := b4.trans (hb5.mono b4.size)
      clear hb5 M4
      go_wp2_with fail
      refine (awake_any W5 (glob_on HG.out (hb0.trans (b5.mono hb0.size)))).mono ?_
      rintro e wz ⟨rfl, hbz⟩
      have hBz := hb0.trans ((b5.trans (hbz.mono b5.size)).mono hb0.size)
      clear hbz
      go_wp2_with fail
      go_ret
      exact ⟨rfl, hBz⟩
    · have qe : (er != 0) = true := by simpa using her
      obtain ⟨rfl, hd⟩ := HPE.out her
      have HD := Lib.hid hd
      have HMz : Hid (∀ X : World, W2.heap.size ≤ X.heap.size → (∀ k, W.heap.size ≤ k → k < W2.heap.size → X.heap[k]? = W2.heap[k]?) → MisAt X X.heap.size (.slice E1 0 d1) (.slice E2 0 d2) (.slice E3 0 d3) (.slice E4 0 d4) (.slice E5 0 d5) Mis.zero) := HM.out
      clear HPE HPO her hd HM
      have HM := HMz
      simp only [Mis.zero, List.length_nil]
      rcases HD.out with ⟨rfl, hn⟩ | ⟨hne, rfl⟩
      · clear HD
        go_wp2_with fail
        have e1 : ((((((W2.setCell ⟨n7, 0, none⟩ (.slice E1 0 d1)).setCell ⟨n7, 1, none⟩ (.slice E2 0 d2)).setCell ⟨n7, 2, none⟩ (.slice E3 0 d3)).setCell ⟨n7, 3, none⟩ (.slice E4 0 d4)).setCell ⟨n7, 4, none⟩ (.slice E5 0 d5)).setCell ⟨n7, 5, none⟩ (.bool false)).heap[n7]? = some (.cells #[.slice E1 0 d1, .slice E2 0 d2, .slice E3 0 d3, .slice E4 0 d4, .slice E5 0 d5, .bool false] 31 (0, 0)) := by
          have := heap_set (i := 5) (heap_set (i := 4) (heap_set (i := 3) (heap_set (i := 2) (heap_set (i := 1) (heap_set (i := 0) h72 (.slice E1 0 d1)) (.slice E2 0 d2)) (.slice E3 0 d3)) (.slice E4 0 d4)) (.slice E5 0 d5)) (.bool false)
          simpa using this
        have e2 : Below v0.heap.size v0 ((((((W2.setCell ⟨n7, 0, none⟩ (.slice E1 0 d1)).setCell ⟨n7, 1, none⟩ (.slice E2 0 d2)).setCell ⟨n7, 2, none⟩ (.slice E3 0 d3)).setCell ⟨n7, 3, none⟩ (.slice E4 0 d4)).setCell ⟨n7, 4, none⟩ (.slice E5 0 d5)).setCell ⟨n7, 5, none⟩ (.bool false)) := by
          have z : ∀ {X : World} (i : Nat) (v : Value), Below v0.heap.size v0 X → Below v0.heap.size v0 (X.setCell ⟨n7, i, none⟩ v) := fun i v h => h.setCell (p := ⟨n7, i, none⟩) (by show v0.heap.size ≤ n7; omega) v
          exact z 5 _ (z 4 _ (z 3 _ (z 2 _ (z 1 _ (z 0 _ b2)))))
        have e4 : ((((((W2.setCell ⟨n7, 0, none⟩ (.slice E1 0 d1)).setCell ⟨n7, 1, none⟩ (.slice E2 0 d2)).setCell ⟨n7, 2, none⟩ (.slice E3 0 d3)).setCell ⟨n7, 3, none⟩ (.slice E4 0 d4)).setCell ⟨n7, 4, none⟩ (.slice E5 0 d5)).setCell ⟨n7, 5, none⟩ (.bool false)).heap.size = W2.heap.size := by simp [World.setCell]
        have e3 := HM.out ((((((W2.setCell ⟨n7, 0, none⟩ (.slice E1 0 d1)).setCell ⟨n7, 1, none⟩ (.slice E2 0 d2)).setCell ⟨n7, 2, none⟩ (.slice E3 0 d3)).setCell ⟨n7, 3, none⟩ (.slice E4 0 d4)).setCell ⟨n7, 4, none⟩ (.slice E5 0 d5)).setCell ⟨n7, 5, none⟩ (.bool false)) (by rw [e4]; exact Nat.le_refl _) (fun k hk _ => by
          have n0 : ∀ (X : World) (v : Value) (i : Nat), (X.setCell ⟨n7, i, none⟩ v).heap[k]? = X.heap[k]? := fun X v i => Below.heap_setCell X ⟨n7, i, none⟩ v k (by show k ≠ n7; omega)
          rw [n0, n0, n0, n0, n0, n0])
        generalize ((((((W2.setCell ⟨n7, 0, none⟩ (.slice E1 0 d1)).setCell ⟨n7, 1, none⟩ (.slice E2 0 d2)).setCell ⟨n7, 2, none⟩ (.slice E3 0 d3)).setCell ⟨n7, 3, none⟩ (.slice E4 0 d4)).setCell ⟨n7, 4, none⟩ (.slice E5 0 d5)).setCell ⟨n7, 5, none⟩ (.bool false)) = W3 at *
        have hz3 : n7 < W3.heap.size := blk_lt e1
        refine (same_eq _ _ _ _ _ _ _ _ _ _ Mis.zero W3 e3 (misAt_zero _ _)).mono ?_
        rintro e W4 ⟨rfl, hb4⟩
        have b4 := e2.trans (hb4.mono e2.size)
        clear hb4
        go_wp2_with fail
        refine (awake_any W4 (glob_on HG.out (hb0.trans (b4.mono hb0.size)))).mono ?_
        rintro e wz ⟨rfl, hbz⟩
        have hBz := hb0.trans ((b4.trans (hbz.mono b4.size)).mono hb0.size)
        clear hbz
        go_wp2_with fail
        go_ret
        exact ⟨rfl, hBz⟩
      · have qn : (er == 3) = false := by simpa using hne
        clear HD hne
        go_wp2_with fail
        have e1 : ((((((W2.setCell ⟨n7, 0, none⟩ (.slice E1 0 d1)).setCell ⟨n7, 1, none⟩ (.slice E2 0 d2)).setCell ⟨n7, 2, none⟩ (.slice E3 0 d3)).setCell ⟨n7, 3, none⟩ (.slice E4 0 d4)).setCell ⟨n7, 4, none⟩ (.slice E5 0 d5)).setCell ⟨n7, 5, none⟩ (.bool false)).heap[n7]? = some (.cells #[.slice E1 0 d1, .slice E2 0 d2, .slice E3 0 d3, .slice E4 0 d4, .slice E5 0 d5, .bool false] 31 (0, 0)) := by
          have := heap_set (i := 5) (heap_set (i := 4) (heap_set (i := 3) (heap_set (i := 2) (heap_set (i := 1) (heap_set (i := 0) h72 (.slice E1 0 d1)) (.slice E2 0 d2)) (.slice E3 0 d3)) (.slice E4 0 d4)) (.slice E5 0 d5)) (.bool false)
          simpa using this
        have e2 : Below v0.heap.size v0 ((((((W2.setCell ⟨n7, 0, none⟩ (.slice E1 0 d1)).setCell ⟨n7, 1, none⟩ (.slice E2 0 d2)).setCell ⟨n7, 2, none⟩ (.slice E3 0 d3)).setCell ⟨n7, 3, none⟩ (.slice E4 0 d4)).setCell ⟨n7, 4, none⟩ (.slice E5 0 d5)).setCell ⟨n7, 5, none⟩ (.bool false)) := by
          have z : ∀ {X : World} (i : Nat) (v : Value), Below v0.heap.size v0 X → Below v0.heap.size v0 (X.setCell ⟨n7, i, none⟩ v) := fun i v h => h.setCell (p := ⟨n7, i, none⟩) (by show v0.heap.size ≤ n7; omega) v
          exact z 5 _ (z 4 _ (z 3 _ (z 2 _ (z 1 _ (z 0 _ b2)))))
        have e4 : ((((((W2.setCell ⟨n7, 0, none⟩ (.slice E1 0 d1)).setCell ⟨n7, 1, none⟩ (.slice E2 0 d2)).setCell ⟨n7, 2, none⟩ (.slice E3 0 d3)).setCell ⟨n7, 3, none⟩ (.slice E4 0 d4)).setCell ⟨n7, 4, none⟩ (.slice E5 0 d5)).setCell ⟨n7, 5, none⟩ (.bool false)).heap.size = W2.heap.size := by simp [World.setCell]
        have e3 := HM.out ((((((W2.setCell ⟨n7, 0, none⟩ (.slice E1 0 d1)).setCell ⟨n7, 1, none⟩ (.slice E2 0 d2)).setCell ⟨n7, 2, none⟩ (.slice E3 0 d3)).setCell ⟨n7, 3, none⟩ (.slice E4 0 d4)).setCell ⟨n7, 4, none⟩ (.slice E5 0 d5)).setCell ⟨n7, 5, none⟩ (.bool false)) (by rw [e4]; exact Nat.le_refl _) (fun k hk _ => by
          have n0 : ∀ (X : World) (v : Value) (i : Nat), (X.setCell ⟨n7, i, none⟩ v).heap[k]? = X.heap[k]? := fun X v i => Below.heap_setCell X ⟨n7, i, none⟩ v k (by show k ≠ n7; omega)
          rw [n0, n0, n0, n0, n0, n0])
        generalize ((((((W2.setCell ⟨n7, 0, none⟩ (.slice E1 0 d1)).setCell ⟨n7, 1, none⟩ (.slice E2 0 d2)).setCell ⟨n7, 2, none⟩ (.slice E3 0 d3)).setCell ⟨n7, 3, none⟩ (.slice E4 0 d4)).setCell ⟨n7, 4, none⟩ (.slice E5 0 d5)).setCell ⟨n7, 5, none⟩ (.bool false)) = W3 at *
        have hz3 : n7 < W3.heap.size := blk_lt e1
        refine (same_eq _ _ _ _ _ _ _ _ _ _ Mis.zero W3 e3 (misAt_zero _ _)).mono ?_
        rintro e W4 ⟨rfl, hb4⟩
        have b4 := e2.trans (hb4.mono e2.size)
        clear hb4
        go_wp2_with fail
        refine (awake_any W4 (glob_on HG.out (hb0.trans (b4.mono hb0.size)))).mono ?_
        rintro e wz ⟨rfl, hbz⟩
        have hBz := hb0.trans ((b4.trans (hbz.mono b4.size)).mono hb0.size)
        clear hbz
        go_wp2_with fail
        go_ret
        exact ⟨rfl, hBz⟩
  by_cases hL : 8192 < (printL m).length
  · rw [show printR m = (⟨#[]⟩, 4) by rw [printR, if_neg (by simp [hE]), if_pos hL]]
    clear hE hL
    rintro e w2 ⟨rfl, hb2⟩
    have b2 := b1.trans (hb2.mono b1.size)
    clear hb2 b1 M1
    go_wp2_with fail
    refine (parse_any ⟨#[]⟩ w2 (glob_on HG.out (hb0.trans (b2.mono hb0.size)))).mono ?_
    unfold ParsePost
    generalize parseR ⟨#[]⟩ = R1
    obtain ⟨m1, i1, f1⟩ := R1
    dsimp only
    rintro e w3 ⟨VQ, VC, VO, VF, VX, rfl, hM, hb3⟩
    have b3 := b2.trans (hb3.mono b2.size)
    clear hb3 b2
    obtain ⟨gq, gc, go, gf, gx⟩ := hM
    obtain ⟨D1, k1, rfl, -⟩ := gq
    obtain ⟨D2, k2, rfl, -⟩ := gc
    obtain ⟨D3, k3, rfl, -⟩ := go
    obtain ⟨D4, k4, rfl, -⟩ := gf
    obtain ⟨D5, k5, rfl, -⟩ := gx
    have h7 : (w3.alloc (.cells #[.slice D1 m1.q.length k1, .slice D2 m1.cs.length k2, .slice D3 m1.os.length k3, .slice D4 m1.fs.length k4, .slice D5 m1.xs.length k5, .bool m1.bd] 31)).heap[w3.heap.size]? = some (.cells #[.slice D1 m1.q.length k1, .slice D2 m1.cs.length k2, .slice D3 m1.os.length k3, .slice D4 m1.fs.length k4, .slice D5 m1.xs.length k5, .bool m1.bd] 31 (0, 0)) := heap_alloc_last _ _
    have b4 := b3.alloc b3.size (.cells #[.slice D1 m1.q.length k1, .slice D2 m1.cs.length k2, .slice D3 m1.os.length k3, .slice D4 m1.fs.length k4, .slice D5 m1.xs.length k5, .bool m1.bd] 31)
    have h8 : v0.heap.size ≤ w3.heap.size := b3.size
    have hl7 : w3.heap.size < (w3.alloc (.cells #[.slice D1 m1.q.length k1, .slice D2 m1.cs.length k2, .slice D3 m1.os.length k3, .slice D4 m1.fs.length k4, .slice D5 m1.xs.length k5, .bool m1.bd] 31)).heap.size := by simp
    clear q0 q1 q2 q3 q4 q5
    obtain ⟨q0, q1, q2, q3, q4, q5⟩ := HS0.out w3 b3
    have hl3 : w.heap.size < w3.heap.size := by omega
    go_wp2_with fail
    have b := b4
    generalize hW : (w3.alloc (.cells #[.slice D1 m1.q.length k1, .slice D2 m1.cs.length k2, .slice D3 m1.os.length k3, .slice D4 m1.fs.length k4, .slice D5 m1.xs.length k5, .bool m1.bd] 31)) = W at *
    generalize w3.heap.size = n7 at *
    clear b4 q0 q1 q2 q3 q4 q5 b3 hW hl7
    refine (parse2_any s W (glob_on HG.out (hb0.trans (b.mono hb0.size)))).mono ?_
    unfold ParseP2
    have HPE := Lib.hid (parse_err (s := s))
    have HPO := Lib.hid (parse_okp (s := s))
    generalize parseR s = R at *
    obtain ⟨mm, n, er⟩ := R
    dsimp only at HPE HPO ⊢
    rintro e W2 ⟨VQ, VC, VO, VF, VX, rfl, hM, hb2⟩
    have hM0 := hM W2 (Nat.le_refl _) (fun _ _ _ => rfl)
    have HM := Lib.hid hM
    have b2 := b.trans (hb2.mono b.size)
    have h72 := (hb2.block n7 (blk_lt h7)).trans h7
    have hnW := blk_lt h7
    clear hM hb2 h7
    obtain ⟨gq, gc, go, gf, gx⟩ := hM0
    obtain ⟨E1, d1, rfl, -⟩ := gq
    obtain ⟨E2, d2, rfl, -⟩ := gc
    obtain ⟨E3, d3, rfl, -⟩ := go
    obtain ⟨E4, d4, rfl, -⟩ := gf
    obtain ⟨E5, d5, rfl, -⟩ := gx
    have p0 := cell_blk h72 0
    have p1 := cell_blk h72 1
    have p2 := cell_blk h72 2
    have p3 := cell_blk h72 3
    have p4 := cell_blk h72 4
    have p5 := cell_blk h72 5
    simp only [List.getElem?_toArray, List.getElem?_cons_zero, List.getElem?_cons_succ] at p0 p1 p2 p3 p4 p5
    have f0 := frozen_blk h72 0
    have f1 := frozen_blk h72 1
    have f2 := frozen_blk h72 2
    have f3 := frozen_blk h72 3
    have f4 := frozen_blk h72 4
    have f5 := frozen_blk h72 5
    have hz7 := blk_lt h72
    by_cases her : er = 0
    · subst her
      obtain ⟨hpr, rfl, hmE⟩ := HPO.out rfl
      have HPR := Lib.hid hpr
      have HME := Lib.hid hmE
      clear HPE HPO hpr hmE
      go_wp2_with fail
      have e1 : ((((((W2.setCell ⟨n7, 0, none⟩ (.slice E1 mm.q.length d1)).setCell ⟨n7, 1, none⟩ (.slice E2 mm.cs.length d2)).setCell ⟨n7, 2, none⟩ (.slice E3 mm.os.length d3)).setCell ⟨n7, 3, none⟩ (.slice E4 mm.fs.length d4)).setCell ⟨n7, 4, none⟩ (.slice E5 mm.xs.length d5)).setCell ⟨n7, 5, none⟩ (.bool mm.bd)).heap[n7]? = some (.cells #[.slice E1 mm.q.length d1, .slice E2 mm.cs.length d2, .slice E3 mm.os.length d3, .slice E4 mm.fs.length d4, .slice E5 mm.xs.length d5, .bool mm.bd] 31 (0, 0)) := by
        have := heap_set (i := 5) (heap_set (i := 4) (heap_set (i := 3) (heap_set (i := 2) (heap_set (i := 1) (heap_set (i := 0) h72 (.slice E1 mm.q.length d1)) (.slice E2 mm.cs.length d2)) (.slice E3 mm.os.length d3)) (.slice E4 mm.fs.length d4)) (.slice E5 mm.xs.length d5)) (.bool mm.bd)
        simpa using this
      have e2 : Below v0.heap.size v0 ((((((W2.setCell ⟨n7, 0, none⟩ (.slice E1 mm.q.length d1)).setCell ⟨n7, 1, none⟩ (.slice E2 mm.cs.length d2)).setCell ⟨n7, 2, none⟩ (.slice E3 mm.os.length d3)).setCell ⟨n7, 3, none⟩ (.slice E4 mm.fs.length d4)).setCell ⟨n7, 4, none⟩ (.slice E5 mm.xs.length d5)).setCell ⟨n7, 5, none⟩ (.bool mm.bd)) := by
        have z : ∀ {X : World} (i : Nat) (v : Value), Below v0.heap.size v0 X → Below v0.heap.size v0 (X.setCell ⟨n7, i, none⟩ v) := fun i v h => h.setCell (p := ⟨n7, i, none⟩) (by show v0.heap.size ≤ n7; omega) v
        exact z 5 _ (z 4 _ (z 3 _ (z 2 _ (z 1 _ (z 0 _ b2)))))
      have e4 : ((((((W2.setCell ⟨n7, 0, none⟩ (.slice E1 mm.q.length d1)).setCell ⟨n7, 1, none⟩ (.slice E2 mm.cs.length d2)).setCell ⟨n7, 2, none⟩ (.slice E3 mm.os.length d3)).setCell ⟨n7, 3, none⟩ (.slice E4 mm.fs.length d4)).setCell ⟨n7, 4, none⟩ (.slice E5 mm.xs.length d5)).setCell ⟨n7, 5, none⟩ (.bool mm.bd)).heap.size = W2.heap.size := by simp [World.setCell]
      have e3 := HM.out ((((((W2.setCell ⟨n7, 0, none⟩ (.slice E1 mm.q.length d1)).setCell ⟨n7, 1, none⟩ (.slice E2 mm.cs.length d2)).setCell ⟨n7, 2, none⟩ (.slice E3 mm.os.length d3)).setCell ⟨n7, 3, none⟩ (.slice E4 mm.fs.length d4)).setCell ⟨n7, 4, none⟩ (.slice E5 mm.xs.length d5)).setCell ⟨n7, 5, none⟩ (.bool mm.bd)) (by rw [e4]; exact Nat.le_refl _) (fun k hk _ => by
        have n0 : ∀ (X : World) (v : Value) (i : Nat), (X.setCell ⟨n7, i, none⟩ v).heap[k]? = X.heap[k]? := fun X v i => Below.heap_setCell X ⟨n7, i, none⟩ v k (by show k ≠ n7; omega)
        rw [n0, n0, n0, n0, n0, n0])
      generalize ((((((W2.setCell ⟨n7, 0, none⟩ (.slice E1 mm.q.length d1)).setCell ⟨n7, 1, none⟩ (.slice E2 mm.cs.length d2)).setCell ⟨n7, 2, none⟩ (.slice E3 mm.os.length d3)).setCell ⟨n7, 3, none⟩ (.slice E4 mm.fs.length d4)).setCell ⟨n7, 4, none⟩ (.slice E5 mm.xs.length d5)).setCell ⟨n7, 5, none⟩ (.bool mm.bd)) = W3 at *
      have hz3 : n7 < W3.heap.size := blk_lt e1
      refine (print_any _ _ _ _ _ mm W3 e3 (glob_on HG.out (hb0.trans (e2.mono hb0.size)))).mono ?_
      rw [HPR.out]
      rintro e W4 ⟨rfl, hb4⟩
      have b4 := e2.trans (hb4.mono e2.size)
      have h74 := (hb4.block n7 hz3).trans e1
      have M4 := e3.on hb4
      clear p0 p1 p2 p3 p4 p5 f0 f1 f2 f3 f4 f5 hb4 e1 e2 e3
      have p0 := cell_blk h74 0
      have p1 := cell_blk h74 1
      have p2 := cell_blk h74 2
      have p3 := cell_blk h74 3
      have p4 := cell_blk h74 4
      have p5 := cell_blk h74 5
      simp only [List.getElem?_toArray, List.getElem?_cons_zero, List.getElem?_cons_succ] at p0 p1 p2 p3 p4 p5
      have hz4 := blk_lt h74
      go_wp2_with fail
      refine (mis_any _ _ _ _ _ mm W4 M4).mono ?_
      rw [HME.out]
      rintro e W5 ⟨rfl, hb5⟩
      have b5 := b4.trans (hb5.mono b4.size)
      clear hb5 M4
      go_wp2_with fail
      refine (awake_any W5 (glob_on HG.out (hb0.trans (b5.mono hb0.size)))).mono ?_
      rintro e wz ⟨rfl, hbz⟩
      have hBz := hb0.trans ((b5.trans (hbz.mono b5.size)).mono hb0.size)
      clear hbz
      go_wp2_with fail
      go_ret
      exact ⟨rfl, hBz⟩
    · have qe : (er != 0) = true := by simpa using her
      obtain ⟨rfl, hd⟩ := HPE.out her
      have HD := Lib.hid hd
      have HMz : Hid (∀ X : World, W2.heap.size ≤ X.heap.size → (∀ k, W.heap.size ≤ k → k < W2.heap.size → X.heap[k]? = W2.heap[k]?) → MisAt X X.heap.size (.slice E1 0 d1) (.slice E2 0 d2) (.slice E3 0 d3) (.slice E4 0 d4) (.slice E5 0 d5) Mis.zero) := HM.out
      clear HPE HPO her hd HM
      have HM := HMz
      simp only [Mis.zero, List.length_nil]
      rcases HD.out with ⟨rfl, hn⟩ | ⟨hne, rfl⟩
      · clear HD
        go_wp2_with fail
        have e1 : ((((((W2.setCell ⟨n7, 0, none⟩ (.slice E1 0 d1)).setCell ⟨n7, 1, none⟩ (.slice E2 0 d2)).setCell ⟨n7, 2, none⟩ (.slice E3 0 d3)).setCell ⟨n7, 3, none⟩ (.slice E4 0 d4)).setCell ⟨n7, 4, none⟩ (.slice E5 0 d5)).setCell ⟨n7, 5, none⟩ (.bool false)).heap[n7]? = some (.cells #[.slice E1 0 d1, .slice E2 0 d2, .slice E3 0 d3, .slice E4 0 d4, .slice E5 0 d5, .bool false] 31 (0, 0)) := by
          have := heap_set (i := 5) (heap_set (i := 4) (heap_set (i := 3) (heap_set (i := 2) (heap_set (i := 1) (heap_set (i := 0) h72 (.slice E1 0 d1)) (.slice E2 0 d2)) (.slice E3 0 d3)) (.slice E4 0 d4)) (.slice E5 0 d5)) (.bool false)
          simpa using this
        have e2 : Below v0.heap.size v0 ((((((W2.setCell ⟨n7, 0, none⟩ (.slice E1 0 d1)).setCell ⟨n7, 1, none⟩ (.slice E2 0 d2)).setCell ⟨n7, 2, none⟩ (.slice E3 0 d3)).setCell ⟨n7, 3, none⟩ (.slice E4 0 d4)).setCell ⟨n7, 4, none⟩ (.slice E5 0 d5)).setCell ⟨n7, 5, none⟩ (.bool false)) := by
          have z : ∀ {X : World} (i : Nat) (v : Value), Below v0.heap.size v0 X → Below v0.heap.size v0 (X.setCell ⟨n7, i, none⟩ v) := fun i v h => h.setCell (p := ⟨n7, i, none⟩) (by show v0.heap.size ≤ n7; omega) v
          exact z 5 _ (z 4 _ (z 3 _ (z 2 _ (z 1 _ (z 0 _ b2)))))
        have e4 : ((((((W2.setCell ⟨n7, 0, none⟩ (.slice E1 0 d1)).setCell ⟨n7, 1, none⟩ (.slice E2 0 d2)).setCell ⟨n7, 2, none⟩ (.slice E3 0 d3)).setCell ⟨n7, 3, none⟩ (.slice E4 0 d4)).setCell ⟨n7, 4, none⟩ (.slice E5 0 d5)).setCell ⟨n7, 5, none⟩ (.bool false)).heap.size = W2.heap.size := by simp [World.setCell]
        have e3 := HM.out ((((((W2.setCell ⟨n7, 0, none⟩ (.slice E1 0 d1)).setCell ⟨n7, 1, none⟩ (.slice E2 0 d2)).setCell ⟨n7, 2, none⟩ (.slice E3 0 d3)).setCell ⟨n7, 3, none⟩ (.slice E4 0 d4)).setCell ⟨n7, 4, none⟩ (.slice E5 0 d5)).setCell ⟨n7, 5, none⟩ (.bool false)) (by rw [e4]; exact Nat.le_refl _) (fun k hk _ => by
          have n0 : ∀ (X : World) (v : Value) (i : Nat), (X.setCell ⟨n7, i, none⟩ v).heap[k]? = X.heap[k]? := fun X v i => Below.heap_setCell X ⟨n7, i, none⟩ v k (by show k ≠ n7; omega)
          rw [n0, n0, n0, n0, n0, n0])
        generalize ((((((W2.setCell ⟨n7, 0, none⟩ (.slice E1 0 d1)).setCell ⟨n7, 1, none⟩ (.slice E2 0 d2)).setCell ⟨n7, 2, none⟩ (.slice E3 0 d3)).setCell ⟨n7, 3, none⟩ (.slice E4 0 d4)).setCell ⟨n7, 4, none⟩ (.slice E5 0 d5)).setCell ⟨n7, 5, none⟩ (.bool false)) = W3 at *
        have hz3 : n7 < W3.heap.size := blk_lt e1
        refine (same_eq _ _ _ _ _ _ _ _ _ _ Mis.zero W3 e3 (misAt_zero _ _)).mono ?_
        rintro e W4 ⟨rfl, hb4⟩
        have b4 := e2.trans (hb4.mono e2.size)
        clear hb4
        go_wp2_with fail
        refine (awake_any W4 (glob_on HG.out (hb0.trans (b4.mono hb0.size)))).mono ?_
        rintro e wz ⟨rfl, hbz⟩
        have hBz := hb0.trans ((b4.trans (hbz.mono b4.size)).mono hb0.size)
        clear hbz
        go_wp2_with fail
        go_ret
        exact ⟨rfl, hBz⟩
      · have qn : (er == 3) = false := by simpa using hne
        clear HD hne
        go_wp2_with fail
        have e1 : ((((((W2.setCell ⟨n7, 0, none⟩ (.slice E1 0 d1)).setCell ⟨n7, 1, none⟩ (.slice E2 0 d2)).setCell ⟨n7, 2, none⟩ (.slice E3 0 d3)).setCell ⟨n7, 3, none⟩ (.slice E4 0 d4)).setCell ⟨n7, 4, none⟩ (.slice E5 0 d5)).setCell ⟨n7, 5, none⟩ (.bool false)).heap[n7]? = some (.cells #[.slice E1 0 d1, .slice E2 0 d2, .slice E3 0 d3, .slice E4 0 d4, .slice E5 0 d5, .bool false] 31 (0, 0)) := by
          have := heap_set (i := 5) (heap_set (i := 4) (heap_set (i := 3) (heap_set (i := 2) (heap_set (i := 1) (heap_set (i := 0) h72 (.slice E1 0 d1)) (.slice E2 0 d2)) (.slice E3 0 d3)) (.slice E4 0 d4)) (.slice E5 0 d5)) (.bool false)
          simpa using this
        have e2 : Below v0.heap.size v0 ((((((W2.setCell ⟨n7, 0, none⟩ (.slice E1 0 d1)).setCell ⟨n7, 1, none⟩ (.slice E2 0 d2)).setCell ⟨n7, 2, none⟩ (.slice E3 0 d3)).setCell ⟨n7, 3, none⟩ (.slice E4 0 d4)).setCell ⟨n7, 4, none⟩ (.slice E5 0 d5)).setCell ⟨n7, 5, none⟩ (.bool false)) := by
          have z : ∀ {X : World} (i : Nat) (v : Value), Below v0.heap.size v0 X → Below v0.heap.size v0 (X.setCell ⟨n7, i, none⟩ v) := fun i v h => h.setCell (p := ⟨n7, i, none⟩) (by show v0.heap.size ≤ n7; omega) v
          exact z 5 _ (z 4 _ (z 3 _ (z 2 _ (z 1 _ (z 0 _ b2)))))
        have e4 : ((((((W2.setCell ⟨n7, 0, none⟩ (.slice E1 0 d1)).setCell ⟨n7, 1, none⟩ (.slice E2 0 d2)).setCell ⟨n7, 2, none⟩ (.slice E3 0 d3)).setCell ⟨n7, 3, none⟩ (.slice E4 0 d4)).setCell ⟨n7, 4, none⟩ (.slice E5 0 d5)).setCell ⟨n7, 5, none⟩ (.bool false)).heap.size = W2.heap.size := by simp [World.setCell]
        have e3 := HM.out ((((((W2.setCell ⟨n7, 0, none⟩ (.slice E1 0 d1)).setCell ⟨n7, 1, none⟩ (.slice E2 0 d2)).setCell ⟨n7, 2, none⟩ (.slice E3 0 d3)).setCell ⟨n7, 3, none⟩ (.slice E4 0 d4)).setCell ⟨n7, 4, none⟩ (.slice E5 0 d5)).setCell ⟨n7, 5, none⟩ (.bool false)) (by rw [e4]; exact Nat.le_refl _) (fun k hk _ => by
          have n0 : ∀ (X : World) (v : Value) (i : Nat), (X.setCell ⟨n7, i, none⟩ v).heap[k]? = X.heap[k]? := fun X v i => Below.heap_setCell X ⟨n7, i, none⟩ v k (by show k ≠ n7; omega)
          rw [n0, n0, n0, n0, n0, n0])
        generalize ((((((W2.setCell ⟨n7, 0, none⟩ (.slice E1 0 d1)).setCell ⟨n7, 1, none⟩ (.slice E2 0 d2)).setCell ⟨n7, 2, none⟩ (.slice E3 0 d3)).setCell ⟨n7, 3, none⟩ (.slice E4 0 d4)).setCell ⟨n7, 4, none⟩ (.slice E5 0 d5)).setCell ⟨n7, 5, none⟩ (.bool false)) = W3 at *
        have hz3 : n7 < W3.heap.size := blk_lt e1
        refine (same_eq _ _ _ _ _ _ _ _ _ _ Mis.zero W3 e3 (misAt_zero _ _)).mono ?_
        rintro e W4 ⟨rfl, hb4⟩
        have b4 := e2.trans (hb4.mono e2.size)
        clear hb4
        go_wp2_with fail
        refine (awake_any W4 (glob_on HG.out (hb0.trans (b4.mono hb0.size)))).mono ?_
        rintro e wz ⟨rfl, hbz⟩
        have hBz := hb0.trans ((b4.trans (hbz.mono b4.size)).mono hb0.size)
        clear hbz
        go_wp2_with fail
        go_ret
        exact ⟨rfl, hBz⟩
  · have HPP := Lib.hid (parse_print hE (by omega))
    rw [show printR m = (⟨(printL m).toArray⟩, 0) by rw [printR, if_neg (by simp [hE]), if_neg hL]]
    clear hE hL
    rintro e w2 ⟨rfl, hb2⟩
    have b2 := b1.trans (hb2.mono b1.size)
    clear hb2 b1 M1
    go_wp2_with fail
    refine (parse_any ⟨(printL m).toArray⟩ w2 (glob_on HG.out (hb0.trans (b2.mono hb0.size)))).mono ?_
    unfold ParsePost
    rw [HPP.out]
    rintro e w3 ⟨VQ, VC, VO, VF, VX, rfl, hM, hb3⟩
    have b3 := b2.trans (hb3.mono b2.size)
    have HM1 := Lib.hid hM
    clear hb3 b2
    obtain ⟨gq, gc, go, gf, gx⟩ := hM
    obtain ⟨D1, k1, rfl, -⟩ := gq
    obtain ⟨D2, k2, rfl, -⟩ := gc
    obtain ⟨D3, k3, rfl, -⟩ := go
    obtain ⟨D4, k4, rfl, -⟩ := gf
    obtain ⟨D5, k5, rfl, -⟩ := gx
    have h7 : (w3.alloc (.cells #[.slice D1 m.q.length k1, .slice D2 m.cs.length k2, .slice D3 m.os.length k3, .slice D4 m.fs.length k4, .slice D5 m.xs.length k5, .bool m.bd] 31)).heap[w3.heap.size]? = some (.cells #[.slice D1 m.q.length k1, .slice D2 m.cs.length k2, .slice D3 m.os.length k3, .slice D4 m.fs.length k4, .slice D5 m.xs.length k5, .bool m.bd] 31 (0, 0)) := heap_alloc_last _ _
    have b4 := b3.alloc b3.size (.cells #[.slice D1 m.q.length k1, .slice D2 m.cs.length k2, .slice D3 m.os.length k3, .slice D4 m.fs.length k4, .slice D5 m.xs.length k5, .bool m.bd] 31)
    have h8 : v0.heap.size ≤ w3.heap.size := b3.size
    have hl7 : w3.heap.size < (w3.alloc (.cells #[.slice D1 m.q.length k1, .slice D2 m.cs.length k2, .slice D3 m.os.length k3, .slice D4 m.fs.length k4, .slice D5 m.xs.length k5, .bool m.bd] 31)).heap.size := by simp
    clear q0 q1 q2 q3 q4 q5
    obtain ⟨q0, q1, q2, q3, q4, q5⟩ := HS0.out w3 b3
    have hl3 : w.heap.size < w3.heap.size := by omega
    go_wp2_with fail
    have M4 := (HI.out.on hb0).on b4
    have X4 := HM1.out.on ((Below.refl w3.heap.size w3).alloc (Nat.le_refl _) (.cells #[.slice D1 m.q.length k1, .slice D2 m.cs.length k2, .slice D3 m.os.length k3, .slice D4 m.fs.length k4, .slice D5 m.xs.length k5, .bool m.bd] 31))
    generalize hW : (w3.alloc (.cells #[.slice D1 m.q.length k1, .slice D2 m.cs.length k2, .slice D3 m.os.length k3, .slice D4 m.fs.length k4, .slice D5 m.xs.length k5, .bool m.bd] 31)) = w4 at *
    generalize w3.heap.size = n7 at *
    refine (same_eq _ _ _ _ _ _ _ _ _ _ m w4 X4 M4).mono ?_
    rintro e W ⟨rfl, hb5⟩
    have b := b4.trans (hb5.mono b4.size)
    have h7 := (hb5.block n7 hl7).trans h7
    clear hb5 M4 X4 b4 q0 q1 q2 q3 q4 q5 b3 hW hl7 HM1
    go_wp2_with fail
    refine (parse2_any s W (glob_on HG.out (hb0.trans (b.mono hb0.size)))).mono ?_
    unfold ParseP2
    have HPE := Lib.hid (parse_err (s := s))
    have HPO := Lib.hid (parse_okp (s := s))
    generalize parseR s = R at *
    obtain ⟨mm, n, er⟩ := R
    dsimp only at HPE HPO ⊢
    rintro e W2 ⟨VQ, VC, VO, VF, VX, rfl, hM, hb2⟩
    have hM0 := hM W2 (Nat.le_refl _) (fun _ _ _ => rfl)
    have HM := Lib.hid hM
    have b2 := b.trans (hb2.mono b.size)
    have h72 := (hb2.block n7 (blk_lt h7)).trans h7
    have hnW := blk_lt h7
    clear hM hb2 h7
    obtain ⟨gq, gc, go, gf, gx⟩ := hM0
    obtain ⟨E1, d1, rfl, -⟩ := gq
    obtain ⟨E2, d2, rfl, -⟩ := gc
    obtain ⟨E3, d3, rfl, -⟩ := go
    obtain ⟨E4, d4, rfl, -⟩ := gf
    obtain ⟨E5, d5, rfl, -⟩ := gx
    have p0 := cell_blk h72 0
    have p1 := cell_blk h72 1
    have p2 := cell_blk h72 2
    have p3 := cell_blk h72 3
    have p4 := cell_blk h72 4
    have p5 := cell_blk h72 5
    simp only [List.getElem?_toArray, List.getElem?_cons_zero, List.getElem?_cons_succ] at p0 p1 p2 p3 p4 p5
    have f0 := frozen_blk h72 0
    have f1 := frozen_blk h72 1
    have f2 := frozen_blk h72 2
    have f3 := frozen_blk h72 3
    have f4 := frozen_blk h72 4
    have f5 := frozen_blk h72 5
    have hz7 := blk_lt h72
    by_cases her : er = 0
    · subst her
      obtain ⟨hpr, rfl, hmE⟩ := HPO.out rfl
      have HPR := Lib.hid hpr
      have HME := Lib.hid hmE
      clear HPE HPO hpr hmE
      go_wp2_with fail
      have e1 : ((((((W2.setCell ⟨n7, 0, none⟩ (.slice E1 mm.q.length d1)).setCell ⟨n7, 1, none⟩ (.slice E2 mm.cs.length d2)).setCell ⟨n7, 2, none⟩ (.slice E3 mm.os.length d3)).setCell ⟨n7, 3, none⟩ (.slice E4 mm.fs.length d4)).setCell ⟨n7, 4, none⟩ (.slice E5 mm.xs.length d5)).setCell ⟨n7, 5, none⟩ (.bool mm.bd)).heap[n7]? = some (.cells #[.slice E1 mm.q.length d1, .slice E2 mm.cs.length d2, .slice E3 mm.os.length d3, .slice E4 mm.fs.length d4, .slice E5 mm.xs.length d5, .bool mm.bd] 31 (0, 0)) := by
        have := heap_set (i := 5) (heap_set (i := 4) (heap_set (i := 3) (heap_set (i := 2) (heap_set (i := 1) (heap_set (i := 0) h72 (.slice E1 mm.q.length d1)) (.slice E2 mm.cs.length d2)) (.slice E3 mm.os.length d3)) (.slice E4 mm.fs.length d4)) (.slice E5 mm.xs.length d5)) (.bool mm.bd)
        simpa using this
      have e2 : Below v0.heap.size v0 ((((((W2.setCell ⟨n7, 0, none⟩ (.slice E1 mm.q.length d1)).setCell ⟨n7, 1, none⟩ (.slice E2 mm.cs.length d2)).setCell ⟨n7, 2, none⟩ (.slice E3 mm.os.length d3)).setCell ⟨n7, 3, none⟩ (.slice E4 mm.fs.length d4)).setCell ⟨n7, 4, none⟩ (.slice E5 mm.xs.length d5)).setCell ⟨n7, 5, none⟩ (.bool mm.bd)) := by
        have z : ∀ {X : World} (i : Nat) (v : Value), Below v0.heap.size v0 X → Below v0.heap.size v0 (X.setCell ⟨n7, i, none⟩ v) := fun i v h => h.setCell (p := ⟨n7, i, none⟩) (by show v0.heap.size ≤ n7; omega) v
        exact z 5 _ (z 4 _ (z 3 _ (z 2 _ (z 1 _ (z 0 _ b2)))))
      have e4 : ((((((W2.setCell ⟨n7, 0, none⟩ (.slice E1 mm.q.length d1)).setCell ⟨n7, 1, none⟩ (.slice E2 mm.cs.length d2)).setCell ⟨n7, 2, none⟩ (.slice E3 mm.os.length d3)).setCell ⟨n7, 3, none⟩ (.slice E4 mm.fs.length d4)).setCell ⟨n7, 4, none⟩ (.slice E5 mm.xs.length d5)).setCell ⟨n7, 5, none⟩ (.bool mm.bd)).heap.size = W2.heap.size := by simp [World.setCell]
      have e3 := HM.out ((((((W2.setCell ⟨n7, 0, none⟩ (.slice E1 mm.q.length d1)).setCell ⟨n7, 1, none⟩ (.slice E2 mm.cs.length d2)).setCell ⟨n7, 2, none⟩ (.slice E3 mm.os.length d3)).setCell ⟨n7, 3, none⟩ (.slice E4 mm.fs.length d4)).setCell ⟨n7, 4, none⟩ (.slice E5 mm.xs.length d5)).setCell ⟨n7, 5, none⟩ (.bool mm.bd)) (by rw [e4]; exact Nat.le_refl _) (fun k hk _ => by
        have n0 : ∀ (X : World) (v : Value) (i : Nat), (X.setCell ⟨n7, i, none⟩ v).heap[k]? = X.heap[k]? := fun X v i => Below.heap_setCell X ⟨n7, i, none⟩ v k (by show k ≠ n7; omega)
        rw [n0, n0, n0, n0, n0, n0])
      generalize ((((((W2.setCell ⟨n7, 0, none⟩ (.slice E1 mm.q.length d1)).setCell ⟨n7, 1, none⟩ (.slice E2 mm.cs.length d2)).setCell ⟨n7, 2, none⟩ (.slice E3 mm.os.length d3)).setCell ⟨n7, 3, none⟩ (.slice E4 mm.fs.length d4)).setCell ⟨n7, 4, none⟩ (.slice E5 mm.xs.length d5)).setCell ⟨n7, 5, none⟩ (.bool mm.bd)) = W3 at *
      have hz3 : n7 < W3.heap.size := blk_lt e1
      refine (print_any _ _ _ _ _ mm W3 e3 (glob_on HG.out (hb0.trans (e2.mono hb0.size)))).mono ?_
      rw [HPR.out]
      rintro e W4 ⟨rfl, hb4⟩
      have b4 := e2.trans (hb4.mono e2.size)
      have h74 := (hb4.block n7 hz3).trans e1
      have M4 := e3.on hb4
      clear p0 p1 p2 p3 p4 p5 f0 f1 f2 f3 f4 f5 hb4 e1 e2 e3
      have p0 := cell_blk h74 0
      have p1 := cell_blk h74 1
      have p2 := cell_blk h74 2
      have p3 := cell_blk h74 3
      have p4 := cell_blk h74 4
      have p5 := cell_blk h74 5
      simp only [List.getElem?_toArray, List.getElem?_cons_zero, List.getElem?_cons_succ] at p0 p1 p2 p3 p4 p5
      have hz4 := blk_lt h74
      go_wp2_with fail
      refine (mis_any _ _ _ _ _ mm W4 M4).mono ?_
      rw [HME.out]
      rintro e W5 ⟨rfl, hb5⟩
      have b5 := b4.trans (hb5.mono b4.size)
      clear hb5 M4
      go_wp2_with fail
      refine (awake_any W5 (glob_on HG.out (hb0.trans (b5.mono hb0.size)))).mono ?_
      rintro e wz ⟨rfl, hbz⟩
      have hBz := hb0.trans ((b5.trans (hbz.mono b5.size)).mono hb0.size)
      clear hbz
      go_wp2_with fail
      go_ret
      exact ⟨rfl, hBz⟩
    · have qe : (er != 0) = true := by simpa using her
      obtain ⟨rfl, hd⟩ := HPE.out her
      have HD := Lib.hid hd
      have HMz : Hid (∀ X : World, W2.heap.size ≤ X.heap.size → (∀ k, W.heap.size ≤ k → k < W2.heap.size → X.heap[k]? = W2.heap[k]?) → MisAt X X.heap.size (.slice E1 0 d1) (.slice E2 0 d2) (.slice E3 0 d3) (.slice E4 0 d4) (.slice E5 0 d5) Mis.zero) := HM.out
      clear HPE HPO her hd HM
      have HM := HMz
      simp only [Mis.zero, List.length_nil]
      rcases HD.out with ⟨rfl, hn⟩ | ⟨hne, rfl⟩
      · clear HD
        go_wp2_with fail
        have e1 : ((((((W2.setCell ⟨n7, 0, none⟩ (.slice E1 0 d1)).setCell ⟨n7, 1, none⟩ (.slice E2 0 d2)).setCell ⟨n7, 2, none⟩ (.slice E3 0 d3)).setCell ⟨n7, 3, none⟩ (.slice E4 0 d4)).setCell ⟨n7, 4, none⟩ (.slice E5 0 d5)).setCell ⟨n7, 5, none⟩ (.bool false)).heap[n7]? = some (.cells #[.slice E1 0 d1, .slice E2 0 d2, .slice E3 0 d3, .slice E4 0 d4, .slice E5 0 d5, .bool false] 31 (0, 0)) := by
          have := heap_set (i := 5) (heap_set (i := 4) (heap_set (i := 3) (heap_set (i := 2) (heap_set (i := 1) (heap_set (i := 0) h72 (.slice E1 0 d1)) (.slice E2 0 d2)) (.slice E3 0 d3)) (.slice E4 0 d4)) (.slice E5 0 d5)) (.bool false)
          simpa using this
        have e2 : Below v0.heap.size v0 ((((((W2.setCell ⟨n7, 0, none⟩ (.slice E1 0 d1)).setCell ⟨n7, 1, none⟩ (.slice E2 0 d2)).setCell ⟨n7, 2, none⟩ (.slice E3 0 d3)).setCell ⟨n7, 3, none⟩ (.slice E4 0 d4)).setCell ⟨n7, 4, none⟩ (.slice E5 0 d5)).setCell ⟨n7, 5, none⟩ (.bool false)) := by
          have z : ∀ {X : World} (i : Nat) (v : Value), Below v0.heap.size v0 X → Below v0.heap.size v0 (X.setCell ⟨n7, i, none⟩ v) := fun i v h => h.setCell (p := ⟨n7, i, none⟩) (by show v0.heap.size ≤ n7; omega) v
          exact z 5 _ (z 4 _ (z 3 _ (z 2 _ (z 1 _ (z 0 _ b2)))))
        have e4 : ((((((W2.setCell ⟨n7, 0, none⟩ (.slice E1 0 d1)).setCell ⟨n7, 1, none⟩ (.slice E2 0 d2)).setCell ⟨n7, 2, none⟩ (.slice E3 0 d3)).setCell ⟨n7, 3, none⟩ (.slice E4 0 d4)).setCell ⟨n7, 4, none⟩ (.slice E5 0 d5)).setCell ⟨n7, 5, none⟩ (.bool false)).heap.size = W2.heap.size := by simp [World.setCell]
        have e3 := HM.out ((((((W2.setCell ⟨n7, 0, none⟩ (.slice E1 0 d1)).setCell ⟨n7, 1, none⟩ (.slice E2 0 d2)).setCell ⟨n7, 2, none⟩ (.slice E3 0 d3)).setCell ⟨n7, 3, none⟩ (.slice E4 0 d4)).setCell ⟨n7, 4, none⟩ (.slice E5 0 d5)).setCell ⟨n7, 5, none⟩ (.bool false)) (by rw [e4]; exact Nat.le_refl _) (fun k hk _ => by
          have n0 : ∀ (X : World) (v : Value) (i : Nat), (X.setCell ⟨n7, i, none⟩ v).heap[k]? = X.heap[k]? := fun X v i => Below.heap_setCell X ⟨n7, i, none⟩ v k (by show k ≠ n7; omega)
          rw [n0, n0, n0, n0, n0, n0])
        generalize ((((((W2.setCell ⟨n7, 0, none⟩ (.slice E1 0 d1)).setCell ⟨n7, 1, none⟩ (.slice E2 0 d2)).setCell ⟨n7, 2, none⟩ (.slice E3 0 d3)).setCell ⟨n7, 3, none⟩ (.slice E4 0 d4)).setCell ⟨n7, 4, none⟩ (.slice E5 0 d5)).setCell ⟨n7, 5, none⟩ (.bool false)) = W3 at *
        have hz3 : n7 < W3.heap.size := blk_lt e1
        refine (same_eq _ _ _ _ _ _ _ _ _ _ Mis.zero W3 e3 (misAt_zero _ _)).mono ?_
        rintro e W4 ⟨rfl, hb4⟩
        have b4 := e2.trans (hb4.mono e2.size)
        clear hb4
        go_wp2_with fail
        refine (awake_any W4 (glob_on HG.out (hb0.trans (b4.mono hb0.size)))).mono ?_
        rintro e wz ⟨rfl, hbz⟩
        have hBz := hb0.trans ((b4.trans (hbz.mono b4.size)).mono hb0.size)
        clear hbz
        go_wp2_with fail
        go_ret
        exact ⟨rfl, hBz⟩
      · have qn : (er == 3) = false := by simpa using hne
        clear HD hne
        go_wp2_with fail
        have e1 : ((((((W2.setCell ⟨n7, 0, none⟩ (.slice E1 0 d1)).setCell ⟨n7, 1, none⟩ (.slice E2 0 d2)).setCell ⟨n7, 2, none⟩ (.slice E3 0 d3)).setCell ⟨n7, 3, none⟩ (.slice E4 0 d4)).setCell ⟨n7, 4, none⟩ (.slice E5 0 d5)).setCell ⟨n7, 5, none⟩ (.bool false)).heap[n7]? = some (.cells #[.slice E1 0 d1, .slice E2 0 d2, .slice E3 0 d3, .slice E4 0 d4, .slice E5 0 d5, .bool false] 31 (0, 0)) := by
          have := heap_set (i := 5) (heap_set (i := 4) (heap_set (i := 3) (heap_set (i := 2) (heap_set (i := 1) (heap_set (i := 0) h72 (.slice E1 0 d1)) (.slice E2 0 d2)) (.slice E3 0 d3)) (.slice E4 0 d4)) (.slice E5 0 d5)) (.bool false)
          simpa using this
        have e2 : Below v0.heap.size v0 ((((((W2.setCell ⟨n7, 0, none⟩ (.slice E1 0 d1)).setCell ⟨n7, 1, none⟩ (.slice E2 0 d2)).setCell ⟨n7, 2, none⟩ (.slice E3 0 d3)).setCell ⟨n7, 3, none⟩ (.slice E4 0 d4)).setCell ⟨n7, 4, none⟩ (.slice E5 0 d5)).setCell ⟨n7, 5, none⟩ (.bool false)) := by
          have z : ∀ {X : World} (i : Nat) (v : Value), Below v0.heap.size v0 X → Below v0.heap.size v0 (X.setCell ⟨n7, i, none⟩ v) := fun i v h => h.setCell (p := ⟨n7, i, none⟩) (by show v0.heap.size ≤ n7; omega) v
          exact z 5 _ (z 4 _ (z 3 _ (z 2 _ (z 1 _ (z 0 _ b2)))))
        have e4 : ((((((W2.setCell ⟨n7, 0, none⟩ (.slice E1 0 d1)).setCell ⟨n7, 1, none⟩ (.slice E2 0 d2)).setCell ⟨n7, 2, none⟩ (.slice E3 0 d3)).setCell ⟨n7, 3, none⟩ (.slice E4 0 d4)).setCell ⟨n7, 4, none⟩ (.slice E5 0 d5)).setCell ⟨n7, 5, none⟩ (.bool false)).heap.size = W2.heap.size := by simp [World.setCell]
        have e3 := HM.out ((((((W2.setCell ⟨n7, 0, none⟩ (.slice E1 0 d1)).setCell ⟨n7, 1, none⟩ (.slice E2 0 d2)).setCell ⟨n7, 2, none⟩ (.slice E3 0 d3)).setCell ⟨n7, 3, none⟩ (.slice E4 0 d4)).setCell ⟨n7, 4, none⟩ (.slice E5 0 d5)).setCell ⟨n7, 5, none⟩ (.bool false)) (by rw [e4]; exact Nat.le_refl _) (fun k hk _ => by
          have n0 : ∀ (X : World) (v : Value) (i : Nat), (X.setCell ⟨n7, i, none⟩ v).heap[k]? = X.heap[k]? := fun X v i => Below.heap_setCell X ⟨n7, i, none⟩ v k (by show k ≠ n7; omega)
          rw [n0, n0, n0, n0, n0, n0])
        generalize ((((((W2.setCell ⟨n7, 0, none⟩ (.slice E1 0 d1)).setCell ⟨n7, 1, none⟩ (.slice E2 0 d2)).setCell ⟨n7, 2, none⟩ (.slice E3 0 d3)).setCell ⟨n7, 3, none⟩ (.slice E4 0 d4)).setCell ⟨n7, 4, none⟩ (.slice E5 0 d5)).setCell ⟨n7, 5, none⟩ (.bool false)) = W3 at *
        have hz3 : n7 < W3.heap.size := blk_lt e1
        refine (same_eq _ _ _ _ _ _ _ _ _ _ Mis.zero W3 e3 (misAt_zero _ _)).mono ?_
        rintro e W4 ⟨rfl, hb4⟩
        have b4 := e2.trans (hb4.mono e2.size)
        clear hb4
        go_wp2_with fail
        refine (awake_any W4 (glob_on HG.out (hb0.trans (b4.mono hb0.size)))).mono ?_
        rintro e wz ⟨rfl, hbz⟩
        have hBz := hb0.trans ((b4.trans (hbz.mono b4.size)).mono hb0.size)
        clear hbz
        go_wp2_with fail
        go_ret
        exact ⟨rfl, hBz⟩
end Go.Proofs.YtmcgddlblhinlaaGreatDoor

/- The reference's missions: order (26), Check (9). -/
import Derived.Test.YtclkjjdfdndplaaGreatDoorB2
import Derived.Test.YtclkjjdfdndplaaGreatDoorH5
namespace Go.Proofs.YtclkjjdfdndplaaGreatDoor
open Go.RowKit
theorem anyT_step (p : Bun → Bool) (os : List Bun) (i k : Nat) (h : k < i) (hi : i ≤ os.length) : ((os.take i).drop k).any p = (p (os.getD k Bun.zero) || ((os.take i).drop (k + 1)).any p) := by
  have hl : k < (os.take i).length := by rw [List.length_take]; omega
  rw [any_step p Bun.zero (os.take i) k hl]
  congr 2
  simp [List.getD, h]
set_option maxRecDepth 100000 in
set_option maxHeartbeats 8000000 in
theorem rord_any (A1 : Option Addr) (nq c1 : Nat) (VC VF VX VB : Value) (VO : Value) (os : List Bun) (i : Nat) (hi : i < os.length) (w : World) (_hm1 : nq ≤ 9223372036854775807) (hO : Buns w w.heap.size VO os) :
    Calls Tryz.prog 26 #[.agg #[.slice A1 nq c1, VC, VO, VF, VX, VB], .int .i64 i] w fun e w' => e = .returned (.int .i64 (ordE (os.take i) nq (os.getD i Bun.zero))) ∧ Below w.heap.size w w' := by
  obtain ⟨A3, c3, rfl, hc3, hm3, hA3⟩ := hO
  unfold maxLen at hm3
  obtain ⟨b, o, rfl, hb, hcell⟩ := hA3 (by omega)
  have HC := Lib.hid hcell
  clear hcell hA3
  have hbw : Below w.heap.size w (w.alloc (.cells #[.slice A1 nq c1, VC, .slice (some ⟨b, o, none⟩) os.length c3, VF, VX, VB] 30)) := by (repeat' (first | (with_reducible exact Below.refl _ _) | (with_reducible refine Below.alloc ?_ ?_ _) | (with_reducible refine Below.drew ?_) | (with_reducible refine below_drewN ?_ _) | (with_reducible refine Below.setCell ?_ ?_ _) | (with_reducible refine Below.trans ?_ (Below.mono (by assumption) ?_)) | (with_reducible exact Nat.le_refl _) | omega | (simp; omega) | (simp; done)))
  obtain ⟨x0, x1, x2, x3, x4, x5, x6, x7, x8, x9, ⟨V, x10, hV⟩, x11⟩ := (HC.out i hi).below hbw hb
  have HBL := Lib.hid ((HC.out i hi).below hbw hb)
  obtain ⟨AV, cV, rfl, -⟩ : ∃ AV cV, V = .slice AV (os.getD i Bun.zero).bl.length cV ∧ True := by obtain ⟨A9, c9, e, -⟩ := hV; exact ⟨A9, c9, e, trivial⟩
  have HV := Lib.hid hV
  have ii : (i : Int) < os.length := by omega
  clear hV HBL
  generalize os.getD i Bun.zero = d at *
  have HOE : Hid (∀ r : Int, (if bunE d ≠ 0 then bunE d else if 0 < d.t ∨ d.dk ≠ 1 then 10 else if (nq : Int) ≤ d.s ∨ (nq : Int) ≤ d.dn ∨ d.s = d.dn then 2 else if (os.take i).any (idEq d) = true then 6 else 0 : Int) = r → ordE (os.take i) nq d = r) := fun r h => h
  go_enter Tryz.func26, Tryz.ntmps26
  go_wp2_with fail
  have M0 : ∀ j, ((w.alloc (.cells #[.slice A1 nq c1, VC, .slice (some ⟨b, o, none⟩) os.length c3, VF, VX, VB] 30)).alloc (.cells #[.int .i64 d.s, .int .i64 d.c, .int .i64 d.q, .int .i64 d.o, .int .i64 d.t, .int .i64 d.dk, .int .i64 d.dn, .int .i64 d.lf, .int .i64 d.pr, .int .i64 d.fl, .slice AV d.bl.length cV, .string d.py] 59)).cell? ⟨w.heap.size + 1, j, none⟩ = (#[.int .i64 d.s, .int .i64 d.c, .int .i64 d.q, .int .i64 d.o, .int .i64 d.t, .int .i64 d.dk, .int .i64 d.dn, .int .i64 d.lf, .int .i64 d.pr, .int .i64 d.fl, .slice AV d.bl.length cV, .string d.py] : Array Value)[j]? := fun j => by
    have := Eng.World.cell_of (heap_alloc_last (w.alloc (.cells #[.slice A1 nq c1, VC, .slice (some ⟨b, o, none⟩) os.length c3, VF, VX, VB] 30)) (.cells #[.int .i64 d.s, .int .i64 d.c, .int .i64 d.q, .int .i64 d.o, .int .i64 d.t, .int .i64 d.dk, .int .i64 d.dn, .int .i64 d.lf, .int .i64 d.pr, .int .i64 d.fl, .slice AV d.bl.length cV, .string d.py] 59)) j
    rwa [show (w.alloc (.cells #[.slice A1 nq c1, VC, .slice (some ⟨b, o, none⟩) os.length c3, VF, VX, VB] 30)).heap.size = w.heap.size + 1 by simp] at this
  have N0 : ∀ j, ((w.alloc (.cells #[.slice A1 nq c1, VC, .slice (some ⟨b, o, none⟩) os.length c3, VF, VX, VB] 30)).alloc (.cells #[.int .i64 d.s, .int .i64 d.c, .int .i64 d.q, .int .i64 d.o, .int .i64 d.t, .int .i64 d.dk, .int .i64 d.dn, .int .i64 d.lf, .int .i64 d.pr, .int .i64 d.fl, .slice AV d.bl.length cV, .string d.py] 59)).cell? ⟨w.heap.size, j, none⟩ = (#[.slice A1 nq c1, VC, .slice (some ⟨b, o, none⟩) os.length c3, VF, VX, VB] : Array Value)[j]? := fun j => (World.cell?_alloc_lt (w.alloc (.cells #[.slice A1 nq c1, VC, .slice (some ⟨b, o, none⟩) os.length c3, VF, VX, VB] 30)) _ ⟨w.heap.size, j, none⟩ (by simp)).trans (Eng.World.cell_of (heap_alloc_last w (.cells #[.slice A1 nq c1, VC, .slice (some ⟨b, o, none⟩) os.length c3, VF, VX, VB] 30)) j)
  have hbv : Below w.heap.size w ((w.alloc (.cells #[.slice A1 nq c1, VC, .slice (some ⟨b, o, none⟩) os.length c3, VF, VX, VB] 30)).alloc (.cells #[.int .i64 d.s, .int .i64 d.c, .int .i64 d.q, .int .i64 d.o, .int .i64 d.t, .int .i64 d.dk, .int .i64 d.dn, .int .i64 d.lf, .int .i64 d.pr, .int .i64 d.fl, .slice AV d.bl.length cV, .string d.py] 59)) := by (repeat' (first | (with_reducible exact Below.refl _ _) | (with_reducible refine Below.alloc ?_ ?_ _) | (with_reducible refine Below.drew ?_) | (with_reducible refine below_drewN ?_ _) | (with_reducible refine Below.setCell ?_ ?_ _) | (with_reducible refine Below.trans ?_ (Below.mono (by assumption) ?_)) | (with_reducible exact Nat.le_refl _) | omega | (simp; omega) | (simp; done)))
  have hlt0 : w.heap.size + 1 < ((w.alloc (.cells #[.slice A1 nq c1, VC, .slice (some ⟨b, o, none⟩) os.length c3, VF, VX, VB] 30)).alloc (.cells #[.int .i64 d.s, .int .i64 d.c, .int .i64 d.q, .int .i64 d.o, .int .i64 d.t, .int .i64 d.dk, .int .i64 d.dn, .int .i64 d.lf, .int .i64 d.pr, .int .i64 d.fl, .slice AV d.bl.length cV, .string d.py] 59)).heap.size := by simp
  have HVV := Lib.hid ((HV.out.blks ((Below.refl (w.alloc (.cells #[.slice A1 nq c1, VC, .slice (some ⟨b, o, none⟩) os.length c3, VF, VX, VB] 30)).heap.size (w.alloc (.cells #[.slice A1 nq c1, VC, .slice (some ⟨b, o, none⟩) os.length c3, VF, VX, VB] 30))).alloc (Nat.le_refl _) (.cells #[.int .i64 d.s, .int .i64 d.c, .int .i64 d.q, .int .i64 d.o, .int .i64 d.t, .int .i64 d.dk, .int .i64 d.dn, .int .i64 d.lf, .int .i64 d.pr, .int .i64 d.fl, .slice AV d.bl.length cV, .string d.py] 59) |>.mono (by simp))).blks_more hbv.size)
  clear x0 x1 x2 x3 x4 x5 x6 x7 x8 x9 x10 x11
  generalize (w.alloc (.cells #[.slice A1 nq c1, VC, .slice (some ⟨b, o, none⟩) os.length c3, VF, VX, VB] 30)).alloc (.cells #[.int .i64 d.s, .int .i64 d.c, .int .i64 d.q, .int .i64 d.o, .int .i64 d.t, .int .i64 d.dk, .int .i64 d.dn, .int .i64 d.lf, .int .i64 d.pr, .int .i64 d.fl, .slice AV d.bl.length cV, .string d.py] 59) = v0 at *
  have HX : Hid (∀ W, Below v0.heap.size v0 W → W.cell? ⟨w.heap.size + 1, 0, none⟩ = some (.int .i64 d.s) ∧ W.cell? ⟨w.heap.size + 1, 1, none⟩ = some (.int .i64 d.c) ∧ W.cell? ⟨w.heap.size + 1, 2, none⟩ = some (.int .i64 d.q) ∧ W.cell? ⟨w.heap.size + 1, 3, none⟩ = some (.int .i64 d.o) ∧ W.cell? ⟨w.heap.size + 1, 4, none⟩ = some (.int .i64 d.t) ∧ W.cell? ⟨w.heap.size + 1, 5, none⟩ = some (.int .i64 d.dk) ∧ W.cell? ⟨w.heap.size + 1, 6, none⟩ = some (.int .i64 d.dn) ∧ W.cell? ⟨w.heap.size + 1, 7, none⟩ = some (.int .i64 d.lf) ∧ W.cell? ⟨w.heap.size + 1, 8, none⟩ = some (.int .i64 d.pr) ∧ W.cell? ⟨w.heap.size + 1, 9, none⟩ = some (.int .i64 d.fl) ∧ W.cell? ⟨w.heap.size + 1, 10, none⟩ = some (.slice AV d.bl.length cV) ∧ W.cell? ⟨w.heap.size + 1, 11, none⟩ = some (.string d.py) ∧ W.cell? ⟨w.heap.size, 0, none⟩ = some (.slice A1 nq c1) ∧ W.cell? ⟨w.heap.size, 2, none⟩ = some (.slice (some ⟨b, o, none⟩) os.length c3)) := fun W h => by
    have e : ∀ k, W.cell? ⟨w.heap.size + 1, k, none⟩ = v0.cell? ⟨w.heap.size + 1, k, none⟩ := fun k => h.cell (p := ⟨w.heap.size + 1, k, none⟩) hlt0
    have e2 : ∀ k, W.cell? ⟨w.heap.size, k, none⟩ = v0.cell? ⟨w.heap.size, k, none⟩ := fun k => h.cell (p := ⟨w.heap.size, k, none⟩) (by show w.heap.size < v0.heap.size; omega)
    exact ⟨(e 0).trans ((M0 0).trans rfl), (e 1).trans ((M0 1).trans rfl), (e 2).trans ((M0 2).trans rfl), (e 3).trans ((M0 3).trans rfl), (e 4).trans ((M0 4).trans rfl), (e 5).trans ((M0 5).trans rfl), (e 6).trans ((M0 6).trans rfl), (e 7).trans ((M0 7).trans rfl), (e 8).trans ((M0 8).trans rfl), (e 9).trans ((M0 9).trans rfl), (e 10).trans ((M0 10).trans rfl), (e 11).trans ((M0 11).trans rfl), (e2 0).trans ((N0 0).trans rfl), (e2 2).trans ((N0 2).trans rfl)⟩
  clear M0 N0
  refine (rbun_any d _ _ HVV.out).mono ?_
  rintro e w1 ⟨rfl, hb1⟩
  have hB1 := bt' hbv hb1 (by omega)
  obtain ⟨x0, x1, x2, x3, x4, x5, x6, x7, x8, x9, x10, x11, y0, y2⟩ := HX.out w1 hb1
  by_cases hE : bunE d = 0
  rotate_left
  · have HR := Lib.hid (HOE.out _ (if_pos hE))
    have qE : (bunE d != 0) = true := by simpa using hE
    clear hE
    generalize bunE d = er at *
    go_wp2_with fail
    go_ret
    exact ⟨by rw [HR.out]; rfl, hB1⟩
  rw [hE]
  have HO1 : Hid (∀ r : Int, (if 0 < d.t ∨ d.dk ≠ 1 then 10 else if (nq : Int) ≤ d.s ∨ (nq : Int) ≤ d.dn ∨ d.s = d.dn then 2 else if (os.take i).any (idEq d) = true then 6 else 0 : Int) = r → ordE (os.take i) nq d = r) := fun r h => HOE.out r (by rw [if_neg (by simp [hE])]; exact h)
  clear hE HOE
  by_cases h1 : 0 < d.t
  · have HR := Lib.hid (HO1.out 10 (if_pos (.inl h1)))
    go_wp2_with fail
    go_ret
    exact ⟨by rw [HR.out]; rfl, hB1⟩
  by_cases h2 : d.dk = 1
  rotate_left
  · have HR := Lib.hid (HO1.out 10 (if_pos (.inr h2)))
    have q2 : (d.dk != 1) = true := by simpa using h2
    clear h2
    go_wp2_with fail
    go_ret
    exact ⟨by rw [HR.out]; rfl, hB1⟩
  have q2 : (d.dk != 1) = false := by simpa using h2
  have HO2 : Hid (∀ r : Int, (if (nq : Int) ≤ d.s ∨ (nq : Int) ≤ d.dn ∨ d.s = d.dn then 2 else if (os.take i).any (idEq d) = true then 6 else 0 : Int) = r → ordE (os.take i) nq d = r) := fun r h => HO1.out r (by rw [if_neg (fun hh => hh.elim h1 (fun hh => hh h2))]; exact h)
  clear h2 HO1
  by_cases h3 : (nq : Int) ≤ d.s
  · have HR := Lib.hid (HO2.out 2 (if_pos (.inl h3)))
    go_wp2_with fail
    go_ret
    exact ⟨by rw [HR.out]; rfl, hB1⟩
  by_cases h4 : (nq : Int) ≤ d.dn
  · have HR := Lib.hid (HO2.out 2 (if_pos (.inr (.inl h4))))
    go_wp2_with fail
    go_ret
    exact ⟨by rw [HR.out]; rfl, hB1⟩
  by_cases h5 : d.s = d.dn
  · have HR := Lib.hid (HO2.out 2 (if_pos (.inr (.inr h5))))
    have q5 : (d.s == d.dn) = true := by simpa using h5
    clear h5
    go_wp2_with fail
    go_ret
    exact ⟨by rw [HR.out]; rfl, hB1⟩
  have q5 : (d.s == d.dn) = false := by simpa using h5
  have HO3 : Hid (∀ r : Int, (if (os.take i).any (idEq d) = true then 6 else 0 : Int) = r → ordE (os.take i) nq d = r) := fun r h => HO2.out r (by rw [if_neg (fun hh => hh.elim h3 (fun hh => hh.elim h4 h5))]; exact h)
  clear h5 HO2
  go_wp2_with fail
  clear x0 x1 x2 x3 x4 x5 x6 x7 x8 x9 x10 x11 y0 y2
  go_loopw [8] (fun j wr => ∃ k : Nat, k ≤ i ∧ j = .int .i64 k ∧ Hid (((os.take i).drop k).any (idEq d) = (os.take i).any (idEq d)) ∧ Below v0.heap.size v0 wr) (fun j _ => i - (intOf j).toNat)
  case atStart => exact ⟨0, by omega, rfl, rfl, hb1⟩
  case round =>
    obtain ⟨k, hk, rfl, hr, hbr⟩ := hrel
    have hBr : Below w.heap.size w wr := hbv.trans (hbr.mono (by omega))
    obtain ⟨x0, x1, x2, x3, x4, x5, x6, x7, x8, x9, x10, x11, y0, y2⟩ := HX.out wr hbr
    have hlw : w.heap.size + 1 < wr.heap.size := Nat.lt_of_lt_of_le hlt0 hbr.size
    by_cases hlt : k < i
    · obtain ⟨z0, z1, z2, z3, z4, -⟩ := (HC.out k (by omega)).below hBr hb
      have HST := Lib.hid (anyT_step (idEq d) os i k hlt (by omega))
      have j1 : (k : Int) < i := by omega
      have j2 : (k : Int) < os.length := by omega
      generalize os.getD k Bun.zero = g at *
      have he : ∀ W, (binOp .eql 54 (.agg #[.int .i64 g.s, .int .i64 g.c, .int .i64 g.q, .int .i64 g.o, .int .i64 g.t]) (.agg #[.int .i64 d.s, .int .i64 d.c, .int .i64 d.q, .int .i64 d.o, .int .i64 d.t])).run Tryz.prog W = .ok (.bool (idEq d g)) W := fun W => eql5 W _ _ _ _ _ _ _ _ _ _
      cases hQ : idEq d g
      · have HT : Hid (((os.take i).drop (k + 1)).any (idEq d) = (os.take i).any (idEq d)) := by show _ = _; rw [← hr.out, HST.out, hQ]; rfl
        rw [hQ] at he
        clear hQ hr HST
        go_wp2_with fail
        go_quiet (fail)
        go_wp2_with fail
        go_roundw
        case rel => exact ⟨k + 1, by omega, by go_num, HT, below_drewN hbr _⟩
        case measure => simp [intOf]; omega
      · have HR := Lib.hid (HO3.out 6 (if_pos (by rw [← hr.out, HST.out, hQ]; rfl)))
        rw [hQ] at he
        clear hQ hr HST
        go_wp2_with fail
        go_quiet (fail)
        go_wp2_with fail
        go_ret
        exact ⟨by rw [HR.out]; rfl, below_drewN hBr _⟩
    · have HR := Lib.hid (HO3.out 0 (if_neg (by rw [← hr.out, List.drop_of_length_le (by rw [List.length_take]; omega)]; simp)))
      have j1 : ¬ (k : Int) < i := by omega
      clear hr
      go_wp2_with fail
      go_ret
      exact ⟨by rw [HR.out]; rfl, hBr⟩
set_option maxRecDepth 100000 in
set_option maxHeartbeats 8000000 in
theorem rmis_any (VQ VC VO VF VX : Value) (m : Mis) (w : World) (hM : MisAt w w.heap.size VQ VC VO VF VX m) : Calls Tryz.prog 9 #[.agg #[VQ, VC, VO, VF, VX, .bool m.bd]] w fun e w' => e = .returned (.int .i64 (misE m)) ∧ Below w.heap.size w w' := by
  obtain ⟨qs, cs, os, fs, xs, bd⟩ := m
  have HM := Lib.hid hM
  obtain ⟨hq, hc, ho, hf, hx⟩ := hM
  dsimp only at hq hc ho hf hx ⊢
  obtain ⟨A1, c1, rfl, hc1, hm1, -⟩ := hq
  obtain ⟨A2, c2, rfl, hc2, hm2, -⟩ := hc
  obtain ⟨A3, c3, rfl, hc3, hm3, -⟩ := ho
  obtain ⟨A4, c4, rfl, hc4, hm4, hA4⟩ := hf
  obtain ⟨A5, c5, rfl, hc5, hm5, hA5⟩ := hx
  have HA4 := Lib.hid hA4
  have HA5 := Lib.hid hA5
  clear hA4 hA5
  unfold maxLen at hm1 hm2 hm3 hm4 hm5
  have HEE : Hid (∀ r : Int, (if planE qs cs ≠ 0 then planE qs cs else if 8 < os.length ∨ 8 < fs.length ∨ 8 < xs.length then 4 else if ordsE qs.length [] os ≠ 0 then ordsE qs.length [] os else if fs.any (fltB qs.length) = true then 2 else if xs.any (otgB cs.length) = true then 2 else 0 : Int) = r → misE ⟨qs, cs, os, fs, xs, bd⟩ = r) := fun r h => h
  go_enter Tryz.func9, Tryz.ntmps9
  go_wp2_with fail
  have m0 : (w.alloc (.cells #[.slice A1 qs.length c1, .slice A2 cs.length c2, .slice A3 os.length c3, .slice A4 fs.length c4, .slice A5 xs.length c5, .bool bd] 30)).cell? ⟨w.heap.size, 0, none⟩ = some (.slice A1 qs.length c1) := by simp [go_sem]
  have m1 : (w.alloc (.cells #[.slice A1 qs.length c1, .slice A2 cs.length c2, .slice A3 os.length c3, .slice A4 fs.length c4, .slice A5 xs.length c5, .bool bd] 30)).cell? ⟨w.heap.size, 1, none⟩ = some (.slice A2 cs.length c2) := by simp [go_sem]
  have m2 : (w.alloc (.cells #[.slice A1 qs.length c1, .slice A2 cs.length c2, .slice A3 os.length c3, .slice A4 fs.length c4, .slice A5 xs.length c5, .bool bd] 30)).cell? ⟨w.heap.size, 2, none⟩ = some (.slice A3 os.length c3) := by simp [go_sem]
  have m3 : (w.alloc (.cells #[.slice A1 qs.length c1, .slice A2 cs.length c2, .slice A3 os.length c3, .slice A4 fs.length c4, .slice A5 xs.length c5, .bool bd] 30)).cell? ⟨w.heap.size, 3, none⟩ = some (.slice A4 fs.length c4) := by simp [go_sem]
  have m4 : (w.alloc (.cells #[.slice A1 qs.length c1, .slice A2 cs.length c2, .slice A3 os.length c3, .slice A4 fs.length c4, .slice A5 xs.length c5, .bool bd] 30)).cell? ⟨w.heap.size, 4, none⟩ = some (.slice A5 xs.length c5) := by simp [go_sem]
  have m5 : (w.alloc (.cells #[.slice A1 qs.length c1, .slice A2 cs.length c2, .slice A3 os.length c3, .slice A4 fs.length c4, .slice A5 xs.length c5, .bool bd] 30)).cell? ⟨w.heap.size, 5, none⟩ = some (.bool bd) := by simp [go_sem]
  have hbw : Below w.heap.size w (w.alloc (.cells #[.slice A1 qs.length c1, .slice A2 cs.length c2, .slice A3 os.length c3, .slice A4 fs.length c4, .slice A5 xs.length c5, .bool bd] 30)) := (Below.refl _ w).alloc (Nat.le_refl _) _
  have hsz : (w.alloc (.cells #[.slice A1 qs.length c1, .slice A2 cs.length c2, .slice A3 os.length c3, .slice A4 fs.length c4, .slice A5 xs.length c5, .bool bd] 30)).heap.size = w.heap.size + 1 := by simp
  generalize w.alloc (.cells #[.slice A1 qs.length c1, .slice A2 cs.length c2, .slice A3 os.length c3, .slice A4 fs.length c4, .slice A5 xs.length c5, .bool bd] 30) = v0 at *
  have HM0 := Lib.hid (HM.out.on hbw)
  have HX : Hid (∀ W, Below v0.heap.size v0 W → W.cell? ⟨w.heap.size, 0, none⟩ = some (.slice A1 qs.length c1) ∧ W.cell? ⟨w.heap.size, 1, none⟩ = some (.slice A2 cs.length c2) ∧ W.cell? ⟨w.heap.size, 2, none⟩ = some (.slice A3 os.length c3) ∧ W.cell? ⟨w.heap.size, 3, none⟩ = some (.slice A4 fs.length c4) ∧ W.cell? ⟨w.heap.size, 4, none⟩ = some (.slice A5 xs.length c5) ∧ W.cell? ⟨w.heap.size, 5, none⟩ = some (.bool bd)) := fun W h => by
    have e : ∀ k, W.cell? ⟨w.heap.size, k, none⟩ = v0.cell? ⟨w.heap.size, k, none⟩ := fun k => h.cell (p := ⟨w.heap.size, k, none⟩) (by show w.heap.size < v0.heap.size; omega)
    exact ⟨(e _).trans m0, (e _).trans m1, (e _).trans m2, (e _).trans m3, (e _).trans m4, (e _).trans m5⟩
  have hlt0 : w.heap.size < v0.heap.size := by omega
  have HSZ := Lib.hid hsz
  clear m0 m1 m2 m3 m4 m5 hsz HM
  refine (rpcheck_any _ _ _ _ _ HM0.out.q HM0.out.c).mono ?_
  rintro e w1 ⟨rfl, hb1⟩
  have hBB := bt' hbw hb1 (by omega)
  obtain ⟨n0, n1, n2, n3, n4, n5⟩ := HX.out w1 hb1
  by_cases hE : planE qs cs = 0
  rotate_left
  · have HR := Lib.hid (HEE.out _ (if_pos hE))
    have qE : (planE qs cs != 0) = true := by simpa using hE
    clear hE
    dsimp only
    generalize planE qs cs = er at *
    go_wp2_with fail
    go_ret
    exact ⟨by rw [HR.out]; rfl, hBB⟩
  have HR1 : Hid (∀ r : Int, (if 8 < os.length ∨ 8 < fs.length ∨ 8 < xs.length then 4 else if ordsE qs.length [] os ≠ 0 then ordsE qs.length [] os else if fs.any (fltB qs.length) = true then 2 else if xs.any (otgB cs.length) = true then 2 else 0 : Int) = r → misE ⟨qs, cs, os, fs, xs, bd⟩ = r) := fun r h => HEE.out r (by rw [if_neg (by simp [hE])]; exact h)
  rw [hE]
  clear hE HEE
  by_cases hL1 : 8 < os.length
  · have HR := Lib.hid (HR1.out 4 (if_pos (.inl hL1)))
    have hi1 : (8 : Int) < os.length := by omega
    go_wp2_with fail
    go_ret
    exact ⟨by rw [HR.out]; rfl, hBB⟩
  have hi1 : ¬ (8 : Int) < os.length := by omega
  by_cases hL2 : 8 < fs.length
  · have HR := Lib.hid (HR1.out 4 (if_pos (.inr (.inl hL2))))
    have hi2 : (8 : Int) < fs.length := by omega
    go_wp2_with fail
    go_ret
    exact ⟨by rw [HR.out]; rfl, hBB⟩
  have hi2 : ¬ (8 : Int) < fs.length := by omega
  by_cases hL3 : 8 < xs.length
  · have HR := Lib.hid (HR1.out 4 (if_pos (.inr (.inr hL3))))
    have hi3 : (8 : Int) < xs.length := by omega
    go_wp2_with fail
    go_ret
    exact ⟨by rw [HR.out]; rfl, hBB⟩
  have hi3 : ¬ (8 : Int) < xs.length := by omega
  have HR2 : Hid (∀ r : Int, (if ordsE qs.length [] os ≠ 0 then ordsE qs.length [] os else if fs.any (fltB qs.length) = true then 2 else if xs.any (otgB cs.length) = true then 2 else 0 : Int) = r → misE ⟨qs, cs, os, fs, xs, bd⟩ = r) := fun r h => HR1.out r (by rw [if_neg (fun hh => by rcases hh with hh | hh | hh; exact hL1 hh; exact hL2 hh; exact hL3 hh)]; exact h)
  have hlo : os.length ≤ 8 := by omega
  have hlf : fs.length ≤ 8 := by omega
  have hlx : xs.length ≤ 8 := by omega
  clear HR1 hL1 hL2 hL3
  go_wp2_with fail
  go_loopw [4] (fun i wr => ∃ k : Nat, k ≤ os.length ∧ i = .int .i64 k ∧ Hid (ordsE qs.length (os.take k) (os.drop k) = ordsE qs.length [] os) ∧ Below v0.heap.size v0 wr) (fun i _ => os.length - (intOf i).toNat)
  case atStart => exact ⟨0, by omega, rfl, rfl, hb1⟩
  case round =>
    obtain ⟨k, hk, rfl, hr, hbr⟩ := hrel
    obtain ⟨p0, p1, p2, p3, p4, p5⟩ := HX.out wr hbr
    have hzr := hbr.size
    clear n0 n1 n2 n3 n4 n5 hBB
    by_cases hlt : k < os.length
    · have HST := Lib.hid (ordsE_step qs.length os k hlt)
      have HO := Lib.hid (HM0.out.on hbr).o
      by_cases hE : ordE (os.take k) qs.length (os.getD k Bun.zero) = 0
      · have HT : Hid (ordsE qs.length (os.take (k + 1)) (os.drop (k + 1)) = ordsE qs.length [] os) := by show _ = _; rw [← hr.out, HST.out, if_neg (fun hh => hh hE)]
        have HE := Lib.hid hE
        clear hE HST hr
        go_wp2_with fail
        refine (rord_any A1 qs.length c1 (.slice A2 cs.length c2) (.slice A4 fs.length c4) (.slice A5 xs.length c5) (.bool bd) (.slice A3 os.length c3) os k hlt wr (by omega) HO.out).mono ?_
        rw [HE.out]
        rintro e w2 ⟨rfl, hb2⟩
        have hB2 := bt' hbr hb2 hzr
        clear hb2
        go_wp2_with fail
        go_roundw
        case rel => exact ⟨k + 1, by omega, by go_num, HT, hB2⟩
        case measure => simp [intOf]; omega
      · have HT : Hid (ordsE qs.length [] os = ordE (os.take k) qs.length (os.getD k Bun.zero)) := by show _ = _; rw [← hr.out, HST.out, if_pos hE]
        have HR : Hid (misE ⟨qs, cs, os, fs, xs, bd⟩ = ordE (os.take k) qs.length (os.getD k Bun.zero)) := by show _ = _; rw [HR2.out _ (if_pos (by rw [HT.out]; exact hE)), HT.out]
        have qE : (ordE (os.take k) qs.length (os.getD k Bun.zero) != 0) = true := by simpa using hE
        clear hE HST hr HT HR2
        go_wp2_with fail
        refine (rord_any A1 qs.length c1 (.slice A2 cs.length c2) (.slice A4 fs.length c4) (.slice A5 xs.length c5) (.bool bd) (.slice A3 os.length c3) os k hlt wr (by omega) HO.out).mono ?_
        rintro e w2 ⟨rfl, hb2⟩
        have hB2 := bt' hbr hb2 hzr
        clear hb2
        generalize ordE (os.take k) qs.length (os.getD k Bun.zero) = er at *
        go_wp2_with fail
        go_ret
        exact ⟨by rw [HR.out]; rfl, hbw.trans (hB2.mono (by omega))⟩
    · have HR3 : Hid (∀ r : Int, (if fs.any (fltB qs.length) = true then 2 else if xs.any (otgB cs.length) = true then 2 else 0 : Int) = r → misE ⟨qs, cs, os, fs, xs, bd⟩ = r) := fun r h => HR2.out r (by rw [if_neg (by rw [← hr.out, List.drop_of_length_le (by omega)]; simp [ordsE])]; exact h)
      obtain ⟨wo, rfl⟩ : ∃ wo : World, wo = wr := ⟨_, rfl⟩
      have hge : ¬ (k : Int) < os.length := by omega
      clear hr HR2
      go_wp2_with fail
      go_loopw [6] (fun i wr => ∃ k : Nat, k ≤ fs.length ∧ i = .int .i64 k ∧ Hid ((fs.drop k).any (fltB qs.length) = fs.any (fltB qs.length)) ∧ Below v0.heap.size v0 wr) (fun i _ => fs.length - (intOf i).toNat)
      case atStart => exact ⟨0, by omega, rfl, rfl, hbr⟩
      case round =>
        obtain ⟨j, hj, rfl, hr, hbr2⟩ := hrel
        obtain ⟨p0, p1, p2, p3, p4, p5⟩ := HX.out wr hbr2
        have hzr2 := hbr2.size
        clear hbr hzr
        have hlt2 : w.heap.size < wr.heap.size := by omega
        by_cases hlt : j < fs.length
        · obtain ⟨b, o, rfl, hb, hcell⟩ := HA4.out (by omega)
          obtain ⟨x0, x1, x2, x3⟩ := ((hcell j hlt).below (B' := v0.heap.size) hbw hb).below (B' := 0) hbr2 (by omega)
          have HST := Lib.hid (any_step (fltB qs.length) Flt.zero fs j hlt)
          clear hcell
          generalize fs.getD j Flt.zero = d at *
          obtain ⟨dn, da, dk, du⟩ := d
          dsimp only at x0 x1 x2 x3
          have hB2 : Below v0.heap.size v0 (wr.alloc (.cells #[.int .i64 dn, .int .i64 da, .int .i64 dk, .int .i64 du] 86)) := hbr2.alloc hzr2 _
          cases hF : fltB qs.length ⟨dn, da, dk, du⟩
          · have HT : Hid ((fs.drop (j + 1)).any (fltB qs.length) = fs.any (fltB qs.length)) := by show _ = _; rw [← hr.out, HST.out, hF]; rfl
            have hF2 := of_decide_eq_false hF
            dsimp only at hF2
            have f1 : ¬ dn < 0 := by omega
            have f2 : ¬ (qs.length : Int) ≤ dn := by omega
            have f3 : ¬ da < 0 := by omega
            have f4 : ¬ 1099511627776 < da := by omega
            have f5 : ¬ dk < 0 := by omega
            have f6 : ¬ 65536 < dk := by omega
            by_cases hu : du = -1
            · have qu : (du != -1) = false := by simpa using hu
              clear hF hF2 HST hr hu
              go_wp2_with fail
              go_roundw
              case rel => exact ⟨j + 1, by omega, by go_num, HT, hB2⟩
              case measure => simp [intOf]; omega
            · have qu : (du != -1) = true := by simpa using hu
              have f7 : ¬ du ≤ da := by omega
              have f8 : ¬ 1099511627776 < du := by omega
              clear hF hF2 HST hr hu
              go_wp2_with fail
              go_roundw
              case rel => exact ⟨j + 1, by omega, by go_num, HT, hB2⟩
              case measure => simp [intOf]; omega
          · have HR : Hid (misE ⟨qs, cs, os, fs, xs, bd⟩ = 2) := HR3.out 2 (if_pos (by rw [← hr.out, HST.out, hF]; rfl))
            have hF2 := of_decide_eq_true hF
            dsimp only at hF2
            clear hF HST hr HR3
            have hend : Below w.heap.size w (wr.alloc (.cells #[.int .i64 dn, .int .i64 da, .int .i64 dk, .int .i64 du] 86)) := hbw.trans (hB2.mono (by omega))
            by_cases f1 : dn < 0
            · clear hF2
              go_wp2_with fail
              go_ret
              exact ⟨by rw [HR.out]; rfl, hend⟩
            by_cases f2 : (qs.length : Int) ≤ dn
            · clear hF2
              go_wp2_with fail
              go_ret
              exact ⟨by rw [HR.out]; rfl, hend⟩
            by_cases f3 : da < 0
            · clear hF2
              go_wp2_with fail
              go_ret
              exact ⟨by rw [HR.out]; rfl, hend⟩
            by_cases f4 : 1099511627776 < da
            · clear hF2
              go_wp2_with fail
              go_ret
              exact ⟨by rw [HR.out]; rfl, hend⟩
            by_cases f5 : dk < 0
            · clear hF2
              go_wp2_with fail
              go_ret
              exact ⟨by rw [HR.out]; rfl, hend⟩
            by_cases f6 : 65536 < dk
            · clear hF2
              go_wp2_with fail
              go_ret
              exact ⟨by rw [HR.out]; rfl, hend⟩
            have hu : du ≠ -1 := by omega
            have qu : (du != -1) = true := by simpa using hu
            by_cases f7 : du ≤ da
            · clear hF2 hu
              go_wp2_with fail
              go_ret
              exact ⟨by rw [HR.out]; rfl, hend⟩
            have f8 : 1099511627776 < du := by omega
            clear hF2 hu
            go_wp2_with fail
            go_ret
            exact ⟨by rw [HR.out]; rfl, hend⟩
        · have HR4 : Hid (∀ r : Int, (if xs.any (otgB cs.length) = true then 2 else 0 : Int) = r → misE ⟨qs, cs, os, fs, xs, bd⟩ = r) := fun r h => HR3.out r (by rw [if_neg (by rw [← hr.out, List.drop_of_length_le (by omega)]; simp)]; exact h)
          obtain ⟨wo2, rfl⟩ : ∃ wo2 : World, wo2 = wr := ⟨_, rfl⟩
          have hge2 : ¬ (j : Int) < fs.length := by omega
          clear hr HR3
          go_wp2_with fail
          go_loopw [8] (fun i wr => ∃ k : Nat, k ≤ xs.length ∧ i = .int .i64 k ∧ Hid ((xs.drop k).any (otgB cs.length) = xs.any (otgB cs.length)) ∧ Below v0.heap.size v0 wr) (fun i _ => xs.length - (intOf i).toNat)
          case atStart => exact ⟨0, by omega, rfl, rfl, hbr2⟩
          case round =>
            obtain ⟨l, hl, rfl, hr, hbr3⟩ := hrel
            obtain ⟨p0, p1, p2, p3, p4, p5⟩ := HX.out wr hbr3
            have hzr3 := hbr3.size
            clear hbr2 hzr2
            have hlt3 : w.heap.size < wr.heap.size := by omega
            by_cases hlt : l < xs.length
            · obtain ⟨b, o, rfl, hb, hcell⟩ := HA5.out (by omega)
              obtain ⟨x0, x1, x2⟩ := ((hcell l hlt).below (B' := v0.heap.size) hbw hb).below (B' := 0) hbr3 (by omega)
              have HST := Lib.hid (any_step (otgB cs.length) Otg.zero xs l hlt)
              clear hcell
              generalize xs.getD l Otg.zero = d at *
              obtain ⟨dc, df, dt⟩ := d
              dsimp only at x0 x1 x2
              have hB2 : Below v0.heap.size v0 (wr.alloc (.cells #[.int .i64 dc, .int .i64 df, .int .i64 dt] 93)) := hbr3.alloc hzr3 _
              cases hF : otgB cs.length ⟨dc, df, dt⟩
              · have HT : Hid ((xs.drop (l + 1)).any (otgB cs.length) = xs.any (otgB cs.length)) := by show _ = _; rw [← hr.out, HST.out, hF]; rfl
                have hF2 := of_decide_eq_false hF
                dsimp only at hF2
                have f1 : ¬ dc < 0 := by omega
                have f2 : ¬ (cs.length : Int) ≤ dc := by omega
                have f3 : ¬ df < 0 := by omega
                have f4 : ¬ dt ≤ df := by omega
                have f5 : ¬ 1099511627776 < dt := by omega
                clear hF hF2 HST hr
                go_wp2_with fail
                go_roundw
                case rel => exact ⟨l + 1, by omega, by go_num, HT, hB2⟩
                case measure => simp [intOf]; omega
              · have HR : Hid (misE ⟨qs, cs, os, fs, xs, bd⟩ = 2) := HR4.out 2 (if_pos (by rw [← hr.out, HST.out, hF]; rfl))
                have hF2 := of_decide_eq_true hF
                dsimp only at hF2
                clear hF HST hr HR4
                have hend : Below w.heap.size w (wr.alloc (.cells #[.int .i64 dc, .int .i64 df, .int .i64 dt] 93)) := hbw.trans (hB2.mono (by omega))
                by_cases f1 : dc < 0
                · clear hF2
                  go_wp2_with fail
                  go_ret
                  exact ⟨by rw [HR.out]; rfl, hend⟩
                by_cases f2 : (cs.length : Int) ≤ dc
                · clear hF2
                  go_wp2_with fail
                  go_ret
                  exact ⟨by rw [HR.out]; rfl, hend⟩
                by_cases f3 : df < 0
                · clear hF2
                  go_wp2_with fail
                  go_ret
                  exact ⟨by rw [HR.out]; rfl, hend⟩
                by_cases f4 : dt ≤ df
                · clear hF2
                  go_wp2_with fail
                  go_ret
                  exact ⟨by rw [HR.out]; rfl, hend⟩
                have f5 : 1099511627776 < dt := by omega
                clear hF2
                go_wp2_with fail
                go_ret
                exact ⟨by rw [HR.out]; rfl, hend⟩
            · have HR : Hid (misE ⟨qs, cs, os, fs, xs, bd⟩ = 0) := HR4.out 0 (if_neg (by rw [← hr.out, List.drop_of_length_le (by omega)]; simp))
              have hge3 : ¬ (l : Int) < xs.length := by omega
              clear hr HR4
              go_wp2_with fail
              go_ret
              exact ⟨by rw [HR.out]; rfl, hbw.trans (hbr3.mono (by omega))⟩
end Go.Proofs.YtclkjjdfdndplaaGreatDoor

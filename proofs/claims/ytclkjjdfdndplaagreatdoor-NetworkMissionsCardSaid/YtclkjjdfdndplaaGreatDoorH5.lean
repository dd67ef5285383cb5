/- Missions: Check. -/
import Derived.Test.YtclkjjdfdndplaaGreatDoorH4
namespace Go.Proofs.YtclkjjdfdndplaaGreatDoor
open Go.RowKit
/-- a mission -/
structure Mis where
  q : List Int
  cs : List Con
  os : List Bun
  fs : List Flt
  xs : List Otg
  bd : Bool
deriving DecidableEq, Inhabited
def Mis.zero : Mis := ⟨[], [], [], [], [], false⟩
/-- five slices that read as a mission -/
structure MisAt (w : World) (B : Nat) (VQ VC VO VF VX : Value) (m : Mis) : Prop where
  q : Ints w B VQ m.q
  c : Cons w B VC m.cs
  o : Buns w B VO m.os
  f : Flts w B VF m.fs
  x : Otgs w B VX m.xs
theorem MisAt.below {w w' : World} {B : Nat} {VQ VC VO VF VX : Value} {m : Mis} (h : MisAt w B VQ VC VO VF VX m) (hb : Below B w w') : MisAt w' B VQ VC VO VF VX m := ⟨h.q.below hb, h.c.below hb, h.o.buns hb, h.f.flts hb, h.x.otgs hb⟩
theorem MisAt.more {w : World} {B B' : Nat} {VQ VC VO VF VX : Value} {m : Mis} (h : MisAt w B VQ VC VO VF VX m) (hB : B ≤ B') : MisAt w B' VQ VC VO VF VX m := ⟨h.q.more hB, h.c.more hB, h.o.buns_more hB, h.f.flts_more hB, h.x.otgs_more hB⟩
theorem MisAt.on {w w' : World} {VQ VC VO VF VX : Value} {m : Mis} (h : MisAt w w.heap.size VQ VC VO VF VX m) (hb : Below w.heap.size w w') : MisAt w' w'.heap.size VQ VC VO VF VX m := (h.below hb).more hb.size
theorem misAt_zero (w : World) (B : Nat) : MisAt w B (.slice none 0 0) (.slice none 0 0) (.slice none 0 0) (.slice none 0 0) (.slice none 0 0) Mis.zero := ⟨ints_nil w B, cons_nil w B, Sl.nil _ _ _ w B, Sl.nil _ _ _ w B, Sl.nil _ _ _ w B⟩
/-- a fault is not valid -/
def fltB (n : Int) (f : Flt) : Bool := decide (f.n < 0 ∨ n ≤ f.n ∨ f.a < 0 ∨ 1099511627776 < f.a ∨ f.k < 0 ∨ 65536 < f.k ∨ (f.u ≠ -1 ∧ (f.u ≤ f.a ∨ 1099511627776 < f.u)))
/-- an outage is not valid -/
def otgB (n : Int) (x : Otg) : Bool := decide (x.c < 0 ∨ n ≤ x.c ∨ x.f < 0 ∨ x.t ≤ x.f ∨ 1099511627776 < x.t)
def ordsE (n : Int) (pre : List Bun) : List Bun → Int
  | [] => 0
  | x :: t => if ordE pre n x ≠ 0 then ordE pre n x else ordsE n (pre ++ [x]) t
theorem ordsE_step (n : Int) (os : List Bun) (k : Nat) (h : k < os.length) : ordsE n (os.take k) (os.drop k) = if ordE (os.take k) n (os.getD k Bun.zero) ≠ 0 then ordE (os.take k) n (os.getD k Bun.zero) else ordsE n (os.take (k + 1)) (os.drop (k + 1)) := by
  rw [drop_get os Bun.zero k h, ordsE, take_get os Bun.zero k h]
theorem any_step {α : Type} (p : α → Bool) (z : α) (l : List α) (k : Nat) (h : k < l.length) : (l.drop k).any p = (p (l.getD k z) || (l.drop (k + 1)).any p) := by
  rw [drop_get l z k h, List.any_cons]
/-- why a mission is not valid -/
def misE (m : Mis) : Int := if planE m.q m.cs ≠ 0 then planE m.q m.cs else if 8 < m.os.length ∨ 8 < m.fs.length ∨ 8 < m.xs.length then 4 else if ordsE m.q.length [] m.os ≠ 0 then ordsE m.q.length [] m.os else if m.fs.any (fltB m.q.length) = true then 2 else if m.xs.any (otgB m.cs.length) = true then 2 else 0
set_option maxRecDepth 100000 in
set_option maxHeartbeats 8000000 in
theorem mis_any (VQ VC VO VF VX : Value) (m : Mis) (w : World) (hM : MisAt w w.heap.size VQ VC VO VF VX m) : Calls Tryz.prog 8 #[.agg #[VQ, VC, VO, VF, VX, .bool m.bd]] w fun e w' => e = .returned (.int .i64 (misE m)) ∧ Below w.heap.size w w' := by
  obtain ⟨qs, cs, os, fs, xs, bd⟩ := m
  have HM := Lib.hid hM
  obtain ⟨hq, hc, ho, hf, hx⟩ := hM
  dsimp only at hq hc ho hf hx ⊢
  obtain ⟨A1, c1, rfl, hc1, hm1, -⟩ := hq
  obtain ⟨A2, c2, rfl, hc2, hm2, -⟩ := hc
  obtain ⟨A3, c3, rfl, hc3, hm3, -⟩ := ho
  obtain ⟨A4, c4, rfl, hc4, hm4, hA4⟩ := hf
  obtain ⟨A5, c5, rfl, hc5, hm5, hA5⟩ := hx
  have HA4 := Lib.hid hA4
  have HA5 := Lib.hid hA5
  clear hA4 hA5
  unfold maxLen at hm1 hm2 hm3 hm4 hm5
  have HEE : Hid (∀ r : Int, (if planE qs cs ≠ 0 then planE qs cs else if 8 < os.length ∨ 8 < fs.length ∨ 8 < xs.length then 4 else if ordsE qs.length [] os ≠ 0 then ordsE qs.length [] os else if fs.any (fltB qs.length) = true then 2 else if xs.any (otgB cs.length) = true then 2 else 0 : Int) = r → misE ⟨qs, cs, os, fs, xs, bd⟩ = r) := fun r h => h
  go_enter Tryz.func8, Tryz.ntmps8
  go_wp2_with fail
  have m0 : (w.alloc (.cells #[.slice A1 qs.length c1, .slice A2 cs.length c2, .slice A3 os.length c3, .slice A4 fs.length c4, .slice A5 xs.length c5, .bool bd] 30)).cell? ⟨w.heap.size, 0, none⟩ = some (.slice A1 qs.length c1) := by simp [go_sem]
  have m1 : (w.alloc (.cells #[.slice A1 qs.length c1, .slice A2 cs.length c2, .slice A3 os.length c3, .slice A4 fs.length c4, .slice A5 xs.length c5, .bool bd] 30)).cell? ⟨w.heap.size, 1, none⟩ = some (.slice A2 cs.length c2) := by simp [go_sem]
  have m2 : (w.alloc (.cells #[.slice A1 qs.length c1, .slice A2 cs.length c2, .slice A3 os.length c3, .slice A4 fs.length c4, .slice A5 xs.length c5, .bool bd] 30)).cell? ⟨w.heap.size, 2, none⟩ = some (.slice A3 os.length c3) := by simp [go_sem]
  have m3 : (w.alloc (.cells #[.slice A1 qs.length c1, .slice A2 cs.length c2, .slice A3 os.length c3, .slice A4 fs.length c4, .slice A5 xs.length c5, .bool bd] 30)).cell? ⟨w.heap.size, 3, none⟩ = some (.slice A4 fs.length c4) := by simp [go_sem]
  have m4 : (w.alloc (.cells #[.slice A1 qs.length c1, .slice A2 cs.length c2, .slice A3 os.length c3, .slice A4 fs.length c4, .slice A5 xs.length c5, .bool bd] 30)).cell? ⟨w.heap.size, 4, none⟩ = some (.slice A5 xs.length c5) := by simp [go_sem]
  have m5 : (w.alloc (.cells #[.slice A1 qs.length c1, .slice A2 cs.length c2, .slice A3 os.length c3, .slice A4 fs.length c4, .slice A5 xs.length c5, .bool bd] 30)).cell? ⟨w.heap.size, 5, none⟩ = some (.bool bd) := by simp [go_sem]
  have hbw : Below w.heap.size w (w.alloc (.cells #[.slice A1 qs.length c1, .slice A2 cs.length c2, .slice A3 os.length c3, .slice A4 fs.length c4, .slice A5 xs.length c5, .bool bd] 30)) := (Below.refl _ w).alloc (Nat.le_refl _) _
  have hsz : (w.alloc (.cells #[.slice A1 qs.length c1, .slice A2 cs.length c2, .slice A3 os.length c3, .slice A4 fs.length c4, .slice A5 xs.length c5, .bool bd] 30)).heap.size = w.heap.size + 1 := by simp
  generalize w.alloc (.cells #[.slice A1 qs.length c1, .slice A2 cs.length c2, .slice A3 os.length c3, .slice A4 fs.length c4, .slice A5 xs.length c5, .bool bd] 30) = v0 at *
  have HM0 := Lib.hid (HM.out.on hbw)
  have HX : Hid (∀ W, Below v0.heap.size v0 W → W.cell? ⟨w.heap.size, 0, none⟩ = some (.slice A1 qs.length c1) ∧ W.cell? ⟨w.heap.size, 1, none⟩ = some (.slice A2 cs.length c2) ∧ W.cell? ⟨w.heap.size, 2, none⟩ = some (.slice A3 os.length c3) ∧ W.cell? ⟨w.heap.size, 3, none⟩ = some (.slice A4 fs.length c4) ∧ W.cell? ⟨w.heap.size, 4, none⟩ = some (.slice A5 xs.length c5) ∧ W.cell? ⟨w.heap.size, 5, none⟩ = some (.bool bd)) := fun W h => by
    have e : ∀ k, W.cell? ⟨w.heap.size, k, none⟩ = v0.cell? ⟨w.heap.size, k, none⟩ := fun k => h.cell (p := ⟨w.heap.size, k, none⟩) (by show w.heap.size < v0.heap.size; omega)
    exact ⟨(e _).trans m0, (e _).trans m1, (e _).trans m2, (e _).trans m3, (e _).trans m4, (e _).trans m5⟩
  have hlt0 : w.heap.size < v0.heap.size := by omega
  have HSZ := Lib.hid hsz
  clear m0 m1 m2 m3 m4 m5 hsz HM
  refine (pcheck_any _ _ _ _ _ HM0.out.q HM0.out.c).mono ?_
  rintro e w1 ⟨rfl, hb1⟩
  have hBB := bt' hbw hb1 (by omega)
  obtain ⟨n0, n1, n2, n3, n4, n5⟩ := HX.out w1 hb1
  by_cases hE : planE qs cs = 0
  rotate_left
  · have HR := Lib.hid (HEE.out _ (if_pos hE))
    have qE : (planE qs cs != 0) = true := by simpa using hE
    clear hE
    dsimp only
    generalize planE qs cs = er at *
    go_wp2_with fail
    go_ret
    exact ⟨by rw [HR.out]; rfl, hBB⟩
  have HR1 : Hid (∀ r : Int, (if 8 < os.length ∨ 8 < fs.length ∨ 8 < xs.length then 4 else if ordsE qs.length [] os ≠ 0 then ordsE qs.length [] os else if fs.any (fltB qs.length) = true then 2 else if xs.any (otgB cs.length) = true then 2 else 0 : Int) = r → misE ⟨qs, cs, os, fs, xs, bd⟩ = r) := fun r h => HEE.out r (by rw [if_neg (by simp [hE])]; exact h)
  rw [hE]
  clear hE HEE
  by_cases hL1 : 8 < os.length
  · have HR := Lib.hid (HR1.out 4 (if_pos (.inl hL1)))
    have hi1 : (8 : Int) < os.length := by omega
    go_wp2_with fail
    go_ret
    exact ⟨by rw [HR.out]; rfl, hBB⟩
  have hi1 : ¬ (8 : Int) < os.length := by omega
  by_cases hL2 : 8 < fs.length
  · have HR := Lib.hid (HR1.out 4 (if_pos (.inr (.inl hL2))))
    have hi2 : (8 : Int) < fs.length := by omega
    go_wp2_with fail
    go_ret
    exact ⟨by rw [HR.out]; rfl, hBB⟩
  have hi2 : ¬ (8 : Int) < fs.length := by omega
  by_cases hL3 : 8 < xs.length
  · have HR := Lib.hid (HR1.out 4 (if_pos (.inr (.inr hL3))))
    have hi3 : (8 : Int) < xs.length := by omega
    go_wp2_with fail
    go_ret
    exact ⟨by rw [HR.out]; rfl, hBB⟩
  have hi3 : ¬ (8 : Int) < xs.length := by omega
  have HR2 : Hid (∀ r : Int, (if ordsE qs.length [] os ≠ 0 then ordsE qs.length [] os else if fs.any (fltB qs.length) = true then 2 else if xs.any (otgB cs.length) = true then 2 else 0 : Int) = r → misE ⟨qs, cs, os, fs, xs, bd⟩ = r) := fun r h => HR1.out r (by rw [if_neg (fun hh => by rcases hh with hh | hh | hh; exact hL1 hh; exact hL2 hh; exact hL3 hh)]; exact h)
  have hlo : os.length ≤ 8 := by omega
  have hlf : fs.length ≤ 8 := by omega
  have hlx : xs.length ≤ 8 := by omega
  clear HR1 hL1 hL2 hL3
  go_wp2_with fail
  go_loopw [35] (fun i wr => ∃ k : Nat, k ≤ os.length ∧ i = .int .i64 k ∧ Hid (ordsE qs.length (os.take k) (os.drop k) = ordsE qs.length [] os) ∧ Below v0.heap.size v0 wr) (fun i _ => os.length - (intOf i).toNat)
  case atStart => exact ⟨0, by omega, rfl, rfl, hb1⟩
  case round =>
    obtain ⟨k, hk, rfl, hr, hbr⟩ := hrel
    obtain ⟨p0, p1, p2, p3, p4, p5⟩ := HX.out wr hbr
    have hzr := hbr.size
    clear n0 n1 n2 n3 n4 n5 hBB
    by_cases hlt : k < os.length
    · have HST := Lib.hid (ordsE_step qs.length os k hlt)
      have HO := Lib.hid (HM0.out.on hbr).o
      by_cases hE : ordE (os.take k) qs.length (os.getD k Bun.zero) = 0
      · have HT : Hid (ordsE qs.length (os.take (k + 1)) (os.drop (k + 1)) = ordsE qs.length [] os) := by show _ = _; rw [← hr.out, HST.out, if_neg (fun hh => hh hE)]
        have HE := Lib.hid hE
        clear hE HST hr
        go_wp2_with fail
        refine (order_any A1 qs.length c1 (.slice A2 cs.length c2) (.slice A4 fs.length c4) (.slice A5 xs.length c5) (.bool bd) (.slice A3 os.length c3) os k hlt wr (by omega) HO.out).mono ?_
        rw [HE.out]
        rintro e w2 ⟨rfl, hb2⟩
        have hB2 := bt' hbr hb2 hzr
        clear hb2
        go_wp2_with fail
        go_roundw
        case rel => exact ⟨k + 1, by omega, by go_num, HT, hB2⟩
        case measure => simp [intOf]; omega
      · have HT : Hid (ordsE qs.length [] os = ordE (os.take k) qs.length (os.getD k Bun.zero)) := by show _ = _; rw [← hr.out, HST.out, if_pos hE]
        have HR : Hid (misE ⟨qs, cs, os, fs, xs, bd⟩ = ordE (os.take k) qs.length (os.getD k Bun.zero)) := by show _ = _; rw [HR2.out _ (if_pos (by rw [HT.out]; exact hE)), HT.out]
        have qE : (ordE (os.take k) qs.length (os.getD k Bun.zero) != 0) = true := by simpa using hE
        clear hE HST hr HT HR2
        go_wp2_with fail
        refine (order_any A1 qs.length c1 (.slice A2 cs.length c2) (.slice A4 fs.length c4) (.slice A5 xs.length c5) (.bool bd) (.slice A3 os.length c3) os k hlt wr (by omega) HO.out).mono ?_
        rintro e w2 ⟨rfl, hb2⟩
        have hB2 := bt' hbr hb2 hzr
        clear hb2
        generalize ordE (os.take k) qs.length (os.getD k Bun.zero) = er at *
        go_wp2_with fail
        go_ret
        exact ⟨by rw [HR.out]; rfl, hbw.trans (hB2.mono (by omega))⟩
    · have HR3 : Hid (∀ r : Int, (if fs.any (fltB qs.length) = true then 2 else if xs.any (otgB cs.length) = true then 2 else 0 : Int) = r → misE ⟨qs, cs, os, fs, xs, bd⟩ = r) := fun r h => HR2.out r (by rw [if_neg (by rw [← hr.out, List.drop_of_length_le (by omega)]; simp [ordsE])]; exact h)
      obtain ⟨wo, rfl⟩ : ∃ wo : World, wo = wr := ⟨_, rfl⟩
      have hge : ¬ (k : Int) < os.length := by omega
      clear hr HR2
      go_wp2_with fail
      go_loopw [48] (fun i wr => ∃ k : Nat, k ≤ fs.length ∧ i = .int .i64 k ∧ Hid ((fs.drop k).any (fltB qs.length) = fs.any (fltB qs.length)) ∧ Below v0.heap.size v0 wr) (fun i _ => fs.length - (intOf i).toNat)
      case atStart => exact ⟨0, by omega, rfl, rfl, hbr⟩
      case round =>
        obtain ⟨j, hj, rfl, hr, hbr2⟩ := hrel
        obtain ⟨p0, p1, p2, p3, p4, p5⟩ := HX.out wr hbr2
        have hzr2 := hbr2.size
        clear hbr hzr
        have hlt2 : w.heap.size < wr.heap.size := by omega
        by_cases hlt : j < fs.length
        · obtain ⟨b, o, rfl, hb, hcell⟩ := HA4.out (by omega)
          obtain ⟨x0, x1, x2, x3⟩ := ((hcell j hlt).below (B' := v0.heap.size) hbw hb).below (B' := 0) hbr2 (by omega)
          have HST := Lib.hid (any_step (fltB qs.length) Flt.zero fs j hlt)
          clear hcell
          generalize fs.getD j Flt.zero = d at *
          obtain ⟨dn, da, dk, du⟩ := d
          dsimp only at x0 x1 x2 x3
          have hB2 : Below v0.heap.size v0 (wr.alloc (.cells #[.int .i64 dn, .int .i64 da, .int .i64 dk, .int .i64 du] 86)) := hbr2.alloc hzr2 _
          cases hF : fltB qs.length ⟨dn, da, dk, du⟩
          · have HT : Hid ((fs.drop (j + 1)).any (fltB qs.length) = fs.any (fltB qs.length)) := by show _ = _; rw [← hr.out, HST.out, hF]; rfl
            have hF2 := of_decide_eq_false hF
            dsimp only at hF2
            have f1 : ¬ dn < 0 := by omega
            have f2 : ¬ (qs.length : Int) ≤ dn := by omega
            have f3 : ¬ da < 0 := by omega
            have f4 : ¬ 1099511627776 < da := by omega
            have f5 : ¬ dk < 0 := by omega
            have f6 : ¬ 65536 < dk := by omega
            by_cases hu : du = -1
            · have qu : (du != -1) = false := by simpa using hu
              clear hF hF2 HST hr hu
              go_wp2_with fail
              go_roundw
              case rel => exact ⟨j + 1, by omega, by go_num, HT, hB2⟩
              case measure => simp [intOf]; omega
            · have qu : (du != -1) = true := by simpa using hu
              have f7 : ¬ du ≤ da := by omega
              have f8 : ¬ 1099511627776 < du := by omega
              clear hF hF2 HST hr hu
              go_wp2_with fail
              go_roundw
              case rel => exact ⟨j + 1, by omega, by go_num, HT, hB2⟩
              case measure => simp [intOf]; omega
          · have HR : Hid (misE ⟨qs, cs, os, fs, xs, bd⟩ = 2) := HR3.out 2 (if_pos (by rw [← hr.out, HST.out, hF]; rfl))
            have hF2 := of_decide_eq_true hF
            dsimp only at hF2
            clear hF HST hr HR3
            have hend : Below w.heap.size w (wr.alloc (.cells #[.int .i64 dn, .int .i64 da, .int .i64 dk, .int .i64 du] 86)) := hbw.trans (hB2.mono (by omega))
            by_cases f1 : dn < 0
            · clear hF2
              go_wp2_with fail
              go_ret
              exact ⟨by rw [HR.out]; rfl, hend⟩
            by_cases f2 : (qs.length : Int) ≤ dn
            · clear hF2
              go_wp2_with fail
              go_ret
              exact ⟨by rw [HR.out]; rfl, hend⟩
            by_cases f3 : da < 0
            · clear hF2
              go_wp2_with fail
              go_ret
              exact ⟨by rw [HR.out]; rfl, hend⟩
            by_cases f4 : 1099511627776 < da
            · clear hF2
              go_wp2_with fail
              go_ret
              exact ⟨by rw [HR.out]; rfl, hend⟩
            by_cases f5 : dk < 0
            · clear hF2
              go_wp2_with fail
              go_ret
              exact ⟨by rw [HR.out]; rfl, hend⟩
            by_cases f6 : 65536 < dk
            · clear hF2
              go_wp2_with fail
              go_ret
              exact ⟨by rw [HR.out]; rfl, hend⟩
            have hu : du ≠ -1 := by omega
            have qu : (du != -1) = true := by simpa using hu
            by_cases f7 : du ≤ da
            · clear hF2 hu
              go_wp2_with fail
              go_ret
              exact ⟨by rw [HR.out]; rfl, hend⟩
            have f8 : 1099511627776 < du := by omega
            clear hF2 hu
            go_wp2_with fail
            go_ret
            exact ⟨by rw [HR.out]; rfl, hend⟩
        · have HR4 : Hid (∀ r : Int, (if xs.any (otgB cs.length) = true then 2 else 0 : Int) = r → misE ⟨qs, cs, os, fs, xs, bd⟩ = r) := fun r h => HR3.out r (by rw [if_neg (by rw [← hr.out, List.drop_of_length_le (by omega)]; simp)]; exact h)
          obtain ⟨wo2, rfl⟩ : ∃ wo2 : World, wo2 = wr := ⟨_, rfl⟩
          have hge2 : ¬ (j : Int) < fs.length := by omega
          clear hr HR3
          go_wp2_with fail
          go_loopw [105] (fun i wr => ∃ k : Nat, k ≤ xs.length ∧ i = .int .i64 k ∧ Hid ((xs.drop k).any (otgB cs.length) = xs.any (otgB cs.length)) ∧ Below v0.heap.size v0 wr) (fun i _ => xs.length - (intOf i).toNat)
          case atStart => exact ⟨0, by omega, rfl, rfl, hbr2⟩
          case round =>
            obtain ⟨l, hl, rfl, hr, hbr3⟩ := hrel
            obtain ⟨p0, p1, p2, p3, p4, p5⟩ := HX.out wr hbr3
            have hzr3 := hbr3.size
            clear hbr2 hzr2
            have hlt3 : w.heap.size < wr.heap.size := by omega
            by_cases hlt : l < xs.length
            · obtain ⟨b, o, rfl, hb, hcell⟩ := HA5.out (by omega)
              obtain ⟨x0, x1, x2⟩ := ((hcell l hlt).below (B' := v0.heap.size) hbw hb).below (B' := 0) hbr3 (by omega)
              have HST := Lib.hid (any_step (otgB cs.length) Otg.zero xs l hlt)
              clear hcell
              generalize xs.getD l Otg.zero = d at *
              obtain ⟨dc, df, dt⟩ := d
              dsimp only at x0 x1 x2
              have hB2 : Below v0.heap.size v0 (wr.alloc (.cells #[.int .i64 dc, .int .i64 df, .int .i64 dt] 93)) := hbr3.alloc hzr3 _
              cases hF : otgB cs.length ⟨dc, df, dt⟩
              · have HT : Hid ((xs.drop (l + 1)).any (otgB cs.length) = xs.any (otgB cs.length)) := by show _ = _; rw [← hr.out, HST.out, hF]; rfl
                have hF2 := of_decide_eq_false hF
                dsimp only at hF2
                have f1 : ¬ dc < 0 := by omega
                have f2 : ¬ (cs.length : Int) ≤ dc := by omega
                have f3 : ¬ df < 0 := by omega
                have f4 : ¬ dt ≤ df := by omega
                have f5 : ¬ 1099511627776 < dt := by omega
                clear hF hF2 HST hr
                go_wp2_with fail
                go_roundw
                case rel => exact ⟨l + 1, by omega, by go_num, HT, hB2⟩
                case measure => simp [intOf]; omega
              · have HR : Hid (misE ⟨qs, cs, os, fs, xs, bd⟩ = 2) := HR4.out 2 (if_pos (by rw [← hr.out, HST.out, hF]; rfl))
                have hF2 := of_decide_eq_true hF
                dsimp only at hF2
                clear hF HST hr HR4
                have hend : Below w.heap.size w (wr.alloc (.cells #[.int .i64 dc, .int .i64 df, .int .i64 dt] 93)) := hbw.trans (hB2.mono (by omega))
                by_cases f1 : dc < 0
                · clear hF2
                  go_wp2_with fail
                  go_ret
                  exact ⟨by rw [HR.out]; rfl, hend⟩
                by_cases f2 : (cs.length : Int) ≤ dc
                · clear hF2
                  go_wp2_with fail
                  go_ret
                  exact ⟨by rw [HR.out]; rfl, hend⟩
                by_cases f3 : df < 0
                · clear hF2
                  go_wp2_with fail
                  go_ret
                  exact ⟨by rw [HR.out]; rfl, hend⟩
                by_cases f4 : dt ≤ df
                · clear hF2
                  go_wp2_with fail
                  go_ret
                  exact ⟨by rw [HR.out]; rfl, hend⟩
                have f5 : 1099511627776 < dt := by omega
                clear hF2
                go_wp2_with fail
                go_ret
                exact ⟨by rw [HR.out]; rfl, hend⟩
            · have HR : Hid (misE ⟨qs, cs, os, fs, xs, bd⟩ = 0) := HR4.out 0 (if_neg (by rw [← hr.out, List.drop_of_length_le (by omega)]; simp))
              have hge3 : ¬ (l : Int) < xs.length := by omega
              clear hr HR4
              go_wp2_with fail
              go_ret
              exact ⟨by rw [HR.out]; rfl, hbw.trans (hbr3.mono (by omega))⟩
end Go.Proofs.YtclkjjdfdndplaaGreatDoor

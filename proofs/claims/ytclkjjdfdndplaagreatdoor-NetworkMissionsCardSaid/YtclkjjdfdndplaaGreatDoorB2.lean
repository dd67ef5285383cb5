/- The reference's bundles: blocks (85), Check (48). -/
import Derived.Test.YtclkjjdfdndplaaGreatDoorB1
import Derived.Test.YtclkjjdfdndplaaGreatDoorA8
namespace Go.Proofs.YtclkjjdfdndplaaGreatDoor
open Go.RowKit
set_option maxHeartbeats 2000000 in
theorem rbks_any (v : Value) (l : List Blk) (w : World) (h : Blks w w.heap.size v l) : Calls Tryz.prog 85 #[v] w fun e w' => e = .returned (.int .i64 (bksE l)) ∧ Below w.heap.size w w' := by
  obtain ⟨A, c, rfl, hc, hm, hA⟩ := h
  unfold maxLen at hm
  by_cases h8 : 8 < l.length
  · have HE : Hid (bksE l = 4) := if_pos h8
    have h8i : (8 : Int) < l.length := by omega
    clear h8
    go_enter Tryz.func85, Tryz.ntmps85
    go_wp2_with fail
    go_ret
    exact ⟨by rw [HE.out]; rfl, Below.refl _ _⟩
  have HE : Hid (bksE l = if bksE1 l ≠ 0 then bksE1 l else if ascK l = true then 0 else 9) := if_neg h8
  have h8i : ¬ (8 : Int) < l.length := by omega
  have hl8 : l.length ≤ 8 := by omega
  have HA := Lib.hid hA
  clear hA h8
  go_enter Tryz.func85, Tryz.ntmps85
  go_wp2_with fail
  go_loopw [3] (fun i wr => ∃ k : Nat, k ≤ l.length ∧ i = .int .i64 k ∧ Hid (bksE1 (l.drop k) = bksE1 l) ∧ Below w.heap.size w wr) (fun i _ => l.length - (intOf i).toNat)
  case atStart => exact ⟨0, by omega, rfl, rfl, Below.refl _ _⟩
  case round =>
    obtain ⟨k, hk, rfl, hr, hbr⟩ := hrel
    by_cases hlt : k < l.length
    · obtain ⟨b, o, rfl, hb, hcell⟩ := HA.out (by omega)
      obtain ⟨x0, x1, x2⟩ := (hcell k hlt).below (B' := 0) hbr hb
      have HST := Lib.hid (bksE1_step l k hlt)
      have hzr := hbr.size
      clear hcell
      generalize l.getD k Blk.zero = d at *
      by_cases hE : blE d = 0
      · have HH : Hid (bksE1 (l.drop (k + 1)) = bksE1 l) := by show _ = _; rw [← hr.out, HST.out, if_neg (by simp [hE])]
        have H0 := Lib.hid hE
        clear hE
        go_wp2_with fail
        refine (rbl_any d _).mono ?_
        rw [H0.out]
        rintro e w3 ⟨rfl, hb3⟩
        have hB3 := bt' hbr hb3 (by omega)
        clear hb3
        go_wp2_with fail
        go_roundw
        case rel => exact ⟨k + 1, by omega, by go_num, HH, hB3⟩
        case measure => simp [intOf]; omega
      · have HT : Hid (bksE l = blE d) := by show _ = _; rw [HE.out, ← hr.out, HST.out, if_pos hE, if_pos hE]
        have q : (blE d != 0) = true := by simpa using hE
        have H0 := Lib.hid hE
        clear hE
        go_wp2_with fail
        refine (rbl_any d _).mono ?_
        rintro e w3 ⟨rfl, hb3⟩
        have hB3 := bt' hbr hb3 (by omega)
        clear hb3
        generalize blE d = er at *
        go_wp2_with fail
        go_ret
        exact ⟨by rw [HT.out]; rfl, hB3⟩
    · have HQ : Hid (bksE l = if ascK l = true then 0 else 9) := by show _ = _; rw [HE.out, ← hr.out, List.drop_of_length_le (by omega)]; simp [bksE1]
      obtain ⟨wo, rfl⟩ : ∃ wo : World, wo = wr := ⟨_, rfl⟩
      clear hr HE
      go_wp2_with fail
      go_loopw [5] (fun i wr => ∃ k : Nat, 1 ≤ k ∧ (k ≤ l.length ∨ k = 1) ∧ i = .int .i64 k ∧ Hid (∀ i, i + 1 < k → (l.getD i Blk.zero).k < (l.getD (i + 1) Blk.zero).k) ∧ Below w.heap.size w wr) (fun i _ => l.length + 1 - (intOf i).toNat)
      case atStart => exact ⟨1, by omega, .inr rfl, rfl, fun i hi => by omega, hbr⟩
      case round =>
        obtain ⟨k, hk1, hk2, rfl, hr2, hbr2⟩ := hrel
        have hk9 : k ≤ 9 := by omega
        by_cases hlt : k < l.length
        · obtain ⟨b, o, rfl, hb, hcell⟩ := HA.out (by omega)
          obtain ⟨x0, -, -⟩ := (hcell k hlt).below (B' := 0) hbr2 hb
          obtain ⟨z0, -, -⟩ := (hcell (k - 1) (by omega)).below (B' := 0) hbr2 hb
          obtain ⟨j, rfl⟩ : ∃ j, k = j + 1 := ⟨k - 1, by omega⟩
          simp only [Nat.add_sub_cancel] at z0
          have hki : (0 : Int) ≤ (j : Int) + 1 := by omega
          have hli : (j : Int) + 1 < l.length := by omega
          have hji : (j : Int) + 1 - 1 = j := by omega
          have HG : Hid ((l.getD j Blk.zero).k < (l.getD (j + 1) Blk.zero).k → ∀ i, i + 1 < j + 1 + 1 → (l.getD i Blk.zero).k < (l.getD (i + 1) Blk.zero).k) := fun h i hi => by
            rcases Nat.lt_or_ge (i + 1) (j + 1) with h' | h'
            · exact hr2.out i h'
            · obtain rfl : i = j := by omega
              exact h
          have HX : Hid (¬ (l.getD j Blk.zero).k < (l.getD (j + 1) Blk.zero).k → bksE l = 9) := fun h => by
            rw [HQ.out, if_neg]
            intro hh
            exact h ((ascK_iff l).1 hh j hlt)
          clear hcell hr2 HQ
          generalize (l.getD j Blk.zero).k = p at *
          generalize (l.getD (j + 1) Blk.zero).k = r at *
          by_cases hlt2 : p < r
          · have HG := Lib.hid (HG.out hlt2)
            have q : ¬ r ≤ p := by omega
            clear HX
            go_wp2_with fail
            go_quiet (fail)
            go_wp2_with fail
            go_roundw
            case rel => exact ⟨j + 1 + 1, by omega, .inl (by omega), by go_num, HG, below_drewN hbr2 _⟩
            case measure => simp [intOf]; omega
          · have HT := Lib.hid (HX.out hlt2)
            have q : r ≤ p := by omega
            clear HX HG
            go_wp2_with fail
            go_quiet (fail)
            go_wp2_with fail
            go_ret
            exact ⟨by rw [HT.out]; rfl, below_drewN hbr2 _⟩
        · have HT : Hid (bksE l = 0) := by
            show _ = _
            rw [HQ.out, if_pos]
            rw [ascK_iff]
            intro i hi
            exact hr2.out i (by omega)
          have hge : ¬ (k : Int) < l.length := by omega
          clear HQ hr2
          go_wp2_with fail
          go_ret
          exact ⟨by rw [HT.out]; rfl, hbr2⟩
set_option maxRecDepth 100000 in
set_option maxHeartbeats 8000000 in
theorem rbun_any (x : Bun) (V : Value) (w : World) (hV : Blks w w.heap.size V x.bl) : Calls Tryz.prog 48 #[.agg #[.int .i64 x.s, .int .i64 x.c, .int .i64 x.q, .int .i64 x.o, .int .i64 x.t, .int .i64 x.dk, .int .i64 x.dn, .int .i64 x.lf, .int .i64 x.pr, .int .i64 x.fl, V, .string x.py]] w fun e w' => e = .returned (.int .i64 (bunE x)) ∧ Below w.heap.size w w' := by
  obtain ⟨s, c, q, o, t, dk, dn, lf, pr, fl, bl, py⟩ := x
  dsimp only at hV ⊢
  have HV := Lib.hid hV
  obtain ⟨AV, cV, rfl, hc, hm, -⟩ := hV
  have HB : Hid (∀ r : Int, (if idE s c q o t ≠ 0 then idE s c q o t else if epE dk dn ≠ 0 then epE dk dn else if lf < 1 ∨ 1099511627776 - c < lf then 2 else if inB 0 2 pr = false then 8 else if flE t fl ≠ 0 then flE t fl else if bksE bl ≠ 0 then bksE bl else pyE py.size o t : Int) = r → bunE ⟨s, c, q, o, t, dk, dn, lf, pr, fl, bl, py⟩ = r) := fun r h => h
  go_enter Tryz.func48, Tryz.ntmps48
  go_wp2_with fail
  have M0 : ∀ i, (w.alloc (.cells #[.int .i64 s, .int .i64 c, .int .i64 q, .int .i64 o, .int .i64 t, .int .i64 dk, .int .i64 dn, .int .i64 lf, .int .i64 pr, .int .i64 fl, .slice AV bl.length cV, .string py] 59)).cell? ⟨w.heap.size, i, none⟩ = (#[.int .i64 s, .int .i64 c, .int .i64 q, .int .i64 o, .int .i64 t, .int .i64 dk, .int .i64 dn, .int .i64 lf, .int .i64 pr, .int .i64 fl, .slice AV bl.length cV, .string py] : Array Value)[i]? := fun i => Eng.World.cell_of (heap_alloc_last w (.cells #[.int .i64 s, .int .i64 c, .int .i64 q, .int .i64 o, .int .i64 t, .int .i64 dk, .int .i64 dn, .int .i64 lf, .int .i64 pr, .int .i64 fl, .slice AV bl.length cV, .string py] 59)) i
  have hbw : Below w.heap.size w (w.alloc (.cells #[.int .i64 s, .int .i64 c, .int .i64 q, .int .i64 o, .int .i64 t, .int .i64 dk, .int .i64 dn, .int .i64 lf, .int .i64 pr, .int .i64 fl, .slice AV bl.length cV, .string py] 59)) := by (repeat' (first | (with_reducible exact Below.refl _ _) | (with_reducible refine Below.alloc ?_ ?_ _) | (with_reducible refine Below.drew ?_) | (with_reducible refine below_drewN ?_ _) | (with_reducible refine Below.setCell ?_ ?_ _) | (with_reducible refine Below.trans ?_ (Below.mono (by assumption) ?_)) | (with_reducible exact Nat.le_refl _) | omega | (simp; omega) | (simp; done)))
  have hlt0 : w.heap.size < (w.alloc (.cells #[.int .i64 s, .int .i64 c, .int .i64 q, .int .i64 o, .int .i64 t, .int .i64 dk, .int .i64 dn, .int .i64 lf, .int .i64 pr, .int .i64 fl, .slice AV bl.length cV, .string py] 59)).heap.size := by simp
  generalize w.alloc (.cells #[.int .i64 s, .int .i64 c, .int .i64 q, .int .i64 o, .int .i64 t, .int .i64 dk, .int .i64 dn, .int .i64 lf, .int .i64 pr, .int .i64 fl, .slice AV bl.length cV, .string py] 59) = v0 at *
  have HX : Hid (∀ W, Below v0.heap.size v0 W → W.cell? ⟨w.heap.size, 0, none⟩ = some (.int .i64 s) ∧ W.cell? ⟨w.heap.size, 1, none⟩ = some (.int .i64 c) ∧ W.cell? ⟨w.heap.size, 2, none⟩ = some (.int .i64 q) ∧ W.cell? ⟨w.heap.size, 3, none⟩ = some (.int .i64 o) ∧ W.cell? ⟨w.heap.size, 4, none⟩ = some (.int .i64 t) ∧ W.cell? ⟨w.heap.size, 5, none⟩ = some (.int .i64 dk) ∧ W.cell? ⟨w.heap.size, 6, none⟩ = some (.int .i64 dn) ∧ W.cell? ⟨w.heap.size, 7, none⟩ = some (.int .i64 lf) ∧ W.cell? ⟨w.heap.size, 8, none⟩ = some (.int .i64 pr) ∧ W.cell? ⟨w.heap.size, 9, none⟩ = some (.int .i64 fl) ∧ W.cell? ⟨w.heap.size, 10, none⟩ = some (.slice AV bl.length cV) ∧ W.cell? ⟨w.heap.size, 11, none⟩ = some (.string py)) := fun W h => by
    have e : ∀ k, W.cell? ⟨w.heap.size, k, none⟩ = v0.cell? ⟨w.heap.size, k, none⟩ := fun k => h.cell (p := ⟨w.heap.size, k, none⟩) hlt0
    exact ⟨(e 0).trans ((M0 0).trans rfl), (e 1).trans ((M0 1).trans rfl), (e 2).trans ((M0 2).trans rfl), (e 3).trans ((M0 3).trans rfl), (e 4).trans ((M0 4).trans rfl), (e 5).trans ((M0 5).trans rfl), (e 6).trans ((M0 6).trans rfl), (e 7).trans ((M0 7).trans rfl), (e 8).trans ((M0 8).trans rfl), (e 9).trans ((M0 9).trans rfl), (e 10).trans ((M0 10).trans rfl), (e 11).trans ((M0 11).trans rfl)⟩
  obtain ⟨x0, x1, x2, x3, x4, x5, x6, x7, x8, x9, x10, x11⟩ := HX.out v0 (Below.refl _ _)
  clear M0
  refine (rid_any s c q o t _).mono ?_
  rintro e w1 ⟨rfl, hb1⟩
  have hB1 := bt' hbw hb1 (by omega)
  clear x0 x1 x2 x3 x4 x5 x6 x7 x8 x9 x10 x11
  obtain ⟨x0, x1, x2, x3, x4, x5, x6, x7, x8, x9, x10, x11⟩ := HX.out w1 hb1
  by_cases hE : idE s c q o t = 0
  rotate_left
  · have h2 : idE s c q o t = 2 := by unfold idE at hE ⊢; split at hE <;> (try split at hE) <;> (try split at hE) <;> simp_all
    have HR := Lib.hid (HB.out 2 (by rw [if_pos hE, h2]))
    rw [decide_eq_false hE]
    clear hE h2
    go_wp2_with fail
    go_ret
    exact ⟨by rw [HR.out]; rfl, hB1⟩
  rw [decide_eq_true hE]
  have HI := Lib.hid (idE_ok hE)
  have HB1 : Hid (∀ r : Int, (if epE dk dn ≠ 0 then epE dk dn else if lf < 1 ∨ 1099511627776 - c < lf then 2 else if inB 0 2 pr = false then 8 else if flE t fl ≠ 0 then flE t fl else if bksE bl ≠ 0 then bksE bl else pyE py.size o t : Int) = r → bunE ⟨s, c, q, o, t, dk, dn, lf, pr, fl, bl, py⟩ = r) := fun r h => HB.out r (by rw [if_neg (by simp [hE])]; exact h)
  clear hE HB
  go_wp2_with fail
  refine (rep_any dk dn _).mono ?_
  rintro e w2 ⟨rfl, hb2⟩
  have h2 := bt hb1 hb2
  have hB2 := bt' hbw h2 (by omega)
  clear x0 x1 x2 x3 x4 x5 x6 x7 x8 x9 x10 x11
  obtain ⟨x0, x1, x2, x3, x4, x5, x6, x7, x8, x9, x10, x11⟩ := HX.out w2 h2
  by_cases hE : epE dk dn = 0
  rotate_left
  · have HR := Lib.hid (HB1.out _ (if_pos hE))
    have qE : (epE dk dn != 0) = true := by simpa using hE
    clear hE
    generalize epE dk dn = er at *
    go_wp2_with fail
    go_ret
    exact ⟨by rw [HR.out]; rfl, hB2⟩
  rw [hE]
  have HB2 : Hid (∀ r : Int, (if lf < 1 ∨ 1099511627776 - c < lf then 2 else if inB 0 2 pr = false then 8 else if flE t fl ≠ 0 then flE t fl else if bksE bl ≠ 0 then bksE bl else pyE py.size o t : Int) = r → bunE ⟨s, c, q, o, t, dk, dn, lf, pr, fl, bl, py⟩ = r) := fun r h => HB1.out r (by rw [if_neg (by simp [hE])]; exact h)
  clear hE HB1
  have hi : 0 ≤ c ∧ c ≤ 1099511627776 := by have := HI.out; omega
  have iw : IntKind.i64.wrap (1099511627776 - c) = 1099511627776 - c := wrap_s (by omega) (by omega)
  by_cases h3 : lf < 1
  · have HR := Lib.hid (HB2.out 2 (if_pos (.inl h3)))
    go_wp2_with fail
    go_ret
    exact ⟨by rw [HR.out]; rfl, hB2⟩
  by_cases h4 : 1099511627776 - c < lf
  · have HR := Lib.hid (HB2.out 2 (if_pos (.inr h4)))
    go_wp2_with fail
    go_ret
    exact ⟨by rw [HR.out]; rfl, hB2⟩
  have HB3 : Hid (∀ r : Int, (if inB 0 2 pr = false then 8 else if flE t fl ≠ 0 then flE t fl else if bksE bl ≠ 0 then bksE bl else pyE py.size o t : Int) = r → bunE ⟨s, c, q, o, t, dk, dn, lf, pr, fl, bl, py⟩ = r) := fun r h => HB2.out r (by rw [if_neg (fun hh => hh.elim h3 h4)]; exact h)
  clear HB2
  by_cases h5 : pr < 0
  · have HR := Lib.hid (HB3.out 8 (if_pos (inB_not.2 (by omega))))
    go_wp2_with fail
    go_ret
    exact ⟨by rw [HR.out]; rfl, hB2⟩
  by_cases h6 : 2 < pr
  · have HR := Lib.hid (HB3.out 8 (if_pos (inB_not.2 (by omega))))
    go_wp2_with fail
    go_ret
    exact ⟨by rw [HR.out]; rfl, hB2⟩
  have HB4 : Hid (∀ r : Int, (if flE t fl ≠ 0 then flE t fl else if bksE bl ≠ 0 then bksE bl else pyE py.size o t : Int) = r → bunE ⟨s, c, q, o, t, dk, dn, lf, pr, fl, bl, py⟩ = r) := fun r h => HB3.out r (by rw [if_neg (by rw [inB_iff.2 ⟨by omega, by omega⟩]; simp)]; exact h)
  clear HB3
  have ht0 : 0 ≤ t := by have := HI.out; omega
  go_wp2_with fail
  refine (rfl_any s c q o t dk dn lf pr fl (.slice AV bl.length cV) ⟨_, _, _, rfl⟩ py ht0 _).mono ?_
  rintro e w3 ⟨rfl, hb3⟩
  have h33 := bt h2 hb3
  have hB3 := bt' hbw h33 (by omega)
  clear x0 x1 x2 x3 x4 x5 x6 x7 x8 x9 x10 x11
  obtain ⟨x0, x1, x2, x3, x4, x5, x6, x7, x8, x9, x10, x11⟩ := HX.out w3 h33
  by_cases hE : flE t fl = 0
  rotate_left
  · have h1' : flE t fl = 1 := by unfold flE at hE ⊢; split at hE <;> (try split at hE) <;> (try split at hE) <;> simp_all
    have HR := Lib.hid (HB4.out 1 (by rw [if_pos hE, h1']))
    rw [decide_eq_false hE]
    clear hE h1'
    go_wp2_with fail
    go_ret
    exact ⟨by rw [HR.out]; rfl, hB3⟩
  rw [decide_eq_true hE]
  have HB5 : Hid (∀ r : Int, (if bksE bl ≠ 0 then bksE bl else pyE py.size o t : Int) = r → bunE ⟨s, c, q, o, t, dk, dn, lf, pr, fl, bl, py⟩ = r) := fun r h => HB4.out r (by rw [if_neg (by simp [hE])]; exact h)
  clear hE HB4
  have HV3 := Lib.hid ((HV.out.blks hB3).blks_more hB3.size)
  go_wp2_with fail
  refine (rbks_any _ bl _ HV3.out).mono ?_
  rintro e w4 ⟨rfl, hb4⟩
  have h44 := bt h33 hb4
  have hB4 := bt' hbw h44 (by omega)
  clear x0 x1 x2 x3 x4 x5 x6 x7 x8 x9 x10 x11
  obtain ⟨x0, x1, x2, x3, x4, x5, x6, x7, x8, x9, x10, x11⟩ := HX.out w4 h44
  by_cases hE : bksE bl = 0
  rotate_left
  · have HR := Lib.hid (HB5.out _ (if_pos hE))
    have qE : (bksE bl != 0) = true := by simpa using hE
    clear hE
    generalize bksE bl = er at *
    go_wp2_with fail
    go_ret
    exact ⟨by rw [HR.out]; rfl, hB4⟩
  rw [hE]
  have HB6 : Hid (∀ r : Int, (pyE py.size o t : Int) = r → bunE ⟨s, c, q, o, t, dk, dn, lf, pr, fl, bl, py⟩ = r) := fun r h => HB5.out r (by rw [if_neg (by simp [hE])]; exact h)
  clear hE HB5
  have hio := HI.out
  have iw2 : IntKind.i64.wrap (t - o) = t - o := wrap_s (by omega) (by omega)
  by_cases h7 : 4096 < py.size
  · have HR := Lib.hid (HB6.out 4 (if_pos h7))
    have h7i : (4096 : Int) < py.size := by omega
    clear h7
    go_wp2_with fail
    go_ret
    exact ⟨by rw [HR.out]; rfl, hB4⟩
  have h7i : ¬ (4096 : Int) < py.size := by omega
  by_cases h8 : 0 < t
  rotate_left
  · have HR := Lib.hid (HB6.out 0 (by rw [pyE, if_neg h7, if_neg (fun h => h8 h.1)]))
    clear h7
    go_wp2_with fail
    go_ret
    exact ⟨by rw [HR.out]; rfl, hB4⟩
  by_cases h9 : py.size = 0
  · have HR := Lib.hid (HB6.out 10 (by rw [pyE, if_neg h7, if_pos ⟨h8, inB_not.2 (by omega)⟩]))
    have q9 : ((py.size : Int) == 0) = true := by simp [h9]
    clear h7 h9
    go_wp2_with fail
    go_ret
    exact ⟨by rw [HR.out]; rfl, hB4⟩
  have q9 : ((py.size : Int) == 0) = false := by rw [beq_eq_false_iff_ne]; omega
  by_cases h10 : t - o < py.size
  · have HR := Lib.hid (HB6.out 10 (by rw [pyE, if_neg h7, if_pos ⟨h8, inB_not.2 (by omega)⟩]))
    clear h7 h9
    go_wp2_with fail
    go_ret
    exact ⟨by rw [HR.out]; rfl, hB4⟩
  have HR := Lib.hid (HB6.out 0 (by rw [pyE, if_neg h7, if_neg (fun h => by have := (inB_iff (lo := 1) (hi := t - o) (n := (py.size : Int))).2 ⟨by omega, by omega⟩; rw [this] at h; cases h.2)]))
  clear h7 h9
  go_wp2_with fail
  go_ret
  exact ⟨by rw [HR.out]; rfl, hB4⟩
end Go.Proofs.YtclkjjdfdndplaaGreatDoor

/- Agendas: Check. -/
import Derived.Test.YtclkjjdfdndplaaGreatDoorA1
namespace Go.Proofs.YtclkjjdfdndplaaGreatDoor
open Go.RowKit
set_option maxHeartbeats 2000000 in
theorem evalid_ok (x : Ev) (h : evV x = true) (w : World) : Calls Tryz.prog 65 #[.agg #[.int .i64 x.t, .int .i64 x.k, .int .i64 x.n]] w fun e w' => e = .returned (.bool true) ∧ Below w.heap.size w w' := by
  obtain ⟨h1, h2, h3, h4, h5, h6⟩ := evV_iff.1 h
  clear h
  go_enter Tryz.func65, Tryz.ntmps65
  go_wp2_with fail
  go_ret
  exact ⟨rfl, by (repeat' (first | (with_reducible exact Below.refl _ _) | (with_reducible refine Below.alloc ?_ ?_ _) | (with_reducible refine Below.drew ?_) | (with_reducible refine below_drewN ?_ _) | (with_reducible refine Below.setCell ?_ ?_ _) | (with_reducible refine Below.trans ?_ (Below.mono (by assumption) ?_)) | (with_reducible exact Nat.le_refl _) | omega | (simp; omega) | (simp; done)))⟩
set_option maxHeartbeats 2000000 in
theorem revalid_ok (x : Ev) (h : evV x = true) (w : World) : Calls Tryz.prog 70 #[.agg #[.int .i64 x.t, .int .i64 x.k, .int .i64 x.n]] w fun e w' => e = .returned (.bool true) ∧ Below w.heap.size w w' := by
  obtain ⟨h1, h2, h3, h4, h5, h6⟩ := evV_iff.1 h
  clear h
  go_enter Tryz.func70, Tryz.ntmps70
  go_wp2_with fail
  go_ret
  exact ⟨rfl, by (repeat' (first | (with_reducible exact Below.refl _ _) | (with_reducible refine Below.alloc ?_ ?_ _) | (with_reducible refine Below.drew ?_) | (with_reducible refine below_drewN ?_ _) | (with_reducible refine Below.setCell ?_ ?_ _) | (with_reducible refine Below.trans ?_ (Below.mono (by assumption) ?_)) | (with_reducible exact Nat.le_refl _) | omega | (simp; omega) | (simp; done)))⟩
set_option maxHeartbeats 2000000 in
theorem rless_any (x y : Ev) (w : World) : Calls Tryz.prog 107 #[.agg #[.int .i64 x.t, .int .i64 x.k, .int .i64 x.n], .agg #[.int .i64 y.t, .int .i64 y.k, .int .i64 y.n]] w fun e w' => e = .returned (.bool (evL x y)) ∧ Below w.heap.size w w' := by
  by_cases h1 : x.t = y.t
  · have q1 : (x.t != y.t) = false := by simpa using h1
    by_cases h2 : x.k = y.k
    · have q2 : (x.k != y.k) = false := by simpa using h2
      have HE : Hid (evL x y = decide (x.n < y.n)) := by show _ = _; unfold evL; rw [decide_eq_decide]; omega
      clear h1 h2
      go_enter Tryz.func107, Tryz.ntmps107
      go_wp2_with fail
      go_ret
      exact ⟨by rw [HE.out]; rfl, by (repeat' (first | (with_reducible exact Below.refl _ _) | (with_reducible refine Below.alloc ?_ ?_ _) | (with_reducible refine Below.drew ?_) | (with_reducible refine below_drewN ?_ _) | (with_reducible refine Below.setCell ?_ ?_ _) | (with_reducible refine Below.trans ?_ (Below.mono (by assumption) ?_)) | (with_reducible exact Nat.le_refl _) | omega | (simp; omega) | (simp; done)))⟩
    · have q2 : (x.k != y.k) = true := by simpa using h2
      have HE : Hid (evL x y = decide (x.k < y.k)) := by show _ = _; unfold evL; rw [decide_eq_decide]; omega
      clear h1 h2
      go_enter Tryz.func107, Tryz.ntmps107
      go_wp2_with fail
      go_ret
      exact ⟨by rw [HE.out]; rfl, by (repeat' (first | (with_reducible exact Below.refl _ _) | (with_reducible refine Below.alloc ?_ ?_ _) | (with_reducible refine Below.drew ?_) | (with_reducible refine below_drewN ?_ _) | (with_reducible refine Below.setCell ?_ ?_ _) | (with_reducible refine Below.trans ?_ (Below.mono (by assumption) ?_)) | (with_reducible exact Nat.le_refl _) | omega | (simp; omega) | (simp; done)))⟩
  · have q1 : (x.t != y.t) = true := by simpa using h1
    have HE : Hid (evL x y = decide (x.t < y.t)) := by show _ = _; unfold evL; rw [decide_eq_decide]; omega
    clear h1
    go_enter Tryz.func107, Tryz.ntmps107
    go_wp2_with fail
    go_ret
    exact ⟨by rw [HE.out]; rfl, by (repeat' (first | (with_reducible exact Below.refl _ _) | (with_reducible refine Below.alloc ?_ ?_ _) | (with_reducible refine Below.drew ?_) | (with_reducible refine below_drewN ?_ _) | (with_reducible refine Below.setCell ?_ ?_ _) | (with_reducible refine Below.trans ?_ (Below.mono (by assumption) ?_)) | (with_reducible exact Nat.le_refl _) | omega | (simp; omega) | (simp; done)))⟩
/-- a valid agenda -/
structure AgOk (l : List Ev) : Prop where
  len : l.length ≤ 1000
  val : ∀ i, i < l.length → evV (l.getD i Ev.zero) = true
  asc : ∀ i, i + 1 < l.length → evL (l.getD i Ev.zero) (l.getD (i + 1) Ev.zero) = true
set_option maxRecDepth 100000 in
set_option maxHeartbeats 4000000 in
theorem agcheck_ok (v : Value) (l : List Ev) (w : World) (hv : Evs w w.heap.size v l) (hl : AgOk l) : Calls Tryz.prog 64 #[v] w fun e w' => e = .returned (.int .i64 0) ∧ Below w.heap.size w w' := by
  obtain ⟨A, c, rfl, hc, hm, hA⟩ := hv
  unfold maxLen at hm
  have hlen := hl.len
  have HL := Lib.hid hl
  have hi1 : ¬ (1000 : Int) < l.length := by omega
  have HA := Lib.hid hA
  clear hA hl
  go_enter Tryz.func64, Tryz.ntmps64
  go_wp2_with fail
  go_loopw [10] (fun i wr => ∃ k : Nat, k ≤ l.length ∧ i = .int .i64 k ∧ Below w.heap.size w wr) (fun i _ => l.length - (intOf i).toNat)
  case atStart => exact ⟨0, by omega, rfl, Below.refl _ _⟩
  case round =>
    obtain ⟨k, hk, rfl, hbr⟩ := hrel
    have hzr := hbr.size
    by_cases hlt : k < l.length
    · obtain ⟨b, o, rfl, hb, hcell⟩ := HA.out (by omega)
      have hb' : b < wr.heap.size := by omega
      obtain ⟨x0, x1, x2⟩ := (hcell k hlt).below (B' := 0) hbr hb
      have HV := Lib.hid (HL.out.val k hlt)
      by_cases h0 : k = 0
      · subst h0
        clear hcell
        simp only [Nat.zero_mul, Nat.add_zero] at x0 x1 x2
        generalize l.getD 0 Ev.zero = d at *
        go_wp2_with fail
        refine (evalid_ok d HV.out _).mono ?_
        rintro e w3 ⟨rfl, hb3⟩
        have hB3 := bt' (hbr.alloc (by omega) (.cells #[.int .i64 d.t, .int .i64 d.k, .int .i64 d.n] 49)) hb3 (by simp; omega)
        have y0 := (hb3.cell (p := ⟨wr.heap.size, 0, none⟩) (by simp)).trans (show (wr.alloc (.cells #[.int .i64 d.t, .int .i64 d.k, .int .i64 d.n] 49)).cell? ⟨wr.heap.size, 0, none⟩ = some (.int .i64 d.t) by simp [go_sem])
        have y1 := (hb3.cell (p := ⟨wr.heap.size, 1, none⟩) (by simp)).trans (show (wr.alloc (.cells #[.int .i64 d.t, .int .i64 d.k, .int .i64 d.n] 49)).cell? ⟨wr.heap.size, 1, none⟩ = some (.int .i64 d.k) by simp [go_sem])
        have y2 := (hb3.cell (p := ⟨wr.heap.size, 2, none⟩) (by simp)).trans (show (wr.alloc (.cells #[.int .i64 d.t, .int .i64 d.k, .int .i64 d.n] 49)).cell? ⟨wr.heap.size, 2, none⟩ = some (.int .i64 d.n) by simp [go_sem])
        clear hb3 x0 x1 x2
        go_wp2_with fail
        go_quiet (fail)
        go_wp2_with fail
        go_roundw
        case rel => exact ⟨0 + 1, by omega, by go_num, below_drewN hB3 _⟩
        case measure => simp [intOf]; omega
      · obtain ⟨j, rfl⟩ : ∃ j, k = j + 1 := ⟨k - 1, by omega⟩
        obtain ⟨z0, z1, z2⟩ := (hcell j (by omega)).below (B' := 0) hbr hb
        have HC := Lib.hid (HL.out.asc j hlt)
        clear hcell
        generalize l.getD j Ev.zero = p at *
        generalize l.getD (j + 1) Ev.zero = d at *
        have i1 : (0 : Int) < (j : Int) + 1 := by omega
        have i2 : (j : Int) + 1 - 1 = j := by omega
        have i3 : (j : Int) < l.length := by omega
        have i4 : (j : Int) + 1 < l.length := by omega
        have i6 : (0 : Int) ≤ (j : Int) + 1 := by omega
        have i5 : IntKind.i64.wrap (j : Int) = j := wrap_s (by omega) (by omega)
        go_wp2_with fail
        refine (evalid_ok d HV.out _).mono ?_
        rintro e w3 ⟨rfl, hb3⟩
        have hB3 := bt' (hbr.alloc (by omega) (.cells #[.int .i64 d.t, .int .i64 d.k, .int .i64 d.n] 49)) hb3 (by simp; omega)
        have y0 := (hb3.cell (p := ⟨wr.heap.size, 0, none⟩) (by simp)).trans (show (wr.alloc (.cells #[.int .i64 d.t, .int .i64 d.k, .int .i64 d.n] 49)).cell? ⟨wr.heap.size, 0, none⟩ = some (.int .i64 d.t) by simp [go_sem])
        have y1 := (hb3.cell (p := ⟨wr.heap.size, 1, none⟩) (by simp)).trans (show (wr.alloc (.cells #[.int .i64 d.t, .int .i64 d.k, .int .i64 d.n] 49)).cell? ⟨wr.heap.size, 1, none⟩ = some (.int .i64 d.k) by simp [go_sem])
        have y2 := (hb3.cell (p := ⟨wr.heap.size, 2, none⟩) (by simp)).trans (show (wr.alloc (.cells #[.int .i64 d.t, .int .i64 d.k, .int .i64 d.n] 49)).cell? ⟨wr.heap.size, 2, none⟩ = some (.int .i64 d.n) by simp [go_sem])
        have p0 := (hb3.cell (p := ⟨b, o + j * 3, none⟩) (by simp; omega)).trans ((World.cell?_alloc_lt wr _ ⟨b, o + j * 3, none⟩ hb').trans z0)
        have p1 := (hb3.cell (p := ⟨b, o + j * 3 + 1, none⟩) (by simp; omega)).trans ((World.cell?_alloc_lt wr _ ⟨b, o + j * 3 + 1, none⟩ hb').trans z1)
        have p2 := (hb3.cell (p := ⟨b, o + j * 3 + 2, none⟩) (by simp; omega)).trans ((World.cell?_alloc_lt wr _ ⟨b, o + j * 3 + 2, none⟩ hb').trans z2)
        clear hb3 x0 x1 x2 z0 z1 z2
        have hz3 := hB3.size
        go_wp2_with fail
        go_still_tail 10, (by kernel_rfl)
        go_wp2_with fail
        refine (evcmp_any p d _).mono ?_
        rintro e w5 ⟨rfl, hb5⟩
        have hB5 : Below w.heap.size w w5 := hB3.trans ((below_drewN (Below.refl _ w3) 1).trans (hb5.mono (by simp; omega)))
        clear hb5
        have hq : ¬ (0 : Int) ≤ evC p d := by have := (evC_neg (x := p) (y := d)).2 HC.out; omega
        generalize evC p d = cc at *
        go_wp2_with fail
        go_roundw
        case rel => exact ⟨j + 1 + 1, by omega, by go_num, hB5⟩
        case measure => simp [intOf]; omega
    · go_wp2_with fail
      go_ret
      exact ⟨rfl, hbr⟩
set_option maxRecDepth 100000 in
set_option maxHeartbeats 4000000 in
theorem ragcheck_ok (v : Value) (l : List Ev) (w : World) (hv : Evs w w.heap.size v l) (hl : AgOk l) : Calls Tryz.prog 69 #[v] w fun e w' => e = .returned (.int .i64 0) ∧ Below w.heap.size w w' := by
  obtain ⟨A, c, rfl, hc, hm, hA⟩ := hv
  unfold maxLen at hm
  have hlen := hl.len
  have HL := Lib.hid hl
  have hi1 : ¬ (1000 : Int) < l.length := by omega
  have HA := Lib.hid hA
  clear hA hl
  go_enter Tryz.func69, Tryz.ntmps69
  go_wp2_with fail
  go_loopw [3] (fun i wr => ∃ k : Nat, k ≤ l.length ∧ i = .int .i64 k ∧ Below w.heap.size w wr) (fun i _ => l.length - (intOf i).toNat)
  case atStart => exact ⟨0, by omega, rfl, Below.refl _ _⟩
  case round =>
    obtain ⟨k, hk, rfl, hbr⟩ := hrel
    have hzr := hbr.size
    by_cases hlt : k < l.length
    · obtain ⟨b, o, rfl, hb, hcell⟩ := HA.out (by omega)
      have hb' : b < wr.heap.size := by omega
      obtain ⟨x0, x1, x2⟩ := (hcell k hlt).below (B' := 0) hbr hb
      have HV := Lib.hid (HL.out.val k hlt)
      by_cases h0 : k = 0
      · subst h0
        clear hcell
        simp only [Nat.zero_mul, Nat.add_zero] at x0 x1 x2
        generalize l.getD 0 Ev.zero = d at *
        go_wp2_with fail
        refine (revalid_ok d HV.out _).mono ?_
        rintro e w3 ⟨rfl, hb3⟩
        have hB3 := bt' hbr hb3 (by omega)
        have y0 := (hb3.cell (p := ⟨b, o, none⟩) (by simp; omega)).trans x0
        have y1 := (hb3.cell (p := ⟨b, o + 1, none⟩) (by simp; omega)).trans x1
        have y2 := (hb3.cell (p := ⟨b, o + 2, none⟩) (by simp; omega)).trans x2
        clear hb3 x0 x1 x2
        go_wp2_with fail
        go_quiet (fail)
        go_wp2_with fail
        go_roundw
        case rel => exact ⟨0 + 1, by omega, by go_num, below_drewN hB3 _⟩
        case measure => simp [intOf]; omega
      · obtain ⟨j, rfl⟩ : ∃ j, k = j + 1 := ⟨k - 1, by omega⟩
        obtain ⟨z0, z1, z2⟩ := (hcell j (by omega)).below (B' := 0) hbr hb
        have HC := Lib.hid (HL.out.asc j hlt)
        clear hcell
        generalize l.getD j Ev.zero = p at *
        generalize l.getD (j + 1) Ev.zero = d at *
        have i1 : (0 : Int) < (j : Int) + 1 := by omega
        have i2 : (j : Int) + 1 - 1 = j := by omega
        have i3 : (j : Int) < l.length := by omega
        have i4 : (j : Int) + 1 < l.length := by omega
        have i6 : (0 : Int) ≤ (j : Int) + 1 := by omega
        have i5 : IntKind.i64.wrap (j : Int) = j := wrap_s (by omega) (by omega)
        go_wp2_with fail
        refine (revalid_ok d HV.out _).mono ?_
        rintro e w3 ⟨rfl, hb3⟩
        have hB3 := bt' hbr hb3 (by omega)
        have y0 := (hb3.cell (p := ⟨b, o + (j + 1) * 3, none⟩) (by simp; omega)).trans x0
        have y1 := (hb3.cell (p := ⟨b, o + (j + 1) * 3 + 1, none⟩) (by simp; omega)).trans x1
        have y2 := (hb3.cell (p := ⟨b, o + (j + 1) * 3 + 2, none⟩) (by simp; omega)).trans x2
        have p0 := (hb3.cell (p := ⟨b, o + j * 3, none⟩) (by simp; omega)).trans z0
        have p1 := (hb3.cell (p := ⟨b, o + j * 3 + 1, none⟩) (by simp; omega)).trans z1
        have p2 := (hb3.cell (p := ⟨b, o + j * 3 + 2, none⟩) (by simp; omega)).trans z2
        clear hb3 x0 x1 x2 z0 z1 z2
        have hz3 := hB3.size
        go_wp2_with fail
        go_still_tail 12, (by kernel_rfl)
        go_wp2_with fail
        refine (rless_any p d _).mono ?_
        rintro e w5 ⟨rfl, hb5⟩
        have hB5 : Below w.heap.size w w5 := hB3.trans ((below_drewN (Below.refl _ w3) 1).trans (hb5.mono (by simp; omega)))
        clear hb5
        rw [HC.out]
        go_wp2_with fail
        go_roundw
        case rel => exact ⟨j + 1 + 1, by omega, by go_num, hB5⟩
        case measure => simp [intOf]; omega
    · go_wp2_with fail
      go_ret
      exact ⟨rfl, hbr⟩
end Go.Proofs.YtclkjjdfdndplaaGreatDoor

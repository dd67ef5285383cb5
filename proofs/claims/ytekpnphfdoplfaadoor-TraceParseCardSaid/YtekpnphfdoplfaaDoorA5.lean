/- Check of a log, and the reference's; Great, Same. -/
import Derived.Test.YtekpnphfdoplfaaDoorA4
namespace Go.Proofs.YtekpnphfdoplfaaDoor
open Go.RowKit
def chkL : Int → List Ent → Int
  | _, [] => 0
  | p, x :: t => if entE x ≠ 0 then entE x else if x.t < p then 9 else chkL x.t t
/-- why a list of entries is no log -/
def chkE (xs : List Ent) : Int := if 65536 < xs.length then 4 else chkL 0 xs
def prevT (xs : List Ent) (k : Nat) : Int := if k = 0 then 0 else (xs.getD (k - 1) Ent.zero).t
theorem chk_step (xs : List Ent) (k : Nat) (h : k < xs.length) : chkL (prevT xs k) (xs.drop k) =
    if entE (xs.getD k Ent.zero) ≠ 0 then entE (xs.getD k Ent.zero) else if (xs.getD k Ent.zero).t < prevT xs k then 9 else chkL (prevT xs (k + 1)) (xs.drop (k + 1)) := by
  rw [drop_get xs Ent.zero k h, chkL, show prevT xs (k + 1) = (xs.getD k Ent.zero).t by simp [prevT]]
set_option maxRecDepth 100000 in
set_option maxHeartbeats 4000000 in
theorem check_any (v : Value) (xs : List Ent) (w : World) (hv : Ents w w.heap.size v xs) : Calls Tryd.prog 23 #[v] w fun e w' => e = .returned (.int .i64 (chkE xs)) ∧ Below w.heap.size w w' := by
  obtain ⟨A, c, rfl, hc, hm, hA⟩ := hv
  unfold maxLen at hm
  have HA := Lib.hid hA
  clear hA
  by_cases hL : 65536 < xs.length
  · have HE : Hid (chkE xs = 4) := by show _ = _; rw [chkE, if_pos hL]
    have g1 : (65536 : Int) < xs.length := by omega
    clear hL
    go_enter Tryd.func23, Tryd.ntmps23
    go_wp2_with fail
    go_ret
    exact ⟨by rw [HE.out]; rfl, by (repeat' (first | (with_reducible exact Below.refl _ _) | (with_reducible refine Below.alloc ?_ ?_ _) | (with_reducible refine Below.drew ?_) | (with_reducible refine below_drewN ?_ _) | (with_reducible refine Below.setCell ?_ ?_ _) | (with_reducible refine Below.trans ?_ (Below.mono (by assumption) ?_)) | (with_reducible exact Nat.le_refl _) | omega | (simp; omega) | (simp; done)))⟩
  · have HP : Hid (chkE xs = chkL 0 xs) := by show _ = _; rw [chkE, if_neg hL]
    have hl : xs.length ≤ 65536 := by omega
    have g1 : ¬ (65536 : Int) < xs.length := by omega
    clear hL
    go_enter Tryd.func23, Tryd.ntmps23
    go_wp2_with fail
    go_loopw [11] (fun i wr => ∃ k : Nat, k ≤ xs.length ∧ i = .int .i64 k ∧ Hid (chkL (prevT xs k) (xs.drop k) = chkL 0 xs) ∧ Below w.heap.size w wr) (fun i _ => xs.length - (intOf i).toNat)
    case atStart => exact ⟨0, by omega, rfl, rfl, Below.refl _ _⟩
    case round =>
      obtain ⟨k, hk, rfl, hr, hB⟩ := hrel
      have hzr := hB.size
      by_cases hlt : k < xs.length
      · obtain ⟨b, o, rfl, hb, hcell⟩ := HA.out (by omega)
        have hx := (hcell k hlt).below hB hb
        have HCE := Lib.hid hcell
        have HST := Lib.hid (chk_step xs k hlt)
        clear hcell
        generalize xs.getD k Ent.zero = d at *
        obtain ⟨x0, x1, x2, x3, x4, x5⟩ := hx
        have hbr : b < wr.heap.size := by omega
        by_cases hE : entE d = 0
        · have HE := Lib.hid hE
          by_cases hk0 : k = 0
          · have HT : Hid (chkL (prevT xs (k + 1)) (xs.drop (k + 1)) = chkL 0 xs) := by show _ = _; rw [← hr.out, HST.out, if_neg (by simp [HE.out]), if_neg (by have := (entE_ok HE.out).2.2.1; simp [prevT, hk0]; omega)]
            have hkp : decide (0 < k) = false := by simp; omega
            clear hE hk0
            go_wp2_with fail
            refine (entry_any d _).mono ?_
            rw [HE.out]
            rintro e w3 ⟨rfl, hb3⟩
            have hB3 := bt' (hB.alloc hzr (.cells #[.int .i64 d.t, .int .i64 d.k, .int .i64 d.n, .int .i64 d.j, .int .i64 d.c, .int .i64 d.v] 37)) hb3 (by simp; omega)
            have y0 := (hb3.cell (p := ⟨wr.heap.size, 0, none⟩) (by simp)).trans (show (wr.alloc (.cells #[.int .i64 d.t, .int .i64 d.k, .int .i64 d.n, .int .i64 d.j, .int .i64 d.c, .int .i64 d.v] 37)).cell? ⟨wr.heap.size, 0, none⟩ = some (.int .i64 d.t) by simp [go_sem])
            have hz3 : wr.heap.size < w3.heap.size := Nat.lt_of_lt_of_le (by simp) hb3.size
            clear hb3
            go_wp2_with fail
            go_quiet (fail)
            go_wp2_with fail
            go_roundw
            case rel => exact ⟨k + 1, by omega, by go_num, HT, below_drewN hB3 _⟩
            case measure => simp [intOf]; omega
          · obtain ⟨m, hkm⟩ : ∃ m, k = m + 1 := ⟨k - 1, by omega⟩
            have hpv : prevT xs k = (xs.getD m Ent.zero).t := by subst hkm; simp [prevT]
            obtain ⟨p0, -, -, -, -, -⟩ := HCE.out m (by omega)
            rw [hpv] at HST hr
            generalize (xs.getD m Ent.zero).t = pt at *
            have hw1 : IntKind.i64.wrap ((k : Int) - 1) = m := by rw [IntWalk.i64_in _ (by omega)]; omega
            have hm0 : (0 : Int) ≤ m := by omega
            have hm1 : (m : Int) < xs.length := by omega
            have hkp : decide (0 < k) = true := by simp; omega
            have HKM := Lib.hid hkm
            clear hkm hpv hk0
            by_cases hT : d.t < pt
            · have HR : Hid (chkE xs = 9) := by show _ = _; rw [HP.out, ← hr.out, HST.out, if_neg (by simp [HE.out]), if_pos hT]
              have dT : decide (d.t < pt) = true := by simpa using hT
              clear hE
              go_wp2_with fail
              refine (entry_any d _).mono ?_
              rw [HE.out]
              rintro e w3 ⟨rfl, hb3⟩
              have hB3 := bt' (hB.alloc hzr (.cells #[.int .i64 d.t, .int .i64 d.k, .int .i64 d.n, .int .i64 d.j, .int .i64 d.c, .int .i64 d.v] 37)) hb3 (by simp; omega)
              have y0 := (hb3.cell (p := ⟨wr.heap.size, 0, none⟩) (by simp)).trans (show (wr.alloc (.cells #[.int .i64 d.t, .int .i64 d.k, .int .i64 d.n, .int .i64 d.j, .int .i64 d.c, .int .i64 d.v] 37)).cell? ⟨wr.heap.size, 0, none⟩ = some (.int .i64 d.t) by simp [go_sem])
              have hz3 : wr.heap.size < w3.heap.size := Nat.lt_of_lt_of_le (by simp) hb3.size
              have z0 := (hB3.cell (p := ⟨b, o + m * 6, none⟩) hb).trans p0
              clear hb3
              go_wp2_with fail
              go_quiet (fail)
              go_wp2_with fail
              go_ret
              exact ⟨by rw [HR.out]; rfl, below_drewN hB3 _⟩
            · have HT : Hid (chkL (prevT xs (k + 1)) (xs.drop (k + 1)) = chkL 0 xs) := by show _ = _; rw [← hr.out, HST.out, if_neg (by simp [HE.out]), if_neg hT]
              have dT : decide (d.t < pt) = false := by simpa using hT
              clear hE
              go_wp2_with fail
              refine (entry_any d _).mono ?_
              rw [HE.out]
              rintro e w3 ⟨rfl, hb3⟩
              have hB3 := bt' (hB.alloc hzr (.cells #[.int .i64 d.t, .int .i64 d.k, .int .i64 d.n, .int .i64 d.j, .int .i64 d.c, .int .i64 d.v] 37)) hb3 (by simp; omega)
              have y0 := (hb3.cell (p := ⟨wr.heap.size, 0, none⟩) (by simp)).trans (show (wr.alloc (.cells #[.int .i64 d.t, .int .i64 d.k, .int .i64 d.n, .int .i64 d.j, .int .i64 d.c, .int .i64 d.v] 37)).cell? ⟨wr.heap.size, 0, none⟩ = some (.int .i64 d.t) by simp [go_sem])
              have hz3 : wr.heap.size < w3.heap.size := Nat.lt_of_lt_of_le (by simp) hb3.size
              have z0 := (hB3.cell (p := ⟨b, o + m * 6, none⟩) hb).trans p0
              clear hb3
              go_wp2_with fail
              go_quiet (fail)
              go_wp2_with fail
              go_roundw
              case rel => exact ⟨k + 1, by omega, by go_num, HT, below_drewN hB3 _⟩
              case measure => simp [intOf]; omega
        · have HR : Hid (chkE xs = entE d) := by show _ = _; rw [HP.out, ← hr.out, HST.out, if_pos hE]
          have hEb : (entE d != 0) = true := by simpa using hE
          clear hE
          go_wp2_with fail
          refine (entry_any d _).mono ?_
          rintro e w3 ⟨rfl, hb3⟩
          have hB3 := bt' (hB.alloc hzr (.cells #[.int .i64 d.t, .int .i64 d.k, .int .i64 d.n, .int .i64 d.j, .int .i64 d.c, .int .i64 d.v] 37)) hb3 (by simp; omega)
          clear hb3
          go_wp2_with fail
          go_ret
          exact ⟨by rw [HR.out]; rfl, hB3⟩
      · have HR : Hid (chkE xs = 0) := by show _ = _; rw [HP.out, ← hr.out, List.drop_of_length_le (by omega)]; rfl
        go_wp2_with fail
        go_ret
        exact ⟨by rw [HR.out]; rfl, hB⟩
set_option maxRecDepth 100000 in
set_option maxHeartbeats 4000000 in
theorem rcheck_any (v : Value) (xs : List Ent) (w : World) (hv : Ents w w.heap.size v xs) : Calls Tryd.prog 24 #[v] w fun e w' => e = .returned (.int .i64 (chkE xs)) ∧ Below w.heap.size w w' := by
  obtain ⟨A, c, rfl, hc, hm, hA⟩ := hv
  unfold maxLen at hm
  have HA := Lib.hid hA
  clear hA
  by_cases hL : 65536 < xs.length
  · have HE : Hid (chkE xs = 4) := by show _ = _; rw [chkE, if_pos hL]
    have g1 : (65536 : Int) < xs.length := by omega
    clear hL
    go_enter Tryd.func24, Tryd.ntmps24
    go_wp2_with fail
    go_ret
    exact ⟨by rw [HE.out]; rfl, by (repeat' (first | (with_reducible exact Below.refl _ _) | (with_reducible refine Below.alloc ?_ ?_ _) | (with_reducible refine Below.drew ?_) | (with_reducible refine below_drewN ?_ _) | (with_reducible refine Below.setCell ?_ ?_ _) | (with_reducible refine Below.trans ?_ (Below.mono (by assumption) ?_)) | (with_reducible exact Nat.le_refl _) | omega | (simp; omega) | (simp; done)))⟩
  · have HP : Hid (chkE xs = chkL 0 xs) := by show _ = _; rw [chkE, if_neg hL]
    have hl : xs.length ≤ 65536 := by omega
    have g1 : ¬ (65536 : Int) < xs.length := by omega
    clear hL
    go_enter Tryd.func24, Tryd.ntmps24
    go_wp2_with fail
    go_loopw [3] (fun i wr => ∃ k : Nat, k ≤ xs.length ∧ i = .int .i64 k ∧ Hid (chkL (prevT xs k) (xs.drop k) = chkL 0 xs) ∧ Below w.heap.size w wr) (fun i _ => xs.length - (intOf i).toNat)
    case atStart => exact ⟨0, by omega, rfl, rfl, Below.refl _ _⟩
    case round =>
      obtain ⟨k, hk, rfl, hr, hB⟩ := hrel
      have hzr := hB.size
      by_cases hlt : k < xs.length
      · obtain ⟨b, o, rfl, hb, hcell⟩ := HA.out (by omega)
        have hx := (hcell k hlt).below hB hb
        have HCE := Lib.hid hcell
        have HST := Lib.hid (chk_step xs k hlt)
        clear hcell
        generalize xs.getD k Ent.zero = d at *
        obtain ⟨x0, x1, x2, x3, x4, x5⟩ := hx
        have hbr : b < wr.heap.size := by omega
        by_cases hE : entE d = 0
        · have HE := Lib.hid hE
          by_cases hk0 : k = 0
          · have HT : Hid (chkL (prevT xs (k + 1)) (xs.drop (k + 1)) = chkL 0 xs) := by show _ = _; rw [← hr.out, HST.out, if_neg (by simp [HE.out]), if_neg (by have := (entE_ok HE.out).2.2.1; simp [prevT, hk0]; omega)]
            have hkp : decide (0 < k) = false := by simp; omega
            clear hE hk0
            go_wp2_with fail
            refine (rentry_any d _).mono ?_
            rw [HE.out]
            rintro e w3 ⟨rfl, hb3⟩
            have hB3 := bt' hB hb3 hzr
            have y0 := (hb3.cell (p := ⟨b, o + k * 6, none⟩) hbr).trans x0
            clear hb3
            go_wp2_with fail
            go_quiet (fail)
            go_wp2_with fail
            go_roundw
            case rel => exact ⟨k + 1, by omega, by go_num, HT, below_drewN hB3 _⟩
            case measure => simp [intOf]; omega
          · obtain ⟨m, hkm⟩ : ∃ m, k = m + 1 := ⟨k - 1, by omega⟩
            have hpv : prevT xs k = (xs.getD m Ent.zero).t := by subst hkm; simp [prevT]
            obtain ⟨p0, -, -, -, -, -⟩ := HCE.out m (by omega)
            rw [hpv] at HST hr
            generalize (xs.getD m Ent.zero).t = pt at *
            have hw1 : IntKind.i64.wrap ((k : Int) - 1) = m := by rw [IntWalk.i64_in _ (by omega)]; omega
            have hm0 : (0 : Int) ≤ m := by omega
            have hm1 : (m : Int) < xs.length := by omega
            have hkp : decide (0 < k) = true := by simp; omega
            have HKM := Lib.hid hkm
            clear hkm hpv hk0
            by_cases hT : d.t < pt
            · have HR : Hid (chkE xs = 9) := by show _ = _; rw [HP.out, ← hr.out, HST.out, if_neg (by simp [HE.out]), if_pos hT]
              have dT : decide (d.t < pt) = true := by simpa using hT
              clear hE
              go_wp2_with fail
              refine (rentry_any d _).mono ?_
              rw [HE.out]
              rintro e w3 ⟨rfl, hb3⟩
              have hB3 := bt' hB hb3 hzr
              have y0 := (hb3.cell (p := ⟨b, o + k * 6, none⟩) hbr).trans x0
              have z0 := (hB3.cell (p := ⟨b, o + m * 6, none⟩) hb).trans p0
              clear hb3
              go_wp2_with fail
              go_quiet (fail)
              go_wp2_with fail
              go_ret
              exact ⟨by rw [HR.out]; rfl, below_drewN hB3 _⟩
            · have HT : Hid (chkL (prevT xs (k + 1)) (xs.drop (k + 1)) = chkL 0 xs) := by show _ = _; rw [← hr.out, HST.out, if_neg (by simp [HE.out]), if_neg hT]
              have dT : decide (d.t < pt) = false := by simpa using hT
              clear hE
              go_wp2_with fail
              refine (rentry_any d _).mono ?_
              rw [HE.out]
              rintro e w3 ⟨rfl, hb3⟩
              have hB3 := bt' hB hb3 hzr
              have y0 := (hb3.cell (p := ⟨b, o + k * 6, none⟩) hbr).trans x0
              have z0 := (hB3.cell (p := ⟨b, o + m * 6, none⟩) hb).trans p0
              clear hb3
              go_wp2_with fail
              go_quiet (fail)
              go_wp2_with fail
              go_roundw
              case rel => exact ⟨k + 1, by omega, by go_num, HT, below_drewN hB3 _⟩
              case measure => simp [intOf]; omega
        · have HR : Hid (chkE xs = entE d) := by show _ = _; rw [HP.out, ← hr.out, HST.out, if_pos hE]
          have hEb : (entE d != 0) = true := by simpa using hE
          clear hE
          go_wp2_with fail
          refine (rentry_any d _).mono ?_
          rintro e w3 ⟨rfl, hb3⟩
          have hB3 := bt' hB hb3 hzr
          clear hb3
          go_wp2_with fail
          go_ret
          exact ⟨by rw [HR.out]; rfl, hB3⟩
      · have HR : Hid (chkE xs = 0) := by show _ = _; rw [HP.out, ← hr.out, List.drop_of_length_le (by omega)]; rfl
        go_wp2_with fail
        go_ret
        exact ⟨by rw [HR.out]; rfl, hB⟩
theorem great_any (v : Value) (xs : List Ent) (w : World) (hv : Ents w w.heap.size v xs) : Calls Tryd.prog 14 #[v] w fun e w' => e = .returned (.bool (decide (60 < xs.length))) ∧ Below w.heap.size w w' := by
  obtain ⟨A, c, rfl, hc, hm, -⟩ := hv
  unfold maxLen at hm
  by_cases hL : 60 < xs.length
  · have g1 : (60 : Int) < xs.length := by omega
    have HT : Hid (decide (60 < xs.length) = true) := by show _ = _; simp [hL]
    clear hL
    go_enter Tryd.func14, Tryd.ntmps14
    go_wp2_with fail
    go_ret
    exact ⟨by rw [HT.out]; rfl, by (repeat' (first | (with_reducible exact Below.refl _ _) | (with_reducible refine Below.alloc ?_ ?_ _) | (with_reducible refine Below.drew ?_) | (with_reducible refine below_drewN ?_ _) | (with_reducible refine Below.setCell ?_ ?_ _) | (with_reducible refine Below.trans ?_ (Below.mono (by assumption) ?_)) | (with_reducible exact Nat.le_refl _) | omega | (simp; omega) | (simp; done)))⟩
  · have g1 : ¬ (60 : Int) < xs.length := by omega
    have HT : Hid (decide (60 < xs.length) = false) := by show _ = _; simp [hL]
    clear hL
    go_enter Tryd.func14, Tryd.ntmps14
    go_wp2_with fail
    go_ret
    exact ⟨by rw [HT.out]; rfl, by (repeat' (first | (with_reducible exact Below.refl _ _) | (with_reducible refine Below.alloc ?_ ?_ _) | (with_reducible refine Below.drew ?_) | (with_reducible refine below_drewN ?_ _) | (with_reducible refine Below.setCell ?_ ?_ _) | (with_reducible refine Below.trans ?_ (Below.mono (by assumption) ?_)) | (with_reducible exact Nat.le_refl _) | omega | (simp; omega) | (simp; done)))⟩
theorem eql_ent (x y : Ent) (W : World) : (binOp .eql 37 (.agg #[.int .i64 x.t, .int .i64 x.k, .int .i64 x.n, .int .i64 x.j, .int .i64 x.c, .int .i64 x.v]) (.agg #[.int .i64 y.t, .int .i64 y.k, .int .i64 y.n, .int .i64 y.j, .int .i64 y.c, .int .i64 y.v])).run Tryd.prog W = .ok (.bool (decide (x = y))) W := by
  cases h0 : (x.t == y.t)
  · have e : decide (x = y) = false := by
      rw [decide_eq_false_iff_not]; rintro rfl; simp at h0
    rw [e]
    go_simp
  · cases h1 : (x.k == y.k)
    · have e : decide (x = y) = false := by
        rw [decide_eq_false_iff_not]; rintro rfl; simp at h1
      rw [e]
      go_simp
    · cases h2 : (x.n == y.n)
      · have e : decide (x = y) = false := by
          rw [decide_eq_false_iff_not]; rintro rfl; simp at h2
        rw [e]
        go_simp
      · cases h3 : (x.j == y.j)
        · have e : decide (x = y) = false := by
            rw [decide_eq_false_iff_not]; rintro rfl; simp at h3
          rw [e]
          go_simp
        · cases h4 : (x.c == y.c)
          · have e : decide (x = y) = false := by
              rw [decide_eq_false_iff_not]; rintro rfl; simp at h4
            rw [e]
            go_simp
          · cases h5 : (x.v == y.v)
            · have e : decide (x = y) = false := by
                rw [decide_eq_false_iff_not]; rintro rfl; simp at h5
              rw [e]
              go_simp
            · have e : decide (x = y) = true := by
                obtain ⟨x1, x2, x3, x4, x5, x6⟩ := x
                obtain ⟨y1, y2, y3, y4, y5, y6⟩ := y
                simp at h0 h1 h2 h3 h4 h5 ⊢
                exact ⟨h0, h1, h2, h3, h4, h5⟩
              rw [e]
              go_simp
theorem neq_ent (x y : Ent) (W : World) : (binOp .neq 37 (.agg #[.int .i64 x.t, .int .i64 x.k, .int .i64 x.n, .int .i64 x.j, .int .i64 x.c, .int .i64 x.v]) (.agg #[.int .i64 y.t, .int .i64 y.k, .int .i64 y.n, .int .i64 y.j, .int .i64 y.c, .int .i64 y.v])).run Tryd.prog W = .ok (.bool (!decide (x = y))) W := by
  cases h0 : (x.t == y.t)
  · have e : decide (x = y) = false := by
      rw [decide_eq_false_iff_not]; rintro rfl; simp at h0
    rw [e]
    go_simp
  · cases h1 : (x.k == y.k)
    · have e : decide (x = y) = false := by
        rw [decide_eq_false_iff_not]; rintro rfl; simp at h1
      rw [e]
      go_simp
    · cases h2 : (x.n == y.n)
      · have e : decide (x = y) = false := by
          rw [decide_eq_false_iff_not]; rintro rfl; simp at h2
        rw [e]
        go_simp
      · cases h3 : (x.j == y.j)
        · have e : decide (x = y) = false := by
            rw [decide_eq_false_iff_not]; rintro rfl; simp at h3
          rw [e]
          go_simp
        · cases h4 : (x.c == y.c)
          · have e : decide (x = y) = false := by
              rw [decide_eq_false_iff_not]; rintro rfl; simp at h4
            rw [e]
            go_simp
          · cases h5 : (x.v == y.v)
            · have e : decide (x = y) = false := by
                rw [decide_eq_false_iff_not]; rintro rfl; simp at h5
              rw [e]
              go_simp
            · have e : decide (x = y) = true := by
                obtain ⟨x1, x2, x3, x4, x5, x6⟩ := x
                obtain ⟨y1, y2, y3, y4, y5, y6⟩ := y
                simp at h0 h1 h2 h3 h4 h5 ⊢
                exact ⟨h0, h1, h2, h3, h4, h5⟩
              rw [e]
              go_simp
theorem ent_neq (x y : Ent) (h : ¬ x = y) (W : World) : (binOp .neq 37 (.agg #[.int .i64 x.t, .int .i64 x.k, .int .i64 x.n, .int .i64 x.j, .int .i64 x.c, .int .i64 x.v]) (.agg #[.int .i64 y.t, .int .i64 y.k, .int .i64 y.n, .int .i64 y.j, .int .i64 y.c, .int .i64 y.v])).run Tryd.prog W = .ok (.bool true) W := by
  rw [neq_ent, decide_eq_false h]; rfl
def sameL : List Ent → List Ent → Bool
  | [], [] => true
  | x :: t, y :: u => decide (x = y) && sameL t u
  | _, _ => false
theorem sameL_iff : ∀ (xs ys : List Ent), sameL xs ys = true ↔ xs = ys
  | [], [] => by simp [sameL]
  | [], _ :: _ => by simp [sameL]
  | _ :: _, [] => by simp [sameL]
  | x :: t, y :: u => by simp [sameL, sameL_iff t u]
theorem same_step (xs ys : List Ent) (k : Nat) (h : k < xs.length) (h2 : k < ys.length) : sameL (xs.drop k) (ys.drop k) = (decide (xs.getD k Ent.zero = ys.getD k Ent.zero) && sameL (xs.drop (k + 1)) (ys.drop (k + 1))) := by
  rw [drop_get xs Ent.zero k h, drop_get ys Ent.zero k h2, sameL]
theorem same_len {xs ys : List Ent} (h : xs.length ≠ ys.length) : sameL xs ys = false := by
  cases hs : sameL xs ys
  · rfl
  · exact absurd (congrArg List.length ((sameL_iff xs ys).1 hs)) h
set_option maxRecDepth 100000 in
set_option maxHeartbeats 4000000 in
theorem same_any (v u : Value) (xs ys : List Ent) (w : World) (hv : Ents w w.heap.size v xs) (hu : Ents w w.heap.size u ys) : Calls Tryd.prog 13 #[v, u] w fun e w' => e = .returned (.bool (sameL xs ys)) ∧ Below w.heap.size w w' := by
  obtain ⟨A, c, rfl, hc, hm, hA⟩ := hv
  obtain ⟨A', c', rfl, hc', hm', hA'⟩ := hu
  unfold maxLen at hm hm'
  have HA := Lib.hid hA
  have HA' := Lib.hid hA'
  clear hA hA'
  by_cases hL : xs.length = ys.length
  · have hLb : ((xs.length : Int) != (ys.length : Int)) = false := by simp; omega
    go_enter Tryd.func13, Tryd.ntmps13
    go_wp2_with fail
    go_loopw [5] (fun i wr => ∃ k : Nat, k ≤ xs.length ∧ i = .int .i64 k ∧ Hid (sameL (xs.drop k) (ys.drop k) = sameL xs ys) ∧ Below w.heap.size w wr) (fun i _ => xs.length - (intOf i).toNat)
    case atStart => exact ⟨0, by omega, rfl, rfl, Below.refl _ _⟩
    case round =>
      obtain ⟨k, hk, rfl, hr, hB⟩ := hrel
      have hzr := hB.size
      by_cases hlt : k < xs.length
      · have hlt2 : k < ys.length := by omega
        obtain ⟨b, o, rfl, hb, hcell⟩ := HA.out (by omega)
        obtain ⟨b', o', rfl, hb', hcell'⟩ := HA'.out (by omega)
        have hx := (hcell k hlt).below hB hb
        have hy := (hcell' k hlt2).below hB hb'
        have HST := Lib.hid (same_step xs ys k hlt hlt2)
        clear hcell hcell'
        generalize xs.getD k Ent.zero = x at *
        generalize ys.getD k Ent.zero = y at *
        obtain ⟨x0, x1, x2, x3, x4, x5⟩ := hx
        obtain ⟨y0, y1, y2, y3, y4, y5⟩ := hy
        have hbr : b < wr.heap.size := by omega
        have hbr' : b' < wr.heap.size := by omega
        have ki : (k : Int) < xs.length := by omega
        have ki2 : (k : Int) < ys.length := by omega
        by_cases hq : x = y
        · have HT : Hid (sameL (xs.drop (k + 1)) (ys.drop (k + 1)) = sameL xs ys) := by show _ = _; rw [← hr.out, HST.out, hq]; simp
          have hne : ∀ W : World, (binOp .neq 37 (.agg #[.int .i64 x.t, .int .i64 x.k, .int .i64 x.n, .int .i64 x.j, .int .i64 x.c, .int .i64 x.v]) (.agg #[.int .i64 y.t, .int .i64 y.k, .int .i64 y.n, .int .i64 y.j, .int .i64 y.c, .int .i64 y.v])).run Tryd.prog W = .ok (.bool false) W := fun W => by rw [neq_ent, decide_eq_true hq]; rfl
          clear hq
          go_wp2_with fail
          go_quiet (fail)
          go_wp2_with fail
          go_roundw
          case rel => exact ⟨k + 1, by omega, by go_num, HT, below_drewN hB _⟩
          case measure => simp [intOf]; omega
        · have HT : Hid (sameL xs ys = false) := by show _ = _; rw [← hr.out, HST.out]; simp [hq]
          have hne : ∀ W : World, (binOp .neq 37 (.agg #[.int .i64 x.t, .int .i64 x.k, .int .i64 x.n, .int .i64 x.j, .int .i64 x.c, .int .i64 x.v]) (.agg #[.int .i64 y.t, .int .i64 y.k, .int .i64 y.n, .int .i64 y.j, .int .i64 y.c, .int .i64 y.v])).run Tryd.prog W = .ok (.bool true) W := fun W => ent_neq x y hq W
          clear hq
          go_wp2_with fail
          go_quiet (fail)
          go_wp2_with fail
          go_ret
          exact ⟨by rw [HT.out]; rfl, below_drewN hB _⟩
      · have HT : Hid (sameL xs ys = true) := by show _ = _; rw [← hr.out, List.drop_of_length_le (by omega), List.drop_of_length_le (by omega)]; rfl
        go_wp2_with fail
        go_ret
        exact ⟨by rw [HT.out]; rfl, hB⟩
  · have hLb : ((xs.length : Int) != (ys.length : Int)) = true := by simp; omega
    have HT := Lib.hid (same_len hL)
    go_enter Tryd.func13, Tryd.ntmps13
    go_wp2_with fail
    go_ret
    exact ⟨by rw [HT.out]; rfl, by (repeat' (first | (with_reducible exact Below.refl _ _) | (with_reducible refine Below.alloc ?_ ?_ _) | (with_reducible refine Below.drew ?_) | (with_reducible refine below_drewN ?_ _) | (with_reducible refine Below.setCell ?_ ?_ _) | (with_reducible refine Below.trans ?_ (Below.mono (by assumption) ?_)) | (with_reducible exact Nat.le_refl _) | omega | (simp; omega) | (simp; done)))⟩
end Go.Proofs.YtekpnphfdoplfaaDoor

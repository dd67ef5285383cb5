/- rational.lowest, New, Add. -/
import Derived.Test.YtpcbccpobhdokaaGreatDoorA1
import Derived.Test.YtpcbccpobhdokaaGreatDoorE3
set_option linter.unusedSimpArgs false
set_option linter.unusedVariables false
set_option linter.all false
namespace Go.Proofs.YtpcbccpobhdokaaGreatDoor
open Go.RowKit
theorem two_cells {W : World} {b : Nat} {u0 u1 : Value} (h0 : W.cell? ⟨b, 0, none⟩ = some u0) (h1 : W.cell? ⟨b, 1, none⟩ = some u1) (x y : Value) :
    ((W.setCell ⟨b, 0, none⟩ x).setCell ⟨b, 1, none⟩ y).cell? ⟨b, 0, none⟩ = some x ∧ ((W.setCell ⟨b, 0, none⟩ x).setCell ⟨b, 1, none⟩ y).cell? ⟨b, 1, none⟩ = some y := by
  refine ⟨?_, ?_⟩
  · rw [World.cell?_setCell_other _ _ _ _ (by simp)]; exact World.cell?_setCell_same _ _ _ h0
  · exact World.cell?_setCell_same _ _ _ ((World.cell?_setCell_other _ _ _ _ (by simp)).trans h1)
theorem below_two {B b : Nat} {w W : World} (h : Below B w W) (hb : B ≤ b) (x y : Value) : Below B w ((W.setCell ⟨b, 0, none⟩ x).setCell ⟨b, 1, none⟩ y) :=
  (h.setCell (p := ⟨b, 0, none⟩) hb x).setCell (p := ⟨b, 1, none⟩) hb y
def lowR (neg : Bool) (n d : Nat) : Option (Int × Int) := if n / Nat.gcd n d > 1099511627776 ∨ d / Nat.gcd n d > 1048576 then none else some (if neg then -((n / Nat.gcd n d : Nat) : Int) else ((n / Nat.gcd n d : Nat) : Int), ((d / Nat.gcd n d : Nat) : Int))
def resR (o : Option (Int × Int)) : Value := match o with
  | none => .tuple #[.agg #[.int .i64 0, .int .i64 0], .int .i64 5]
  | some (x, y) => .tuple #[.agg #[.int .i64 x, .int .i64 y], .int .i64 0]
theorem conv_i (B : Nat) (h : B < 9223372036854775808) (W : World) : (convert 136 3 (.int .u64 (B : Int))).run Tryz.prog W = .ok (.int .i64 (B : Int)) W := by
  have h1 : IntKind.i64.wrap (B : Int) = (B : Int) := by rw [IntKind.wrap_i64]; omega
  simp [convert, go_sem, h1]
set_option maxHeartbeats 4000000 in
theorem low_any (neg : Bool) (n d : Nat) (hn : n < 9223372036854775808) (hd : d < 9223372036854775808) (hd1 : 1 ≤ d) (w : World) : Calls Tryz.prog 72 #[.bool neg, .int .u64 n, .int .u64 d] w fun e w' => e = .returned (resR (lowR neg n d)) ∧ Below w.heap.size w w' := by
  have hg1 : 1 ≤ Nat.gcd n d := Nat.gcd_pos_of_pos_right n hd1
  obtain ⟨g, hg⟩ : ∃ g, Nat.gcd n d = g := ⟨_, rfl⟩
  have HGC := Lib.hid (fun (W : World) => gcd_any n d W)
  unfold lowR
  rw [hg] at hg1 HGC ⊢
  clear hg
  obtain ⟨N, hN⟩ : ∃ N, n / g = N := ⟨_, rfl⟩
  obtain ⟨D, hD⟩ : ∃ D, d / g = D := ⟨_, rfl⟩
  have hNn : N ≤ n := hN ▸ Nat.div_le_self n g
  have hDn : D ≤ d := hD ▸ Nat.div_le_self d g
  rw [hN, hD]
  have qN : (n : Int) / (g : Int) = (N : Int) := by rw [← hN]; exact (Int.natCast_ediv n g).symm
  have qD : (d : Int) / (g : Int) = (D : Int) := by rw [← hD]; exact (Int.natCast_ediv d g).symm
  have tN : (n : Int).tdiv (g : Int) = (N : Int) := by rw [← hN]; rfl
  have tD : (d : Int).tdiv (g : Int) = (D : Int) := by rw [← hD]; rfl
  have g0 : ¬ (g : Int) = 0 := by omega
  have g0' : ((g : Int) == 0) = false := by simp; omega
  clear hN hD
  have wN := wrap_id N (by omega)
  have wD := wrap_id D (by omega)
  by_cases h1 : N > 1099511627776
  · rw [if_pos (.inl h1)]
    have h1z : (N : Int) > 1099511627776 := by omega
    go_enter Tryz.func72, Tryz.ntmps72
    go_wp2_with fail
    refine (HGC.out _).mono ?_
    rintro e w1 ⟨rfl, q, rfl⟩
    have c0 : ∀ k, ((w.alloc (.cells #[.int .i64 0, .int .i64 0] 30)).drewN k).cell? ⟨w.heap.size, 0, none⟩ = some (.int .i64 0) := fun k => cell_of_row _ _ 0 _ _ _ (heap_alloc_last _ _)
    have c1 : ∀ k, ((w.alloc (.cells #[.int .i64 0, .int .i64 0] 30)).drewN k).cell? ⟨w.heap.size, 1, none⟩ = some (.int .i64 0) := fun k => cell_of_row _ _ 1 _ _ _ (heap_alloc_last _ _)
    go_wp2_with fail
    go_quiet (fail)
    go_wp2_with fail
    obtain ⟨r0, r1⟩ := two_cells (c0 (q + nq)) (c1 (q + nq)) (.int .i64 0) (.int .i64 0)
    refine bodyPost_ret (by (simp [results, Tryz.results72, go_sem, r0, r1]; try rfl)) rfl ?_
    exact ⟨rfl, below_two (below_drewN ((Below.refl _ w).alloc (Nat.le_refl _) _) _) (Nat.le_refl _) _ _⟩
  · have h1z : ¬ (N : Int) > 1099511627776 := by omega
    by_cases h2 : D > 1048576
    · rw [if_pos (.inr h2)]
      have h2z : (D : Int) > 1048576 := by omega
      go_enter Tryz.func72, Tryz.ntmps72
      go_wp2_with fail
      refine (HGC.out _).mono ?_
      rintro e w1 ⟨rfl, q, rfl⟩
      have c0 : ∀ k, ((w.alloc (.cells #[.int .i64 0, .int .i64 0] 30)).drewN k).cell? ⟨w.heap.size, 0, none⟩ = some (.int .i64 0) := fun k => cell_of_row _ _ 0 _ _ _ (heap_alloc_last _ _)
      have c1 : ∀ k, ((w.alloc (.cells #[.int .i64 0, .int .i64 0] 30)).drewN k).cell? ⟨w.heap.size, 1, none⟩ = some (.int .i64 0) := fun k => cell_of_row _ _ 1 _ _ _ (heap_alloc_last _ _)
      go_wp2_with fail
      go_quiet (fail)
      go_wp2_with fail
      obtain ⟨r0, r1⟩ := two_cells (c0 (q + nq)) (c1 (q + nq)) (.int .i64 0) (.int .i64 0)
      refine bodyPost_ret (by (simp [results, Tryz.results72, go_sem, r0, r1]; try rfl)) rfl ?_
      exact ⟨rfl, below_two (below_drewN ((Below.refl _ w).alloc (Nat.le_refl _) _) _) (Nat.le_refl _) _ _⟩
    · have h2z : ¬ (D : Int) > 1048576 := by omega
      rw [if_neg (by omega)]
      have f1 : decide ((1099511627776 : Int) < (N : Int)) = false := decide_eq_false (by omega)
      have f2 : decide ((1048576 : Int) < (D : Int)) = false := decide_eq_false (by omega)
      have kN : ∀ W, (convert 136 3 (.int .u64 (N : Int))).run Tryz.prog W = .ok (.int .i64 (N : Int)) W := fun W => conv_i N (by omega) W
      have kD : ∀ W, (convert 136 3 (.int .u64 (D : Int))).run Tryz.prog W = .ok (.int .i64 (D : Int)) W := fun W => conv_i D (by omega) W
      cases neg with
      | false =>
        go_enter Tryz.func72, Tryz.ntmps72
        go_wp2_with fail
        refine (HGC.out _).mono ?_
        rintro e w1 ⟨rfl, q, rfl⟩
        have c0 : ∀ k, ((w.alloc (.cells #[.int .i64 0, .int .i64 0] 30)).drewN k).cell? ⟨w.heap.size, 0, none⟩ = some (.int .i64 0) := fun k => cell_of_row _ _ 0 _ _ _ (heap_alloc_last _ _)
        have c1 : ∀ k, ((w.alloc (.cells #[.int .i64 0, .int .i64 0] 30)).drewN k).cell? ⟨w.heap.size, 1, none⟩ = some (.int .i64 0) := fun k => cell_of_row _ _ 1 _ _ _ (heap_alloc_last _ _)
        go_wp2_with fail
        go_quiet (fail)
        go_wp2_with fail
        obtain ⟨r0, r1⟩ := two_cells (c0 (q + nq)) (c1 (q + nq)) (.int .i64 N) (.int .i64 D)
        refine bodyPost_ret (by (simp [results, Tryz.results72, go_sem, ca r0, ca r1]; try rfl)) rfl ?_
        exact ⟨rfl, Below.alloc (below_two (below_drewN ((Below.refl _ w).alloc (Nat.le_refl _) _) _) (Nat.le_refl _) _ _) (by simp) _⟩
      | true =>
        go_enter Tryz.func72, Tryz.ntmps72
        go_wp2_with fail
        refine (HGC.out _).mono ?_
        rintro e w1 ⟨rfl, q, rfl⟩
        have c0 : ∀ k, ((w.alloc (.cells #[.int .i64 0, .int .i64 0] 30)).drewN k).cell? ⟨w.heap.size, 0, none⟩ = some (.int .i64 0) := fun k => cell_of_row _ _ 0 _ _ _ (heap_alloc_last _ _)
        have c1 : ∀ k, ((w.alloc (.cells #[.int .i64 0, .int .i64 0] 30)).drewN k).cell? ⟨w.heap.size, 1, none⟩ = some (.int .i64 0) := fun k => cell_of_row _ _ 1 _ _ _ (heap_alloc_last _ _)
        go_wp2_with fail
        go_quiet (fail)
        go_wp2_with fail
        obtain ⟨r0, r1⟩ := two_cells (c0 (q + nq)) (c1 (q + nq)) (.int .i64 (-(N : Int))) (.int .i64 D)
        refine bodyPost_ret (by (simp [results, Tryz.results72, go_sem, ca r0, ca r1]; try rfl)) rfl ?_
        exact ⟨rfl, Below.alloc (below_two (below_drewN ((Below.refl _ w).alloc (Nat.le_refl _) _) _) (Nat.le_refl _) _ _) (by simp) _⟩
theorem c_box (w : World) (k : Nat) : ((w.alloc (.cells #[.int .i64 0, .int .i64 0] 30)).drewN k).cell? ⟨w.heap.size, 0, none⟩ = some (.int .i64 0) ∧ ((w.alloc (.cells #[.int .i64 0, .int .i64 0] 30)).drewN k).cell? ⟨w.heap.size, 1, none⟩ = some (.int .i64 0) :=
  ⟨cell_of_row _ _ 0 _ _ _ (heap_alloc_last _ _), cell_of_row _ _ 1 _ _ _ (heap_alloc_last _ _)⟩
end Go.Proofs.YtpcbccpobhdokaaGreatDoor
namespace Go.Proofs.YtpcbccpobhdokaaGreatDoor
open Go.RowKit
theorem f_box (w : World) (o : Nat) : (w.alloc (.cells #[.int .i64 0, .int .i64 0] 30)).frozen? ⟨w.heap.size, o, none⟩ = false := by simp
set_option maxHeartbeats 4000000 in
theorem new_any (n d : Int) (hn : -9223372036854775808 < n ∧ n < 9223372036854775807) (hd : 1 ≤ d ∧ d < 9223372036854775807) (w : World) : Calls Tryz.prog 43 #[.int .i64 n, .int .i64 d] w fun e w' => e = .returned (resR (lowR (decide (n < 0)) n.natAbs d.natAbs)) ∧ Below w.heap.size w w' := by
  have HL := Lib.hid (fun (W : World) => low_any (decide (n < 0)) n.natAbs d.natAbs (by omega) (by omega) (by omega) W)
  have HM := Lib.hid (fun (W : World) => mag_any n ⟨by omega, by omega⟩ W)
  have HD := Lib.hid (fun (W : World) => mag_any d ⟨by omega, by omega⟩ W)
  have d0 : (d == 0) = false := by simp; omega
  have d1 : ¬ d < 0 := by omega
  have d2 : decide (d < 0) = false := decide_eq_false d1
  obtain ⟨R, hR⟩ : ∃ R, lowR (decide (n < 0)) n.natAbs d.natAbs = R := ⟨_, rfl⟩
  rw [hR] at HL ⊢
  clear hR
  obtain ⟨x, y, ee, hres⟩ : ∃ x y ee, resR R = .tuple #[.agg #[.int .i64 x, .int .i64 y], .int .i64 ee] := by
    cases R with
    | none => exact ⟨0, 0, 5, rfl⟩
    | some p => exact ⟨p.1, p.2, 0, rfl⟩
  rw [hres] at HL ⊢
  clear hres
  go_enter Tryz.func43, Tryz.ntmps43
  go_wp2_with fail
  refine (HM.out _).mono ?_
  rintro e w1 ⟨rfl, rfl⟩
  go_wp2_with fail
  refine (HD.out _).mono ?_
  rintro e w2 ⟨rfl, rfl⟩
  go_wp2_with fail
  refine (HL.out _).mono ?_
  rintro e w3 ⟨rfl, hb⟩
  have c0 := (hb.cell (p := ⟨w.heap.size, 0, none⟩) (by simp)).trans (c_box w 0).1
  have c1 := (hb.cell (p := ⟨w.heap.size, 1, none⟩) (by simp)).trans (c_box w 0).2
  have f0 := (hb.frozen (p := ⟨w.heap.size, 0, none⟩) (by simp)).trans (f_box w 0)
  have f1 := (hb.frozen (p := ⟨w.heap.size, 1, none⟩) (by simp)).trans (f_box w 1)
  go_wp2_with fail
  obtain ⟨r0, r1⟩ := two_cells c0 c1 (.int .i64 x) (.int .i64 y)
  refine bodyPost_ret (by (simp [results, Tryz.results43, go_sem, r0, r1]; try rfl)) rfl ?_
  exact ⟨rfl, below_two (((Below.refl _ w).alloc (Nat.le_refl _) _).trans (hb.mono (by simp))) (Nat.le_refl _) _ _⟩
def addR (a b c d : Int) : Option (Int × Int) := lowR (decide (a * d + c * b < 0)) (a * d + c * b).natAbs (b * d).natAbs
theorem mul_bound {a d : Int} (h1 : -1099511627776 ≤ a) (h2 : a ≤ 1099511627776) (h3 : 1 ≤ d) (h4 : d ≤ 1048576) : -1152921504606846976 ≤ a * d ∧ a * d ≤ 1152921504606846976 := by
  have e1 : a * d ≤ 1099511627776 * d := Int.mul_le_mul_of_nonneg_right h2 (by omega)
  have e2 : -1099511627776 * d ≤ a * d := Int.mul_le_mul_of_nonneg_right h1 (by omega)
  omega
theorem den_bound {b d : Int} (h1 : 1 ≤ b) (h2 : b ≤ 1048576) (h3 : 1 ≤ d) (h4 : d ≤ 1048576) : 1 ≤ b * d ∧ b * d ≤ 1099511627776 := by
  have e1 : b * d ≤ 1048576 * d := Int.mul_le_mul_of_nonneg_right h2 (by omega)
  have e2 : 1 * d ≤ b * d := Int.mul_le_mul_of_nonneg_right h1 (by omega)
  omega
set_option maxHeartbeats 4000000 in
theorem sum_any (a b c d : Int) (hx : ratE a b = 0) (hy : ratE c d = 0) (p q : Nat) (w : World) (h0 : w.cell? ⟨p, 0, none⟩ = some (.int .i64 a)) (h1 : w.cell? ⟨p, 1, none⟩ = some (.int .i64 b)) (h2 : w.cell? ⟨q, 0, none⟩ = some (.int .i64 c)) (h3 : w.cell? ⟨q, 1, none⟩ = some (.int .i64 d)) :
    Calls Tryz.prog 42 #[.pointer (some ⟨p, 0, none⟩), .pointer (some ⟨q, 0, none⟩)] w fun e w' => e = .returned (resR (addR a b c d)) ∧ Below w.heap.size w w' := by
  obtain ⟨x1, x2, x3, x4, _⟩ := ratE_ok hx
  obtain ⟨y1, y2, y3, y4, _⟩ := ratE_ok hy
  have m1 := mul_bound x1 x2 y3 y4
  have m2 := mul_bound y1 y2 x3 x4
  have m3 := den_bound x3 x4 y3 y4
  have HN := Lib.hid (fun (W : World) => new_any (a * d + c * b) (b * d) ⟨by omega, by omega⟩ ⟨by omega, by omega⟩ W)
  have r1 : IntKind.i64.wrap (a * d) = a * d := by rw [IntKind.wrap_i64]; omega
  have r2 : IntKind.i64.wrap (c * b) = c * b := by rw [IntKind.wrap_i64]; omega
  have r3 : IntKind.i64.wrap (a * d + c * b) = a * d + c * b := by rw [IntKind.wrap_i64]; omega
  have r4 : IntKind.i64.wrap (b * d) = b * d := by rw [IntKind.wrap_i64]; omega
  show Calls Tryz.prog 42 _ w fun e w' => e = .returned (resR (lowR (decide (a * d + c * b < 0)) (a * d + c * b).natAbs (b * d).natAbs)) ∧ Below w.heap.size w w'
  obtain ⟨R, hR⟩ : ∃ R, lowR (decide (a * d + c * b < 0)) (a * d + c * b).natAbs (b * d).natAbs = R := ⟨_, rfl⟩
  rw [hR] at HN ⊢
  clear hR x1 x2 x3 x4 y1 y2 y3 y4 m1 m2 m3
  obtain ⟨x, y, ee, hres⟩ : ∃ x y ee, resR R = .tuple #[.agg #[.int .i64 x, .int .i64 y], .int .i64 ee] := by
    cases R with
    | none => exact ⟨0, 0, 5, rfl⟩
    | some p => exact ⟨p.1, p.2, 0, rfl⟩
  rw [hres] at HN ⊢
  clear hres
  have k0 := ca (o := .cells #[.int .i64 0, .int .i64 0] 30) h0
  have k1 := ca (o := .cells #[.int .i64 0, .int .i64 0] 30) h1
  have k2 := ca (o := .cells #[.int .i64 0, .int .i64 0] 30) h2
  have k3 := ca (o := .cells #[.int .i64 0, .int .i64 0] 30) h3
  go_enter Tryz.func42, Tryz.ntmps42
  go_wp2_with fail
  refine (HN.out _).mono ?_
  rintro e w3 ⟨rfl, hb⟩
  have c0 := (hb.cell (p := ⟨w.heap.size, 0, none⟩) (by simp)).trans (c_box w 0).1
  have c1 := (hb.cell (p := ⟨w.heap.size, 1, none⟩) (by simp)).trans (c_box w 0).2
  have f0 := (hb.frozen (p := ⟨w.heap.size, 0, none⟩) (by simp)).trans (f_box w 0)
  have f1 := (hb.frozen (p := ⟨w.heap.size, 1, none⟩) (by simp)).trans (f_box w 1)
  go_wp2_with fail
  obtain ⟨r0, r1⟩ := two_cells c0 c1 (.int .i64 x) (.int .i64 y)
  refine bodyPost_ret (by (simp [results, Tryz.results42, go_sem, r0, r1]; try rfl)) rfl ?_
  exact ⟨rfl, below_two (((Below.refl _ w).alloc (Nat.le_refl _) _).trans (hb.mono (by simp))) (Nat.le_refl _) _ _⟩
theorem cell_last1 (w : World) (o : Obj) (vs : Array Value) {T : TypeId} (k : Nat) {v : Value} (h : vs[k]? = some v) : ((w.alloc o).alloc (.cells vs T)).cell? ⟨w.heap.size + 1, k, none⟩ = some v := by
  have h2 := heap_alloc_last (w.alloc o) (.cells vs T)
  simp only [World.size_alloc] at h2
  exact cell_of_row _ _ k _ _ _ h2 |>.trans h
theorem cell_last2 (w : World) (o o' : Obj) (vs : Array Value) {T : TypeId} (k : Nat) {v : Value} (h : vs[k]? = some v) : (((w.alloc o).alloc o').alloc (.cells vs T)).cell? ⟨w.heap.size + 1 + 1, k, none⟩ = some v := by
  have h2 := heap_alloc_last ((w.alloc o).alloc o') (.cells vs T)
  simp only [World.size_alloc] at h2
  exact cell_of_row _ _ k _ _ _ h2 |>.trans h
set_option maxHeartbeats 4000000 in
theorem bin_any (a b c d : Int) (hx : ratE a b = 0) (hy : ratE c d = 0) (p q : Nat) (w : World) (h0 : w.cell? ⟨p, 0, none⟩ = some (.int .i64 a)) (h1 : w.cell? ⟨p, 1, none⟩ = some (.int .i64 b)) (h2 : w.cell? ⟨q, 0, none⟩ = some (.int .i64 c)) (h3 : w.cell? ⟨q, 1, none⟩ = some (.int .i64 d)) :
    Calls Tryz.prog 41 #[.agg #[.int .i64 a, .int .i64 b], .agg #[.int .i64 c, .int .i64 d], .func (.func 42) #[] #[.pointer (some ⟨p, 0, none⟩), .pointer (some ⟨q, 0, none⟩)]] w fun e w' => e = .returned (resR (addR a b c d)) ∧ Below w.heap.size w w' := by
  have HX := Lib.hid (fun (W : World) => rcheck_any a b W)
  have HY := Lib.hid (fun (W : World) => rcheck_any c d W)
  rw [hx] at HX
  rw [hy] at HY
  have HS := Lib.hid (fun (W : World) => sum_any a b c d hx hy p q W)
  obtain ⟨R, hR⟩ : ∃ R, addR a b c d = R := ⟨_, rfl⟩
  rw [hR] at HS ⊢
  clear hR hx hy
  obtain ⟨x, y, ee, hres⟩ : ∃ x y ee, resR R = .tuple #[.agg #[.int .i64 x, .int .i64 y], .int .i64 ee] := by
    cases R with
    | none => exact ⟨0, 0, 5, rfl⟩
    | some p => exact ⟨p.1, p.2, 0, rfl⟩
  rw [hres] at HS ⊢
  clear hres
  obtain ⟨W, hW⟩ : ∃ W, W = ((w.alloc (.cells #[.int .i64 a, .int .i64 b] 30)).alloc (.cells #[.int .i64 c, .int .i64 d] 30)).alloc (.cells #[.int .i64 0, .int .i64 0] 30) := ⟨_, rfl⟩
  have g0 : W.cell? ⟨p, 0, none⟩ = some (.int .i64 a) := by rw [hW]; exact ca (ca (ca h0))
  have g1 : W.cell? ⟨p, 1, none⟩ = some (.int .i64 b) := by rw [hW]; exact ca (ca (ca h1))
  have g2 : W.cell? ⟨q, 0, none⟩ = some (.int .i64 c) := by rw [hW]; exact ca (ca (ca h2))
  have g3 : W.cell? ⟨q, 1, none⟩ = some (.int .i64 d) := by rw [hW]; exact ca (ca (ca h3))
  have b0 : W.cell? ⟨w.heap.size, 0, none⟩ = some (.int .i64 a) := by rw [hW]; exact ca (ca (cell_of_row _ _ 0 _ _ _ (heap_alloc_last _ _)))
  have b1 : W.cell? ⟨w.heap.size, 1, none⟩ = some (.int .i64 b) := by rw [hW]; exact ca (ca (cell_of_row _ _ 1 _ _ _ (heap_alloc_last _ _)))
  have b2 : W.cell? ⟨w.heap.size + 1, 0, none⟩ = some (.int .i64 c) := by rw [hW]; exact ca (cell_last1 w _ _ 0 rfl)
  have b3 : W.cell? ⟨w.heap.size + 1, 1, none⟩ = some (.int .i64 d) := by rw [hW]; exact ca (cell_last1 w _ _ 1 rfl)
  have b4 : W.cell? ⟨w.heap.size + 1 + 1, 0, none⟩ = some (.int .i64 0) := by rw [hW]; exact cell_last2 w _ _ _ 0 rfl
  have b5 : W.cell? ⟨w.heap.size + 1 + 1, 1, none⟩ = some (.int .i64 0) := by rw [hW]; exact cell_last2 w _ _ _ 1 rfl
  have bz : ∀ o, W.frozen? ⟨w.heap.size + 1 + 1, o, none⟩ = false := fun o => by
    have h := f_box ((w.alloc (.cells #[.int .i64 a, .int .i64 b] 30)).alloc (.cells #[.int .i64 c, .int .i64 d] 30)) o
    simp only [World.size_alloc] at h
    rw [hW]; exact h
  have hz : w.heap.size + 3 ≤ W.heap.size := by rw [hW]; simp
  have HBL : Hid (Below w.heap.size w W) := by
    rw [hW]; exact ((((Below.refl _ w).alloc (Nat.le_refl _) _).alloc (by simp) _).alloc (by simp; omega) _)
  have hpq : p < w.heap.size ∧ q < w.heap.size := ⟨World.block_lt_of_cell? _ _ h0, World.block_lt_of_cell? _ _ h2⟩
  clear h0 h1 h2 h3
  go_enter Tryz.func41, Tryz.ntmps41
  go_upto_region 1 with fail
  rw [← hW]
  clear hW
  go_wp2_with fail
  refine (HX.out _).mono ?_
  rintro e w1 ⟨rfl, hb1⟩
  have b2' := (hb1.cell (p := ⟨w.heap.size + 1, 0, none⟩) (by show w.heap.size + 1 < _; omega)).trans b2
  have b3' := (hb1.cell (p := ⟨w.heap.size + 1, 1, none⟩) (by show w.heap.size + 1 < _; omega)).trans b3
  go_wp2_with fail
  refine (HY.out _).mono ?_
  rintro e w2 ⟨rfl, hb2⟩
  have hb := hb1.trans (hb2.mono hb1.size)
  go_wp2_with fail
  have HSS := Lib.hid (HS.out w2 ((hb.cell (p := ⟨p, 0, none⟩) (by show p < _; omega)).trans g0) ((hb.cell (p := ⟨p, 1, none⟩) (by show p < _; omega)).trans g1) ((hb.cell (p := ⟨q, 0, none⟩) (by show q < _; omega)).trans g2) ((hb.cell (p := ⟨q, 1, none⟩) (by show q < _; omega)).trans g3))
  refine HSS.out.mono ?_
  rintro e w3 ⟨rfl, hb3⟩
  have hbb := hb.trans (hb3.mono hb.size)
  have c0 := (hbb.cell (p := ⟨w.heap.size + 1 + 1, 0, none⟩) (by show w.heap.size + 1 + 1 < _; omega)).trans b4
  have c1 := (hbb.cell (p := ⟨w.heap.size + 1 + 1, 1, none⟩) (by show w.heap.size + 1 + 1 < _; omega)).trans b5
  have f0 := (hbb.frozen (p := ⟨w.heap.size + 1 + 1, 0, none⟩) (by show w.heap.size + 1 + 1 < _; omega)).trans (bz 0)
  have f1 := (hbb.frozen (p := ⟨w.heap.size + 1 + 1, 1, none⟩) (by show w.heap.size + 1 + 1 < _; omega)).trans (bz 1)
  go_wp2_with fail
  obtain ⟨r0, r1⟩ := two_cells c0 c1 (.int .i64 x) (.int .i64 y)
  refine bodyPost_ret (by (simp [results, Tryz.results41, go_sem, r0, r1]; try rfl)) rfl ?_
  exact ⟨rfl, below_two (HBL.out.trans (hbb.mono (by omega))) (by omega) _ _⟩
set_option maxHeartbeats 4000000 in
theorem add_any (a b c d : Int) (hx : ratE a b = 0) (hy : ratE c d = 0) (w : World) :
    Calls Tryz.prog 17 #[.agg #[.int .i64 a, .int .i64 b], .agg #[.int .i64 c, .int .i64 d]] w fun e w' => e = .returned (resR (addR a b c d)) ∧ Below w.heap.size w w' := by
  have HS := Lib.hid (fun (p q : Nat) (W : World) => bin_any a b c d hx hy p q W)
  obtain ⟨R, hR⟩ : ∃ R, addR a b c d = R := ⟨_, rfl⟩
  rw [hR] at HS ⊢
  clear hR hx hy
  obtain ⟨x, y, ee, hres⟩ : ∃ x y ee, resR R = .tuple #[.agg #[.int .i64 x, .int .i64 y], .int .i64 ee] := by
    cases R with
    | none => exact ⟨0, 0, 5, rfl⟩
    | some p => exact ⟨p.1, p.2, 0, rfl⟩
  rw [hres] at HS ⊢
  clear hres
  obtain ⟨W, hW⟩ : ∃ W, W = ((w.alloc (.cells #[.int .i64 a, .int .i64 b] 30)).alloc (.cells #[.int .i64 c, .int .i64 d] 30)).alloc (.cells #[.int .i64 0, .int .i64 0] 30) := ⟨_, rfl⟩
  have b0 : W.cell? ⟨w.heap.size, 0, none⟩ = some (.int .i64 a) := by rw [hW]; exact ca (ca (cell_of_row _ _ 0 _ _ _ (heap_alloc_last _ _)))
  have b1 : W.cell? ⟨w.heap.size, 1, none⟩ = some (.int .i64 b) := by rw [hW]; exact ca (ca (cell_of_row _ _ 1 _ _ _ (heap_alloc_last _ _)))
  have b2 : W.cell? ⟨w.heap.size + 1, 0, none⟩ = some (.int .i64 c) := by rw [hW]; exact ca (cell_last1 w _ _ 0 rfl)
  have b3 : W.cell? ⟨w.heap.size + 1, 1, none⟩ = some (.int .i64 d) := by rw [hW]; exact ca (cell_last1 w _ _ 1 rfl)
  have b4 : W.cell? ⟨w.heap.size + 1 + 1, 0, none⟩ = some (.int .i64 0) := by rw [hW]; exact cell_last2 w _ _ _ 0 rfl
  have b5 : W.cell? ⟨w.heap.size + 1 + 1, 1, none⟩ = some (.int .i64 0) := by rw [hW]; exact cell_last2 w _ _ _ 1 rfl
  have bz : ∀ o, W.frozen? ⟨w.heap.size + 1 + 1, o, none⟩ = false := fun o => by
    have h := f_box ((w.alloc (.cells #[.int .i64 a, .int .i64 b] 30)).alloc (.cells #[.int .i64 c, .int .i64 d] 30)) o
    simp only [World.size_alloc] at h
    rw [hW]; exact h
  have hz : w.heap.size + 3 ≤ W.heap.size := by rw [hW]; simp
  have HBL : Hid (Below w.heap.size w W) := by
    rw [hW]; exact ((((Below.refl _ w).alloc (Nat.le_refl _) _).alloc (by simp) _).alloc (by simp; omega) _)
  have HC := Lib.hid (HS.out w.heap.size (w.heap.size + 1) W b0 b1 b2 b3)
  go_enter Tryz.func17, Tryz.ntmps17
  go_upto_region 1 with fail
  rw [← hW]
  clear hW
  go_wp2_with fail
  refine HC.out.mono ?_
  rintro e w3 ⟨rfl, hbb⟩
  have c0 := (hbb.cell (p := ⟨w.heap.size + 1 + 1, 0, none⟩) (by show w.heap.size + 1 + 1 < _; omega)).trans b4
  have c1 := (hbb.cell (p := ⟨w.heap.size + 1 + 1, 1, none⟩) (by show w.heap.size + 1 + 1 < _; omega)).trans b5
  have f0 := (hbb.frozen (p := ⟨w.heap.size + 1 + 1, 0, none⟩) (by show w.heap.size + 1 + 1 < _; omega)).trans (bz 0)
  have f1 := (hbb.frozen (p := ⟨w.heap.size + 1 + 1, 1, none⟩) (by show w.heap.size + 1 + 1 < _; omega)).trans (bz 1)
  go_wp2_with fail
  obtain ⟨r0, r1⟩ := two_cells c0 c1 (.int .i64 x) (.int .i64 y)
  refine bodyPost_ret (by (simp [results, Tryz.results17, go_sem, r0, r1]; try rfl)) rfl ?_
  exact ⟨rfl, below_two (HBL.out.trans (hbb.mono (by omega))) (by omega) _ _⟩
end Go.Proofs.YtpcbccpobhdokaaGreatDoor

/- The reference's fractions: divisor, size, Check, New, Add. -/
import Derived.Test.YtpcbccpobhdokaaGreatDoorA5
import Derived.Test.YtpcbccpobhdokaaGreatDoorP1
set_option linter.unusedSimpArgs false
set_option linter.unusedVariables false
set_option linter.all false
namespace Go.Proofs.YtpcbccpobhdokaaGreatDoor
open Go.RowKit
theorem div_any (a b : Nat) (w : World) : Calls Tryz.prog 70 #[.int .u64 a, .int .u64 b] w fun e w' => e = .returned (.int .u64 (Nat.gcd a b : Nat)) ∧ ∃ n, w' = w.drewN n := by
  go_enter Tryz.func70, Tryz.ntmps70
  go_wp2_with fail
  go_loopw [0, 1] (fun x y wr => ∃ p q n : Nat, x = .int .u64 p ∧ y = .int .u64 q ∧ Nat.gcd p q = Nat.gcd a b ∧ wr = w.drewN n) (fun _ y _ => (intOf y).toNat)
  case atStart => exact ⟨a, b, 0, rfl, rfl, rfl, rfl⟩
  case round =>
    obtain ⟨p, q, n, rfl, rfl, hg, rfl⟩ := hrel
    by_cases hq : q = 0
    · subst hq
      have hq0 : ¬ ((0 : Nat) : Int) > 0 := by omega
      go_wp2_with fail
      refine bodyPost_ret (by (simp [results, Tryz.results70, go_sem, *]; try rfl)) rfl ?_
      exact ⟨by rw [← hg, Nat.gcd_zero_right], n, rfl⟩
    · have hq2 : ¬ (q : Int) = 0 := by omega
      have hq3 : ((q : Int) == 0) = false := by simpa using hq
      have hq4 : (q : Int) > 0 := by omega
      go_wp2_with fail
      go_quiet (fail)
      go_wp2_with fail
      go_roundw
      case rel => exact ⟨q, p % q, _, rfl, by simp, by rw [← hg, Nat.gcd_comm p q, Nat.gcd_rec q p, Nat.gcd_comm], drewN_drewN w n _⟩
      case measure =>
        simp [intOf]
        have := Nat.mod_lt p (by omega : 0 < q)
        omega
theorem siz_any (n : Int) (hn : -4611686018427387904 ≤ n ∧ n ≤ 4611686018427387904) (w : World) : Calls Tryz.prog 71 #[.int .i64 n] w fun e w' => e = .returned (.int .u64 (n.natAbs : Nat)) ∧ w' = w := by
  by_cases h : n < 0
  · obtain ⟨m, hm⟩ : ∃ m : Nat, -(n + 1) = (m : Int) := ⟨(-(n + 1)).toNat, by omega⟩
    have r1 : IntKind.i64.wrap (n + 1) = n + 1 := by rw [IntKind.wrap_i64]; omega
    have r2 : IntKind.i64.wrap (-(n + 1)) = (m : Int) := by rw [IntKind.wrap_i64]; omega
    have r3 : ∀ W, (convert 3 136 (.int .i64 (m : Int))).run Tryz.prog W = .ok (.int .u64 (m : Int)) W := fun W => conv_u m (by omega) W
    have r4 : IntKind.u64.wrap ((m : Int) + 1) = (m : Int) + 1 := by have := wrap_id (m + 1) (by omega); simpa using this
    have hres : (n.natAbs : Int) = (m : Int) + 1 := by omega
    have HR := Lib.hid hres
    clear hm hres
    go_enter Tryz.func71, Tryz.ntmps71
    go_wp2_with fail
    refine bodyPost_ret (by (simp [results, Tryz.results71, go_sem, *]; try rfl)) rfl ?_
    exact ⟨by rw [HR.out], rfl⟩
  · obtain ⟨m, rfl⟩ : ∃ m : Nat, n = (m : Int) := ⟨n.toNat, by omega⟩
    have r3 : ∀ W, (convert 3 136 (.int .i64 (m : Int))).run Tryz.prog W = .ok (.int .u64 (m : Int)) W := fun W => conv_u m (by omega) W
    go_enter Tryz.func71, Tryz.ntmps71
    go_wp2_with fail
    refine bodyPost_ret (by (simp [results, Tryz.results71, go_sem, *]; try rfl)) rfl ?_
    exact ⟨by simp, rfl⟩
set_option maxHeartbeats 4000000 in
theorem fcheck_any (a b : Int) (w : World) : Calls Tryz.prog 39 #[.agg #[.int .i64 a, .int .i64 b]] w fun e w' => e = .returned (.int .i64 (ratE a b)) ∧ Below w.heap.size w w' := by
  unfold ratE
  by_cases h1 : a < -1099511627776
  · rw [if_pos (.inl h1)]
    go_enter Tryz.func39, Tryz.ntmps39
    go_wp2_with fail
    refine bodyPost_ret (by (simp [results, Tryz.results39, go_sem, *]; try rfl)) rfl ?_
    exact ⟨rfl, (Below.refl _ w).alloc (Nat.le_refl _) _⟩
  · by_cases h2 : a > 1099511627776
    · rw [if_pos (.inr (.inl h2))]
      go_enter Tryz.func39, Tryz.ntmps39
      go_wp2_with fail
      refine bodyPost_ret (by (simp [results, Tryz.results39, go_sem, *]; try rfl)) rfl ?_
      exact ⟨rfl, (Below.refl _ w).alloc (Nat.le_refl _) _⟩
    · by_cases h3 : b < 1
      · rw [if_pos (.inr (.inr (.inl h3)))]
        go_enter Tryz.func39, Tryz.ntmps39
        go_wp2_with fail
        refine bodyPost_ret (by (simp [results, Tryz.results39, go_sem, *]; try rfl)) rfl ?_
        exact ⟨rfl, (Below.refl _ w).alloc (Nat.le_refl _) _⟩
      · by_cases h4 : b > 1048576
        · rw [if_pos (.inr (.inr (.inr h4)))]
          go_enter Tryz.func39, Tryz.ntmps39
          go_wp2_with fail
          refine bodyPost_ret (by (simp [results, Tryz.results39, go_sem, *]; try rfl)) rfl ?_
          exact ⟨rfl, (Below.refl _ w).alloc (Nat.le_refl _) _⟩
        · rw [if_neg (by omega)]
          obtain ⟨B, rfl⟩ : ∃ B : Nat, b = B := ⟨b.toNat, by omega⟩
          have hb0 : (0 : Int) ≤ (B : Int) := by omega
          rw [Int.natAbs_natCast]
          have hg := div_any a.natAbs B
          obtain ⟨g, hgd⟩ : ∃ g, Nat.gcd a.natAbs B = g := ⟨_, rfl⟩
          simp only [hgd] at hg ⊢
          clear hgd
          have hm := fun W => siz_any a ⟨by omega, by omega⟩ W
          have hs2 := fun W => siz_any (B : Int) ⟨by omega, by omega⟩ W
          rw [Int.natAbs_natCast] at hs2
          by_cases h5 : g = 1
          · subst h5
            go_enter Tryz.func39, Tryz.ntmps39
            go_upto_region 3 with fail
            clear h1 h2 h3 h4
            have c0 : (w.alloc (.cells #[.int .i64 a, .int .i64 B] 30)).cell? ⟨w.heap.size, 0, none⟩ = some (.int .i64 a) := cell_of_row _ _ 0 _ _ _ (heap_alloc_last _ _)
            have c1 : (w.alloc (.cells #[.int .i64 a, .int .i64 B] 30)).cell? ⟨w.heap.size, 1, none⟩ = some (.int .i64 B) := cell_of_row _ _ 1 _ _ _ (heap_alloc_last _ _)
            have hB : Below w.heap.size w (w.alloc (.cells #[.int .i64 a, .int .i64 B] 30)) := (Below.refl _ w).alloc (Nat.le_refl _) _
            generalize w.alloc (.cells #[.int .i64 a, .int .i64 B] 30) = W at *
            go_region_held3 (fun w' => w'.cell? ⟨w.heap.size, 0, none⟩ = some (.int .i64 a) ∧ w'.cell? ⟨w.heap.size, 1, none⟩ = some (.int .i64 B) ∧ Below w.heap.size w w')
              ((repeat' (with_reducible apply And.intro)) <;> first | assumption | exact Below.drew (by assumption) | exact below_drewN (by assumption) _)
              (first
               | (go_at_call_of 71 (Value.int .i64 a); refine (hm _).mono ?_; rintro e w2 ⟨rfl, rfl⟩)
               | (go_at_call 71; refine (hs2 _).mono ?_; rintro e w2 ⟨rfl, rfl⟩)
               | (go_at_call 70; refine (hg _).mono ?_; rintro e w2 ⟨rfl, q, rfl⟩))
            all_goals
              rename_i hh
              obtain ⟨_, _, hbl⟩ := hh
              go_wp2_with fail
              refine bodyPost_ret (by (simp [results, Tryz.results39, go_sem, *]; try rfl)) rfl ?_
              exact ⟨rfl, hbl⟩
          · have h6 : ¬ (g : Int) = 1 := by omega
            go_enter Tryz.func39, Tryz.ntmps39
            go_upto_region 3 with fail
            clear h1 h2 h3 h4
            have c0 : (w.alloc (.cells #[.int .i64 a, .int .i64 B] 30)).cell? ⟨w.heap.size, 0, none⟩ = some (.int .i64 a) := cell_of_row _ _ 0 _ _ _ (heap_alloc_last _ _)
            have c1 : (w.alloc (.cells #[.int .i64 a, .int .i64 B] 30)).cell? ⟨w.heap.size, 1, none⟩ = some (.int .i64 B) := cell_of_row _ _ 1 _ _ _ (heap_alloc_last _ _)
            have hB : Below w.heap.size w (w.alloc (.cells #[.int .i64 a, .int .i64 B] 30)) := (Below.refl _ w).alloc (Nat.le_refl _) _
            generalize w.alloc (.cells #[.int .i64 a, .int .i64 B] 30) = W at *
            go_region_held3 (fun w' => w'.cell? ⟨w.heap.size, 0, none⟩ = some (.int .i64 a) ∧ w'.cell? ⟨w.heap.size, 1, none⟩ = some (.int .i64 B) ∧ Below w.heap.size w w')
              ((repeat' (with_reducible apply And.intro)) <;> first | assumption | exact Below.drew (by assumption) | exact below_drewN (by assumption) _)
              (first
               | (go_at_call_of 71 (Value.int .i64 a); refine (hm _).mono ?_; rintro e w2 ⟨rfl, rfl⟩)
               | (go_at_call 71; refine (hs2 _).mono ?_; rintro e w2 ⟨rfl, rfl⟩)
               | (go_at_call 70; refine (hg _).mono ?_; rintro e w2 ⟨rfl, q, rfl⟩))
            all_goals
              rename_i hh
              obtain ⟨_, _, hbl⟩ := hh
              go_wp2_with fail
              refine bodyPost_ret (by (simp [results, Tryz.results39, go_sem, *]; try rfl)) rfl ?_
              exact ⟨by simp, hbl⟩
end Go.Proofs.YtpcbccpobhdokaaGreatDoor
namespace Go.Proofs.YtpcbccpobhdokaaGreatDoor
open Go.RowKit
set_option maxHeartbeats 4000000 in
theorem valid_any (a b c d : Int) (hx : ratE a b = 0) (hy : ratE c d = 0) (w : World) : Calls Tryz.prog 61 #[.agg #[.int .i64 a, .int .i64 b], .agg #[.int .i64 c, .int .i64 d]] w fun e w' => e = .returned (.bool true) ∧ Below w.heap.size w w' := by
  have HX := Lib.hid (fun (W : World) => fcheck_any a b W)
  have HY := Lib.hid (fun (W : World) => fcheck_any c d W)
  rw [hx] at HX
  rw [hy] at HY
  clear hx hy
  obtain ⟨W, hW⟩ : ∃ W, W = (w.alloc (.cells #[.int .i64 a, .int .i64 b] 30)).alloc (.cells #[.int .i64 c, .int .i64 d] 30) := ⟨_, rfl⟩
  have b0 : W.cell? ⟨w.heap.size, 0, none⟩ = some (.int .i64 a) := by rw [hW]; exact cal (cell_of_row _ _ 0 _ _ _ (heap_alloc_last _ _))
  have b1 : W.cell? ⟨w.heap.size, 1, none⟩ = some (.int .i64 b) := by rw [hW]; exact cal (cell_of_row _ _ 1 _ _ _ (heap_alloc_last _ _))
  have b2 : W.cell? ⟨w.heap.size + 1, 0, none⟩ = some (.int .i64 c) := by rw [hW]; exact cell_last1 w _ _ 0 rfl
  have b3 : W.cell? ⟨w.heap.size + 1, 1, none⟩ = some (.int .i64 d) := by rw [hW]; exact cell_last1 w _ _ 1 rfl
  have hz : w.heap.size + 2 ≤ W.heap.size := by rw [hW]; simp
  have HBL : Hid (Below w.heap.size w W) := by rw [hW]; exact (((Below.refl _ w).alloc (Nat.le_refl _) _).alloc (by simp) _)
  go_enter Tryz.func61, Tryz.ntmps61
  go_upto_region 1 with fail
  rw [← hW]
  clear hW
  go_wp2_with fail
  refine (HX.out _).mono ?_
  rintro e w1 ⟨rfl, hb1⟩
  have b2' := (hb1.cell (p := ⟨w.heap.size + 1, 0, none⟩) (by show w.heap.size + 1 < _; omega)).trans b2
  have b3' := (hb1.cell (p := ⟨w.heap.size + 1, 1, none⟩) (by show w.heap.size + 1 < _; omega)).trans b3
  go_wp2_with fail
  refine (HY.out _).mono ?_
  rintro e w2 ⟨rfl, hb2⟩
  go_wp2_with fail
  refine bodyPost_ret (by (simp [results, Tryz.results61, go_sem, *]; try rfl)) rfl ?_
  exact ⟨rfl, HBL.out.trans ((hb1.trans (hb2.mono hb1.size)).mono (by omega))⟩
set_option maxHeartbeats 4000000 in
theorem fnew_any (n d : Int) (hn : -4611686018427387904 < n ∧ n < 4611686018427387904) (hd : 1 ≤ d ∧ d < 4611686018427387904) (w : World) : Calls Tryz.prog 62 #[.int .i64 n, .int .i64 d] w fun e w' => e = .returned (resR (lowR (decide (n < 0)) n.natAbs d.natAbs)) ∧ Below w.heap.size w w' := by
  have HM := Lib.hid (fun (W : World) => siz_any n ⟨by omega, by omega⟩ W)
  have HD := Lib.hid (fun (W : World) => siz_any d ⟨by omega, by omega⟩ W)
  have HGC := Lib.hid (fun (W : World) => div_any n.natAbs d.natAbs W)
  have d0 : (d == 0) = false := by simp; omega
  have d1 : ¬ d < 0 := by omega
  have d2 : decide (d < 0) = false := decide_eq_false d1
  have hg1 : 1 ≤ Nat.gcd n.natAbs d.natAbs := Nat.gcd_pos_of_pos_right _ (by omega)
  have hNb : n.natAbs < 4611686018427387904 := by omega
  have hDb : d.natAbs < 4611686018427387904 := by omega
  unfold lowR
  generalize n.natAbs = na at *
  generalize d.natAbs = da at *
  obtain ⟨g, hg⟩ : ∃ g, Nat.gcd na da = g := ⟨_, rfl⟩
  rw [hg] at hg1 HGC ⊢
  clear hg
  obtain ⟨N, hN⟩ : ∃ N, na / g = N := ⟨_, rfl⟩
  obtain ⟨D, hD⟩ : ∃ D, da / g = D := ⟨_, rfl⟩
  have hNn : N ≤ na := hN ▸ Nat.div_le_self na g
  have hDn : D ≤ da := hD ▸ Nat.div_le_self da g
  rw [hN, hD]
  have qN : (na : Int) / (g : Int) = (N : Int) := by rw [← hN]; exact (Int.natCast_ediv na g).symm
  have qD : (da : Int) / (g : Int) = (D : Int) := by rw [← hD]; exact (Int.natCast_ediv da g).symm
  have tN : (na : Int).tdiv (g : Int) = (N : Int) := by rw [← hN]; rfl
  have tD : (da : Int).tdiv (g : Int) = (D : Int) := by rw [← hD]; rfl
  have g0 : ¬ (g : Int) = 0 := by omega
  have g0' : ((g : Int) == 0) = false := by simp; omega
  clear hN hD
  have wN := wrap_id N (by omega)
  have wD := wrap_id D (by omega)
  by_cases h1 : N > 1099511627776
  · rw [if_pos (.inl h1)]
    have h1z : (N : Int) > 1099511627776 := by omega
    go_enter Tryz.func62, Tryz.ntmps62
    go_wp2_with fail
    refine (HM.out _).mono ?_
    rintro e w1 ⟨rfl, rfl⟩
    go_wp2_with fail
    refine (HD.out _).mono ?_
    rintro e w2 ⟨rfl, rfl⟩
    go_wp2_with fail
    refine (HGC.out _).mono ?_
    rintro e w3 ⟨rfl, q, rfl⟩
    have c0 := fun k => (c_box w k).1
    have c1 := fun k => (c_box w k).2
    go_wp2_with fail
    go_quiet (fail)
    go_wp2_with fail
    obtain ⟨r0, r1⟩ := two_cells (c0 (q + nq)) (c1 (q + nq)) (.int .i64 0) (.int .i64 0)
    refine bodyPost_ret (by (simp [results, Tryz.results62, go_sem, r0, r1]; try rfl)) rfl ?_
    exact ⟨rfl, below_two (below_drewN ((Below.refl _ w).alloc (Nat.le_refl _) _) _) (Nat.le_refl _) _ _⟩
  · have h1z : ¬ (N : Int) > 1099511627776 := by omega
    by_cases h2 : D > 1048576
    · rw [if_pos (.inr h2)]
      have h2z : (D : Int) > 1048576 := by omega
      go_enter Tryz.func62, Tryz.ntmps62
      go_wp2_with fail
      refine (HM.out _).mono ?_
      rintro e w1 ⟨rfl, rfl⟩
      go_wp2_with fail
      refine (HD.out _).mono ?_
      rintro e w2 ⟨rfl, rfl⟩
      go_wp2_with fail
      refine (HGC.out _).mono ?_
      rintro e w3 ⟨rfl, q, rfl⟩
      have c0 := fun k => (c_box w k).1
      have c1 := fun k => (c_box w k).2
      go_wp2_with fail
      go_quiet (fail)
      go_wp2_with fail
      obtain ⟨r0, r1⟩ := two_cells (c0 (q + nq)) (c1 (q + nq)) (.int .i64 0) (.int .i64 0)
      refine bodyPost_ret (by (simp [results, Tryz.results62, go_sem, r0, r1]; try rfl)) rfl ?_
      exact ⟨rfl, below_two (below_drewN ((Below.refl _ w).alloc (Nat.le_refl _) _) _) (Nat.le_refl _) _ _⟩
    · have h2z : ¬ (D : Int) > 1048576 := by omega
      rw [if_neg (by omega)]
      have f1 : decide ((1099511627776 : Int) < (N : Int)) = false := decide_eq_false (by omega)
      have f2 : decide ((1048576 : Int) < (D : Int)) = false := decide_eq_false (by omega)
      have kN : ∀ W, (convert 136 3 (.int .u64 (N : Int))).run Tryz.prog W = .ok (.int .i64 (N : Int)) W := fun W => conv_i N (by omega) W
      have kD : ∀ W, (convert 136 3 (.int .u64 (D : Int))).run Tryz.prog W = .ok (.int .i64 (D : Int)) W := fun W => conv_i D (by omega) W
      by_cases hneg : n < 0
      · have hnd : decide (n < 0) = true := decide_eq_true hneg
        rw [hnd]
        go_enter Tryz.func62, Tryz.ntmps62
        go_wp2_with fail
        refine (HM.out _).mono ?_
        rintro e w1 ⟨rfl, rfl⟩
        go_wp2_with fail
        refine (HD.out _).mono ?_
        rintro e w2 ⟨rfl, rfl⟩
        go_wp2_with fail
        refine (HGC.out _).mono ?_
        rintro e w3 ⟨rfl, q, rfl⟩
        have c0 := fun k => (c_box w k).1
        have c1 := fun k => (c_box w k).2
        go_wp2_with fail
        go_quiet (fail)
        go_wp2_with fail
        obtain ⟨r0, r1⟩ := two_cells (c0 (q + nq)) (c1 (q + nq)) (.int .i64 (-(N : Int))) (.int .i64 D)
        refine bodyPost_ret (by (simp [results, Tryz.results62, go_sem, r0, r1]; try rfl)) rfl ?_
        exact ⟨rfl, below_two (below_drewN ((Below.refl _ w).alloc (Nat.le_refl _) _) _) (Nat.le_refl _) _ _⟩
      · have hnd : decide (n < 0) = false := decide_eq_false hneg
        rw [hnd]
        go_enter Tryz.func62, Tryz.ntmps62
        go_wp2_with fail
        refine (HM.out _).mono ?_
        rintro e w1 ⟨rfl, rfl⟩
        go_wp2_with fail
        refine (HD.out _).mono ?_
        rintro e w2 ⟨rfl, rfl⟩
        go_wp2_with fail
        refine (HGC.out _).mono ?_
        rintro e w3 ⟨rfl, q, rfl⟩
        have c0 := fun k => (c_box w k).1
        have c1 := fun k => (c_box w k).2
        go_wp2_with fail
        go_quiet (fail)
        go_wp2_with fail
        obtain ⟨r0, r1⟩ := two_cells (c0 (q + nq)) (c1 (q + nq)) (.int .i64 N) (.int .i64 D)
        refine bodyPost_ret (by (simp [results, Tryz.results62, go_sem, r0, r1]; try rfl)) rfl ?_
        exact ⟨rfl, below_two (below_drewN ((Below.refl _ w).alloc (Nat.le_refl _) _) _) (Nat.le_refl _) _ _⟩
set_option maxHeartbeats 4000000 in
theorem fadd_any (a b c d : Int) (hx : ratE a b = 0) (hy : ratE c d = 0) (w : World) :
    Calls Tryz.prog 26 #[.agg #[.int .i64 a, .int .i64 b], .agg #[.int .i64 c, .int .i64 d]] w fun e w' => e = .returned (resR (addR a b c d)) ∧ Below w.heap.size w w' := by
  obtain ⟨x1, x2, x3, x4, _⟩ := ratE_ok hx
  obtain ⟨y1, y2, y3, y4, _⟩ := ratE_ok hy
  have m1 := mul_bound x1 x2 y3 y4
  have m2 := mul_bound y1 y2 x3 x4
  have m3 := den_bound x3 x4 y3 y4
  have HN := Lib.hid (fun (W : World) => fnew_any (a * d + c * b) (b * d) ⟨by omega, by omega⟩ ⟨by omega, by omega⟩ W)
  have HVA := Lib.hid (fun (W : World) => valid_any a b c d hx hy W)
  have q1 : IntKind.i64.wrap (a * d) = a * d := by rw [IntKind.wrap_i64]; omega
  have q2 : IntKind.i64.wrap (c * b) = c * b := by rw [IntKind.wrap_i64]; omega
  have q3 : IntKind.i64.wrap (a * d + c * b) = a * d + c * b := by rw [IntKind.wrap_i64]; omega
  have q4 : IntKind.i64.wrap (b * d) = b * d := by rw [IntKind.wrap_i64]; omega
  show Calls Tryz.prog 26 _ w fun e w' => e = .returned (resR (lowR (decide (a * d + c * b < 0)) (a * d + c * b).natAbs (b * d).natAbs)) ∧ Below w.heap.size w w'
  obtain ⟨R, hR⟩ : ∃ R, lowR (decide (a * d + c * b < 0)) (a * d + c * b).natAbs (b * d).natAbs = R := ⟨_, rfl⟩
  rw [hR] at HN ⊢
  clear hR x1 x2 x3 x4 y1 y2 y3 y4 m1 m2 m3 hx hy
  obtain ⟨x, y, ee, hres⟩ : ∃ x y ee, resR R = .tuple #[.agg #[.int .i64 x, .int .i64 y], .int .i64 ee] := by
    cases R with
    | none => exact ⟨0, 0, 5, rfl⟩
    | some p => exact ⟨p.1, p.2, 0, rfl⟩
  rw [hres] at HN ⊢
  clear hres
  obtain ⟨W, hW⟩ : ∃ W, W = ((w.alloc (.cells #[.int .i64 a, .int .i64 b] 30)).alloc (.cells #[.int .i64 c, .int .i64 d] 30)).alloc (.cells #[.int .i64 0, .int .i64 0] 30) := ⟨_, rfl⟩
  have b0 : W.cell? ⟨w.heap.size, 0, none⟩ = some (.int .i64 a) := by rw [hW]; exact ca (ca (cell_of_row _ _ 0 _ _ _ (heap_alloc_last _ _)))
  have b1 : W.cell? ⟨w.heap.size, 1, none⟩ = some (.int .i64 b) := by rw [hW]; exact ca (ca (cell_of_row _ _ 1 _ _ _ (heap_alloc_last _ _)))
  have b2 : W.cell? ⟨w.heap.size + 1, 0, none⟩ = some (.int .i64 c) := by rw [hW]; exact ca (cell_last1 w _ _ 0 rfl)
  have b3 : W.cell? ⟨w.heap.size + 1, 1, none⟩ = some (.int .i64 d) := by rw [hW]; exact ca (cell_last1 w _ _ 1 rfl)
  have b4 : W.cell? ⟨w.heap.size + 1 + 1, 0, none⟩ = some (.int .i64 0) := by rw [hW]; exact cell_last2 w _ _ _ 0 rfl
  have b5 : W.cell? ⟨w.heap.size + 1 + 1, 1, none⟩ = some (.int .i64 0) := by rw [hW]; exact cell_last2 w _ _ _ 1 rfl
  have bz : ∀ o, W.frozen? ⟨w.heap.size + 1 + 1, o, none⟩ = false := fun o => by
    have h := f_box ((w.alloc (.cells #[.int .i64 a, .int .i64 b] 30)).alloc (.cells #[.int .i64 c, .int .i64 d] 30)) o
    simp only [World.size_alloc] at h
    rw [hW]; exact h
  have hz : w.heap.size + 3 ≤ W.heap.size := by rw [hW]; simp
  have HBL : Hid (Below w.heap.size w W) := by
    rw [hW]; exact ((((Below.refl _ w).alloc (Nat.le_refl _) _).alloc (by simp) _).alloc (by simp; omega) _)
  go_enter Tryz.func26, Tryz.ntmps26
  go_upto_region 1 with fail
  rw [← hW]
  clear hW
  go_wp2_with fail
  refine (HVA.out _).mono ?_
  rintro e w1 ⟨rfl, hb1⟩
  have b0' := (hb1.cell (p := ⟨w.heap.size, 0, none⟩) (by show w.heap.size < _; omega)).trans b0
  have b1' := (hb1.cell (p := ⟨w.heap.size, 1, none⟩) (by show w.heap.size < _; omega)).trans b1
  have b2' := (hb1.cell (p := ⟨w.heap.size + 1, 0, none⟩) (by show w.heap.size + 1 < _; omega)).trans b2
  have b3' := (hb1.cell (p := ⟨w.heap.size + 1, 1, none⟩) (by show w.heap.size + 1 < _; omega)).trans b3
  go_wp2_with fail
  refine (HN.out _).mono ?_
  rintro e w3 ⟨rfl, hb3⟩
  have hbb := hb1.trans (hb3.mono hb1.size)
  have c0' := (hbb.cell (p := ⟨w.heap.size + 1 + 1, 0, none⟩) (by show w.heap.size + 1 + 1 < _; omega)).trans b4
  have c1' := (hbb.cell (p := ⟨w.heap.size + 1 + 1, 1, none⟩) (by show w.heap.size + 1 + 1 < _; omega)).trans b5
  have f0' := (hbb.frozen (p := ⟨w.heap.size + 1 + 1, 0, none⟩) (by show w.heap.size + 1 + 1 < _; omega)).trans (bz 0)
  have f1' := (hbb.frozen (p := ⟨w.heap.size + 1 + 1, 1, none⟩) (by show w.heap.size + 1 + 1 < _; omega)).trans (bz 1)
  have c0 := cal (o := .cells #[.int .i64 x, .int .i64 y] 30) c0'
  have c1 := cal (o := .cells #[.int .i64 x, .int .i64 y] 30) c1'
  have f0 : (w3.alloc (.cells #[.int .i64 x, .int .i64 y] 30)).frozen? ⟨w.heap.size + 1 + 1, 0, none⟩ = false := by
    rw [← f0']; exact ((Below.refl w3.heap.size w3).alloc (Nat.le_refl _) _).frozen (by have := hbb.size; show w.heap.size + 1 + 1 < _; omega)
  have f1 : (w3.alloc (.cells #[.int .i64 x, .int .i64 y] 30)).frozen? ⟨w.heap.size + 1 + 1, 1, none⟩ = false := by
    rw [← f1']; exact ((Below.refl w3.heap.size w3).alloc (Nat.le_refl _) _).frozen (by have := hbb.size; show w.heap.size + 1 + 1 < _; omega)
  have HB3 := Lib.hid (HBL.out.trans (hbb.mono (by omega)))
  have hz3 := hbb.size
  clear bz hb1 hb3 b0 b1 b2 b3 b4 b5
  go_wp2_with fail
  obtain ⟨r0, r1⟩ := two_cells c0 c1 (.int .i64 x) (.int .i64 y)
  refine bodyPost_ret (by (simp [results, Tryz.results26, go_sem, r0, r1]; try rfl)) rfl ?_
  exact ⟨rfl, below_two (HB3.out.alloc HB3.out.size _) (by omega) _ _⟩
end Go.Proofs.YtpcbccpobhdokaaGreatDoor
namespace Go.Proofs.YtpcbccpobhdokaaGreatDoor
open Go.RowKit
def lessB (x y : Met) : Bool := Op.bytesLess x.n.toList y.n.toList || ((x.n.toList == y.n.toList) && decide (x.i < y.i))
theorem lessB_iff (x y : Met) : lessB x y = true ↔ ltN x y := by
  unfold lessB ltN
  rw [bl_eq]
  simp
set_option maxHeartbeats 4000000 in
theorem less_any (x y : Met) (w : World) : Calls Tryz.prog 40 #[.agg #[.string x.n, .int .i64 x.i, .int .i64 x.a, .int .i64 x.b], .agg #[.string y.n, .int .i64 y.i, .int .i64 y.a, .int .i64 y.b]] w fun e w' => e = .returned (.bool (lessB x y)) ∧ Gr w w' := by
  unfold lessB
  cases h1 : Op.bytesLess x.n.toList y.n.toList with
  | true =>
    go_enter Tryz.func40, Tryz.ntmps40
    go_wp2_with fail
    refine bodyPost_ret (by (simp [results, Tryz.results40, go_sem, *]; try rfl)) rfl ?_
    exact ⟨rfl, ((Gr.refl w).alloc _).alloc _⟩
  | false =>
    cases h2 : (x.n.toList == y.n.toList) with
    | false =>
      go_enter Tryz.func40, Tryz.ntmps40
      go_wp2_with fail
      refine bodyPost_ret (by (simp [results, Tryz.results40, go_sem, *]; try rfl)) rfl ?_
      exact ⟨rfl, ((Gr.refl w).alloc _).alloc _⟩
    | true =>
      by_cases h3 : x.i < y.i
      · go_enter Tryz.func40, Tryz.ntmps40
        go_wp2_with fail
        refine bodyPost_ret (by (simp [results, Tryz.results40, go_sem, *]; try rfl)) rfl ?_
        exact ⟨by simp [h3], ((Gr.refl w).alloc _).alloc _⟩
      · go_enter Tryz.func40, Tryz.ntmps40
        go_wp2_with fail
        refine bodyPost_ret (by (simp [results, Tryz.results40, go_sem, *]; try rfl)) rfl ?_
        exact ⟨by simp [h3], ((Gr.refl w).alloc _).alloc _⟩
theorem get_eq (s : ByteArray) (k : Nat) (h : k < s.size) : s.get! k = s[k] := by
  show s.data[k]! = s.data[k]
  exact getElem!_pos s.data k h
theorem name_all (s : ByteArray) : nameB s = true ↔ 1 ≤ s.size ∧ s.size ≤ 24 ∧ ∀ j, j < s.size → lowB (s.get! j) := by
  rw [name_iff]
  constructor
  · rintro ⟨h1, h2, h3⟩
    exact ⟨h1, h2, fun j hj => h3 _ ((get_mem s _).2 ⟨j, hj, rfl⟩)⟩
  · rintro ⟨h1, h2, h3⟩
    refine ⟨h1, h2, fun b hb => ?_⟩
    obtain ⟨j, hj, rfl⟩ := (get_mem s b).1 hb
    exact h3 j hj
set_option maxHeartbeats 4000000 in
theorem fname_any (s : ByteArray) (w : World) : Calls Tryz.prog 38 #[.string s] w fun e w' => e = .returned (.bool (nameB s)) ∧ w' = w := by
  by_cases h1 : 1 ≤ s.size
  · by_cases h2 : s.size ≤ 24
    · have n1 : ¬ (s.size : Int) < 1 := by omega
      have n2 : ¬ (s.size : Int) > 24 := by omega
      have H := Lib.hid (name_all s)
      go_enter Tryz.func38, Tryz.ntmps38
      go_wp2_with fail
      go_loopw [3] (fun i wr => ∃ k : Nat, k ≤ s.size ∧ i = .int .i64 k ∧ wr = w ∧ Hid (∀ j, j < k → lowB (s.get! j))) (fun i _ => s.size - (intOf i).toNat)
      case atStart => exact ⟨0, Nat.zero_le _, rfl, rfl, fun j hj => absurd hj (Nat.not_lt_zero _)⟩
      case round =>
        obtain ⟨k, hk, rfl, rfl, HL⟩ := hrel
        by_cases hkt : k < s.size
        · have hkz : (k : Int) < (s.size : Int) := by omega
          have hg := get_eq s k hkt
          have HB := Lib.hid hg
          by_cases hA : (s[k].toNat : Int) < 97
          · have HR := Lib.hid (show nameB s = false by
              cases h : nameB s with
              | false => rfl
              | true =>
                have h3 := ((H.out).1 h).2.2 k hkt
                rw [HB.out] at h3
                unfold lowB at h3
                omega)
            clear hg
            go_wp2_with fail
            refine bodyPost_ret (by (simp [results, Tryz.results38, go_sem, *]; try rfl)) rfl ?_
            exact ⟨by rw [HR.out], rfl⟩
          · by_cases hB : (s[k].toNat : Int) > 122
            · have HR := Lib.hid (show nameB s = false by
                cases h : nameB s with
                | false => rfl
                | true =>
                  have h3 := ((H.out).1 h).2.2 k hkt
                  rw [HB.out] at h3
                  unfold lowB at h3
                  omega)
              clear hg
              go_wp2_with fail
              refine bodyPost_ret (by (simp [results, Tryz.results38, go_sem, *]; try rfl)) rfl ?_
              exact ⟨by rw [HR.out], rfl⟩
            · have HN := Lib.hid (show ∀ j, j < k + 1 → lowB (s.get! j) from fun j hj => by
                by_cases e : j = k
                · subst e
                  rw [HB.out]
                  unfold lowB
                  omega
                · exact HL.out j (by omega))
              clear hg
              go_wp2_with fail
              go_roundw
              case rel => exact ⟨k + 1, by omega, by go_num, by first | trivial | rfl, HN.out⟩
              case measure => simp [intOf]; omega
        · have hkz : ¬ (k : Int) < (s.size : Int) := by omega
          have HR := Lib.hid (show nameB s = true from (H.out).2 ⟨h1, h2, fun j hj => HL.out j (by omega)⟩)
          go_wp2_with fail
          refine bodyPost_ret (by (simp [results, Tryz.results38, go_sem, *]; try rfl)) rfl ?_
          exact ⟨by rw [HR.out], rfl⟩
    · have n1 : ¬ (s.size : Int) < 1 := by omega
      have n2 : (s.size : Int) > 24 := by omega
      have e : nameB s = false := by unfold nameB; simp [h2]
      rw [e]
      go_enter Tryz.func38, Tryz.ntmps38
      go_wp2_with fail
      refine bodyPost_ret (by (simp [results, Tryz.results38, go_sem, *]; try rfl)) rfl ?_
      exact ⟨rfl, rfl⟩
  · have n1 : (s.size : Int) < 1 := by omega
    have e : nameB s = false := by unfold nameB; simp [h1]
    rw [e]
    go_enter Tryz.func38, Tryz.ntmps38
    go_wp2_with fail
    refine bodyPost_ret (by (simp [results, Tryz.results38, go_sem, *]; try rfl)) rfl ?_
    exact ⟨rfl, rfl⟩
end Go.Proofs.YtpcbccpobhdokaaGreatDoor

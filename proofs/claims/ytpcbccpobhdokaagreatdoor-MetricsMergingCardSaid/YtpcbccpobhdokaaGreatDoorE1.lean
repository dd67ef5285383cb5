/- Quotients: gcd, magnitude, Check. -/
import Derived.Test.YtpcbccpobhdokaaGreatDoorD1
set_option linter.unusedSimpArgs false
set_option linter.unusedVariables false
set_option linter.all false
namespace Go.Proofs.YtpcbccpobhdokaaGreatDoor
open Go.RowKit
theorem drewN_drewN (w : World) (n m : Nat) : (w.drewN n).drewN m = w.drewN (n + m) := by simp only [World.drewN]; rw [Nat.add_assoc]
theorem gcd_any (a b : Nat) (w : World) : Calls Tryz.prog 68 #[.int .u64 a, .int .u64 b] w fun e w' => e = .returned (.int .u64 (Nat.gcd a b : Nat)) ∧ ∃ n, w' = w.drewN n := by
  go_enter Tryz.func68, Tryz.ntmps68
  go_wp2_with fail
  go_loopw [0, 1] (fun x y wr => ∃ p q n : Nat, x = .int .u64 p ∧ y = .int .u64 q ∧ Nat.gcd p q = Nat.gcd a b ∧ wr = w.drewN n) (fun _ y _ => (intOf y).toNat)
  case atStart => exact ⟨a, b, 0, rfl, rfl, rfl, rfl⟩
  case round =>
    obtain ⟨p, q, n, rfl, rfl, hg, rfl⟩ := hrel
    by_cases hq : q = 0
    · subst hq
      go_wp2_with fail
      refine bodyPost_ret (by (simp [results, Tryz.results68, go_sem, *]; try rfl)) rfl ?_
      exact ⟨by rw [← hg, Nat.gcd_zero_right], n, rfl⟩
    · have hq2 : ¬ (q : Int) = 0 := by omega
      have hq3 : ((q : Int) == 0) = false := by simpa using hq
      go_wp2_with fail
      go_quiet (fail)
      go_wp2_with fail
      go_roundw
      case rel => exact ⟨q, p % q, _, rfl, by simp, by rw [← hg, Nat.gcd_comm p q, Nat.gcd_rec q p, Nat.gcd_comm], drewN_drewN w n _⟩
      case measure =>
        simp [intOf]
        have := Nat.mod_lt p (by omega : 0 < q)
        omega
theorem wrap_neg (n : Int) (h1 : -9223372036854775808 ≤ n) (h : n < 0) : IntKind.u64.wrap (-IntKind.u64.wrap n) = (n.natAbs : Int) := by
  have hb : IntKind.u64.bits = 64 := rfl
  have hs : IntKind.u64.signed = false := rfl
  simp only [IntKind.wrap, hb, hs]
  simp
  omega
theorem mag_any (n : Int) (hn : -9223372036854775808 ≤ n ∧ n ≤ 9223372036854775807) (w : World) : Calls Tryz.prog 69 #[.int .i64 n] w fun e w' => e = .returned (.int .u64 (n.natAbs : Nat)) ∧ w' = w := by
  by_cases h : n < 0
  · have hw := wrap_neg n hn.1 h
    go_enter Tryz.func69, Tryz.ntmps69
    go_wp2_with fail
    refine bodyPost_ret (by (simp [results, Tryz.results69, go_sem, *]; try rfl)) rfl ?_
    exact ⟨rfl, rfl⟩
  · go_enter Tryz.func69, Tryz.ntmps69
    go_wp2_with fail
    refine bodyPost_ret (by (simp [results, Tryz.results69, go_sem, *]; try rfl)) rfl ?_
    exact ⟨by rw [show (n.natAbs : Int) = n by omega], rfl⟩
theorem wrap_id (B : Nat) (h : B < 9223372036854775808) : IntKind.u64.wrap (B : Int) = (B : Int) := by
  have hb : IntKind.u64.bits = 64 := rfl
  have hs : IntKind.u64.signed = false := rfl
  simp only [IntKind.wrap, hb, hs]
  simp
  omega
theorem conv_u (B : Nat) (h : B < 9223372036854775808) (W : World) : (convert 3 136 (.int .i64 (B : Int))).run Tryz.prog W = .ok (.int .u64 (B : Int)) W := by
  have e : (convert 3 136 (.int .i64 (B : Int))).run Tryz.prog W = .ok (.int .u64 (IntKind.u64.wrap (B : Int))) W := by kernel_rfl
  rw [e, wrap_id B h]
/-- rational.Check -/
def ratE (a b : Int) : Int := if a < -1099511627776 ∨ a > 1099511627776 ∨ b < 1 ∨ b > 1048576 then 2 else if Nat.gcd a.natAbs b.natAbs = 1 then 0 else 1
set_option maxRecDepth 100000 in
set_option maxHeartbeats 4000000 in
theorem rcheck_any (a b : Int) (w : World) : Calls Tryz.prog 37 #[.agg #[.int .i64 a, .int .i64 b]] w fun e w' => e = .returned (.int .i64 (ratE a b)) ∧ Below w.heap.size w w' := by
  unfold ratE
  by_cases h1 : a < -1099511627776
  · rw [if_pos (.inl h1)]
    go_enter Tryz.func37, Tryz.ntmps37
    go_wp2_with fail
    refine bodyPost_ret (by (simp [results, Tryz.results37, go_sem, *]; try rfl)) rfl ?_
    exact ⟨rfl, (Below.refl _ w).alloc (Nat.le_refl _) _⟩
  · by_cases h2 : a > 1099511627776
    · rw [if_pos (.inr (.inl h2))]
      go_enter Tryz.func37, Tryz.ntmps37
      go_wp2_with fail
      refine bodyPost_ret (by (simp [results, Tryz.results37, go_sem, *]; try rfl)) rfl ?_
      exact ⟨rfl, (Below.refl _ w).alloc (Nat.le_refl _) _⟩
    · by_cases h3 : b < 1
      · rw [if_pos (.inr (.inr (.inl h3)))]
        go_enter Tryz.func37, Tryz.ntmps37
        go_wp2_with fail
        refine bodyPost_ret (by (simp [results, Tryz.results37, go_sem, *]; try rfl)) rfl ?_
        exact ⟨rfl, (Below.refl _ w).alloc (Nat.le_refl _) _⟩
      · by_cases h4 : b > 1048576
        · rw [if_pos (.inr (.inr (.inr h4)))]
          go_enter Tryz.func37, Tryz.ntmps37
          go_wp2_with fail
          refine bodyPost_ret (by (simp [results, Tryz.results37, go_sem, *]; try rfl)) rfl ?_
          exact ⟨rfl, (Below.refl _ w).alloc (Nat.le_refl _) _⟩
        · rw [if_neg (by omega)]
          obtain ⟨B, rfl⟩ : ∃ B : Nat, b = B := ⟨b.toNat, by omega⟩
          have hb0 : (0 : Int) ≤ (B : Int) := by omega
          rw [Int.natAbs_natCast]
          have hg := gcd_any a.natAbs B
          obtain ⟨g, hgd⟩ : ∃ g, Nat.gcd a.natAbs B = g := ⟨_, rfl⟩
          simp only [hgd] at hg ⊢
          clear hgd
          have hm := fun W => mag_any a ⟨by omega, by omega⟩ W
          have hcv : ∀ W, (convert 3 136 (.int .i64 (B : Int))).run Tryz.prog W = .ok (.int .u64 (B : Int)) W := fun W => conv_u B (by omega) W
          by_cases h5 : g = 1
          · subst h5
            go_enter Tryz.func37, Tryz.ntmps37
            go_upto_region 3 with fail
            clear h1 h2 h3 h4
            have c0 : (w.alloc (.cells #[.int .i64 a, .int .i64 B] 30)).cell? ⟨w.heap.size, 0, none⟩ = some (.int .i64 a) := cell_of_row _ _ 0 _ _ _ (heap_alloc_last _ _)
            have c1 : (w.alloc (.cells #[.int .i64 a, .int .i64 B] 30)).cell? ⟨w.heap.size, 1, none⟩ = some (.int .i64 B) := cell_of_row _ _ 1 _ _ _ (heap_alloc_last _ _)
            have hB : Below w.heap.size w (w.alloc (.cells #[.int .i64 a, .int .i64 B] 30)) := (Below.refl _ w).alloc (Nat.le_refl _) _
            generalize w.alloc (.cells #[.int .i64 a, .int .i64 B] 30) = W at *
            go_region_held3 (fun w' => w'.cell? ⟨w.heap.size, 0, none⟩ = some (.int .i64 a) ∧ w'.cell? ⟨w.heap.size, 1, none⟩ = some (.int .i64 B) ∧ Below w.heap.size w w')
              ((repeat' (with_reducible apply And.intro)) <;> first | assumption | exact Below.drew (by assumption) | exact below_drewN (by assumption) _)
              (first
               | (go_at_call 69; refine (hm _).mono ?_; rintro e w2 ⟨rfl, rfl⟩)
               | (go_at_call 68; refine (hg _).mono ?_; rintro e w2 ⟨rfl, q, rfl⟩))
            all_goals
              rename_i hh
              obtain ⟨_, _, hbl⟩ := hh
              go_wp2_with fail
              refine bodyPost_ret (by (simp [results, Tryz.results37, go_sem, *]; try rfl)) rfl ?_
              exact ⟨rfl, hbl⟩
          · have h6 : ¬ (g : Int) = 1 := by omega
            go_enter Tryz.func37, Tryz.ntmps37
            go_upto_region 3 with fail
            clear h1 h2 h3 h4
            have c0 : (w.alloc (.cells #[.int .i64 a, .int .i64 B] 30)).cell? ⟨w.heap.size, 0, none⟩ = some (.int .i64 a) := cell_of_row _ _ 0 _ _ _ (heap_alloc_last _ _)
            have c1 : (w.alloc (.cells #[.int .i64 a, .int .i64 B] 30)).cell? ⟨w.heap.size, 1, none⟩ = some (.int .i64 B) := cell_of_row _ _ 1 _ _ _ (heap_alloc_last _ _)
            have hB : Below w.heap.size w (w.alloc (.cells #[.int .i64 a, .int .i64 B] 30)) := (Below.refl _ w).alloc (Nat.le_refl _) _
            generalize w.alloc (.cells #[.int .i64 a, .int .i64 B] 30) = W at *
            go_region_held3 (fun w' => w'.cell? ⟨w.heap.size, 0, none⟩ = some (.int .i64 a) ∧ w'.cell? ⟨w.heap.size, 1, none⟩ = some (.int .i64 B) ∧ Below w.heap.size w w')
              ((repeat' (with_reducible apply And.intro)) <;> first | assumption | exact Below.drew (by assumption) | exact below_drewN (by assumption) _)
              (first
               | (go_at_call 69; refine (hm _).mono ?_; rintro e w2 ⟨rfl, rfl⟩)
               | (go_at_call 68; refine (hg _).mono ?_; rintro e w2 ⟨rfl, q, rfl⟩))
            all_goals
              rename_i hh
              obtain ⟨_, _, hbl⟩ := hh
              go_wp2_with fail
              refine bodyPost_ret (by (simp [results, Tryz.results37, go_sem, *]; try rfl)) rfl ?_
              exact ⟨by simp, hbl⟩
end Go.Proofs.YtpcbccpobhdokaaGreatDoor

/- Walks over rational.Check, rational.Compare, and the rates of clocks. -/
import Derived.Test.YtbhmmffompapdaaRows
import Derived.Test.YtbhmmffompapdaaC1
import Derived.WalkKit
import Derived.WalkSpells
import Derived.WalkLawsBesides
import Derived.Handy
import Derived.Deep.QuietTactic
import Derived.BigQuiet
import Derived.Lib.Hide
namespace Go.Proofs.Ytbhmmffompapdaa
open Go.RowKit
set_option maxHeartbeats 400000 in
theorem rate_any (a b : Int) (w : World) (ha : -1099511627776 ≤ a) (ha2 : a ≤ 1099511627776) (hb : 1 ≤ b) (hb2 : b ≤ 1048576) :
    Calls Try.prog 27 #[.agg #[.int .i64 a, .int .i64 b]] w fun e w' => e = .returned (.bool (rateB a b)) ∧ Below w.heap.size w w' := by
  by_cases h1 : a ≤ 1048576 <;> by_cases h2 : b ≤ 2 * a
  all_goals first | (exfalso; omega) | skip
  all_goals
    go_enter Try.func27, Try.ntmps27
    go_wp2
    go_ret
    refine ⟨by simp [rateB, *] <;> omega, ?_⟩
    go_grown

set_option maxHeartbeats 400000 in
theorem rrate_any (a b : Int) (w : World) (ha : -1099511627776 ≤ a) (ha2 : a ≤ 1099511627776) (hb : 1 ≤ b) (hb2 : b ≤ 1048576) :
    Calls Try.prog 31 #[.agg #[.int .i64 a, .int .i64 b]] w fun e w' => e = .returned (.bool (rateB a b)) ∧ Below w.heap.size w w' := by
  by_cases h0 : 0 < a <;> by_cases h1 : a ≤ 1048576 <;> by_cases h2 : b ≤ 2 * a
  all_goals first | (exfalso; omega) | skip
  all_goals
    go_enter Try.func31, Try.ntmps31
    go_wp2
    go_ret
    refine ⟨by simp [rateB, *] <;> omega, ?_⟩
    go_grown

theorem rwithin_any (a b : Int) (w : World) :
    Calls Try.prog 29 #[.agg #[.int .i64 a, .int .i64 b]] w fun e w' => e = .returned (.bool (spanB a b)) ∧ Below w.heap.size w w' := by
  by_cases h1 : 0 ≤ a <;> by_cases h2 : a ≤ b
  all_goals
    go_enter Try.func29, Try.ntmps29
    go_wp2
    go_ret
    refine ⟨by simp [spanB, *] <;> omega, ?_⟩
    go_grown

theorem cast_ne_one (n : Nat) (h : ((n : Int) != 1) = true) : n ≠ 1 := by
  have := bne_iff_ne.1 h; omega
theorem cast_eq_one (n : Nat) (h : ((n : Int) != 1) = false) : ¬ n ≠ 1 := by
  have := bne_eq_false_iff_eq.1 h; omega

set_option maxHeartbeats 400000 in
theorem rcheck_any (a b : Int) (w : World) :
    Calls Try.prog 26 #[.agg #[.int .i64 a, .int .i64 b]] w fun e w' => e = .returned (.int .i64 (ratE a b)) ∧ Below w.heap.size w w' := by
  by_cases hr : a < -1099511627776 ∨ 1099511627776 < a ∨ b < 1 ∨ 1048576 < b
  · have hE : Hid (ratE a b = 2) := by unfold ratE; rw [if_pos hr]; rfl
    go_enter Try.func26, Try.ntmps26
    go_wp2 
    all_goals
      go_ret
      exact ⟨by rw [hE.out]; rfl, by go_grown⟩
  · have h1 : -1099511627776 ≤ a := by omega
    have h2 : a ≤ 1099511627776 := by omega
    have h3 : 1 ≤ b := by omega
    have h4 : b ≤ 1048576 := by omega
    have h5 : IntKind.u64.wrap b = (b.natAbs : Int) := by simp [IntKind.wrap_u64]; omega
    have hE : Hid (ratE a b = if Nat.gcd a.natAbs b.natAbs ≠ 1 then 1 else 0) := by unfold ratE; rw [if_neg hr]; rfl
    clear hr
    go_enter Try.func26, Try.ntmps26
    go_wp2
    go_quiet ((first | (go_at_call 39; exact Calls.quiet_of_same ((magnitude_any _ _ (by omega) (by omega)).mono fun _ _ h => ⟨h.1, h.2.symm⟩)) | (go_at_call 38; exact Calls.quiet_of (gcd_any _ _ _ (by omega) (by omega)))))
    go_wp2
    · go_ret
      rename_i hq
      refine ⟨?_, below_drewN (by go_grown) _⟩
      rw [hE.out, if_pos (cast_ne_one _ hq)]; rfl
    · go_ret
      rename_i hq
      refine ⟨?_, below_drewN (by go_grown) _⟩
      rw [hE.out, if_neg (cast_eq_one _ hq)]; rfl

set_option maxHeartbeats 400000 in
theorem rrcheck_any (a b : Int) (w : World) :
    Calls Try.prog 30 #[.agg #[.int .i64 a, .int .i64 b]] w fun e w' => e = .returned (.int .i64 (ratE a b)) ∧ Below w.heap.size w w' := by
  by_cases hr : a < -1099511627776 ∨ 1099511627776 < a ∨ b < 1 ∨ 1048576 < b
  · have hE : Hid (ratE a b = 2) := by unfold ratE; rw [if_pos hr]; rfl
    go_enter Try.func30, Try.ntmps30
    go_wp2 
    all_goals
      go_ret
      exact ⟨by rw [hE.out]; rfl, by go_grown⟩
  · have h1 : -1099511627776 ≤ a := by omega
    have h2 : a ≤ 1099511627776 := by omega
    have h3 : 1 ≤ b := by omega
    have h4 : b ≤ 1048576 := by omega
    have hE : Hid (ratE a b = if Nat.gcd a.natAbs b.natAbs ≠ 1 then 1 else 0) := by unfold ratE; rw [if_neg hr]; rfl
    clear hr
    go_enter Try.func30, Try.ntmps30
    go_wp2
    go_quiet ((first | (go_at_call 41; exact Calls.quiet_of_same ((size_any _ _ (by omega) (by omega)).mono fun _ _ h => ⟨h.1, h.2.symm⟩)) | (go_at_call 40; exact Calls.quiet_of (divisor_any _ _ _ (by omega) (by omega)))))
    go_wp2
    · go_ret
      rename_i hq
      refine ⟨?_, below_drewN (by go_grown) _⟩
      rw [hE.out, if_pos (cast_ne_one _ hq)]; rfl
    · go_ret
      rename_i hq
      refine ⟨?_, below_drewN (by go_grown) _⟩
      rw [hE.out, if_neg (cast_eq_one _ hq)]; rfl

theorem bcell {W w1 : World} (hb : Below W.heap.size W w1) : (∀ b o, b < W.heap.size → w1.cell? ⟨b, o, none⟩ = W.cell? ⟨b, o, none⟩) ∧ (∀ b o, b < W.heap.size → w1.frozen? ⟨b, o, none⟩ = W.frozen? ⟨b, o, none⟩) :=
  ⟨fun b o h => hb.cell (p := ⟨b, o, none⟩) h, fun b o h => hb.frozen (p := ⟨b, o, none⟩) h⟩

set_option maxHeartbeats 400000 in
theorem compare_any (a b c d : Int) (w : World) (h1 : ratE a b = 0) (h2 : ratE c d = 0) :
    Calls Try.prog 28 #[.agg #[.int .i64 a, .int .i64 b], .agg #[.int .i64 c, .int .i64 d]] w fun e w' => e = .returned (.int .i64 (ratCmp a b c d)) ∧ Below w.heap.size w w' := by
  obtain ⟨a1, a2, b1, b2⟩ := ratE_ok h1
  obtain ⟨c1, c2, d1, d2⟩ := ratE_ok h2
  have H1 := Lib.hid h1
  have H2 := Lib.hid h2
  clear h1 h2
  obtain ⟨e2, e1⟩ := mul_bd a d 1099511627776 1048576 (by omega) a2 (by omega) d2
  obtain ⟨e4, e3⟩ := mul_bd c b 1099511627776 1048576 (by omega) c2 (by omega) b2
  simp only [Int.reduceMul, Int.reduceNeg] at e1 e2 e3 e4
  go_enter Try.func28, Try.ntmps28
  go_wp2_with fail
  refine (rcheck_any a b _).mono ?_
  rintro e w1 ⟨rfl, hb1⟩
  rw [H1.out]
  obtain ⟨k1, k2⟩ := bcell hb1
  have hz : w.heap.size + 2 ≤ w1.heap.size := by have := hb1.size; simp at this; omega
  go_wp2_with fail
  refine (rcheck_any c d _).mono ?_
  rintro e w2 ⟨rfl, hb2⟩
  rw [H2.out]
  have hb3 : Below (w.heap.size + 2) w1 w2 := hb2.mono hz
  have k3 : ∀ b o, b < w.heap.size + 2 → w2.cell? ⟨b, o, none⟩ = w1.cell? ⟨b, o, none⟩ := fun b o h => hb3.cell (p := ⟨b, o, none⟩) h
  have HB : Below w.heap.size w w2 := Below.trans (Below.trans (by go_grown) (hb1.mono (by simp; omega))) (hb2.mono (by omega))
  go_wp2_with fail
  go_quiet (fail)
  have hc : Hid (ratCmp a b c d = if a * d < c * b then -1 else if c * b < a * d then 1 else 0) := by
    unfold ratCmp; rw [if_neg (by rw [H1.out, H2.out]; simp)]; rfl
  by_cases g1 : a * d < c * b
  · go_wp2_with fail
    go_ret
    refine ⟨?_, below_drewN HB _⟩
    rw [hc.out, if_pos g1]; rfl
  · by_cases g2 : c * b < a * d
    · go_wp2_with fail
      go_ret
      refine ⟨?_, below_drewN HB _⟩
      rw [hc.out, if_neg (by omega), if_pos g2]; rfl
    · go_wp2_with fail
      go_ret
      refine ⟨?_, below_drewN HB _⟩
      rw [hc.out, if_neg (by omega), if_neg (by omega)]; rfl
end Go.Proofs.Ytbhmmffompapdaa

/- Walks over the leaves of the clock and rational packages. -/
import Derived.Test.YtbhmmffompapdaaRows
import Derived.Test.YtbhmmffompapdaaC0
import Derived.WalkKit
import Derived.WalkSpells
import Derived.WalkLawsBesides
import Derived.Handy
import Derived.Deep.QuietTactic
import Derived.BigQuiet
import Derived.Lib.Hide
namespace Go.Proofs.Ytbhmmffompapdaa
open Go.RowKit

theorem below_drewN {B : Nat} {a w : World} (h : Below B a w) (n : Nat) : Below B a (w.drewN n) := ⟨h.os, h.tape, h.output, h.size, h.block⟩

theorem within_any (n lo hi : Int) (w : World) :
    Calls Try.prog 20 #[.int .i64 n, .int .i64 lo, .int .i64 hi] w fun e w' => e = .returned (.bool (decide (lo ≤ n) && decide (n ≤ hi))) ∧ w = w' := by
  by_cases h1 : lo ≤ n
  all_goals
    go_enter Try.func20, Try.ntmps20
    go_wp2
    go_ret
    exact ⟨by simp [*] <;> omega, rfl⟩

theorem floor_any (n d : Int) (w : World) (h1 : 0 ≤ n) (h2 : n ≤ 9000000000000000000) (h3 : 1 ≤ d) :
    Calls Try.prog 23 #[.int .i64 n, .int .i64 d] w fun e w' => e = .returned (.int .i64 (n / d)) ∧ w = w' := by
  go_enter Try.func23, Try.ntmps23
  go_wp2
  go_ret
  exact ⟨rfl, rfl⟩

theorem ceil_any (n d : Int) (w : World) (h1 : 0 ≤ n) (h2 : n + d ≤ 9000000000000000000) (h3 : 1 ≤ d) :
    Calls Try.prog 24 #[.int .i64 n, .int .i64 d] w fun e w' => e = .returned (.int .i64 ((n + d - 1) / d)) ∧ w = w' := by
  go_enter Try.func24, Try.ntmps24
  go_wp2
  go_ret
  exact ⟨rfl, rfl⟩

theorem up_any (n a b : Int) (w : World) (h0 : 0 ≤ n * a) (h1 : n * a ≤ 4000000000000000000) (h2 : b ≤ 4000000000000000000) (h3 : 1 ≤ b) :
    Calls Try.prog 22 #[.int .i64 n, .int .i64 a, .int .i64 b] w fun e w' => e = .returned (.int .i64 ((n * a + b - 1) / b)) ∧ w = w' := by
  go_enter Try.func22, Try.ntmps22
  go_wp2
  go_ret
  exact ⟨rfl, rfl⟩

theorem gcd_any (a b : Nat) (w : World) (ha : a < 9223372036854775809) (hb : b < 9223372036854775809) :
    Calls Try.prog 38 #[.int .u64 a, .int .u64 b] w fun e w' => e = .returned (.int .u64 (Nat.gcd a b)) ∧ ∃ n, w' = w.drewN n := by
  go_enter Try.func38, Try.ntmps38
  go_wp2
  go_loopw [0, 1] (fun x y wr => ∃ c d n : Nat, c < 9223372036854775809 ∧ d < 9223372036854775809 ∧ x = .int .u64 c ∧ y = .int .u64 d ∧ Hid (Nat.gcd c d = Nat.gcd a b) ∧ wr = w.drewN n) (fun _ y _ => (intOf y).toNat)
  case atStart => exact ⟨a, b, 0, ha, hb, rfl, rfl, rfl, rfl⟩
  case round =>
    obtain ⟨c, d, n, hc, hd, rfl, rfl, hg, rfl⟩ := hrel
    by_cases h0 : d = 0
    · subst h0
      go_wp2
      go_ret
      have := hg.out
      simp at this
      exact ⟨by rw [this]; rfl, n, rfl⟩
    · have h1 : (1:Int) ≤ d := by omega
      go_wp2
      go_region
      go_wp2
      go_roundw
      case rel => 
        refine ⟨d, c % d, n + 1, hd, ?_, rfl, by simp, ?_, rfl⟩
        · have := Nat.mod_lt c (y := d) (by omega); omega
        · show Nat.gcd _ _ = _
          rw [gcd_step]; exact hg.out
      case measure => 
        have := Nat.mod_lt c (y := d) (by omega)
        simp [intOf]; omega

theorem divisor_any (a b : Nat) (w : World) (ha : a < 9223372036854775809) (hb : b < 9223372036854775809) :
    Calls Try.prog 40 #[.int .u64 a, .int .u64 b] w fun e w' => e = .returned (.int .u64 (Nat.gcd a b)) ∧ ∃ n, w' = w.drewN n := by
  go_enter Try.func40, Try.ntmps40
  go_wp2
  go_loopw [0, 1] (fun x y wr => ∃ c d n : Nat, c < 9223372036854775809 ∧ d < 9223372036854775809 ∧ x = .int .u64 c ∧ y = .int .u64 d ∧ Hid (Nat.gcd c d = Nat.gcd a b) ∧ wr = w.drewN n) (fun _ y _ => (intOf y).toNat)
  case atStart => exact ⟨a, b, 0, ha, hb, rfl, rfl, rfl, rfl⟩
  case round =>
    obtain ⟨c, d, n, hc, hd, rfl, rfl, hg, rfl⟩ := hrel
    by_cases h0 : d = 0
    · subst h0
      go_wp2
      go_ret
      have := hg.out
      simp at this
      exact ⟨by rw [this]; rfl, n, rfl⟩
    · have h1 : (1:Int) ≤ d := by omega
      go_wp2
      go_region
      go_wp2
      go_roundw
      case rel => 
        refine ⟨d, c % d, n + 1, hd, ?_, rfl, by simp, ?_, rfl⟩
        · have := Nat.mod_lt c (y := d) (by omega); omega
        · show Nat.gcd _ _ = _
          rw [gcd_step]; exact hg.out
      case measure => 
        have := Nat.mod_lt c (y := d) (by omega)
        simp [intOf]; omega

theorem magnitude_any (n : Int) (w : World) (h1 : -9223372036854775807 ≤ n) (h2 : n ≤ 9223372036854775807) :
    Calls Try.prog 39 #[.int .i64 n] w fun e w' => e = .returned (.int .u64 n.natAbs) ∧ w = w' := by
  by_cases h : n < 0
  all_goals
    go_enter Try.func39, Try.ntmps39
    go_wp2
    go_ret
    refine ⟨?_, rfl⟩
    show Ending.returned (.int .u64 _) = _
    congr 2
    go_arith

theorem size_any (n : Int) (w : World) (h1 : -9223372036854775807 ≤ n) (h2 : n ≤ 9223372036854775807) :
    Calls Try.prog 41 #[.int .i64 n] w fun e w' => e = .returned (.int .u64 n.natAbs) ∧ w = w' := by
  by_cases h : n < 0
  all_goals
    go_enter Try.func41, Try.ntmps41
    go_wp2
    go_ret
    refine ⟨?_, rfl⟩
    show Ending.returned (.int .u64 _) = _
    congr 2
    go_arith

theorem interval_any (a b : Int) (w : World) :
    Calls Try.prog 25 #[.agg #[.int .i64 a, .int .i64 b]] w fun e w' => e = .returned (.bool (spanB a b)) ∧ Below w.heap.size w w' := by
  by_cases h1 : 0 ≤ a <;> by_cases h2 : a ≤ b
  all_goals
    go_enter Try.func25, Try.ntmps25
    go_wp2
    go_ret
    refine ⟨by simp [spanB, *] <;> omega, ?_⟩
    go_grown
end Go.Proofs.Ytbhmmffompapdaa

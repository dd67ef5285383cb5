/- Plain functions that the clock package computes (no program here). -/
import Derived.Below
namespace Go.Proofs.Ytbhmmffompapdaa
open Go.RowKit

theorem gcd_step (a b : Nat) : Nat.gcd b (a % b) = Nat.gcd a b := by
  rw [Nat.gcd_comm a b, Nat.gcd_rec b a, Nat.gcd_comm]

theorem mul_bd (a d A D : Int) (h1 : -A ≤ a) (h2 : a ≤ A) (h3 : 0 ≤ d) (h4 : d ≤ D) : -(A * D) ≤ a * d ∧ a * d ≤ A * D := by
  have hA : 0 ≤ A := by omega
  have x1 := Int.mul_le_mul_of_nonneg_right h2 h3
  have x2 := Int.mul_le_mul_of_nonneg_left h4 hA
  have x3 := Int.mul_le_mul_of_nonneg_right h1 h3
  rw [Int.neg_mul] at x3
  omega

/-- the interval of true times is valid -/
def spanB (a b : Int) : Bool := decide (0 ≤ a) && decide (a ≤ b) && decide (b ≤ 1099511627776)
/-- a rate -/
def rateB (n d : Int) : Bool := decide (n ≤ 1048576) && decide (d ≤ 1048576) && decide (d ≤ 2 * n) && decide (n ≤ 2 * d)
/-- rational.Check -/
def ratE (n d : Int) : Int :=
  if n < -1099511627776 ∨ 1099511627776 < n ∨ d < 1 ∨ 1048576 < d then 2
  else if Nat.gcd n.natAbs d.natAbs ≠ 1 then 1 else 0
theorem ratE_cases (n d : Int) : ratE n d = 0 ∨ ratE n d = 1 ∨ ratE n d = 2 := by
  unfold ratE; split <;> (try split) <;> simp
theorem ratE_ok {n d : Int} (h : ratE n d = 0) : -1099511627776 ≤ n ∧ n ≤ 1099511627776 ∧ 1 ≤ d ∧ d ≤ 1048576 := by
  unfold ratE at h; split at h
  · cases h
  · omega
/-- rational.Compare -/
def ratCmp (a b c d : Int) : Int :=
  if ratE a b ≠ 0 ∨ ratE c d ≠ 0 then 0 else if a * d < c * b then -1 else if c * b < a * d then 1 else 0
/-- clock.Check -/
def clkE (l a b n1 d1 n2 d2 : Int) : Int :=
  if ¬ (0 ≤ l ∧ l ≤ 1099511627776) then 2
  else if spanB a b = false then 1
  else if ratE n1 d1 ≠ 0 then ratE n1 d1
  else if ratE n2 d2 ≠ 0 then ratE n2 d2
  else if (rateB n1 d1 && rateB n2 d2) = false then 2
  else if n2 * d1 < n1 * d2 then 9
  else 0
/-- what a valid clock is, in inequalities -/
structure ClkOk (l a b n1 d1 n2 d2 : Int) : Prop where
  l0 : 0 ≤ l
  l1 : l ≤ 1099511627776
  a0 : 0 ≤ a
  ab : a ≤ b
  b1 : b ≤ 1099511627776
  n1lo : 1 ≤ n1
  n1hi : n1 ≤ 1048576
  d1lo : 1 ≤ d1
  d1hi : d1 ≤ 1048576
  r1lo : d1 ≤ 2 * n1
  r1hi : n1 ≤ 2 * d1
  n2lo : 1 ≤ n2
  n2hi : n2 ≤ 1048576
  d2lo : 1 ≤ d2
  d2hi : d2 ≤ 1048576
  r2lo : d2 ≤ 2 * n2
  r2hi : n2 ≤ 2 * d2
  le : n1 * d2 ≤ n2 * d1
theorem clk_ok {l a b n1 d1 n2 d2 : Int} (h : clkE l a b n1 d1 n2 d2 = 0) : ClkOk l a b n1 d1 n2 d2 := by
  unfold clkE at h
  split at h
  · cases h
  split at h
  · cases h
  split at h
  · omega
  split at h
  · omega
  split at h
  · cases h
  split at h
  · cases h
  rename_i h1 h2 h3 h4 h5 h6
  have g3 := ratE_ok (by omega : ratE n1 d1 = 0)
  have g4 := ratE_ok (by omega : ratE n2 d2 = 0)
  simp [spanB, rateB] at h2 h5
  constructor <;> omega
theorem mul_pos_bd (a d A D : Int) (h1 : 0 ≤ a) (h2 : a ≤ A) (h3 : 0 ≤ d) (h4 : d ≤ D) : 0 ≤ a * d ∧ a * d ≤ A * D :=
  ⟨Int.mul_nonneg h1 h3, (mul_bd a d A D (by omega) h2 h3 h4).2⟩
theorem div_bd (x n : Int) (hx : 0 ≤ x) (hn : 1 ≤ n) : 0 ≤ x / n ∧ x / n ≤ x :=
  ⟨Int.ediv_nonneg hx (by omega), Int.ediv_le_self n hx⟩
/-- the last true time at which a clock can show t -/
def tTo (l b n1 d1 t : Int) : Int := b + ((t - l + 1) * d1 + n1 - 1) / n1
/-- the first true time at which a clock can show t -/
def tFrom (l a n1 d1 n2 d2 t : Int) : Int :=
  if 1 ≤ t - l then a + (t - l - 1) * d2 / n2 else max (a - (d1 + n1 - 1) / n1) 0
end Go.Proofs.Ytbhmmffompapdaa

/- Plain laws of the clock: how the bounds of the true time grow. -/
import Derived.Test.YtbhmmffompapdaaC12
namespace Go.Proofs.Ytbhmmffompapdaa
open Go.RowKit
/-- a quotient, rounded up: its two inequalities -/
theorem up_bd (x n : Int) (hn : 1 ≤ n) : x ≤ (x + n - 1) / n * n ∧ (x + n - 1) / n * n ≤ x + n - 1 := by
  have h1 := Int.mul_ediv_add_emod (x + n - 1) n
  have h2 := Int.emod_nonneg (x + n - 1) (show n ≠ 0 by omega)
  have h3 := Int.emod_lt_of_pos (x + n - 1) (show 0 < n by omega)
  rw [Int.mul_comm] at h1
  omega
/-- a quotient, rounded down -/
theorem dn_bd (x n : Int) (hn : 1 ≤ n) : x / n * n ≤ x ∧ x < x / n * n + n := by
  have h1 := Int.mul_ediv_add_emod x n
  have h2 := Int.emod_nonneg x (show n ≠ 0 by omega)
  have h3 := Int.emod_lt_of_pos x (show 0 < n by omega)
  rw [Int.mul_comm] at h1
  omega
theorem lt_of_mul (x y m : Int) (hm : 1 ≤ m) (h : x * m < y * m) : x < y := Int.lt_of_mul_lt_mul_right h (by omega)
/-- the two roundings: q1, q2 up, p1, p2 down; the rate r = d1 / n1 is at least d2 / n2 -/
theorem drift_step (n1 d1 n2 d2 x1 x2 y1 y2 q1 q2 p1 p2 : Int) (hn1 : 1 ≤ n1) (hn2 : 1 ≤ n2) (hle : n1 * d2 ≤ n2 * d1)
    (hk : x2 - x1 = y2 - y1) (hk0 : x1 ≤ x2) (h1 : q1 * n1 ≤ x1 * d1 + n1 - 1) (h2 : x2 * d1 ≤ q2 * n1) (h3 : y1 * d2 < p1 * n2 + n2) (h4 : p2 * n2 ≤ y2 * d2) :
    q1 - p1 < q2 - p2 + 2 := by
  have hx : x2 * d1 = x1 * d1 + (x2 - x1) * d1 := by rw [Int.sub_mul]; omega
  have hy : y2 * d2 = y1 * d2 + (x2 - x1) * d2 := by rw [hk, Int.sub_mul]; omega
  have a1 : (q1 - q2) * n1 < n1 - (x2 - x1) * d1 := by rw [Int.sub_mul]; omega
  have a2 : (p2 - p1) * n2 < n2 + (x2 - x1) * d2 := by rw [Int.sub_mul]; omega
  have hK0 : 0 ≤ x2 - x1 := by omega
  generalize x2 - x1 = K at *
  have b1 := Int.mul_lt_mul_of_pos_right a1 (show 0 < n2 by omega)
  have b2 := Int.mul_lt_mul_of_pos_right a2 (show 0 < n1 by omega)
  have b1' : (n1 - K * d1) * n2 = n1 * n2 - K * d1 * n2 := Int.sub_mul _ _ _
  have b2' : (n2 + K * d2) * n1 = n2 * n1 + K * d2 * n1 := Int.add_mul _ _ _
  have c1 := Int.mul_le_mul_of_nonneg_left hle hK0
  have e1 : K * d1 * n2 = K * (n2 * d1) := by rw [Int.mul_assoc, Int.mul_comm d1 n2]
  have e2 : K * d2 * n1 = K * (n1 * d2) := by rw [Int.mul_assoc, Int.mul_comm d2 n1]
  have e3 : (p2 - p1) * n2 * n1 = (p2 - p1) * (n1 * n2) := by rw [Int.mul_assoc, Int.mul_comm n2 n1]
  have e4 : (q1 - q2) * n1 * n2 = (q1 - q2) * (n1 * n2) := by rw [Int.mul_assoc]
  have e5 : n2 * n1 = n1 * n2 := Int.mul_comm _ _
  have hm : 1 ≤ n1 * n2 := by
    have := Int.mul_le_mul_of_nonneg_right hn1 (show 0 ≤ n2 by omega)
    omega
  have key : (q1 - q2 + (p2 - p1)) * (n1 * n2) < 2 * (n1 * n2) := by
    rw [Int.add_mul]; omega
  have := lt_of_mul _ _ _ hm key
  omega
section
variable {l a b n1 d1 n2 d2 : Int}
theorem tTo_le (hc : ClkOk l a b n1 d1 n2 d2) (t : Int) (ht : l ≤ t) : tTo l b n1 d1 t ≤ b + 2 * (t - l + 1) + 1 := by
  unfold tTo
  have h1 := (up_bd ((t - l + 1) * d1) n1 hc.n1lo).2
  have h2 := Int.mul_le_mul_of_nonneg_left hc.r1lo (show 0 ≤ t - l + 1 by omega)
  have e : (t - l + 1) * (2 * n1) = 2 * (t - l + 1) * n1 := by rw [← Int.mul_assoc, Int.mul_comm (t - l + 1) 2]
  have h3 : ((t - l + 1) * d1 + n1 - 1) / n1 * n1 < (2 * (t - l + 1) + 1) * n1 := by
    have e5 : (2 * (t - l + 1) + 1) * n1 = 2 * (t - l + 1) * n1 + 1 * n1 := Int.add_mul _ _ _
    omega
  have := lt_of_mul _ _ _ hc.n1lo h3
  omega
theorem drift_pos (hc : ClkOk l a b n1 d1 n2 d2) (t : Int) (ht : l ≤ t) : 1 ≤ tTo l b n1 d1 t - tFrom l a n1 d1 n2 d2 t := by
  have hc1 := hc.n1lo
  have hc2 := hc.n2lo
  have hc3 := hc.d1lo
  have hc4 := hc.d2lo
  have hab := hc.ab
  have ha := hc.a0
  have hle := hc.le
  have h1 := (up_bd ((t - l + 1) * d1) n1 hc.n1lo).1
  unfold tTo tFrom
  by_cases hd : 1 ≤ t - l
  · rw [if_pos hd]
    have h2 := (dn_bd ((t - l - 1) * d2) n2 hc.n2lo).1
    generalize ((t - l + 1) * d1 + n1 - 1) / n1 = q at *
    generalize (t - l - 1) * d2 / n2 = p at *
    have m1 := Int.mul_le_mul_of_nonneg_right h1 (show 0 ≤ n2 by omega)
    have m2 := Int.mul_le_mul_of_nonneg_right h2 (show 0 ≤ n1 by omega)
    have e1 : (t - l + 1) * d1 * n2 = (t - l - 1) * (n2 * d1) + 2 * (n2 * d1) := by
      rw [Int.mul_assoc, Int.mul_comm d1 n2, ← Int.add_mul]; congr 1; omega
    have e2 : (t - l - 1) * d2 * n1 = (t - l - 1) * (n1 * d2) := by rw [Int.mul_assoc, Int.mul_comm d2 n1]
    have e3 : p * n2 * n1 = p * (n1 * n2) := by rw [Int.mul_assoc, Int.mul_comm n2 n1]
    have e4 : q * n1 * n2 = q * (n1 * n2) := Int.mul_assoc _ _ _
    have m3 := Int.mul_le_mul_of_nonneg_left hle (show 0 ≤ t - l - 1 by omega)
    have hpos : 1 ≤ n2 * d1 := by
      have := Int.mul_le_mul_of_nonneg_right hc2 (show 0 ≤ d1 by omega)
      omega
    have hm : 1 ≤ n1 * n2 := by
      have := Int.mul_le_mul_of_nonneg_right hc1 (show 0 ≤ n2 by omega)
      omega
    have key : p * (n1 * n2) < q * (n1 * n2) := by omega
    have := lt_of_mul _ _ _ hm key
    omega
  · rw [if_neg hd]
    have hx : 1 ≤ (t - l + 1) * d1 := by
      have := Int.mul_le_mul_of_nonneg_left hc3 (show 0 ≤ t - l + 1 by omega)
      omega
    have hq : 0 < ((t - l + 1) * d1 + n1 - 1) / n1 := by
      refine lt_of_mul _ _ n1 hc1 ?_
      omega
    have hq2 := (div_bd (d1 + n1 - 1) n1 (by omega) hc1).1
    omega
/-- rounding takes back at most one tick on each side -/
theorem drift_mono (hc : ClkOk l a b n1 d1 n2 d2) (t u : Int) (ht : l ≤ t) (hu : t ≤ u) :
    tTo l b n1 d1 t - tFrom l a n1 d1 n2 d2 t ≤ tTo l b n1 d1 u - tFrom l a n1 d1 n2 d2 u + 2 := by
  have hc1 := hc.n1lo
  have hc2 := hc.n2lo
  have hc3 := hc.d1lo
  have hle := hc.le
  have ha := hc.a0
  have h1 := (up_bd ((t - l + 1) * d1) n1 hc.n1lo).2
  have h2 := (up_bd ((u - l + 1) * d1) n1 hc.n1lo).1
  by_cases hd : 1 ≤ t - l
  · unfold tTo tFrom
    rw [if_pos hd, if_pos (by omega)]
    have h3 := (dn_bd ((t - l - 1) * d2) n2 hc.n2lo).2
    have h4 := (dn_bd ((u - l - 1) * d2) n2 hc.n2lo).1
    have := drift_step n1 d1 n2 d2 (t - l + 1) (u - l + 1) (t - l - 1) (u - l - 1) _ _ _ _ hc1 hc2 hle (by omega) (by omega) h1 h2 h3 h4
    omega
  · have e : t = l := by omega
    subst e
    by_cases hd2 : 1 ≤ u - t
    · unfold tTo tFrom
      rw [if_neg hd, if_pos hd2]
      have h4 := (dn_bd ((u - t - 1) * d2) n2 hc.n2lo).1
      have h5 := (up_bd d1 n1 hc1).2
      have e0 : t - t + 1 = 1 := by omega
      rw [e0, Int.one_mul] at h1 ⊢
      generalize hq : (d1 + n1 - 1) / n1 = q at *
      have hq0 : 0 ≤ q := by rw [← hq]; exact (div_bd (d1 + n1 - 1) n1 (by omega) hc1).1
      have := drift_step n1 d1 n2 d2 2 (u - t + 1) 0 (u - t - 1) (2 * q - 1) (((u - t + 1) * d1 + n1 - 1) / n1) 0 ((u - t - 1) * d2 / n2) hc1 hc2 hle (by omega) (by omega) (by rw [Int.sub_mul, Int.mul_assoc]; omega) h2 (by omega) h4
      omega
    · have e2 : u = t := by omega
      subst e2
      omega
end
end Go.Proofs.Ytbhmmffompapdaa

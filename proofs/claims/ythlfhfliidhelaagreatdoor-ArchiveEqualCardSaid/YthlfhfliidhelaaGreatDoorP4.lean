/- The groups of a number, as bytes. -/
import Derived.Test.YthlfhfliidhelaaGreatDoorP1
set_option linter.unusedSimpArgs false
set_option linter.unusedVariables false
set_option linter.all false
namespace Go.Proofs.YthlfhfliidhelaaGreatDoor
def grpL : Nat → Nat → List (Nat × Bool)
  | 0, _ => []
  | k + 1, v => (v / 128 ^ k % 128, k == 0) :: grpL k v
def ngF : Nat → Nat → Nat → Nat
  | 0, j, _ => j
  | f + 1, j, v => if 128 ≤ v / 128 ^ j then ngF f (j + 1) v else j
def zz (n : Int) : Nat := if n < 0 then (-2 * n - 1).toNat else (2 * n).toNat
theorem zz_nat (n : Nat) : zz n = 2 * n := by unfold zz; rw [if_neg (by omega)]; omega
theorem zz_lt {n : Int} (h1 : -1152921504606846976 ≤ n) (h2 : n ≤ 1152921504606846976) : zz n < 4611686018427387904 := by unfold zz; split <;> omega
def grpB (k v : Nat) : List (UInt8 × Bool) := (grpL k v).map fun x => (x.1.toUInt8, x.2)
def outB (l : List (UInt8 × Bool)) : List UInt8 := l.map fun x => if x.2 then x.1 else x.1 + 128
theorem outB_snoc (l : List (UInt8 × Bool)) (x : UInt8 × Bool) : outB (l ++ [x]) = outB l ++ [if x.2 then x.1 else x.1 + 128] := by simp [outB]
theorem grpL_len : ∀ k v : Nat, (grpL k v).length = k
  | 0, _ => rfl
  | k + 1, v => by rw [grpL, List.length_cons, grpL_len k v]
theorem add128 (a : Nat) (h : a < 128) : a.toUInt8 + 128 = (a + 128).toUInt8 := by
  apply UInt8.toNat_inj.1
  rw [UInt8.toNat_add]
  show ((UInt8.ofNat a).toNat + (128 : UInt8).toNat) % 2 ^ 8 = (UInt8.ofNat (a + 128)).toNat
  rw [UInt8.toNat_ofNat', UInt8.toNat_ofNat']
  show (a % 2 ^ 8 + 128) % 2 ^ 8 = _
  omega
theorem outB_enc : ∀ k v : Nat, outB (grpB k v) = encG k v
  | 0, _ => rfl
  | 1, v => by simp [grpB, grpL, outB, encG]
  | k + 2, v => by
    have h := outB_enc (k + 1) v
    have e : grpB (k + 2) v = ((v / 128 ^ (k + 1) % 128).toUInt8, false) :: grpB (k + 1) v := rfl
    rw [e]
    show ((v / 128 ^ (k + 1) % 128).toUInt8 + 128) :: outB (grpB (k + 1) v) = _
    rw [h, add128 _ (Nat.mod_lt _ (by decide))]
    rfl
theorem ngF_spec : ∀ f j v : Nat, j ≤ ngF f j v ∧ ngF f j v ≤ f + j ∧ (v < 128 ^ (f + j) → v / 128 ^ ngF f j v < 128) ∧ (j < ngF f j v → 128 ≤ v / 128 ^ (ngF f j v - 1))
  | 0, j, v => by
    refine ⟨Nat.le_refl _, by show j ≤ _; omega, fun h => ?_, fun h => absurd h (Nat.lt_irrefl _)⟩
    show v / 128 ^ j < 128
    rw [Nat.zero_add] at h
    rw [Nat.div_eq_of_lt h]
    decide
  | f + 1, j, v => by
    unfold ngF
    by_cases h : 128 ≤ v / 128 ^ j
    · obtain ⟨h1, h2, h3, h4⟩ := ngF_spec f (j + 1) v
      rw [if_pos h]
      refine ⟨by omega, by omega, fun h5 => h3 (by rwa [show f + (j + 1) = f + 1 + j by omega]), fun h5 => ?_⟩
      by_cases h6 : j + 1 < ngF f (j + 1) v
      · exact h4 h6
      · have : ngF f (j + 1) v - 1 = j := by omega
        rw [this]
        exact h
    · rw [if_neg h]
      exact ⟨Nat.le_refl _, by omega, fun _ => by omega, fun h => absurd h (Nat.lt_irrefl _)⟩
theorem ng_le {v : Nat} (hv : v < 9223372036854775808) : ngF 9 0 v ≤ 8 := by
  obtain ⟨_, h2, _, h4⟩ := ngF_spec 9 0 v
  by_cases h : ngF 9 0 v ≤ 8
  · exact h
  · have e : ngF 9 0 v = 9 := by omega
    have := h4 (by omega)
    rw [e] at this
    have h5 : v / 128 ^ (9 - 1) < 128 := by rw [Nat.div_lt_iff_lt_mul (by decide)]; omega
    omega
def intL (n : Int) : List UInt8 := encG (ngF 9 0 (zz n) + 1) (zz n)
theorem intL_len {n : Int} (h1 : -1152921504606846976 ≤ n) (h2 : n ≤ 1152921504606846976) : (intL n).length ≤ 9 := by
  have := ng_le (v := zz n) (by have := zz_lt h1 h2; omega)
  unfold intL
  rw [encG_len]
  omega
theorem head_int (n : Nat) (hn : n ≤ 1000000000) : Head (intL n) n := by
  unfold intL
  rw [zz_nat]
  have h8 := ng_le (v := 2 * n) (by omega)
  obtain ⟨_, _, h3, h4⟩ := ngF_spec 9 0 (2 * n)
  have h3' := h3 (by rw [show (9 + 0 : Nat) = 9 from rfl, show (128 : Nat) ^ 9 = 9223372036854775808 by decide]; omega)
  refine head_enc (by omega) ?_ (fun h => ?_)
  · have p : 0 < 128 ^ ngF 9 0 (2 * n) := Nat.pow_pos (by decide)
    rw [Nat.div_lt_iff_lt_mul p] at h3'
    rw [Nat.pow_succ]
    omega
  · have h5 := h4 (by omega)
    have p : 0 < 128 ^ (ngF 9 0 (2 * n) - 1) := Nat.pow_pos (by decide)
    rw [Nat.le_div_iff_mul_le p] at h5
    have e : 128 ^ ngF 9 0 (2 * n) = 128 * 128 ^ (ngF 9 0 (2 * n) - 1) := by
      rw [← Nat.pow_succ', show (ngF 9 0 (2 * n) - 1).succ = ngF 9 0 (2 * n) by omega]
    omega
end Go.Proofs.YthlfhfliidhelaaGreatDoor

/- The groups of a number, as bytes. -/
import Derived.Test.YtfafhdganloipaaGreatDoorP1
import Derived.Laws.Bits128
namespace Go.Proofs.YtfafhdganloipaaGreatDoor
def grpL : Nat → Nat → List (Nat × Bool)
  | 0, _ => []
  | k + 1, v => (v / 128 ^ k % 128, k == 0) :: grpL k v
def ngF : Nat → Nat → Nat → Nat
  | 0, j, _ => j
  | f + 1, j, v => if 128 ≤ v / 128 ^ j then ngF f (j + 1) v else j
def zz (n : Int) : Nat := if n < 0 then (-2 * n - 1).toNat else (2 * n).toNat
theorem zz_nat (n : Nat) : zz n = 2 * n := by unfold zz; rw [if_neg (by omega)]; omega
theorem zz_lt {n : Int} (h1 : -1152921504606846976 ≤ n) (h2 : n ≤ 1152921504606846976) : zz n < 4611686018427387904 := by unfold zz; split <;> omega
def grpB (k v : Nat) : List (UInt8 × Bool) := (grpL k v).map fun x => (x.1.toUInt8, x.2)
def outB (l : List (UInt8 × Bool)) : List UInt8 := l.map fun x => if x.2 then x.1 else x.1 + 128
theorem outB_snoc (l : List (UInt8 × Bool)) (x : UInt8 × Bool) : outB (l ++ [x]) = outB l ++ [if x.2 then x.1 else x.1 + 128] := by simp [outB]
theorem grpL_len : ∀ k v : Nat, (grpL k v).length = k
  | 0, _ => rfl
  | k + 1, v => by rw [grpL, List.length_cons, grpL_len k v]
theorem add128 (a : Nat) (_h : a < 128) : a.toUInt8 + 128 = (a + 128).toUInt8 := by
  apply UInt8.toNat_inj.1
  rw [UInt8.toNat_add]
  show ((UInt8.ofNat a).toNat + (128 : UInt8).toNat) % 2 ^ 8 = (UInt8.ofNat (a + 128)).toNat
  rw [UInt8.toNat_ofNat', UInt8.toNat_ofNat']
  show (a % 2 ^ 8 + 128) % 2 ^ 8 = _
  omega
theorem outB_enc : ∀ k v : Nat, outB (grpB k v) = encG k v
  | 0, _ => rfl
  | 1, v => by simp [grpB, grpL, outB, encG]
  | k + 2, v => by
    have h := outB_enc (k + 1) v
    have e : grpB (k + 2) v = ((v / 128 ^ (k + 1) % 128).toUInt8, false) :: grpB (k + 1) v := rfl
    rw [e]
    show ((v / 128 ^ (k + 1) % 128).toUInt8 + 128) :: outB (grpB (k + 1) v) = _
    rw [h, add128 _ (Nat.mod_lt _ (by decide))]
    rfl
theorem ngF_spec : ∀ f j v : Nat, j ≤ ngF f j v ∧ ngF f j v ≤ f + j ∧ (v < 128 ^ (f + j) → v / 128 ^ ngF f j v < 128) ∧ (j < ngF f j v → 128 ≤ v / 128 ^ (ngF f j v - 1))
  | 0, j, v => by
    refine ⟨Nat.le_refl _, by show j ≤ _; omega, fun h => ?_, fun h => absurd h (Nat.lt_irrefl _)⟩
    show v / 128 ^ j < 128
    rw [Nat.zero_add] at h
    rw [Nat.div_eq_of_lt h]
    decide
  | f + 1, j, v => by
    unfold ngF
    by_cases h : 128 ≤ v / 128 ^ j
    · obtain ⟨h1, h2, h3, h4⟩ := ngF_spec f (j + 1) v
      rw [if_pos h]
      refine ⟨by omega, by omega, fun h5 => h3 (by rwa [show f + (j + 1) = f + 1 + j by omega]), fun h5 => ?_⟩
      by_cases h6 : j + 1 < ngF f (j + 1) v
      · exact h4 h6
      · have : ngF f (j + 1) v - 1 = j := by omega
        rw [this]
        exact h
    · rw [if_neg h]
      exact ⟨Nat.le_refl _, by omega, fun _ => by omega, fun h => absurd h (Nat.lt_irrefl _)⟩
theorem ng_le {v : Nat} (hv : v < 9223372036854775808) : ngF 9 0 v ≤ 8 := by
  obtain ⟨_, h2, _, h4⟩ := ngF_spec 9 0 v
  by_cases h : ngF 9 0 v ≤ 8
  · exact h
  · have e : ngF 9 0 v = 9 := by omega
    have := h4 (by omega)
    rw [e] at this
    have h5 : v / 128 ^ (9 - 1) < 128 := by rw [Nat.div_lt_iff_lt_mul (by decide)]; omega
    omega
def intL (n : Int) : List UInt8 := encG (ngF 9 0 (zz n) + 1) (zz n)
theorem intL_len {n : Int} (h1 : -1152921504606846976 ≤ n) (h2 : n ≤ 1152921504606846976) : (intL n).length ≤ 9 := by
  have := ng_le (v := zz n) (by have := zz_lt h1 h2; omega)
  unfold intL
  rw [encG_len]
  omega
theorem head_int (n : Nat) (hn : n ≤ 1000000000) : Head (intL n) n := by
  unfold intL
  rw [zz_nat]
  have h8 := ng_le (v := 2 * n) (by omega)
  obtain ⟨_, _, h3, h4⟩ := ngF_spec 9 0 (2 * n)
  have h3' := h3 (by rw [show (9 + 0 : Nat) = 9 from rfl, show (128 : Nat) ^ 9 = 9223372036854775808 by decide]; omega)
  refine head_enc (by omega) ?_ (fun h => ?_)
  · have p : 0 < 128 ^ ngF 9 0 (2 * n) := Nat.pow_pos (by decide)
    rw [Nat.div_lt_iff_lt_mul p] at h3'
    rw [Nat.pow_succ]
    omega
  · have h5 := h4 (by omega)
    have p : 0 < 128 ^ (ngF 9 0 (2 * n) - 1) := Nat.pow_pos (by decide)
    rw [Nat.le_div_iff_mul_le p] at h5
    have e : 128 ^ ngF 9 0 (2 * n) = 128 * 128 ^ (ngF 9 0 (2 * n) - 1) := by
      rw [← Nat.pow_succ', show (ngF 9 0 (2 * n) - 1).succ = ngF 9 0 (2 * n) by omega]
    omega
end Go.Proofs.YtfafhdganloipaaGreatDoor
namespace Go.Proofs.YtfafhdganloipaaGreatDoor
structure St (s : List UInt8) (k v : Nat) : Prop where
  eq : rdG 9 0 s = (rdG (9 - k) v (s.drop k)).map fun x => (x.1, x.2 + k)
  lt : v < 128 ^ k
theorem rdG_cons (f n : Nat) (b : UInt8) (l : List UInt8) : rdG (f + 1) n (b :: l) = if b.toNat < 128 then some (n * 128 + b.toNat % 128, 1) else (rdG f (n * 128 + b.toNat % 128) l).map fun x => (x.1, x.2 + 1) := rfl
theorem st0 (s : List UInt8) : St s 0 0 := ⟨by simp, by decide⟩
theorem st_more {s : List UInt8} {k v : Nat} (h9 : k < 9) (hk : k < s.length) (hb : 128 ≤ s[k].toNat) (h : St s k v) : St s (k + 1) (v * 128 + s[k].toNat % 128) := by
  refine ⟨?_, ?_⟩
  · have e := h.eq
    rw [List.drop_eq_getElem_cons hk, show 9 - k = (9 - (k + 1)) + 1 by omega] at e
    rw [rdG_cons, if_neg (by omega)] at e
    refine e.trans ?_
    rw [Option.map_map]
    congr 1
    funext x
    show (x.1, x.2 + 1 + k) = _
    rw [Nat.add_right_comm, Nat.add_assoc]
  · have := h.lt
    rw [Nat.pow_succ]
    have h2 : (v + 1) * 128 ≤ 128 ^ k * 128 := Nat.mul_le_mul_right _ this
    omega
theorem st_last {s : List UInt8} {k v : Nat} (h9 : k < 9) (hk : k < s.length) (hb : s[k].toNat < 128) (h : St s k v) : rdG 9 0 s = some (v * 128 + s[k].toNat % 128, k + 1) ∧ v * 128 + s[k].toNat % 128 < 128 ^ (k + 1) := by
  refine ⟨?_, ?_⟩
  · have e := h.eq
    rw [List.drop_eq_getElem_cons hk, show 9 - k = (9 - (k + 1)) + 1 by omega] at e
    rw [rdG_cons, if_pos hb] at e
    rw [e]
    show some (_, 1 + k) = _
    rw [Nat.add_comm 1 k]
  · have := h.lt
    rw [Nat.pow_succ]
    have h2 : (v + 1) * 128 ≤ 128 ^ k * 128 := Nat.mul_le_mul_right _ this
    omega
theorem st_long {s : List UInt8} {v : Nat} (h : St s 9 v) : readI s = none := by
  have e := h.eq
  unfold readI
  rw [e]
  rfl
theorem st_short {s : List UInt8} {k v : Nat} (hk : s.length = k) (h : St s k v) : readI s = none := by
  have e := h.eq
  rw [List.drop_of_length_le (by omega)] at e
  unfold readI
  rw [e]
  cases 9 - k with
  | zero => rfl
  | succ f => rfl
theorem read_128 {s : List UInt8} {v k : Nat} (h : rdG 9 0 s = some (v, k)) (hs : s.head? = some 128) : readI s = none := by
  unfold readI
  rw [h]
  exact if_pos hs
theorem read_bad {s : List UInt8} {v k : Nat} (h : rdG 9 0 s = some (v, k)) (hr : ¬ (-1152921504606846976 ≤ unzig v ∧ unzig v ≤ 1152921504606846976)) : readI s = none := by
  unfold readI
  rw [h]
  show (if _ then none else if _ then _ else none) = _
  rw [if_neg hr]
  split <;> rfl
theorem read_ok {s : List UInt8} {v k : Nat} (h : rdG 9 0 s = some (v, k)) (hs : s.head? ≠ some 128) (hr : -1152921504606846976 ≤ unzig v ∧ unzig v ≤ 1152921504606846976) : readI s = some (unzig v, k) := by
  unfold readI
  rw [h]
  show (if _ then none else if _ then _ else none) = _
  rw [if_neg hs, if_pos hr]
theorem i64_or_nat (a b : Nat) (ha : a < 9223372036854775808) (hb : b < 9223372036854775808) : bits .or .i64 (a : Int) (b : Int) = ((a ||| b : Nat) : Int) := by
  have hx : a ||| b < 2 ^ 63 := Nat.or_lt_two_pow (by omega) (by omega)
  show IntKind.i64.wrap ((BitVec.ofInt 64 (a : Int) ||| BitVec.ofInt 64 (b : Int)).toNat : Int) = _
  rw [BitVec.toNat_or, ofInt_u64 a (by omega), ofInt_u64 b (by omega), IntKind.wrap_i64]
  omega
theorem i64_and1 (n : Int) : bits .and .i64 n 1 = n % 2 := by
  have h1 : (BitVec.ofInt 64 1).toNat = 2 ^ 1 - 1 := by decide
  have key : (BitVec.ofInt 64 n &&& BitVec.ofInt 64 1).toNat = (n % ((2 ^ 64 : Nat) : Int)).toNat % 2 ^ 1 := by
    rw [BitVec.toNat_and, BitVec.toNat_ofInt, h1, Nat.and_two_pow_sub_one_eq_mod]
  show IntKind.i64.wrap ((BitVec.ofInt 64 n &&& BitVec.ofInt 64 1).toNat : Nat) = n % 2
  rw [key, IntKind.wrap_i64]
  omega
theorem or_join {a b : Nat} (ha : a < 72057594037927936) (hb : b < 128) : bits .or .i64 ((a : Int) * 128) (b : Int) = ((a * 128 + b : Nat) : Int) := by
  have e : (a : Int) * 128 = ((a * 128 : Nat) : Int) := by omega
  rw [e, i64_or_nat _ _ (by omega) (by omega), nat_join 7 (a * 128) b (by omega) hb]
end Go.Proofs.YtfafhdganloipaaGreatDoor

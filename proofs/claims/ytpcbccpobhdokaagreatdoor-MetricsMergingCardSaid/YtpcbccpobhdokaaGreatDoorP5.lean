/- Plain: sums of fractions are associative; so is Merge. -/
import Derived.Test.YtpcbccpobhdokaaGreatDoorP4
set_option linter.unusedSimpArgs false
set_option linter.unusedVariables false
set_option linter.all false
namespace Go.Proofs.YtpcbccpobhdokaaGreatDoor
theorem div_swap {n d g : Nat} (hg : 0 < g) (h1 : g ∣ n) (h2 : g ∣ d) : n / g * d = n * (d / g) := by
  obtain ⟨N, rfl⟩ := h1
  obtain ⟨D, rfl⟩ := h2
  rw [Nat.mul_div_cancel_left _ hg, Nat.mul_div_cancel_left _ hg]
  simp only [Nat.mul_comm, Nat.mul_left_comm]
theorem lowR_spec {neg : Bool} {n d : Nat} (hd : 1 ≤ d) {x y : Int} (h : lowR neg n d = some (x, y)) : 1 ≤ y ∧ Nat.gcd x.natAbs y.natAbs = 1 ∧ x * (d : Int) = (if neg then -(n : Int) else (n : Int)) * y := by
  unfold lowR at h
  split at h
  · cases h
  · have hg : 0 < Nat.gcd n d := Nat.gcd_pos_of_pos_right n hd
    have h1 : 1 ≤ d / Nat.gcd n d := Nat.div_pos (Nat.le_of_dvd hd (Nat.gcd_dvd_right n d)) hg
    have h2 : Nat.gcd (n / Nat.gcd n d) (d / Nat.gcd n d) = 1 := by rw [Nat.gcd_div (Nat.gcd_dvd_left n d) (Nat.gcd_dvd_right n d), Nat.div_self hg]
    have h3 : n / Nat.gcd n d * d = n * (d / Nat.gcd n d) := div_swap hg (Nat.gcd_dvd_left n d) (Nat.gcd_dvd_right n d)
    generalize n / Nat.gcd n d = N at *
    generalize d / Nat.gcd n d = D at *
    injection h with h
    injection h with hx hy
    subst hx hy
    have h4 : (N : Int) * (d : Int) = (n : Int) * (D : Int) := by exact_mod_cast h3
    cases neg with
    | false => exact ⟨by omega, by simpa using h2, by simpa using h4⟩
    | true =>
      refine ⟨by omega, by simpa using h2, ?_⟩
      simp only [if_true, Int.neg_mul, h4]
theorem addR_spec {a b c d x y : Int} (hb : 1 ≤ b) (hd : 1 ≤ d) (h : addR a b c d = some (x, y)) : 1 ≤ y ∧ Nat.gcd x.natAbs y.natAbs = 1 ∧ x * (b * d) = (a * d + c * b) * y := by
  have hbd : 1 ≤ b * d := by
    have := Int.mul_le_mul hb hd (by omega) (by omega)
    simpa using this
  unfold addR at h
  obtain ⟨h1, h2, h3⟩ := lowR_spec (by omega) h
  refine ⟨h1, h2, ?_⟩
  have e : ((b * d).natAbs : Int) = b * d := by omega
  rw [e] at h3
  rw [h3]
  generalize a * d + c * b = s
  by_cases hs : s < 0
  · rw [if_pos (by simpa using hs), show -(s.natAbs : Int) = s by omega]
  · rw [if_neg (by simpa using hs), show (s.natAbs : Int) = s by omega]
theorem frac_eq {x y x' y' : Int} (hy : 1 ≤ y) (hy' : 1 ≤ y') (h : Nat.gcd x.natAbs y.natAbs = 1) (h' : Nat.gcd x'.natAbs y'.natAbs = 1) (e : x * y' = x' * y) : x = x' ∧ y = y' := by
  have e1 : x.natAbs * y'.natAbs = x'.natAbs * y.natAbs := by rw [← Int.natAbs_mul, ← Int.natAbs_mul, e]
  have d1 : y.natAbs ∣ y'.natAbs := Nat.Coprime.dvd_of_dvd_mul_left (Nat.Coprime.symm h) ⟨x'.natAbs, by rw [e1, Nat.mul_comm]⟩
  have d2 : y'.natAbs ∣ y.natAbs := Nat.Coprime.dvd_of_dvd_mul_left (Nat.Coprime.symm h') ⟨x.natAbs, by rw [← e1, Nat.mul_comm]⟩
  have e2 : y.natAbs = y'.natAbs := Nat.dvd_antisymm d1 d2
  have e3 : y = y' := by omega
  subst e3
  exact ⟨Int.eq_of_mul_eq_mul_right (by omega) e, rfl⟩
/-- the sum of three, however it is formed -/
theorem three {p P q Q r R s S x y : Int} (hS : 1 ≤ S) (h1 : s * (P * Q) = (p * Q + q * P) * S) (h2 : x * (S * R) = (s * R + r * S) * y) : x * (P * Q * R) = (p * Q * R + q * P * R + r * P * Q) * y := by
  have h3 : S * (x * (P * Q * R)) = S * ((p * Q * R + q * P * R + r * P * Q) * y) := by
    have a1 : S * (x * (P * Q * R)) = (x * (S * R)) * (P * Q) := by simp only [Int.mul_assoc, Int.mul_comm, Int.mul_left_comm]
    have a2 : (s * R + r * S) * y * (P * Q) = (s * (P * Q)) * (R * y) + r * S * y * (P * Q) := by simp only [Int.add_mul, Int.mul_add, Int.mul_assoc, Int.mul_comm, Int.mul_left_comm, Int.add_assoc, Int.add_comm, Int.add_left_comm]
    rw [a1, h2, a2, h1]
    simp only [Int.add_mul, Int.mul_add, Int.mul_assoc, Int.mul_comm, Int.mul_left_comm, Int.add_assoc, Int.add_comm, Int.add_left_comm]
  exact Int.eq_of_mul_eq_mul_left (by omega) h3
theorem addR_assoc {p P q Q r R s S u U x y x' y' : Int} (hP : 1 ≤ P) (hQ : 1 ≤ Q) (hR : 1 ≤ R) (h1 : addR p P q Q = some (s, S)) (h2 : addR s S r R = some (x, y)) (h3 : addR q Q r R = some (u, U)) (h4 : addR p P u U = some (x', y')) : x = x' ∧ y = y' := by
  obtain ⟨k1, _, e1⟩ := addR_spec hP hQ h1
  obtain ⟨k2, g2, e2⟩ := addR_spec k1 hR h2
  obtain ⟨k3, _, e3⟩ := addR_spec hQ hR h3
  obtain ⟨k4, g4, e4⟩ := addR_spec hP k3 h4
  have t1 := three k1 e1 e2
  have t2 : x' * (Q * R * P) = (q * R * P + r * Q * P + p * Q * R) * y' := three k3 e3 (by
    rw [Int.mul_comm U P, e4, Int.add_comm])
  have hN : p * Q * R + q * P * R + r * P * Q = q * R * P + r * Q * P + p * Q * R := by
    simp only [Int.add_mul, Int.mul_add, Int.mul_assoc, Int.mul_comm, Int.mul_left_comm, Int.add_assoc, Int.add_comm, Int.add_left_comm]
  rw [hN] at t1
  have hM : Q * R * P = P * Q * R := by simp only [Int.mul_assoc, Int.mul_comm, Int.mul_left_comm]
  rw [hM] at t2
  generalize q * R * P + r * Q * P + p * Q * R = N at *
  have hpos : 0 < P * Q * R := Int.mul_pos (Int.mul_pos (by omega) (by omega)) (by omega)
  generalize P * Q * R = M at *
  refine frac_eq k2 k4 g2 g4 ?_
  have h5 : M * (x * y') = M * (x' * y) := by
    have a1 : M * (x * y') = x * M * y' := by simp only [Int.mul_assoc, Int.mul_comm, Int.mul_left_comm]
    have a2 : M * (x' * y) = x' * M * y := by simp only [Int.mul_assoc, Int.mul_comm, Int.mul_left_comm]
    rw [a1, a2, t1, t2]
    simp only [Int.mul_assoc, Int.mul_comm, Int.mul_left_comm]
  exact Int.eq_of_mul_eq_mul_left (by omega) h5
def DenOk (A : Option (Int × Int)) : Prop := ∀ p, A = some p → 1 ≤ p.2
theorem den_of {l : List Met} (h : ∀ u ∈ l, MOk u) (k : ByteArray) (i : Int) : DenOk (findV l k i) := fun p hp => by
  unfold findV at hp
  rw [Option.map_eq_some_iff] at hp
  obtain ⟨x, h1, rfl⟩ := hp
  exact (ratE_ok (h x (List.mem_of_find?_eq_some h1)).2.2.2).2.2.1
theorem jn_assoc {A B C X W L M : Option (Int × Int)} (hA : DenOk A) (hB : DenOk B) (hC : DenOk C) (h1 : Jn A B X) (h2 : Jn X C L) (h3 : Jn B C W) (h4 : Jn A W M) : L = M := by
  cases A with
  | none =>
    obtain rfl : X = B := h1
    obtain rfl : M = W := h4
    cases X with
    | none => exact (show L = C from h2).trans (show M = C from h3).symm
    | some q =>
      cases C with
      | none => exact (show L = some q from h2).trans (show M = some q from h3).symm
      | some r =>
        obtain ⟨s, e1, rfl⟩ := h2
        obtain ⟨s', e2, rfl⟩ := h3
        rw [e1] at e2; exact e2
  | some p =>
    cases B with
    | none =>
      obtain rfl : X = some p := h1
      obtain rfl : W = C := h3
      cases W with
      | none => exact (show L = some p from h2).trans (show M = some p from h4).symm
      | some r =>
        obtain ⟨s, e1, rfl⟩ := h2
        obtain ⟨s', e2, rfl⟩ := h4
        rw [e1] at e2; exact e2
    | some q =>
      obtain ⟨s, e1, rfl⟩ := h1
      cases C with
      | none =>
        obtain rfl : W = some q := h3
        obtain ⟨s', e2, rfl⟩ := h4
        rw [e1] at e2
        exact (show L = some s from h2).trans e2
      | some r =>
        obtain ⟨t, e2, rfl⟩ := h2
        obtain ⟨u, e3, rfl⟩ := h3
        obtain ⟨v, e4, rfl⟩ := h4
        obtain ⟨f1, f2⟩ := addR_assoc (hA _ rfl) (hB _ rfl) (hC _ rfl) e1 e2 e3 e4
        congr 1
        exact Prod.ext f1 f2
/-- Merge is associative where it answers -/
theorem mrg_assoc {a b c x w l m : List Met} (ha : Asc a) (hb : Asc b) (hc : Asc c) (oa : ∀ u ∈ a, MOk u) (ob : ∀ u ∈ b, MOk u) (oc : ∀ u ∈ c, MOk u) (h1 : mrg a b = some x) (h2 : mrg x c = some l) (h3 : mrg b c = some w) (h4 : mrg a w = some m) : l = m := by
  obtain ⟨I1, J1⟩ := mrg_info _ a b x rfl ha hb h1
  obtain ⟨I2, J2⟩ := mrg_info _ x c l rfl I1.asc hc h2
  obtain ⟨I3, J3⟩ := mrg_info _ b c w rfl hb hc h3
  obtain ⟨I4, J4⟩ := mrg_info _ a w m rfl ha I3.asc h4
  exact find_ext l m I2.asc I4.asc (fun k i => jn_assoc (den_of oa k i) (den_of ob k i) (den_of oc k i) (J1 k i) (J2 k i) (J3 k i) (J4 k i))
theorem chk_of : ∀ (l : List Met) (p : Option Met), Asc l → (∀ u ∈ l, MOk u) → (∀ y, p = some y → ∀ u ∈ l, ltN y u) → chkL p l = 0
  | [], _, _, _, _ => rfl
  | x :: l, p, ha, ho, hp => by
    have ha' := List.pairwise_cons.1 ha
    obtain ⟨o1, o2, o3, o4⟩ := ho x (by simp)
    have hm : metE p x = 0 := by
      unfold metE
      rw [if_neg (by simp [o1]), if_neg (by omega), if_neg (by simp [o4])]
      cases p with
      | none => rfl
      | some y =>
        have h := cf_lt.2 (hp y rfl x (by simp))
        exact if_neg (by have : cmpM y.n x.n y.i x.i < 0 := h; omega)
    rw [chkL, if_pos hm]
    exact chk_of l _ ha'.2 (fun u hu => ho u (by simp [hu])) (fun y hy u hu => by obtain rfl := Option.some.inj hy; exact ha'.1 u hu)
end Go.Proofs.YtpcbccpobhdokaaGreatDoor

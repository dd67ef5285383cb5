/- Plain laws about the contacts of all nodes. -/
import Derived.Test.YtgnlanfpholdaaaDoorP2
namespace Go.Proofs.YtgnlanfpholdaaaDoor
open Go.RowKit
theorem filL_contains {p : Con → Bool} {qs : List Int} {cs : List Con} (h : planE qs cs = 0) {k : Nat} (hk : k < cs.length) {b : Bool} (hb : p (cs.getD k Con.zero) = b) : (filL p qs cs).contains (k : Int) = b := by
  rw [Bool.eq_iff_iff, List.contains_iff_mem, filL_mem h, ← hb]
  constructor
  · rintro ⟨i, _, e, hp⟩
    obtain rfl : k = i := by omega
    exact hp
  · intro hp; exact ⟨k, hk, rfl, hp⟩
theorem selL_count (p : Con → Bool) (cs : List Con) : ∀ k, k ≤ cs.length → (selL p cs k).length = (cs.take k).countP p
  | 0, _ => by simp [selL]
  | k + 1, h => by
    rw [take_con cs k (by omega), List.countP_append, ← selL_count p cs k (by omega), List.countP_singleton]
    cases hp : p (cs.getD k Con.zero)
    · rw [selL_miss hp]; simp
    · rw [selL_hit hp]; simp
/-- the sum of the numbers of contacts of the first k nodes -/
def sumF (qs : List Int) (cs : List Con) : Nat → Nat
  | 0 => 0
  | k + 1 => sumF qs cs k + (filL (fromB k) qs cs).length
def sumC (cs : List Con) : Nat → Nat
  | 0 => 0
  | k + 1 => sumC cs k + cs.countP (fromB k)
theorem sumF_eq {qs : List Int} {cs : List Con} (h : planE qs cs = 0) : ∀ k, sumF qs cs k = sumC cs k
  | 0 => rfl
  | k + 1 => by
    rw [sumF, sumC, sumF_eq h k, filL_ok h, selL_count _ cs _ (Nat.le_refl _), List.take_length]
theorem sumC_nil : ∀ k, sumC [] k = 0
  | 0 => rfl
  | k + 1 => by rw [sumC, sumC_nil k]; rfl
theorem sumC_cons (c : Con) (t : List Con) : ∀ k : Nat, sumC (c :: t) k = sumC t k + if 0 ≤ c.a ∧ c.a < k then 1 else 0
  | 0 => by
    rw [sumC, sumC, if_neg (by omega)]
  | k + 1 => by
    rw [sumC, sumC, sumC_cons c t k, List.countP_cons]
    have e : (if fromB (k : Int) c = true then 1 else 0) = if c.a = k then 1 else 0 := by simp [fromB]
    rw [e]
    by_cases h1 : c.a = k
    · rw [if_neg (show ¬ (0 ≤ c.a ∧ c.a < k) by omega), if_pos h1, if_pos (show 0 ≤ c.a ∧ c.a < ((k + 1 : Nat) : Int) by omega)]; omega
    · rw [if_neg h1]
      by_cases h2 : 0 ≤ c.a ∧ c.a < k
      · rw [if_pos h2, if_pos (show 0 ≤ c.a ∧ c.a < ((k + 1 : Nat) : Int) by omega)]; omega
      · rw [if_neg h2, if_neg (show ¬ (0 ≤ c.a ∧ c.a < ((k + 1 : Nat) : Int)) by omega)]; omega
theorem sumC_all (n : Nat) : ∀ cs : List Con, (∀ c ∈ cs, 0 ≤ c.a ∧ c.a < n) → sumC cs n = cs.length
  | [], _ => sumC_nil n
  | c :: t, h => by
    rw [sumC_cons, if_pos (h c (by simp)), sumC_all n t (fun d hd => h d (by simp [hd]))]; rfl
theorem sumF_all {qs : List Int} {cs : List Con} (h : planE qs cs = 0) : sumF qs cs qs.length = cs.length := by
  rw [sumF_eq h]
  refine sumC_all _ cs fun c hc => ?_
  have := ((planE_iff qs cs).1 h).2.2.2.2.1 c hc
  have := conE_ok this.1
  omega
theorem sumF_le (qs : List Int) (cs : List Con) : ∀ k, sumF qs cs k ≤ 64 * k
  | 0 => by simp [sumF]
  | k + 1 => by
    have := sumF_le qs cs k
    have := filL_len64 (fromB k) qs cs
    rw [sumF]; omega
theorem asc_step {l : List Int} (h : l.Pairwise (· < ·)) {m : Nat} (h0 : 0 < m) (hm : m < l.length) : l.getD (m - 1) 0 < l.getD m 0 := by
  have := List.pairwise_iff_getElem.1 h (m - 1) m (by omega) hm (by omega)
  simpa [List.getD, List.getElem?_eq_getElem, hm, show m - 1 < l.length by omega] using this
end Go.Proofs.YtgnlanfpholdaaaDoor

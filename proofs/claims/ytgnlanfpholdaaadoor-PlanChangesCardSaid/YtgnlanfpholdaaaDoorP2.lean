/- Plain laws about the contacts that are selected. -/
import Derived.Test.YtgnlanfpholdaaaDoorG3
namespace Go.Proofs.YtgnlanfpholdaaaDoor
open Go.RowKit
theorem selL_asc (p : Con → Bool) (cs : List Con) (k : Nat) : (selL p cs k).Pairwise (· < ·) := by
  unfold selL
  rw [List.pairwise_map]
  refine List.Pairwise.imp ?_ (List.Pairwise.filter _ List.pairwise_lt_range)
  intro a b h; omega
theorem filL_asc (p : Con → Bool) (qs : List Int) (cs : List Con) : (filL p qs cs).Pairwise (· < ·) := by
  unfold filL; split
  · exact List.Pairwise.nil
  · exact selL_asc p cs _
theorem filL_mem {p : Con → Bool} {qs : List Int} {cs : List Con} (h : planE qs cs = 0) {x : Int} : x ∈ filL p qs cs ↔ ∃ i : Nat, i < cs.length ∧ x = i ∧ p (cs.getD i Con.zero) = true := by
  rw [filL_ok h]; exact selL_mem
theorem no_over {qs : List Int} {cs : List Con} (h : planE qs cs = 0) {i j : Nat} (hij : i < j) (hj : j < cs.length) : overB (cs.getD j Con.zero) (cs.getD i Con.zero) = false := by
  have hp := ((planE_iff qs cs).1 h).2.2.2.2.2
  have := List.pairwise_iff_getElem.1 hp i j (by omega) hj hij
  simpa [List.getD, List.getElem?_eq_getElem, show i < cs.length by omega, hj] using this
theorem good_con {qs : List Int} {cs : List Con} (h : planE qs cs = 0) {j : Nat} (hj : j < cs.length) : conE (cs.getD j Con.zero) = 0 ∧ (cs.getD j Con.zero).a < qs.length ∧ (cs.getD j Con.zero).b < qs.length := ((planE_iff qs cs).1 h).2.2.2.2.1 _ (getD_mem hj)
theorem none_over {qs : List Int} {cs : List Con} (h : planE qs cs = 0) {k : Nat} (hk : k < cs.length) : (cs.take k).any (overB (cs.getD k Con.zero)) = false := by
  rw [List.any_eq_false]
  intro d hd
  obtain ⟨i, hi, rfl⟩ := List.mem_iff_getElem.1 hd
  rw [List.length_take] at hi
  have := no_over h (i := i) (j := k) (by omega) hk
  rw [List.getElem_take]
  simpa [List.getD, List.getElem?_eq_getElem, show i < cs.length by omega] using this
/-- how many of the first k of a list are in another one -/
def cntL (act L : List Int) (k : Nat) : Nat := ((L.take k).filter fun i => act.contains i).length
theorem cntL_hit {act L : List Int} {k : Nat} (h : k < L.length) (hp : act.contains (L.getD k 0) = true) : cntL act L (k + 1) = cntL act L k + 1 := by
  unfold cntL; rw [take_int L k h, List.filter_append, List.filter_cons, if_pos hp]; simp
theorem cntL_miss {act L : List Int} {k : Nat} (h : k < L.length) (hp : act.contains (L.getD k 0) = false) : cntL act L (k + 1) = cntL act L k := by
  unfold cntL; rw [take_int L k h, List.filter_append, List.filter_cons, if_neg (by rw [hp]; exact Bool.false_ne_true)]; simp
theorem cntL_le (act L : List Int) (k : Nat) : cntL act L k ≤ k := by
  unfold cntL; exact Nat.le_trans (List.length_filter_le _ _) (by rw [List.length_take]; omega)
theorem short_of {l : List Int} (ha : l.Pairwise (· < ·)) (he : ∀ a ∈ l, ∀ b ∈ l, a = b) : l.length ≤ 1 := by
  match l, ha, he with
  | [], _, _ => simp
  | [_], _, _ => simp
  | a :: b :: t, ha, he =>
    have h1 := (List.pairwise_cons.1 ha).1 b (by simp)
    have h2 := he a (by simp) b (by simp)
    omega
theorem one_active {qs : List Int} {cs : List Con} (h : planE qs cs = 0) (x y t : Int) : cntL (filL (actB t) qs cs) (filL (betB x y) qs cs) (filL (betB x y) qs cs).length ≤ 1 := by
  unfold cntL
  rw [List.take_length]
  refine short_of ((filL_asc _ _ _).filter _) ?_
  have key : ∀ a, a ∈ (filL (betB x y) qs cs).filter (fun i => (filL (actB t) qs cs).contains i) → ∃ i : Nat, i < cs.length ∧ a = i ∧ betB x y (cs.getD i Con.zero) = true ∧ actB t (cs.getD i Con.zero) = true := by
    intro a ha
    obtain ⟨h1, h2⟩ := List.mem_filter.1 ha
    obtain ⟨i, hi, rfl, hp⟩ := (filL_mem h).1 h1
    obtain ⟨j, hj, e, hq⟩ := (filL_mem h).1 (by simpa using h2)
    obtain rfl : i = j := by omega
    exact ⟨i, hi, rfl, hp, hq⟩
  have clash : ∀ i j : Nat, i < j → j < cs.length → betB x y (cs.getD i Con.zero) = true → actB t (cs.getD i Con.zero) = true → betB x y (cs.getD j Con.zero) = true → actB t (cs.getD j Con.zero) = true → False := by
    intro i j hij hj p1 p2 p3 p4
    have := no_over h hij hj
    have g1 := (good_con h (show i < cs.length by omega)).1
    have g2 := (good_con h hj).1
    simp only [betB, actB, Bool.and_eq_true, decide_eq_true_eq, beq_iff_eq] at p1 p2 p3 p4
    simp only [overB, decide_eq_false_iff_not] at this
    exact this ⟨g2, g1, by omega, by omega, by omega, by omega⟩
  intro a ha b hb
  obtain ⟨i, hi, rfl, p1, p2⟩ := key a ha
  obtain ⟨j, hj, rfl, p3, p4⟩ := key b hb
  rcases Nat.lt_trichotomy i j with e | e | e
  · exact (clash i j e hj p1 p2 p3 p4).elim
  · rw [e]
  · exact (clash j i e hi p3 p4 p1 p2).elim
end Go.Proofs.YtgnlanfpholdaaaDoor

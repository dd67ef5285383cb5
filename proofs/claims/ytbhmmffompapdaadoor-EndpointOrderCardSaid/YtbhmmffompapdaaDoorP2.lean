/- Plain laws of endpoints: members ascend, and so do the groups of a node. -/
import Derived.Test.YtbhmmffompapdaaDoorP1
namespace Go.Proofs.YtbhmmffompapdaaDoor
theorem rowE_all {g : List Int} (h : rowE none g = 0) : ∀ k, k ≤ g.length → rowE (prevOf g k) (g.drop k) = 0
  | 0, _ => h
  | k + 1, hk => by
    have := rowE_all h k (by omega)
    rw [rowE_step g k (by omega)] at this
    split at this
    · cases this
    split at this
    · cases this
    exact this
theorem rowE_asc {g : List Int} (h : rowE none g = 0) (k : Nat) (h1 : 1 ≤ k) (h2 : k < g.length) : g.getD (k - 1) 0 < g.getD k 0 := by
  have := rowE_all h k (by omega)
  rw [rowE_step g k h2] at this
  split at this
  · cases this
  split at this
  · cases this
  omega
theorem memL_asc (gs : List (List Int)) (k n : Int) (i : Nat) (h1 : 1 ≤ i) (h2 : i < (memL gs k n).length) : (memL gs k n).getD (i - 1) 0 < (memL gs k n).getD i 0 := by
  by_cases h : memE gs k n = 0
  · obtain ⟨g1, _, g3⟩ := memE_ok h
    rw [memL_ok h] at h2 ⊢
    by_cases hk : k = 1
    · rw [if_pos hk] at h2; simp at h2; omega
    · rw [if_neg hk] at h2 ⊢
      rcases g3 with g3 | ⟨_, g5, g6⟩
      · exact absurd g3 hk
      exact rowE_asc (groupsE_row g1 _ (getD_mem [] (by omega))) i h1 h2
  · rw [memL, if_pos h] at h2; simp at h2
theorem ofL_zero {gs : List (List Int)} {x : Int} (h : ofE gs x = 0) : 0 < (ofL gs x).length ∧ (ofL gs x).getD 0 (0, 0) = (1, x) := by
  rw [ofL, if_neg (by simp [h])]; simp [ofG, List.getD]
theorem idx_asc (gs : List (List Int)) (x : Int) (m : Nat) : ((List.range m).filter fun i => hasB (gs.getD i []) x).Pairwise (· < ·) := (List.pairwise_lt_range).filter _
theorem ofL_succ {gs : List (List Int)} {x : Int} (h : ofE gs x = 0) (i : Nat) (h1 : 1 ≤ i) (h2 : i < (ofL gs x).length) : ((ofL gs x).getD i (0, 0)).1 = 2 ∧ (2 ≤ i → ((ofL gs x).getD (i - 1) (0, 0)).2 < ((ofL gs x).getD i (0, 0)).2) := by
  rw [ofL, if_neg (by simp [h])] at h2 ⊢
  have hp := idx_asc gs x gs.length
  unfold ofG at h2 ⊢
  generalize ((List.range gs.length).filter fun i => hasB (gs.getD i []) x) = l at *
  obtain ⟨j, rfl⟩ : ∃ j, i = j + 1 := ⟨i - 1, by omega⟩
  simp only [List.length_cons, List.length_map] at h2
  have hj : j < l.length := by omega
  refine ⟨by simp [List.getD, hj], fun h3 => ?_⟩
  obtain ⟨j', rfl⟩ : ∃ j', j = j' + 1 := ⟨j - 1, by omega⟩
  have hj' : j' < l.length := by omega
  have := List.pairwise_iff_getElem.1 hp j' (j' + 1) hj' hj (by omega)
  simp [List.getD, hj, hj']
  exact this
theorem ofL_bad {gs : List (List Int)} {x : Int} (h : ofE gs x ≠ 0) : ofL gs x = [] := by rw [ofL, if_pos h]
end Go.Proofs.YtbhmmffompapdaaDoor

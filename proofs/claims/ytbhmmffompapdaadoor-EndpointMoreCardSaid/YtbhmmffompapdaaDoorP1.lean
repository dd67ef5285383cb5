/- Plain laws of endpoints: who belongs to what, orders. -/
import Derived.Test.YtbhmmffompapdaaDoorE15
namespace Go.Proofs.YtbhmmffompapdaaDoor
theorem rowE_range : ∀ (l : List Int) (p : Option Int), rowE p l = 0 → ∀ y ∈ l, 0 ≤ y ∧ y < 16
  | [], _, _ => fun y hy => by simp at hy
  | n :: t, p, h => by
    rw [rowE_cons] at h
    split at h
    · cases h
    split at h
    · cases h
    intro y hy
    rcases List.mem_cons.1 hy with rfl | hy
    · omega
    · exact rowE_range t _ h y hy
theorem grpsE_row : ∀ (gs : List (List Int)), grpsE gs = 0 → ∀ g ∈ gs, rowE none g = 0
  | [], _ => fun g hg => by simp at hg
  | a :: t, h => by
    rw [grpsE] at h
    split at h
    · rename_i h1; exact absurd h h1
    rename_i h1
    intro g hg
    rcases List.mem_cons.1 hg with rfl | hg
    · exact Classical.not_not.1 h1
    · exact grpsE_row t h g hg
theorem groupsE_row {gs : List (List Int)} (h : groupsE gs = 0) : ∀ g ∈ gs, rowE none g = 0 := by
  unfold groupsE at h; split at h
  · cases h
  · exact grpsE_row gs h
theorem getD_mem {α : Type} {l : List α} {i : Nat} (d : α) (h : i < l.length) : l.getD i d ∈ l := by
  simp [List.getD, h]
theorem memL_ok {gs : List (List Int)} {k n : Int} (h : memE gs k n = 0) : memL gs k n = if k = 1 then [n] else gs.getD n.toNat [] := by
  rw [memL, if_neg (by simp [h])]
theorem memL_range {gs : List (List Int)} {k n : Int} (h : memE gs k n = 0) : ∀ y ∈ memL gs k n, 0 ≤ y ∧ y < 16 := by
  obtain ⟨h1, h2, h3⟩ := memE_ok h
  rw [memL_ok h]
  have h4 := epE_ok h2
  by_cases hk : k = 1
  · rw [if_pos hk]; intro y hy; simp at hy; omega
  · rw [if_neg hk]
    rcases h3 with h3 | ⟨_, h5, h6⟩
    · exact absurd h3 hk
    exact rowE_range _ _ (groupsE_row h1 _ (getD_mem [] (by omega)))
theorem hasB_iff (l : List Int) (x : Int) : hasB l x = true ↔ x ∈ l := by simp [hasB]
theorem ofG_mem {gs : List (List Int)} {x k n : Int} : (k, n) ∈ ofG gs x gs.length ↔ (k = 1 ∧ n = x) ∨ (k = 2 ∧ 0 ≤ n ∧ n < gs.length ∧ hasB (gs.getD n.toNat []) x = true) := by
  simp only [ofG, List.mem_cons, Prod.mk.injEq, List.mem_map, List.mem_filter, List.mem_range]
  constructor
  · rintro (h | ⟨i, ⟨h1, h2⟩, rfl, rfl⟩)
    · exact .inl h
    · exact .inr ⟨rfl, by omega, by omega, by simpa using h2⟩
  · rintro (h | ⟨rfl, h1, h2, h3⟩)
    · exact .inl h
    · exact .inr ⟨n.toNat, ⟨by omega, h3⟩, rfl, by omega⟩
/-- a node belongs to an endpoint exactly if it is a member, and if the endpoint is one of its -/
theorem belongs_eq {gs : List (List Int)} {k n x : Int} (h1 : memE gs k n = 0) (h2 : ofE gs x = 0) : hasV gs k n x = hasB (memL gs k n) x ∧ hasV gs k n x = (ofL gs x).contains (k, n) := by
  have e : hasV gs k n x = hasB (memL gs k n) x := by rw [hasV, if_pos h1]
  refine ⟨e, ?_⟩
  rw [e, Bool.eq_iff_iff, hasB_iff, List.contains_iff_mem, ofL, if_neg (by simp [h2]), ofG_mem, memL_ok h1]
  obtain ⟨g1, g2, g3⟩ := memE_ok h1
  by_cases hk : k = 1
  · rw [if_pos hk]; simp [hk]; constructor <;> intro h <;> omega
  · rw [if_neg hk]
    rcases g3 with g3 | ⟨g4, g5, g6⟩
    · exact absurd g3 hk
    · simp [g4, g5, g6, hasB]
theorem belongs_no {gs : List (List Int)} {k n x : Int} (h : memE gs k n ≠ 0 ∨ ofE gs x ≠ 0) : hasV gs k n x = false := by
  by_cases h1 : memE gs k n = 0
  · have h2 : ofE gs x ≠ 0 := by rcases h with h | h; exact absurd h1 h; exact h
    have h3 : x < 0 ∨ 16 ≤ x := by
      by_cases hh : x < 0 ∨ 16 ≤ x
      · exact hh
      · exact absurd (by simp only [ofE, (memE_ok h1).1, hh, if_false, ne_eq, not_true_eq_false]) h2
    rw [hasV, if_pos h1]
    cases hb : hasB (memL gs k n) x
    · rfl
    · have := memL_range h1 x ((hasB_iff _ _).1 hb); omega
  · rw [hasV, if_neg h1]
end Go.Proofs.YtbhmmffompapdaaDoor

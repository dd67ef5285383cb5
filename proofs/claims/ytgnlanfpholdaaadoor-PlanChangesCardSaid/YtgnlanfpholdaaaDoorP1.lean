/- Plain laws about plans. -/
import Derived.Test.YtgnlanfpholdaaaDoorF7
namespace Go.Proofs.YtgnlanfpholdaaaDoor
open Go.RowKit
theorem conE_nonneg (c : Con) : 0 ≤ conE c := by unfold conE; split; omega; split; omega; split <;> omega
theorem consE_iff (n : Int) : ∀ (cs pre : List Con), consE n pre cs = 0 ↔ (∀ c ∈ cs, conE c = 0 ∧ c.a < n ∧ c.b < n) ∧ (∀ c ∈ cs, ∀ p ∈ pre, overB c p = false) ∧ cs.Pairwise fun d c => overB c d = false
  | [], pre => by simp [consE]
  | c :: t, pre => by
    rw [consE]
    by_cases h1 : conE c = 0
    · rw [if_neg (by simp [h1])]
      by_cases h2 : n ≤ c.a ∨ n ≤ c.b
      · rw [if_pos h2]
        constructor
        · intro h; cases h
        · intro h; have := h.1 c (by simp); omega
      · rw [if_neg h2]
        by_cases h3 : pre.any (overB c) = true
        · rw [if_pos h3]
          constructor
          · intro h; cases h
          · intro h
            obtain ⟨p, hp, ho⟩ := List.any_eq_true.1 h3
            have := h.2.1 c (by simp) p hp
            rw [ho] at this; cases this
        · rw [if_neg h3, consE_iff n t (pre ++ [c])]
          have h3' : ∀ p ∈ pre, overB c p = false := fun p hp => by
            cases h : overB c p with
            | false => rfl
            | true => exact absurd (List.any_eq_true.2 ⟨p, hp, h⟩) h3
          constructor
          · rintro ⟨a1, a2, a3⟩
            refine ⟨fun d hd => ?_, fun d hd p hp => ?_, ?_⟩
            · rcases List.mem_cons.1 hd with rfl | hd
              · exact ⟨h1, by omega, by omega⟩
              · exact a1 d hd
            · rcases List.mem_cons.1 hd with rfl | hd
              · exact h3' p hp
              · exact a2 d hd p (by simp [hp])
            · rw [List.pairwise_cons]
              exact ⟨fun d hd => a2 d hd c (by simp), a3⟩
          · rintro ⟨a1, a2, a3⟩
            rw [List.pairwise_cons] at a3
            refine ⟨fun d hd => a1 d (by simp [hd]), fun d hd p hp => ?_, a3.2⟩
            rcases List.mem_append.1 hp with hp | hp
            · exact a2 d (by simp [hd]) p hp
            · obtain rfl : p = c := by simpa using hp
              exact a3.1 d hd
    · rw [if_pos h1]
      constructor
      · intro h; exact absurd h h1
      · intro h; exact absurd (h.1 c (by simp)).1 h1
theorem planE_iff (qs : List Int) (cs : List Con) : planE qs cs = 0 ↔ 1 ≤ qs.length ∧ qs.length ≤ 16 ∧ cs.length ≤ 64 ∧ quE qs = 0 ∧ (∀ c ∈ cs, conE c = 0 ∧ c.a < qs.length ∧ c.b < qs.length) ∧ cs.Pairwise fun d c => overB c d = false := by
  unfold planE
  by_cases h1 : qs.length < 1 ∨ 16 < qs.length ∨ 64 < cs.length
  · rw [if_pos h1]
    constructor
    · intro h; cases h
    · intro h; omega
  · rw [if_neg h1]
    by_cases h2 : quE qs = 0
    · rw [if_neg (by simp [h2]), consE_iff]
      constructor
      · rintro ⟨a1, _, a3⟩; exact ⟨by omega, by omega, by omega, h2, a1, a3⟩
      · rintro ⟨_, _, _, _, a1, a3⟩; exact ⟨a1, fun _ _ p hp => by simp at hp, a3⟩
    · rw [if_pos h2]
      constructor
      · intro h; cases h
      · intro h; exact absurd h.2.2.2.1 h2
theorem getD_mem {cs : List Con} {j : Nat} (h : j < cs.length) : cs.getD j Con.zero ∈ cs := by
  rw [List.getD_eq_getElem?_getD, List.getElem?_eq_getElem h]; exact List.getElem_mem h
theorem selL_mem {p : Con → Bool} {cs : List Con} {k : Nat} {x : Int} : x ∈ selL p cs k ↔ ∃ i : Nat, i < k ∧ x = i ∧ p (cs.getD i Con.zero) = true := by
  simp only [selL, List.mem_map, List.mem_filter, List.mem_range]
  constructor
  · rintro ⟨i, ⟨h1, h2⟩, rfl⟩; exact ⟨i, h1, rfl, h2⟩
  · rintro ⟨i, h1, rfl, h2⟩; exact ⟨i, ⟨h1, h2⟩, rfl⟩
theorem hor_in {cs : List Con} : ∀ {k j : Nat}, j < k → (hor cs k).1 ≤ (cs.getD j Con.zero).s ∧ (cs.getD j Con.zero).e ≤ (hor cs k).2
  | k + 1, j, h => by
    rw [hor]
    by_cases hj : j = k
    · subst hj; constructor <;> simp only <;> omega
    · have := hor_in (cs := cs) (k := k) (j := j) (by omega)
      constructor <;> simp only <;> omega
theorem hor_at {cs : List Con} (h0 : 0 < cs.length) : ∀ {k : Nat}, k ≤ cs.length → (∃ j, j < cs.length ∧ (hor cs k).1 = (cs.getD j Con.zero).s) ∧ ∃ j, j < cs.length ∧ (hor cs k).2 = (cs.getD j Con.zero).e
  | 0, _ => ⟨⟨0, h0, rfl⟩, 0, h0, rfl⟩
  | k + 1, h => by
    obtain ⟨⟨j1, a1, e1⟩, j2, a2, e2⟩ := hor_at h0 (k := k) (by omega)
    rw [hor]
    constructor
    · by_cases hm : (hor cs k).1 ≤ (cs.getD k Con.zero).s
      · exact ⟨j1, a1, by simp only; omega⟩
      · exact ⟨k, by omega, by simp only; omega⟩
    · by_cases hm : (cs.getD k Con.zero).e ≤ (hor cs k).2
      · exact ⟨j2, a2, by simp only; omega⟩
      · exact ⟨k, by omega, by simp only; omega⟩
theorem filL_ok {p : Con → Bool} {qs : List Int} {cs : List Con} (h : planE qs cs = 0) : filL p qs cs = selL p cs cs.length := by rw [filL, if_neg (by simp [h])]
theorem act_none {qs : List Int} {cs : List Con} (h : planE qs cs = 0) {t : Int} (ht : t < (hor cs cs.length).1 ∨ (hor cs cs.length).2 ≤ t) : filL (actB t) qs cs = [] := by
  rw [filL_ok h]
  refine List.eq_nil_iff_forall_not_mem.2 fun x hx => ?_
  obtain ⟨i, hi, _, ha⟩ := selL_mem.1 hx
  have := hor_in (cs := cs) hi
  simp only [actB, Bool.and_eq_true, decide_eq_true_eq] at ha
  omega
theorem act_lo {qs : List Int} {cs : List Con} (h : planE qs cs = 0) (h0 : 0 < cs.length) : 0 < (filL (actB (hor cs cs.length).1) qs cs).length ∧ 0 < (filL (actB ((hor cs cs.length).2 - 1)) qs cs).length := by
  rw [filL_ok h, filL_ok h]
  obtain ⟨⟨j1, a1, e1⟩, j2, a2, e2⟩ := hor_at h0 (Nat.le_refl cs.length)
  have hp := ((planE_iff qs cs).1 h).2.2.2.2.1
  have h1 := conE_ok (hp _ (getD_mem a1)).1
  have h2 := conE_ok (hp _ (getD_mem a2)).1
  refine ⟨List.length_pos_of_mem (selL_mem.2 ⟨j1, a1, rfl, ?_⟩), List.length_pos_of_mem (selL_mem.2 ⟨j2, a2, rfl, ?_⟩)⟩
  · simp only [actB, Bool.and_eq_true, decide_eq_true_eq]; omega
  · simp only [actB, Bool.and_eq_true, decide_eq_true_eq]; omega
theorem hor_bounds {qs : List Int} {cs : List Con} (h : planE qs cs = 0) (h0 : 0 < cs.length) : 0 ≤ (hor cs cs.length).1 ∧ (hor cs cs.length).1 < (hor cs cs.length).2 ∧ (hor cs cs.length).2 ≤ 1099511627776 := by
  obtain ⟨⟨j1, a1, e1⟩, j2, a2, e2⟩ := hor_at h0 (Nat.le_refl cs.length)
  have hp := ((planE_iff qs cs).1 h).2.2.2.2.1
  have h1 := conE_ok (hp _ (getD_mem a1)).1
  have h2 := conE_ok (hp _ (getD_mem a2)).1
  have := hor_in (cs := cs) a1
  omega
end Go.Proofs.YtgnlanfpholdaaaDoor

/- Plain laws about Parse and Print: each undoes the other. -/
import Derived.Test.YtgnlanfpholdaaaDoorP8
import Derived.Test.YtgnlanfpholdaaaDoorG13
namespace Go.Proofs.YtgnlanfpholdaaaDoor
open Go.RowKit
theorem joinL_len : ∀ L : List ByteArray, L.length ≤ (joinL L).length
  | [] => by simp
  | x :: r => by
    have := joinL_len r
    have e : joinL (x :: r) = x.data.toList ++ [10] ++ joinL r := by simp [joinL]
    rw [e]; simp only [List.length_append, List.length_cons, List.length_nil]; omega
theorem planL_len {qs : List Int} {cs : List Con} (h : planE qs cs = 0) (hc : cs.length ≤ 12) : (planL qs cs).length ≤ 8192 := by
  have h1 := nodesL_len (planE_len h).2.1 (plan_nums h).1 qs.length (Nat.le_refl _)
  have h2 := consL_len (plan_nums h).2 cs.length (Nat.le_refl _)
  have := (planE_len h).2.1
  rw [planL, List.length_append]; omega
theorem parse_print {qs : List Int} {cs : List Con} (h : planE qs cs = 0) (hc : cs.length ≤ 12) : parseR (printS qs cs) = (qs, cs, 0, 0) := by
  have hl := planL_len h hc
  have e : printS qs cs = ⟨(planL qs cs).toArray⟩ := by rw [printS, if_pos h]
  have hcc : ∀ c ∈ cs, conE c = 0 := fun c hm => (((planE_iff qs cs).1 h).2.2.2.2.1 c hm).1
  rw [e]
  unfold parseR
  rw [if_neg (by rw [mk_size]; omega)]
  have hs : scan [] [] 0 (linesF (planL qs cs).length 1 (planL qs cs)) = .ok (qs, cs) := by
    have ep : planL qs cs = joinL (nodeLs qs qs.length ++ conLs cs) := by rw [planL, plan_lines]
    have hj := linesF_join (nodeLs qs qs.length ++ conLs cs) (planL qs cs).length 1 (by omega) (by rw [ep]; exact joinL_len _) (plan_ended qs cs (plan_nums h).1 (planE_len h).2.1 hcc)
    rw [← ep] at hj
    refine (scan_fold _ _ _ _ _).2 ⟨hj.2, ?_⟩
    rw [hj.1, foldR_append, fold_nodes qs (plan_nums h).1 (planE_len h).2.1 _ (Nat.le_refl _), List.take_length]
    simp only [Option.bind_some]
    rw [fold_cons qs cs [] hcc]
    rfl
  show (match scan [] [] 0 (linesF (planL qs cs).toArray.toList.length 1 (planL qs cs).toArray.toList) with | .error n => _ | .ok p => _) = _
  rw [show (planL qs cs).toArray.toList = planL qs cs from by simp, hs]
  simp [h]
theorem scan_pos : ∀ (X : List (Int × ByteArray)) (Q : List Int) (C : List Con) (n m : Nat), scan Q C n X = .error m → n + 1 ≤ m
  | [], Q, C, n, m, h => by unfold scan at h; cases h
  | x :: r, Q, C, n, m, h => by
    rw [scan] at h
    cases hs : stepL Q C x with
    | none => rw [hs] at h; cases h; omega
    | some p => rw [hs] at h; have := scan_pos r _ _ _ _ h; omega
theorem conE_lt (c : Con) : conE c ≠ 3 := by
  unfold conE
  split
  · omega
  · split
    · omega
    · split <;> omega
theorem consE_ne (n : Int) : ∀ (cs pre : List Con), consE n pre cs ≠ 3
  | [], pre => by simp [consE]
  | c :: t, pre => by
    rw [consE]
    split
    · exact conE_lt c
    · split
      · omega
      · split
        · omega
        · exact consE_ne n t _
theorem planE_ne (qs : List Int) (cs : List Con) : planE qs cs ≠ 3 := by
  unfold planE
  split
  · omega
  · split
    · omega
    · exact consE_ne _ _ _
theorem print_parse {s : ByteArray} (h : (parseR s).2.2.2 = 0) : planE (parseR s).1 (parseR s).2.1 = 0 ∧ (parseR s).2.2.1 = 0 ∧ printS (parseR s).1 (parseR s).2.1 = s := by
  unfold parseR at h ⊢
  split at h
  · cases h
  · rename_i hs
    rw [if_neg hs]
    split at h
    · cases h
    · rename_i p hp
      split at h
      · rename_i hE; exact absurd h hE
      · rename_i hE
        have hE' : planE p.1 p.2 = 0 := by simpa using hE
        simp only [hE', ne_eq, not_true_eq_false, if_false]
        refine ⟨trivial, trivial, ?_⟩
        obtain ⟨h1, h2⟩ := (scan_fold _ _ _ _ _).1 hp
        have hb := linesF_back _ 1 s.data.toList (Nat.le_refl _) h1
        have ht := fold_text _ _ _ _ _ h2
        rw [hb] at ht
        rw [printS, if_pos hE', planL]
        rw [← ht]
        simp [nodesL, consL]
theorem parse_fail {s : ByteArray} (h : (parseR s).2.2.2 ≠ 0) : (parseR s).1 = [] ∧ (parseR s).2.1 = [] ∧ (0 < (parseR s).2.2.1 ↔ (parseR s).2.2.2 = 3) := by
  unfold parseR at h ⊢
  split at h
  · rename_i hs; rw [if_pos hs]; simp
  · rename_i hs
    rw [if_neg hs]
    split at h
    · rename_i n hn
      have := scan_pos _ _ _ _ _ hn
      simp only
      refine ⟨trivial, trivial, ?_⟩
      constructor
      · intro _; trivial
      · intro _; omega
    · rename_i p hp
      split at h
      · rename_i hE
        simp only [hE, if_true, ne_eq, not_false_eq_true]
        refine ⟨trivial, trivial, ?_⟩
        have := planE_ne p.1 p.2
        constructor
        · intro h; omega
        · intro h; exact absurd h this
      · exact absurd rfl h
end Go.Proofs.YtgnlanfpholdaaaDoor

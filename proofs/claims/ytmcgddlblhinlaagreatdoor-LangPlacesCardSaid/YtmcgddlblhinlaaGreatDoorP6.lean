/- Plain: where the first error of a text lies. -/
import Derived.Test.YtmcgddlblhinlaaGreatDoorP3
import Derived.Lib.Join
namespace Go.Proofs.YtmcgddlblhinlaaGreatDoor
/-- the lines of a text, their ends with them -/
def pcs (K : Nat) (l : List UInt8) : List ByteArray := Lib.splitB ⟨#[10]⟩ 1 K ⟨l.toArray⟩
theorem pcs_hit (k : Nat) {a b : List UInt8} (h : (10 : UInt8) ∉ a) : pcs (k + 1) (a ++ 10 :: b) = ⟨(a ++ [10]).toArray⟩ :: pcs k b := by
  have e : Lib.indexB ⟨(a ++ 10 :: b).toArray⟩ ⟨#[10]⟩ = (a.length : Int) := (index_one 10 a h).1 b
  have e1 : (ByteArray.mk (a ++ 10 :: b).toArray).extract (a.length + (ByteArray.mk #[10]).size) (ByteArray.mk (a ++ 10 :: b).toArray).size = ⟨b.toArray⟩ := by
    refine bs_ext ?_
    rw [Lib.extract_to_end]
    show (a ++ 10 :: b).toArray.toList.drop (a.length + 1) = b
    simp
  have e2 : (ByteArray.mk (a ++ 10 :: b).toArray).extract 0 (a.length + 1) = ⟨(a ++ [10]).toArray⟩ := by
    refine bs_ext ?_
    rw [Lib.extract_data]
    show ((a ++ 10 :: b).toArray.toList.drop 0).take (a.length + 1 - 0) = a ++ [10]
    simp [List.take_append]
    exact List.take_of_length_le (by omega)
  unfold pcs
  rw [Lib.splitB_hit _ _ _ _ _ e, e1, e2]
theorem pcs_miss (k : Nat) {a : List UInt8} (h : (10 : UInt8) ∉ a) : pcs k a = [⟨a.toArray⟩] := by
  have e : Lib.indexB ⟨a.toArray⟩ ⟨#[10]⟩ = -1 := (index_one 10 a h).2
  unfold pcs
  exact Lib.splitB_miss _ _ _ _ e
/-- pieces put together -/
def catB (xs : List ByteArray) : List UInt8 := xs.flatMap fun x => x.data.toList
theorem join_cat (xs : List ByteArray) : Lib.join (xs.map (·.data.toList)) [] = catB xs := by
  cases xs with
  | nil => rfl
  | cons x t =>
    rw [List.map_cons, Lib.join_cons]
    simp [catB, Lib.joinTail, List.flatMap]
    rfl
theorem suffix_mem {l : List UInt8} (h : Lib.hasSuffix l [10] = true) : (10 : UInt8) ∈ l := by
  have h2 : [(10 : UInt8)] <:+ l := List.isSuffixOf_iff_suffix.1 h
  exact h2.subset (by simp)
theorem scan_place : ∀ (f : Nat) (K : Nat) (l : List UInt8) (st : St) (k n : Int), l.length ≤ f → l.count 10 ≤ K → scanM st (linesT f k l) = .error n →
    ∃ j : Nat, n = k + j ∧ j < (pcs K l).length ∧ (Lib.hasSuffix ((pcs K l).getD j ⟨#[]⟩).data.toList [10] = true → ∀ (rest : List UInt8) (f' : Nat), (catB ((pcs K l).take (j + 1)) ++ rest).length ≤ f' → scanM st (linesT f' k (catB ((pcs K l).take (j + 1)) ++ rest)) = .error n)
  | 0, K, l, st, k, n, hf, hK, h => by
    have : l = [] := List.eq_nil_of_length_eq_zero (by omega)
    subst this
    cases h
  | f + 1, K, l, st, k, n, hf, hK, h => by
    by_cases hl : l = []
    · subst hl; rw [linesT_nil] at h; cases h
    rw [linesT_succ, if_neg hl, scanM] at h
    by_cases hm : (10 : UInt8) ∈ l
    · obtain ⟨a, b, rfl, ha⟩ := mem_split hm
      have hc := cut_hit (b := b) ha
      have hlo : lineOf (a ++ 10 :: b) = a := by rw [lineOf, hc]; rfl
      rw [hlo, hc] at h
      have hcnt : (a ++ 10 :: b).count 10 = b.count 10 + 1 := by
        rw [List.count_append, List.count_cons_self, List.count_eq_zero.2 ha]; omega
      obtain ⟨K, rfl⟩ : ∃ K', K = K' + 1 := ⟨K - 1, by omega⟩
      rw [pcs_hit K ha]
      have hgo : ∀ (rest : List UInt8) (f' : Nat), (a ++ 10 :: rest).length ≤ f' → ∃ f'', f' = f'' + 1 ∧ rest.length ≤ f'' ∧ linesT f' k (a ++ 10 :: rest) = (k, ⟨a.toArray⟩) :: linesT f'' (k + 1) rest := fun rest f' hf' => by
        have hl2 : (a ++ 10 :: rest).length = a.length + (rest.length + 1) := by simp
        obtain ⟨f'', rfl⟩ : ∃ f'', f' = f'' + 1 := ⟨f' - 1, by omega⟩
        refine ⟨f'', rfl, by omega, ?_⟩
        have hc2 := cut_hit (b := rest) ha
        rw [linesT_succ, if_neg (by simp), lineOf, hc2]
        rfl
      cases hr : readS st a with
      | none =>
        simp only [hr] at h
        cases h
        refine ⟨0, by omega, by simp, fun _ rest f' hf' => ?_⟩
        have e : catB ((⟨(a ++ [10]).toArray⟩ :: pcs K b).take (0 + 1)) ++ rest = a ++ 10 :: rest := by simp [catB]
        rw [e] at hf' ⊢
        obtain ⟨f'', -, -, h3⟩ := hgo rest f' hf'
        rw [h3, scanM]
        simp [hr]
      | some st1 =>
        simp only [hr] at h
        obtain ⟨j, h1, h2, h3⟩ := scan_place f K b st1 (k + 1) n (by simp at hf; omega) (by omega) h
        refine ⟨j + 1, by omega, by simp; omega, fun hs rest f' hf' => ?_⟩
        have e : catB ((⟨(a ++ [10]).toArray⟩ :: pcs K b).take (j + 1 + 1)) ++ rest = a ++ 10 :: (catB ((pcs K b).take (j + 1)) ++ rest) := by simp [catB]
        rw [e] at hf' ⊢
        obtain ⟨f'', -, h5, h6⟩ := hgo _ f' hf'
        rw [h6, scanM]
        simp only [hr]
        exact h3 (by simpa using hs) rest f'' h5
    · rw [pcs_miss K hm]
      have hc := cut_miss hm
      have hlo : lineOf l = [] := by rw [lineOf, hc]; rfl
      rw [hlo, hc, linesT_nil] at h
      cases hr : readS st [] with
      | none =>
        simp only [hr] at h
        cases h
        refine ⟨0, by omega, by simp, fun hs => absurd (suffix_mem (by simpa using hs)) hm⟩
      | some st1 =>
        simp only [hr, scanM] at h
        cases h
theorem parse_syntax {s : ByteArray} (h : (parseR s).2.2 = 3) (hne : ∀ m, misE m ≠ 3) : s.size ≤ 8192 ∧ scanM St.zero (linesT s.data.toList.length 1 s.data.toList) = .error (parseR s).2.1 ∧ (parseR s).1 = Mis.zero := by
  unfold parseR at h ⊢
  by_cases hs : 8192 < s.size
  · rw [if_pos hs] at h; cases h
  rw [if_neg hs] at h ⊢
  cases hsc : scanM St.zero (linesT s.data.toList.length 1 s.data.toList) with
  | error n => exact ⟨by omega, rfl, rfl⟩
  | ok st =>
    rw [hsc] at h
    simp only at h
    split at h
    · exact absurd h (hne _)
    · cases h
/-- the error of a text stays where it is -/
theorem parse_place {s : ByteArray} (h : (parseR s).2.2 = 3) (hne : ∀ m, misE m ≠ 3) (K : Nat) (hK : s.data.toList.count 10 ≤ K) :
    ∃ j : Nat, (parseR s).2.1 = 1 + j ∧ j < (pcs K s.data.toList).length ∧ (Lib.hasSuffix ((pcs K s.data.toList).getD j ⟨#[]⟩).data.toList [10] = true → ∀ rest : List UInt8, (catB ((pcs K s.data.toList).take (j + 1)) ++ rest).length ≤ 8192 → parseR ⟨(catB ((pcs K s.data.toList).take (j + 1)) ++ rest).toArray⟩ = (Mis.zero, (parseR s).2.1, 3)) := by
  obtain ⟨h1, h2, -⟩ := parse_syntax h hne
  obtain ⟨j, h3, h4, h5⟩ := scan_place _ K _ _ _ _ (Nat.le_refl _) hK h2
  refine ⟨j, h3, h4, fun hs rest hl => ?_⟩
  have h6 := h5 hs rest _ (Nat.le_refl _)
  generalize catB ((pcs K s.data.toList).take (j + 1)) ++ rest = t at *
  generalize (parseR s).2.1 = n at *
  have h7 : ¬ 8192 < (⟨t.toArray⟩ : ByteArray).size := by show ¬ 8192 < t.length; omega
  unfold parseR
  rw [if_neg h7]
  show (match scanM St.zero (linesT t.length 1 t) with | .error n => _ | .ok st => _) = _
  rw [h6]
theorem pcs_cat : ∀ (K : Nat) (l : List UInt8), (catB (pcs K l)).length ≤ l.length
  | 0, l => by simp [pcs, Lib.splitB, catB]
  | K + 1, l => by
    by_cases hm : (10 : UInt8) ∈ l
    · obtain ⟨a, b, rfl, ha⟩ := mem_split hm
      rw [pcs_hit K ha]
      have := pcs_cat K b
      simp [catB] at this ⊢
      omega
    · rw [pcs_miss _ hm]; simp [catB]
theorem catB_take (xs : List ByteArray) (k : Nat) : (catB (xs.take k)).length ≤ (catB xs).length := by
  have : catB xs = catB (xs.take k) ++ catB (xs.drop k) := by
    unfold catB
    rw [← List.flatMap_append, List.take_append_drop]
  rw [this, List.length_append]
  omega
theorem consE_ne3 {n : Int} : ∀ (cs pre : List Con), consE n pre cs ≠ 3
  | [], _ => by simp [consE]
  | c :: t, pre => by
    have ih := consE_ne3 (n := n) t (pre ++ [c])
    have h1 : conE c ≠ 3 := by unfold conE; repeat' split
                               all_goals decide
    rw [consE]
    repeat' split
    all_goals first | assumption | decide
theorem bksE1_ne3 : ∀ l : List Blk, bksE1 l ≠ 3
  | [] => by simp [bksE1]
  | b :: t => by
    have ih := bksE1_ne3 t
    have h1 : blE b ≠ 3 := by unfold blE; repeat' split
                              all_goals decide
    rw [bksE1]
    split
    · exact h1
    · exact ih
theorem ordE_ne3 (p : List Bun) (n : Int) (x : Bun) : ordE p n x ≠ 3 := by
  have h1 : idE x.s x.c x.q x.o x.t ≠ 3 := by unfold idE; repeat' split
                                              all_goals decide
  have h2 : epE x.dk x.dn ≠ 3 := by unfold epE; repeat' split
                                    all_goals decide
  have h3 : flE x.t x.fl ≠ 3 := by unfold flE; repeat' split
                                   all_goals decide
  have h4 : bksE x.bl ≠ 3 := by
    have := bksE1_ne3 x.bl
    unfold bksE; repeat' split
    all_goals first | assumption | decide
  have h5 : pyE x.py.size x.o x.t ≠ 3 := by unfold pyE; repeat' split
                                            all_goals decide
  have h6 : bunE x ≠ 3 := by
    unfold bunE
    repeat' split
    all_goals first | assumption | decide
  unfold ordE
  repeat' split
  all_goals first | assumption | decide
theorem ordsE_ne3 {n : Int} : ∀ (os pre : List Bun), ordsE n pre os ≠ 3
  | [], _ => by simp [ordsE]
  | x :: t, pre => by
    have ih := ordsE_ne3 (n := n) t (pre ++ [x])
    have h1 := ordE_ne3 pre n x
    rw [ordsE]
    split
    · exact h1
    · exact ih
theorem misE_ne3 (m : Mis) : misE m ≠ 3 := by
  have h1 : planE m.q m.cs ≠ 3 := by
    have := consE_ne3 (n := m.q.length) m.cs []
    unfold planE
    repeat' split
    all_goals first | assumption | decide
  have h2 := ordsE_ne3 (n := m.q.length) m.os []
  unfold misE
  repeat' split
  all_goals first | assumption | decide
end Go.Proofs.YtmcgddlblhinlaaGreatDoor

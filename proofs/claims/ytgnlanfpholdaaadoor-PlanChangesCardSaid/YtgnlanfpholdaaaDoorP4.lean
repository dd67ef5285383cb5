/- Plain laws about plans with one contact more or less. -/
import Derived.Test.YtgnlanfpholdaaaDoorG10
import Derived.Test.YtgnlanfpholdaaaDoorG5
import Derived.Test.YtgnlanfpholdaaaDoorP2
namespace Go.Proofs.YtgnlanfpholdaaaDoor
open Go.RowKit
theorem delL_erase (cs : List Con) (k : Nat) : delL cs k = cs.eraseIdx k := by rw [delL, List.eraseIdx_eq_take_drop_succ]
theorem delL_ok {qs : List Int} {cs : List Con} (h : planE qs cs = 0) (k : Nat) : planE qs (delL cs k) = 0 := by
  obtain ⟨h1, h2, h3, h4, h5, h6⟩ := (planE_iff qs cs).1 h
  have hs : (delL cs k).Sublist cs := by rw [delL_erase]; exact List.eraseIdx_sublist cs k
  exact (planE_iff qs (delL cs k)).2 ⟨h1, h2, Nat.le_trans hs.length_le h3, h4, fun c hc => h5 c (hs.subset hc), h6.sublist hs⟩
theorem delL_last (cs : List Con) (c : Con) : delL (cs ++ [c]) cs.length = cs := by
  unfold delL
  rw [List.take_left, List.drop_of_length_le (by simp)]
  simp
theorem findI_last (p : Con → Bool) (c : Con) (hc : p c = true) : ∀ (cs : List Con) (k : Nat), (∀ d ∈ cs, p d = false) → findI p (cs ++ [c]) k = k + cs.length
  | [], k, _ => by simp [findI, hc]
  | d :: t, k, h => by
    have h0 := h d (by simp)
    show findI p (d :: (t ++ [c])) k = _
    unfold findI
    rw [if_neg (by rw [h0]; exact Bool.false_ne_true), findI_last p c hc t (k + 1) (fun x hx => h x (by simp [hx]))]
    simp; omega
theorem find_added {qs : List Int} {cs : List Con} {c : Con} (h : planE qs (cs ++ [c]) = 0) : findI (likeB c) (cs ++ [c]) 0 = cs.length := by
  obtain ⟨_, _, _, _, h5, h6⟩ := (planE_iff qs _).1 h
  rw [findI_last (likeB c) c (by simp [likeB]) cs 0 ?_]
  · simp
  intro d hd
  cases hl : likeB c d with
  | false => rfl
  | true =>
    exfalso
    have ho := (List.pairwise_append.1 h6).2.2 d hd c (by simp)
    have g1 := conE_ok (h5 d (by simp [hd])).1
    have g2 := conE_ok (h5 c (by simp)).1
    simp only [likeB, Bool.and_eq_true, beq_iff_eq] at hl
    simp only [overB, decide_eq_false_iff_not] at ho
    exact ho ⟨(h5 c (by simp)).1, (h5 d (by simp [hd])).1, by omega, by omega, by omega, by omega⟩
end Go.Proofs.YtgnlanfpholdaaaDoor

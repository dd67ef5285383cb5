/- Great: the bounds of what is examined. -/
import Derived.Test.YthlfhfliidhelaaGreatDoorY0
set_option linter.unusedSimpArgs false
set_option linter.unusedVariables false
set_option linter.all false
namespace Go.Proofs.YthlfhfliidhelaaGreatDoor
open Go.RowKit
def Q6 (a : Arc) (j : Nat) : Prop := (a.an.getD j ⟨false, 0, [], []⟩).sh.length ≤ 60 ∧ (a.an.getD j ⟨false, 0, [], []⟩).cu.length ≤ 8 ∧ ∀ i, i < (a.an.getD j ⟨false, 0, [], []⟩).cu.length → ((a.an.getD j ⟨false, 0, [], []⟩).cu.getD i []).length ≤ 60
structure GB (a : Arc) : Prop where
  ms : a.ms.size ≤ 4000
  lg : a.lg.size ≤ 4000
  tk : a.tk.length ≤ 12
  an : a.an.length ≤ 5
  dm : a.dm.length ≤ 5
  hs : ∀ j, j < a.tk.length → (a.tk.getD j ⟨0, 0, 0, 0, 0, 0, 0, false, [], 0, 0⟩).hs.length ≤ 12
  sh : ∀ j, j < a.an.length → Q6 a j
def GPost (a : Arc) (w : World) (e : Ending) (w' : World) : Prop := ∃ b, e = .returned (.bool b) ∧ Below w.heap.size w w' ∧ (b = false → GB a)
set_option maxRecDepth 100000 in
set_option maxHeartbeats 2000000 in
theorem great_any (a : Arc) (VT VA VD : Value) (w : World) (h : ArcAt w w.heap.size VT VA VD a) : Calls Tryz.prog 4 #[.agg #[.string a.ms, .string a.lg, VT, VA, VD]] w (GPost a w) := by
  obtain ⟨AT, cT, rfl, hT1, hT2, hT3⟩ := h.tk
  obtain ⟨AA, cA, rfl, hA1, hA2, hA3⟩ := h.an
  obtain ⟨AD, cD, rfl, hD1, hD2, hD3⟩ := h.dm
  have HT := Lib.hid hT3
  have HA := Lib.hid hA3
  clear hT3 hA3 hD3 h
  unfold maxLen at hT2 hA2 hD2
  by_cases g1 : (4000 : Int) < a.ms.size
  · go_enter Tryz.func4, Tryz.ntmps4
    go_wp2_with fail
    go_ret
    exact ⟨_, rfl, by (repeat' (first | (with_reducible exact Below.refl _ _) | (with_reducible refine Below.alloc ?_ ?_ _) | (with_reducible refine Below.drew ?_) | (with_reducible refine below_drewN ?_ _) | (with_reducible refine Below.setCell ?_ ?_ _) | (with_reducible refine Below.trans ?_ (Below.mono (by assumption) ?_)) | (with_reducible exact Nat.le_refl _) | omega | (simp; omega) | (simp; done))), fun e => by cases e⟩
  by_cases g2 : (4000 : Int) < a.lg.size
  · go_enter Tryz.func4, Tryz.ntmps4
    go_wp2_with fail
    go_ret
    exact ⟨_, rfl, by (repeat' (first | (with_reducible exact Below.refl _ _) | (with_reducible refine Below.alloc ?_ ?_ _) | (with_reducible refine Below.drew ?_) | (with_reducible refine below_drewN ?_ _) | (with_reducible refine Below.setCell ?_ ?_ _) | (with_reducible refine Below.trans ?_ (Below.mono (by assumption) ?_)) | (with_reducible exact Nat.le_refl _) | omega | (simp; omega) | (simp; done))), fun e => by cases e⟩
  by_cases g3 : (12 : Int) < a.tk.length
  · go_enter Tryz.func4, Tryz.ntmps4
    go_wp2_with fail
    go_ret
    exact ⟨_, rfl, by (repeat' (first | (with_reducible exact Below.refl _ _) | (with_reducible refine Below.alloc ?_ ?_ _) | (with_reducible refine Below.drew ?_) | (with_reducible refine below_drewN ?_ _) | (with_reducible refine Below.setCell ?_ ?_ _) | (with_reducible refine Below.trans ?_ (Below.mono (by assumption) ?_)) | (with_reducible exact Nat.le_refl _) | omega | (simp; omega) | (simp; done))), fun e => by cases e⟩
  by_cases g4 : (5 : Int) < a.an.length
  · go_enter Tryz.func4, Tryz.ntmps4
    go_wp2_with fail
    go_ret
    exact ⟨_, rfl, by (repeat' (first | (with_reducible exact Below.refl _ _) | (with_reducible refine Below.alloc ?_ ?_ _) | (with_reducible refine Below.drew ?_) | (with_reducible refine below_drewN ?_ _) | (with_reducible refine Below.setCell ?_ ?_ _) | (with_reducible refine Below.trans ?_ (Below.mono (by assumption) ?_)) | (with_reducible exact Nat.le_refl _) | omega | (simp; omega) | (simp; done))), fun e => by cases e⟩
  by_cases g5 : (5 : Int) < a.dm.length
  · go_enter Tryz.func4, Tryz.ntmps4
    go_wp2_with fail
    go_ret
    exact ⟨_, rfl, by (repeat' (first | (with_reducible exact Below.refl _ _) | (with_reducible refine Below.alloc ?_ ?_ _) | (with_reducible refine Below.drew ?_) | (with_reducible refine below_drewN ?_ _) | (with_reducible refine Below.setCell ?_ ?_ _) | (with_reducible refine Below.trans ?_ (Below.mono (by assumption) ?_)) | (with_reducible exact Nat.le_refl _) | omega | (simp; omega) | (simp; done))), fun e => by cases e⟩
  go_enter Tryz.func4, Tryz.ntmps4
  go_wp2_with fail
  go_loopw [3] (fun i wr => ∃ k : Nat, k ≤ a.tk.length ∧ i = .int .i64 k ∧ Hid (∀ j, j < k → (a.tk.getD j ⟨0, 0, 0, 0, 0, 0, 0, false, [], 0, 0⟩).hs.length ≤ 12) ∧ wr = w.alloc (.cells #[.string a.ms, .string a.lg, .slice AT a.tk.length cT, .slice AA a.an.length cA, .slice AD a.dm.length cD] 26)) (fun i _ => a.tk.length - (intOf i).toNat)
  case atStart => exact ⟨0, Nat.zero_le _, rfl, fun j h => absurd h (Nat.not_lt_zero _), rfl⟩
  case round =>
    obtain ⟨k, hk, rfl, HS, rfl⟩ := hrel
    by_cases hlt : k < a.tk.length
    · obtain ⟨b, o, rfl, hb, hcell⟩ := HT.out (by omega)
      obtain ⟨_, _, _, _, _, _, _, _, ⟨U, h8, hU⟩, _, _⟩ := hcell k hlt
      obtain ⟨AU, cU, rfl, hU1, hU2, _⟩ := hU
      have HN : Hid (∀ _ : (a.tk.getD k ⟨0, 0, 0, 0, 0, 0, 0, false, [], 0, 0⟩).hs.length ≤ 12, ∀ j, j < k + 1 → (a.tk.getD j ⟨0, 0, 0, 0, 0, 0, 0, false, [], 0, 0⟩).hs.length ≤ 12) := fun h j hj => by
        by_cases e : j < k
        · exact HS.out j e
        · obtain rfl : j = k := by omega
          exact h
      generalize (a.tk.getD k ⟨0, 0, 0, 0, 0, 0, 0, false, [], 0, 0⟩).hs.length = n at *
      clear hcell
      by_cases hn : (12 : Int) < n
      · go_wp2_with fail
        go_ret
        exact ⟨_, rfl, by (repeat' (first | (with_reducible exact Below.refl _ _) | (with_reducible refine Below.alloc ?_ ?_ _) | (with_reducible refine Below.drew ?_) | (with_reducible refine below_drewN ?_ _) | (with_reducible refine Below.setCell ?_ ?_ _) | (with_reducible refine Below.trans ?_ (Below.mono (by assumption) ?_)) | (with_reducible exact Nat.le_refl _) | omega | (simp; omega) | (simp; done))), fun e => by cases e⟩
      · have HN2 := Lib.hid (HN.out (by omega))
        go_wp2_with fail
        go_roundw
        case rel => exact ⟨k + 1, by omega, by go_num, HN2, by first | rfl | trivial⟩
        case measure => simp [intOf]; omega
    · have HSS : Hid (∀ j, j < a.tk.length → (a.tk.getD j ⟨0, 0, 0, 0, 0, 0, 0, false, [], 0, 0⟩).hs.length ≤ 12) := fun j hj => HS.out j (by omega)
      clear HS
      go_wp2_with fail
      go_loopw [4] (fun i wr => ∃ k : Nat, k ≤ a.an.length ∧ i = .int .i64 k ∧ Hid (∀ j, j < k → Q6 a j) ∧ wr = w.alloc (.cells #[.string a.ms, .string a.lg, .slice AT a.tk.length cT, .slice AA a.an.length cA, .slice AD a.dm.length cD] 26)) (fun i _ => a.an.length - (intOf i).toNat)
      case atStart => exact ⟨0, Nat.zero_le _, rfl, fun j h => absurd h (Nat.not_lt_zero _), rfl⟩
      case round =>
        obtain ⟨k, hk, rfl, HS, rfl⟩ := hrel
        by_cases hlt : k < a.an.length
        · obtain ⟨b, o, rfl, hb, hcell⟩ := HA.out (by omega)
          obtain ⟨_, _, ⟨U, h8, hU⟩, ⟨V, h9, hV⟩⟩ := hcell k hlt
          obtain ⟨AU, cU, rfl, hU1, hU2, _⟩ := hU
          obtain ⟨AV, cV, rfl, hV1, hV2, hV3⟩ := hV
          have HV := Lib.hid hV3
          clear hV3 hcell
          unfold maxLen at hV2 hU2
          have HN : Hid (∀ _ : Q6 a k, ∀ j, j < k + 1 → Q6 a j) := fun h j hj => by
            by_cases e : j < k
            · exact HS.out j e
            · obtain rfl : j = k := by omega
              exact h
          have HQ : Hid (∀ (_ : (a.an.getD k ⟨false, 0, [], []⟩).sh.length ≤ 60) (_ : (a.an.getD k ⟨false, 0, [], []⟩).cu.length ≤ 8) (_ : ∀ i, i < (a.an.getD k ⟨false, 0, [], []⟩).cu.length → ((a.an.getD k ⟨false, 0, [], []⟩).cu.getD i []).length ≤ 60), Q6 a k) := fun h1 h2 h3 => ⟨h1, h2, h3⟩
          generalize (a.an.getD k ⟨false, 0, [], []⟩).sh.length = n at *
          generalize (a.an.getD k ⟨false, 0, [], []⟩).cu = cu at *
          by_cases hn : (60 : Int) < n
          · go_wp2_with fail
            go_ret
            exact ⟨_, rfl, by (repeat' (first | (with_reducible exact Below.refl _ _) | (with_reducible refine Below.alloc ?_ ?_ _) | (with_reducible refine Below.drew ?_) | (with_reducible refine below_drewN ?_ _) | (with_reducible refine Below.setCell ?_ ?_ _) | (with_reducible refine Below.trans ?_ (Below.mono (by assumption) ?_)) | (with_reducible exact Nat.le_refl _) | omega | (simp; omega) | (simp; done))), fun e => by cases e⟩
          by_cases hn2 : (8 : Int) < cu.length
          · go_wp2_with fail
            go_ret
            exact ⟨_, rfl, by (repeat' (first | (with_reducible exact Below.refl _ _) | (with_reducible refine Below.alloc ?_ ?_ _) | (with_reducible refine Below.drew ?_) | (with_reducible refine below_drewN ?_ _) | (with_reducible refine Below.setCell ?_ ?_ _) | (with_reducible refine Below.trans ?_ (Below.mono (by assumption) ?_)) | (with_reducible exact Nat.le_refl _) | omega | (simp; omega) | (simp; done))), fun e => by cases e⟩
          go_wp2_with fail
          go_loopw [5] (fun i wr => ∃ m : Nat, m ≤ cu.length ∧ i = .int .i64 m ∧ Hid (∀ j, j < m → (cu.getD j []).length ≤ 60) ∧ wr = w.alloc (.cells #[.string a.ms, .string a.lg, .slice AT a.tk.length cT, .slice (some ⟨b, o, none⟩) a.an.length cA, .slice AD a.dm.length cD] 26)) (fun i _ => cu.length - (intOf i).toNat)
          case atStart => exact ⟨0, Nat.zero_le _, rfl, fun j h => absurd h (Nat.not_lt_zero _), rfl⟩
          case round =>
            obtain ⟨m, hm, rfl, HM, rfl⟩ := hrel
            by_cases hmt : m < cu.length
            · obtain ⟨b2, o2, rfl, hb2, hcell2⟩ := HV.out (by omega)
              obtain ⟨X, h10, hX⟩ := hcell2 m hmt
              obtain ⟨AX, cX, rfl, hX1, hX2, _⟩ := hX
              clear hcell2
              rw [Nat.mul_one] at h10
              unfold maxLen at hX2
              have HN3 : Hid (∀ _ : (cu.getD m []).length ≤ 60, ∀ j, j < m + 1 → (cu.getD j []).length ≤ 60) := fun h j hj => by
                by_cases e : j < m
                · exact HM.out j e
                · obtain rfl : j = m := by omega
                  exact h
              generalize (cu.getD m []).length = z at *
              by_cases hz : (60 : Int) < z
              · go_wp2_with fail
                go_ret
                exact ⟨_, rfl, by (repeat' (first | (with_reducible exact Below.refl _ _) | (with_reducible refine Below.alloc ?_ ?_ _) | (with_reducible refine Below.drew ?_) | (with_reducible refine below_drewN ?_ _) | (with_reducible refine Below.setCell ?_ ?_ _) | (with_reducible refine Below.trans ?_ (Below.mono (by assumption) ?_)) | (with_reducible exact Nat.le_refl _) | omega | (simp; omega) | (simp; done))), fun e => by cases e⟩
              · have HN4 := Lib.hid (HN3.out (by omega))
                go_wp2_with fail
                go_roundw
                case rel => exact ⟨m + 1, by omega, by go_num, HN4, by first | rfl | trivial⟩
                case measure => simp [intOf]; omega
            · have HN5 := Lib.hid (HN.out (HQ.out (by omega) (by omega) (fun i hi => HM.out i (by omega))))
              clear HN HQ HM
              go_wp2_with fail
              go_roundw
              case rel => exact ⟨k + 1, by omega, by go_num, HN5, by first | rfl | trivial⟩
              case measure => simp [intOf]; omega
        · have HG : Hid (GB a) := ⟨by omega, by omega, by omega, by omega, by omega, HSS.out, fun j hj => HS.out j (by omega)⟩
          clear HS HSS
          go_wp2_with fail
          go_ret
          exact ⟨_, rfl, by (repeat' (first | (with_reducible exact Below.refl _ _) | (with_reducible refine Below.alloc ?_ ?_ _) | (with_reducible refine Below.drew ?_) | (with_reducible refine below_drewN ?_ _) | (with_reducible refine Below.setCell ?_ ?_ _) | (with_reducible refine Below.trans ?_ (Below.mono (by assumption) ?_)) | (with_reducible exact Nat.le_refl _) | omega | (simp; omega) | (simp; done))), fun _ => HG.out⟩
end Go.Proofs.YthlfhfliidhelaaGreatDoor

/- The reference's Same. -/
import Derived.Test.YtpcbccpobhdokaaGreatDoorE6
import Derived.Lib.Strings
set_option linter.unusedSimpArgs false
set_option linter.unusedVariables false
set_option linter.all false
namespace Go.Proofs.YtpcbccpobhdokaaGreatDoor
open Go.RowKit
theorem Met.ext_iff' (x y : Met) : x = y ↔ x.n = y.n ∧ x.i = y.i ∧ x.a = y.a ∧ x.b = y.b := by
  cases x; cases y; simp
instance : DecidableEq Met := fun x y => decidable_of_iff _ (Met.ext_iff' x y).symm
theorem ba_list (s t : ByteArray) : s.toList = t.toList ↔ s = t := by
  rw [ByteArray.toList_eq, ByteArray.toList_eq]
  constructor
  · intro h; cases s; cases t; simpa using h
  · rintro rfl; rfl
theorem neq_met (x y : Met) (W : World) : (binOp .neq 37 (.agg #[.string x.n, .int .i64 x.i, .int .i64 x.a, .int .i64 x.b]) (.agg #[.string y.n, .int .i64 y.i, .int .i64 y.a, .int .i64 y.b])).run Tryz.prog W = .ok (.bool (!decide (x = y))) W := by
  by_cases h0 : x.n.toList = y.n.toList
  · have g0 := (ba_list _ _).1 h0
    by_cases h1 : x.i = y.i
    · by_cases h2 : x.a = y.a
      · by_cases h3 : x.b = y.b
        · have e : decide (x = y) = true := by
            rw [decide_eq_true_iff, Met.ext_iff']
            exact ⟨g0, h1, h2, h3⟩
          rw [e]
          go_simp
        · have e : decide (x = y) = false := by
            rw [decide_eq_false_iff_not]; rintro rfl; exact h3 rfl
          rw [e]
          go_simp
      · have e : decide (x = y) = false := by
          rw [decide_eq_false_iff_not]; rintro rfl; exact h2 rfl
        rw [e]
        go_simp
    · have e : decide (x = y) = false := by
        rw [decide_eq_false_iff_not]; rintro rfl; exact h1 rfl
      rw [e]
      go_simp
  · have e : decide (x = y) = false := by
      rw [decide_eq_false_iff_not]; rintro rfl; exact h0 rfl
    rw [e]
    go_simp
def sameL : List Met → List Met → Bool
  | [], [] => true
  | x :: t, y :: u => decide (x = y) && sameL t u
  | _, _ => false
theorem sameL_iff : ∀ (xs ys : List Met), sameL xs ys = true ↔ xs = ys
  | [], [] => by simp [sameL]
  | [], _ :: _ => by simp [sameL]
  | _ :: _, [] => by simp [sameL]
  | x :: t, y :: u => by simp [sameL, sameL_iff t u]
theorem drop_get (l : List Met) (k : Nat) (h : k < l.length) : l.drop k = l.getD k mz :: l.drop (k + 1) := by
  rw [List.drop_eq_getElem_cons h]
  simp [List.getD, h]
theorem same_step (xs ys : List Met) (k : Nat) (h : k < xs.length) (h2 : k < ys.length) : sameL (xs.drop k) (ys.drop k) = (decide (xs.getD k mz = ys.getD k mz) && sameL (xs.drop (k + 1)) (ys.drop (k + 1))) := by
  rw [drop_get xs k h, drop_get ys k h2, sameL]
theorem same_len {xs ys : List Met} (h : xs.length ≠ ys.length) : sameL xs ys = false := by
  cases hs : sameL xs ys
  · rfl
  · exact absurd (congrArg List.length ((sameL_iff xs ys).1 hs)) h
set_option maxRecDepth 100000 in
set_option maxHeartbeats 4000000 in
theorem same_any (v u : Value) (xs ys : List Met) (w : World) (hv : Mets w w.heap.size v xs) (hu : Mets w w.heap.size u ys) : Calls Tryz.prog 16 #[v, u] w fun e w' => e = .returned (.bool (sameL xs ys)) ∧ Below w.heap.size w w' := by
  obtain ⟨A, c, rfl, hc, hm, hA⟩ := hv
  obtain ⟨A', c', rfl, hc', hm', hA'⟩ := hu
  unfold maxLen at hm hm'
  have HA := Lib.hid hA
  have HA' := Lib.hid hA'
  clear hA hA'
  by_cases hL : xs.length = ys.length
  · have hLb : ((xs.length : Int) != (ys.length : Int)) = false := by simp; omega
    go_enter Tryz.func16, Tryz.ntmps16
    go_wp2_with fail
    go_loopw [5] (fun i wr => ∃ k : Nat, k ≤ xs.length ∧ i = .int .i64 k ∧ Hid (sameL (xs.drop k) (ys.drop k) = sameL xs ys) ∧ Below w.heap.size w wr) (fun i _ => xs.length - (intOf i).toNat)
    case atStart => exact ⟨0, by omega, rfl, rfl, Below.refl _ _⟩
    case round =>
      obtain ⟨k, hk, rfl, hr, hB⟩ := hrel
      have hzr := hB.size
      by_cases hlt : k < xs.length
      · have hlt2 : k < ys.length := by omega
        obtain ⟨b, o, rfl, hb, hcell⟩ := HA.out (by omega)
        obtain ⟨b', o', rfl, hb', hcell'⟩ := HA'.out (by omega)
        have hx := hcell k hlt
        have hy := hcell' k hlt2
        have ec : ∀ q, wr.cell? ⟨b, q, none⟩ = w.cell? ⟨b, q, none⟩ := fun q => hB.cell (p := ⟨b, q, none⟩) hb
        have ec' : ∀ q, wr.cell? ⟨b', q, none⟩ = w.cell? ⟨b', q, none⟩ := fun q => hB.cell (p := ⟨b', q, none⟩) hb'
        have HST := Lib.hid (same_step xs ys k hlt hlt2)
        clear hcell hcell'
        generalize xs.getD k mz = x at *
        generalize ys.getD k mz = y at *
        obtain ⟨g0, g1, g2, g3⟩ := hx
        obtain ⟨q0, q1, q2, q3⟩ := hy
        have x0 := (ec _).trans g0
        have x1 := (ec _).trans g1
        have x2 := (ec _).trans g2
        have x3 := (ec _).trans g3
        have y0 := (ec' _).trans q0
        have y1 := (ec' _).trans q1
        have y2 := (ec' _).trans q2
        have y3 := (ec' _).trans q3
        clear ec ec' g0 g1 g2 g3 q0 q1 q2 q3
        have hbr : b < wr.heap.size := by omega
        have hbr' : b' < wr.heap.size := by omega
        have ki : (k : Int) < xs.length := by omega
        have ki2 : (k : Int) < ys.length := by omega
        by_cases hq : x = y
        · have HT : Hid (sameL (xs.drop (k + 1)) (ys.drop (k + 1)) = sameL xs ys) := by show _ = _; rw [← hr.out, HST.out, hq]; simp
          have hne : ∀ W : World, (binOp .neq 37 (.agg #[.string x.n, .int .i64 x.i, .int .i64 x.a, .int .i64 x.b]) (.agg #[.string y.n, .int .i64 y.i, .int .i64 y.a, .int .i64 y.b])).run Tryz.prog W = .ok (.bool false) W := fun W => by rw [neq_met, decide_eq_true hq]; rfl
          clear hq
          go_wp2_with fail
          go_quiet (fail)
          go_wp2_with fail
          go_roundw
          case rel => exact ⟨k + 1, by omega, by go_num, HT, below_drewN hB _⟩
          case measure => simp [intOf]; omega
        · have HT : Hid (sameL xs ys = false) := by show _ = _; rw [← hr.out, HST.out]; simp [hq]
          have hne : ∀ W : World, (binOp .neq 37 (.agg #[.string x.n, .int .i64 x.i, .int .i64 x.a, .int .i64 x.b]) (.agg #[.string y.n, .int .i64 y.i, .int .i64 y.a, .int .i64 y.b])).run Tryz.prog W = .ok (.bool true) W := fun W => by rw [neq_met, decide_eq_false hq]; rfl
          clear hq
          go_wp2_with fail
          go_quiet (fail)
          go_wp2_with fail
          go_ret
          exact ⟨by rw [HT.out]; rfl, below_drewN hB _⟩
      · have HT : Hid (sameL xs ys = true) := by show _ = _; rw [← hr.out, List.drop_of_length_le (by omega), List.drop_of_length_le (by omega)]; rfl
        go_wp2_with fail
        go_ret
        exact ⟨by rw [HT.out]; rfl, hB⟩
  · have hLb : ((xs.length : Int) != (ys.length : Int)) = true := by simp; omega
    have HT := Lib.hid (same_len hL)
    go_enter Tryz.func16, Tryz.ntmps16
    go_wp2_with fail
    go_ret
    exact ⟨by rw [HT.out]; rfl, Below.refl _ _⟩
end Go.Proofs.YtpcbccpobhdokaaGreatDoor

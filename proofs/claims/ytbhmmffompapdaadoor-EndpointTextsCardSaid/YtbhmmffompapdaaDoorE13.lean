/- The reference Same; the example of the chapter (awake). -/
import Derived.Test.YtbhmmffompapdaaDoorE12
namespace Go.Proofs.YtbhmmffompapdaaDoor
open Go.RowKit
def sameB (a b : List (Int × Int)) : Bool := decide (a = b)
theorem drop_eq (a : List (Int × Int)) (k : Nat) (h : k < a.length) : a.drop k = a.getD k (0, 0) :: a.drop (k + 1) := by
  rw [List.drop_eq_getElem_cons h]; simp [List.getD, h]
theorem same_step (a b : List (Int × Int)) (k : Nat) (h1 : k < a.length) (h2 : k < b.length) : decide (a.drop k = b.drop k) = (decide ((a.getD k (0, 0)) = (b.getD k (0, 0))) && decide (a.drop (k + 1) = b.drop (k + 1))) := by
  rw [drop_eq a k h1, drop_eq b k h2, Bool.eq_iff_iff]
  simp
theorem neq_ep (w : World) (k1 n1 k2 n2 : Int) : (binOp .neq 23 (.agg #[.int .i64 k1, .int .i64 n1]) (.agg #[.int .i64 k2, .int .i64 n2])).run Tryd.prog w = .ok (.bool (!(decide ((k1, n1) = (k2, n2))))) w := by
  cases h1 : (k1 == k2) <;> cases h2 : (n1 == n2)
  all_goals
    have e : decide ((k1, n1) = (k2, n2)) = ((k1 == k2) && (n1 == n2)) := by rw [Bool.eq_iff_iff]; simp
    rw [e, h1, h2]
    go_simp
theorem eql_ep (w : World) (k1 n1 k2 n2 : Int) : (binOp .eql 23 (.agg #[.int .i64 k1, .int .i64 n1]) (.agg #[.int .i64 k2, .int .i64 n2])).run Tryd.prog w = .ok (.bool (decide ((k1, n1) = (k2, n2)))) w := by
  cases h1 : (k1 == k2) <;> cases h2 : (n1 == n2)
  all_goals
    have e : decide ((k1, n1) = (k2, n2)) = ((k1 == k2) && (n1 == n2)) := by rw [Bool.eq_iff_iff]; simp
    rw [e, h1, h2]
    go_simp
set_option maxHeartbeats 1000000 in
theorem same_any (va vb : Value) (a b : List (Int × Int)) (w : World) (B : Nat) (ha : Eps w B va a) (hb : Eps w B vb b) : Calls Tryd.prog 24 #[va, vb] w fun e w' => e = .returned (.bool (sameB a b)) ∧ ∃ q, w' = w.drewN q := by
  obtain ⟨A1, c1, rfl, hc1, hm1, hA1⟩ := ha
  obtain ⟨A2, c2, rfl, hc2, hm2, hA2⟩ := hb
  unfold maxLen at hm1 hm2
  have HA1 := Lib.hid hA1
  have HA2 := Lib.hid hA2
  clear hA1 hA2
  by_cases hl : a.length = b.length
  · have h0 : ((a.length : Int) != (b.length : Int)) = false := by simp [hl]
    have HL := Lib.hid hl
    have hle : a.length ≤ b.length := by omega
    clear hl
    go_enter Tryd.func24, Tryd.ntmps24
    go_wp2_with fail
    go_loopw [5] (fun i wr => ∃ k : Nat, k ≤ a.length ∧ i = .int .i64 k ∧ Hid (decide (a.drop k = b.drop k) = sameB a b) ∧ ∃ q, wr = w.drewN q) (fun i _ => a.length - (intOf i).toNat)
    case atStart => exact ⟨0, by omega, rfl, rfl, 0, rfl⟩
    case round =>
      obtain ⟨k, hk, rfl, hr, q, rfl⟩ := hrel
      by_cases hlt : k < a.length
      · obtain ⟨b1, o1, rfl, hb1, hcell1⟩ := HA1.out (by omega)
        obtain ⟨b2, o2, rfl, hb2, hcell2⟩ := HA2.out (by omega)
        have hx1 := hcell1 k hlt
        have hx2 := hcell2 k (by omega)
        obtain ⟨x1, x2⟩ := hx1
        obtain ⟨y1, y2⟩ := hx2
        have hst := same_step a b k hlt (by omega)
        have HST : Hid (decide (a.drop k = b.drop k) = (decide ((a.getD k (0, 0)) = (b.getD k (0, 0))) && decide (a.drop (k + 1) = b.drop (k + 1)))) := hst
        clear hst hcell1 hcell2
        generalize a.getD k (0, 0) = p1 at *
        generalize b.getD k (0, 0) = p2 at *
        obtain ⟨k1, n1⟩ := p1
        obtain ⟨k2, n2⟩ := p2
        have i1 : (0 : Int) ≤ k := by omega
        have i2 : (k : Int) < a.length := by omega
        have i3 : (k : Int) < b.length := by omega
        cases hq : decide ((k1, n1) = (k2, n2))
        · have hne : ∀ w, (binOp .neq 23 (.agg #[.int .i64 k1, .int .i64 n1]) (.agg #[.int .i64 k2, .int .i64 n2])).run Tryd.prog w = .ok (.bool true) w := fun w => by rw [neq_ep, hq]; rfl
          have HT : Hid (sameB a b = false) := by show _ = _; rw [← hr.out, HST.out, hq, Bool.false_and]
          clear hq
          go_wp2_with fail
          go_quiet (fail)
          go_wp2_with fail
          go_ret
          exact ⟨by rw [HT.out]; rfl, q + nq, by rw [World.drewN_drewN]⟩
        · have hne : ∀ w, (binOp .neq 23 (.agg #[.int .i64 k1, .int .i64 n1]) (.agg #[.int .i64 k2, .int .i64 n2])).run Tryd.prog w = .ok (.bool false) w := fun w => by rw [neq_ep, hq]; rfl
          have HT : Hid (decide (a.drop (k + 1) = b.drop (k + 1)) = sameB a b) := by show _ = _; rw [← hr.out, HST.out, hq, Bool.true_and]
          clear hq
          go_wp2_with fail
          go_quiet (fail)
          go_wp2_with fail
          go_roundw
          case rel => exact ⟨k + 1, by omega, by go_num, HT, _, rfl⟩
          case measure => simp [intOf]; omega
      · have HT : Hid (sameB a b = true) := by show _ = _; rw [← hr.out, List.drop_of_length_le (by omega), List.drop_of_length_le (by have := HL.out; omega)]; rfl
        go_wp2_with fail
        go_ret
        exact ⟨by rw [HT.out]; rfl, _, rfl⟩
  · have h0 : ((a.length : Int) != (b.length : Int)) = true := by simp; omega
    have HT : Hid (sameB a b = false) := by show decide (a = b) = _; exact decide_eq_false fun e => hl (by rw [e])
    clear hl
    go_enter Tryd.func24, Tryd.ntmps24
    go_wp2_with fail
    go_ret
    exact ⟨by rw [HT.out]; rfl, 0, rfl⟩
end Go.Proofs.YtbhmmffompapdaaDoor

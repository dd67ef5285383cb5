/- The groups of a number, one after the other. -/
import Derived.Test.YtfafhdganloipaaGreatDoorW3
import Derived.Test.YtfafhdganloipaaGreatDoorP4
namespace Go.Proofs.YtfafhdganloipaaGreatDoor
open Go.RowKit Go.Shelf
attribute [local go_sem] Oper.semAt_some
set_option maxRecDepth 100000 in
set_option maxHeartbeats 1000000 in
theorem groups_in (n : Nat) (hn : 1 ≤ n) (l nb n0 : Nat) (v : Nat) (hv : v < 4611686018427387904) (J Jx : List (Nat × Bool) → World → Prop)
    (hY : ∀ pre (x : Nat × Bool) W, x.1 < 128 → J pre W → pre.length < 9 → YieldAt Fence.wide (n - 1) Tryz.prog l #[.int .u8 (x.1 : Int), .bool x.2] W fun e W' =>
      (e = .returned (.bool true) ∧ J (pre ++ [x]) W' ∧ BKp n0 nb W W') ∨ (e = .returned (.bool false) ∧ Jx (pre ++ [x]) W'))
    (W : World) (hnb : Boxed W nb 3 (.int .i64 (v : Int))) (h0 : J [] W) :
    CallsIn Fence.wide n Tryz.prog 159 #[.func (.yield l) #[] #[], .pointer (some ⟨nb, 0, none⟩)] W fun e W' => (∃ v, e = .returned v) ∧
      ((∃ ys, ys = grpL (ngF 9 0 v + 1) v ∧ J ys W') ∨ (∃ pre, True ∧ Jx pre W')) := by
  have HY := Lib.hid hY
  clear hY
  have hc0 := hnb.cell
  refine callsIn_of_wp Tryz.func159 rfl trivial ?_ rfl
  simp only [Tryz.ntmps159, List.size_toArray, List.length_cons, List.length_nil, Nat.reduceAdd, Nat.reduceSub, Array.replicate_succ, Array.replicate_zero, List.push_toArray, List.append_toArray, List.nil_append, List.cons_append]
  gi_wp2
  gi_loopw [3] (fun i wr => ∃ j : Nat, j ≤ 8 ∧ i = .int .i64 (7 * (j : Int)) ∧ Hid (ngF (9 - j) j v = ngF 9 0 v) ∧ wr = W) (fun i _ => 100 - (intOf i).toNat)
  case atStart => exact ⟨0, by omega, rfl, rfl, rfl⟩
  case round =>
    obtain ⟨j, hj, rfl, HJ, hW⟩ := hrel
    have hW2 := hW.symm
    clear hW
    subst hW2
    have hp : (2 : Nat) ^ (7 * j) = 128 ^ j := by rw [Nat.pow_mul]
    by_cases hd : 128 ≤ v / 128 ^ j
    · have hd' : (128 : Int) ≤ (v : Int) / 2 ^ (7 * j) := by
        have : ((v / 128 ^ j : Nat) : Int) = (v : Int) / 2 ^ (7 * j) := by rw [← hp]; simp
        omega
      have hj7 : j ≤ 7 := by
        by_cases h8 : j = 8
        · subst h8
          exfalso
          have : v / 128 ^ 8 < 128 := by rw [Nat.div_lt_iff_lt_mul (by decide)]; omega
          omega
        · omega
      have HN : Hid (ngF (9 - (j + 1)) (j + 1) v = ngF 9 0 v) := by
        show _ = _
        rw [← HJ.out, show 9 - j = (9 - (j + 1)) + 1 by omega, ngF, if_pos hd]
      clear hd hp
      gi_wp2
      go_roundw
      case rel => exact ⟨j + 1, by omega, by go_num, HN, by first | rfl | trivial⟩
      case measure => simp [intOf]; omega
    · have hd' : (v : Int) / 2 ^ (7 * j) < 128 := by
        have : ((v / 128 ^ j : Nat) : Int) = (v : Int) / 2 ^ (7 * j) := by rw [← hp]; simp
        omega
      have HN : Hid (ngF 9 0 v = j) := by
        show _ = _
        rw [← HJ.out, show 9 - j = (8 - j) + 1 by omega, ngF, if_neg hd]
      clear hd hp
      gi_wp2
      gi_loopw [3] (fun i wr2 => ∃ (m : Nat) (pre : List (Nat × Bool)), i = .int .i64 (7 * (m : Int) - 7) ∧ Hid (pre ++ grpL m v = grpL (j + 1) v) ∧ pre.length + m = j + 1 ∧ J pre wr2 ∧ BKp n0 nb W wr2) (fun i _ => (intOf i + 7).toNat)
      case atStart => exact ⟨j + 1, [], by go_num, rfl, by simp, h0, Below.refl _ _, rfl⟩
      case round =>
        obtain ⟨m, pre, rfl, HP, hpm, hJs, hB⟩ := hrel
        have HB := Lib.hid hB
        clear hB
        cases m with
        | zero =>
          gi_wp2
          go_end0
          refine ⟨⟨_, rfl⟩, .inl ⟨_, rfl, ?_⟩⟩
          rw [HN.out, ← HP.out]
          show J (pre ++ []) wr
          rw [List.append_nil]
          exact hJs
        | succ m =>
          have hb1 : Boxed wr nb 3 (.int .i64 (v : Int)) := HB.out.2.trans hnb
          have hc1 := hb1.cell
          have hexp : 7 * (m + 1) - 7 = 7 * m := by omega
          have hpw : (2 : Nat) ^ (7 * m) = 128 ^ m := by rw [Nat.pow_mul]
          have hdv : (v : Int) / 2 ^ (7 * (m + 1) - 7) = ((v / 128 ^ m : Nat) : Int) := by rw [hexp, ← hpw]; simp
          have hg : bits .and .u8 ((v : Int) / 2 ^ (7 * (m + 1) - 7) % 256) 127 = ((v / 128 ^ m % 128 : Nat) : Int) := by
            rw [hdv, u8_and _ _ (by omega) (by omega) (by omega) (by omega)]
            have e : (((v / 128 ^ m : Nat) : Int) % 256).toNat = v / 128 ^ m % 256 := by omega
            rw [e, show (127 : Int).toNat = 2 ^ 7 - 1 from rfl, Nat.and_two_pow_sub_one_eq_mod]
            omega
          have hz : (7 * ((m : Int) + 1) - 7 == 0) = (m == 0) := by
            rw [Bool.eq_iff_iff]; simp; omega
          have HP2 : Hid ((pre ++ [(v / 128 ^ m % 128, m == 0)]) ++ grpL m v = grpL (j + 1) v) := by show _ = _; rw [← HP.out]; simp [grpL]
          obtain ⟨fn, tmps, assign, body, hy, hR⟩ := HY.out pre (v / 128 ^ m % 128, m == 0) wr (Nat.mod_lt _ (by decide)) hJs (by omega)
          dsimp only at hy
          rw [← hg, ← hz] at hy
          clear hg hz hdv hpw hexp
          gi_wp2
          refine hR.mono ?_
          rintro e W3 (⟨rfl, hJ3, hk3⟩ | ⟨rfl, hJx3⟩)
          · have HK := Lib.hid hk3
            clear hk3
            gi_wp2
            go_roundw
            case rel => exact ⟨m, _, by go_num, HP2, by simp; omega, hJ3, HB.out.1.trans HK.out.1, HK.out.2.trans HB.out.2⟩
            case measure => simp [intOf]; omega
          · gi_wp2
            refine bodyPost_ret (results_none rfl _ _ _) rfl ?_
            exact ⟨⟨_, rfl⟩, .inr ⟨_, trivial, hJx3⟩⟩
end Go.Proofs.YtfafhdganloipaaGreatDoor

/- Checksums: eight steps. -/
import Derived.Test.YtfafhdganloipaaGreatDoorY0
import Derived.Test.YtfafhdganloipaaGreatDoorP1
import Derived.RangeFuncBox
import Derived.RangeFuncNested
import Derived.RangeFuncBound
import Derived.RangeFuncCalls
import Derived.RangeFuncLeaves
import Derived.Shelf.Abstract
import Derived.Shelf.RegionOpen
import Derived.OwnWalkIn
import Derived.TacticsInMore
import Derived.LoopNIn
import Derived.LoopIn
namespace Go.Proofs.YtfafhdganloipaaGreatDoor
open Go.RowKit
theorem crcS_more {k s : Nat} (hk : k < 8) : crcS (8 - k) s = crcS (8 - (k + 1)) (crcB s) := by
  rw [show 8 - k = (8 - (k + 1)) + 1 by omega]; rfl
set_option maxHeartbeats 2000000 in
theorem step_any (r : Nat) (hr : r < 4294967296) (w : World) : Calls Tryz.prog 358 #[.int .u32 (r : Int)] w fun e w' => e = .returned (.int .u32 ((crcS 8 r : Nat) : Int)) ∧ w' = w := by
  go_enter Tryz.func358, Tryz.ntmps358
  go_wp2_with fail
  go_loop [0, 3] (fun x i => ∃ k s : Nat, k ≤ 8 ∧ s < 4294967296 ∧ i = .int .i64 k ∧ x = .int .u32 (s : Int) ∧ Hid (crcS (8 - k) s = crcS 8 r)) (fun x i => 8 - (intOf i).toNat)
  case atStart => exact ⟨0, r, by omega, hr, rfl, rfl, rfl⟩
  case round =>
    obtain ⟨k, s, hk, hs, rfl, rfl, hrel⟩ := hrel
    by_cases hlt : k < 8
    · have h1 := (crcS_more (s := s) hlt).symm.trans hrel.out
      by_cases h2 : s % 2 = 1
      · have e : crcB s = (s / 2) ^^^ crcP := by unfold crcB; rw [if_pos h2]
        go_wp2_with fail
        refine ⟨⟨k + 1, crcB s, by omega, crcB_lt hs, by go_num, ?_, h1⟩, by simp [intOf]; omega⟩
        rw [e, u32_xor _ _ (by omega) (by omega) (by omega) (by omega)]
        congr 1
      · have e : crcB s = s / 2 := by unfold crcB; rw [if_neg h2]
        go_wp2_with fail
        refine ⟨⟨k + 1, crcB s, by omega, crcB_lt hs, by go_num, ?_, h1⟩, by simp [intOf]; omega⟩
        rw [e]
        congr 1
    · obtain rfl : k = 8 := by omega
      go_wp2_with fail
      go_ret
      exact ⟨by rw [← hrel.out]; rfl, rfl⟩
end Go.Proofs.YtfafhdganloipaaGreatDoor
namespace Go.Proofs.YtfafhdganloipaaGreatDoor
open Go.RowKit Go.Shelf
attribute [local go_sem] Oper.semAt_some
def BKp (n0 nb : Nat) (W W' : World) : Prop := Below n0 W W' ∧ W'.heap[nb]? = W.heap[nb]?
set_option maxRecDepth 100000 in
set_option maxHeartbeats 1000000 in
theorem bytes_in (n : Nat) (hn : 1 ≤ n) (l nb n0 : Nat) (s : List UInt8) (hs : s.length ≤ 1000000) (J Jx : List UInt8 → World → Prop)
    (hY : ∀ pre (x : UInt8) W, J pre W → pre.length < s.length → YieldAt Fence.wide (n - 1) Tryz.prog l #[.int .u8 (x.toNat : Int)] W fun e W' =>
      (e = .returned (.bool true) ∧ J (pre ++ [x]) W' ∧ BKp n0 nb W W') ∨ (e = .returned (.bool false) ∧ Jx (pre ++ [x]) W'))
    (W : World) (hnb : Boxed W nb 9 (.string ⟨s.toArray⟩)) (h0 : J [] W) :
    CallsIn Fence.wide n Tryz.prog 359 #[.func (.yield l) #[] #[], .pointer (some ⟨nb, 0, none⟩)] W fun e W' => (∃ v, e = .returned v) ∧
      ((∃ ys, ys = s ∧ J ys W') ∨ (∃ pre, True ∧ Jx pre W')) := by
  have HY := Lib.hid hY
  clear hY
  have hc0 := hnb.cell
  have hsz : (⟨s.toArray⟩ : ByteArray).size = s.length := rfl
  refine callsIn_of_wp Tryz.func359 rfl trivial ?_ rfl
  simp only [Tryz.ntmps359, List.size_toArray, List.length_cons, List.length_nil, Nat.reduceAdd, Nat.reduceSub, Array.replicate_succ, Array.replicate_zero, List.push_toArray, List.append_toArray, List.nil_append, List.cons_append]
  gi_wp2
  gi_loopw [6] (fun i wr => ∃ k : Nat, k ≤ s.length ∧ i = .int .i64 k ∧ J (s.take k) wr ∧ BKp n0 nb W wr) (fun i _ => s.length - (intOf i).toNat)
  case atStart => exact ⟨0, Nat.zero_le _, rfl, h0, Below.refl _ _, rfl⟩
  case round =>
    obtain ⟨k, hk, rfl, hJs, hB⟩ := hrel
    have HB := Lib.hid hB
    clear hB
    by_cases hlt : k < s.length
    · have hb1 : Boxed wr nb 9 (.string ⟨s.toArray⟩) := HB.out.2.trans hnb
      have hc1 := hb1.cell
      have hxk : (⟨s.toArray⟩ : ByteArray)[k]'hlt = s[k]'hlt := by show s.toArray[k] = _; simp
      have HT : Hid (s.take (k + 1) = s.take k ++ [(⟨s.toArray⟩ : ByteArray)[k]'hlt]) := by show _ = _; rw [hxk, List.take_succ_eq_append_getElem hlt]
      obtain ⟨fn, tmps, assign, body, hy, hR⟩ := HY.out _ ((⟨s.toArray⟩ : ByteArray)[k]'hlt) wr hJs (by simp; omega)
      clear hxk
      gi_wp2
      refine hR.mono ?_
      rintro e W3 (⟨rfl, hJ3, hk3⟩ | ⟨rfl, hJx3⟩)
      · have HK := Lib.hid hk3
        clear hk3
        gi_wp2
        go_roundw
        case rel => exact ⟨k + 1, by omega, by go_num, by rw [HT.out]; exact hJ3, HB.out.1.trans HK.out.1, HK.out.2.trans HB.out.2⟩
        case measure => simp [intOf]; omega
      · gi_wp2
        refine bodyPost_ret (results_none rfl _ _ _) rfl ?_
        exact ⟨⟨_, rfl⟩, .inr ⟨_, trivial, hJx3⟩⟩
    · have hkk : Hid (k = s.length) := by show _ = _; omega
      gi_wp2
      go_end0
      exact ⟨⟨_, rfl⟩, .inl ⟨_, rfl, by rw [hkk.out, List.take_length] at hJs; exact hJs⟩⟩
theorem bytes_any (n : Nat) (s : ByteArray) (w : World) : CallsIn Fence.wide n Tryz.prog 265 #[.string s] w fun e w' =>
    e = .returned (.func (.func 359) #[] #[.pointer (some ⟨w.heap.size, 0, none⟩)]) ∧ w' = w.alloc (.cells #[.string s] 9) := by
  refine callsIn_of_wp Tryz.func265 rfl trivial ?_ rfl
  simp only [Tryz.ntmps265, List.size_toArray, List.length_cons, List.length_nil, Nat.reduceAdd, Nat.reduceSub, Array.replicate_succ, Array.replicate_zero, List.push_toArray, List.append_toArray, List.nil_append, List.cons_append]
  gi_wp2
  go_ret
  exact ⟨rfl, rfl⟩
theorem bytes_stops (n : Nat) (hn : 1 ≤ n) (nb n0 : Nat) (s : List UInt8) (hs : s.length ≤ 1000000) (w : World) (h2 : nb < w.heap.size) (hnb : Boxed w nb 9 (.string ⟨s.toArray⟩)) :
    SeqStopsK Fence.wide n Tryz.prog 359 #[.pointer (some ⟨nb, 0, none⟩)] (fun x : UInt8 => #[Value.int .u8 (x.toNat : Int)]) (BKp n0 nb) (fun ys => ys = s) (fun _ => True) s.length w := fun l J Jx W hW _ _ hY h0 =>
  bytes_in n hn l nb n0 s hs J Jx hY W ((hW.block nb h2).trans hnb) h0
end Go.Proofs.YtfafhdganloipaaGreatDoor

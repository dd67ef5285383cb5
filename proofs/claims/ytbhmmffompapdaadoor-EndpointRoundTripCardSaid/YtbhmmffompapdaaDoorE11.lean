/- Of: a range over an iterator. -/
import Derived.Test.YtbhmmffompapdaaDoorE10
import Derived.RangeFuncBox
import Derived.RangeFuncNested
import Derived.RangeFuncBound
import Derived.RangeFuncCalls
import Derived.RangeFuncLeaves
import Derived.Shelf.Abstract
import Derived.Shelf.RegionOpen
import Derived.OwnWalkIn
import Derived.TacticsInMore
import Derived.LoopNIn
import Derived.LoopIn
namespace Go.Proofs.YtbhmmffompapdaaDoor
open Go.RowKit Go.Shelf
attribute [local go_sem] Oper.semAt_some
def idx (gs : List (List Int)) (x : Int) (k : Nat) : List Nat := (List.range k).filter fun i => hasB (gs.getD i []) x
theorem idx_hit {gs : List (List Int)} {x : Int} {k : Nat} (h : hasB (gs.getD k []) x = true) : idx gs x (k + 1) = idx gs x k ++ [k] := by
  simp only [idx, List.range_succ, List.filter_append]
  rw [List.filter_cons, if_pos h]; rfl
theorem idx_miss {gs : List (List Int)} {x : Int} {k : Nat} (h : hasB (gs.getD k []) x = false) : idx gs x (k + 1) = idx gs x k := by
  simp only [idx, List.range_succ, List.filter_append]
  rw [List.filter_cons, if_neg (by rw [h]; exact Bool.false_ne_true)]; simp
theorem idx_len (gs : List (List Int)) (x : Int) (k : Nat) : (idx gs x k).length ≤ k := by
  have := List.length_filter_le (fun i => hasB (gs.getD i []) x) (List.range k)
  simpa [idx] using this
/-- what a round of the loop over the groups keeps -/
def GKp (n0 nb : Nat) (W W' : World) : Prop := Below n0 W W' ∧ W'.heap[nb]? = W.heap[nb]?
set_option maxRecDepth 100000 in
set_option maxHeartbeats 1000000 in
theorem it_in (n : Nat) (hn : 1 ≤ n) (l gb nb n0 : Nat) (A : Option Addr) (c : Nat) (gs : List (List Int)) (x : Int) (J Jx : List Nat → World → Prop)
    (hY : ∀ pre (i : Nat) W, J pre W → pre.length < gs.length → YieldAt Fence.wide (n - 1) Tryd.prog l #[.int .i64 (i : Int)] W fun e W' =>
      (e = .returned (.bool true) ∧ J (pre ++ [i]) W' ∧ GKp n0 nb W W') ∨ (e = .returned (.bool false) ∧ Jx (pre ++ [i]) W'))
    (W : World) (hgb : W.cell? ⟨gb, 0, none⟩ = some (.slice A gs.length c)) (hnb : Boxed W nb 3 (.int .i64 x)) (hg : Grps W n0 (.slice A gs.length c) gs) (h0 : J [] W) :
    CallsIn Fence.wide n Tryd.prog 43 #[.func (.yield l) #[] #[], .pointer (some ⟨gb, 0, none⟩), .pointer (some ⟨nb, 0, none⟩)] W fun e W' => (∃ v, e = .returned v) ∧
      ((∃ ys, ys = idx gs x gs.length ∧ J ys W') ∨ (∃ pre, True ∧ Jx pre W')) := by
  obtain ⟨A', c', e', hc, hm, hA⟩ := hg
  simp only [Value.slice.injEq, true_and] at e'
  obtain ⟨rfl, rfl⟩ := e'
  unfold maxLen at hm
  have HA := Lib.hid hA
  clear hA
  have HY := Lib.hid hY
  clear hY
  refine callsIn_of_wp Tryd.func43 rfl trivial ?_ rfl
  simp only [Tryd.ntmps43, List.size_toArray, List.length_cons, List.length_nil, Nat.reduceAdd, Nat.reduceSub, Array.replicate_succ, Array.replicate_zero, List.push_toArray, List.append_toArray, List.nil_append, List.cons_append]
  gi_wp2
  gi_loopw [8] (fun i wr => ∃ k : Nat, k ≤ gs.length ∧ i = .int .i64 k ∧ J (idx gs x k) wr ∧ GKp n0 nb W wr) (fun i _ => gs.length - (intOf i).toNat)
  case atStart => exact ⟨0, Nat.zero_le _, rfl, h0, Below.refl _ _, rfl⟩
  case round =>
    obtain ⟨k, hk, rfl, hJs, hB⟩ := hrel
    have HB := Lib.hid hB
    clear hB
    by_cases hlt : k < gs.length
    · obtain ⟨b, o, rfl, hb, hcell⟩ := HA.out (by omega)
      obtain ⟨u2, hu, hi2⟩ := hcell k hlt
      clear hcell
      have hu1 : wr.cell? ⟨b, o + k, none⟩ = some u2 := (HB.out.1.cell (p := ⟨b, o + k, none⟩) hb).trans hu
      have hi3 := Lib.hid (hi2.below HB.out.1)
      have hnc : wr.cell? ⟨nb, 0, none⟩ = some (.int .i64 x) := (World.cell?_of_block (a := ⟨nb, 0, none⟩) HB.out.2).trans hnb.cell
      clear hi2 hu
      cases hh : hasB (gs.getD k []) x
      · have HH := Lib.hid hh
        clear hh
        gi_wp2
        refine ⟨trivial, ?_⟩
        refine (callsIn_wide.2 (cont_any _ _ _ _ _ hi3.out)).mono ?_
        rw [HH.out]
        rintro e w1 ⟨rfl, rfl⟩
        gi_wp2
        refine ⟨fun _ h => (by cases h), ?_⟩
        gi_wp2
        go_roundw
        case rel => exact ⟨k + 1, by omega, by go_num, by rw [idx_miss HH.out]; exact hJs, HB.out⟩
        case measure => simp [intOf]; omega
      · have HH := Lib.hid hh
        clear hh
        obtain ⟨fn, tmps, assign, body, hy, hR⟩ := HY.out _ k wr hJs (by have := idx_len gs x k; omega)
        gi_wp2
        refine ⟨trivial, ?_⟩
        refine (callsIn_wide.2 (cont_any _ _ _ _ _ hi3.out)).mono ?_
        rw [HH.out]
        rintro e w1 ⟨rfl, rfl⟩
        gi_wp2
        refine hR.mono ?_
        rintro e W3 (⟨rfl, hJ3, hk3⟩ | ⟨rfl, hJx3⟩)
        · have HK := Lib.hid hk3
          clear hk3
          gi_wp2
          go_roundw
          case rel => exact ⟨k + 1, by omega, by go_num, by rw [idx_hit HH.out]; exact hJ3, HB.out.1.trans HK.out.1, HK.out.2.trans HB.out.2⟩
          case measure => simp [intOf]; omega
        · gi_wp2
          refine bodyPost_ret (results_none rfl _ _ _) rfl ?_
          exact ⟨⟨_, rfl⟩, .inr ⟨_, trivial, hJx3⟩⟩
    · have hkk : Hid (k = gs.length) := by show _ = _; omega
      gi_wp2
      go_end0
      exact ⟨⟨_, rfl⟩, .inl ⟨_, rfl, by rw [← hkk.out]; exact hJs⟩⟩
theorem gof_in (n : Nat) (A : Option Addr) (m c : Nat) (x : Int) (w : World) : CallsIn Fence.wide n Tryd.prog 35 #[.slice A m c, .int .i64 x] w fun e w' =>
    e = .returned (.func (.func 43) #[] #[.pointer (some ⟨w.heap.size, 0, none⟩), .pointer (some ⟨w.heap.size + 1, 0, none⟩)]) ∧ w' = (w.alloc (.cells #[.slice A m c] 29)).alloc (.cells #[.int .i64 x] 3) := by
  refine callsIn_of_wp Tryd.func35 rfl trivial ?_ rfl
  simp only [Tryd.ntmps35, List.size_toArray, List.length_cons, List.length_nil, Nat.reduceAdd, Nat.reduceSub, Array.replicate_succ, Array.replicate_zero, List.push_toArray, List.append_toArray, List.nil_append, List.cons_append]
  gi_wp2
  go_ret
  exact ⟨rfl, rfl⟩
theorem it_stops (n : Nat) (hn : 1 ≤ n) (gb nb n0 : Nat) (A : Option Addr) (c : Nat) (gs : List (List Int)) (x : Int) (w : World) (h1 : gb < w.heap.size) (h2 : nb < w.heap.size) (h3 : n0 ≤ w.heap.size)
    (hgb : w.cell? ⟨gb, 0, none⟩ = some (.slice A gs.length c)) (hnb : Boxed w nb 3 (.int .i64 x)) (hg : Grps w n0 (.slice A gs.length c) gs) :
    SeqStopsK Fence.wide n Tryd.prog 43 #[.pointer (some ⟨gb, 0, none⟩), .pointer (some ⟨nb, 0, none⟩)] (fun i : Nat => #[Value.int .i64 (i : Int)]) (GKp n0 nb) (fun ys => ys = idx gs x gs.length) (fun _ => True) gs.length w := fun l J Jx W hW _ _ hY h0 =>
  it_in n hn l gb nb n0 A c gs x J Jx hY W ((hW.cell (p := ⟨gb, 0, none⟩) h1).trans hgb) ((hW.block nb h2).trans hnb) (hg.below (hW.mono h3)) h0
end Go.Proofs.YtbhmmffompapdaaDoor

/- Checksums: eight steps. -/
import Derived.Test.YthlfhfliidhelaaGreatDoorY0
import Derived.Test.YthlfhfliidhelaaGreatDoorP1
import Derived.RangeFuncBox
import Derived.RangeFuncNested
import Derived.RangeFuncBound
import Derived.RangeFuncCalls
import Derived.RangeFuncLeaves
import Derived.Shelf.Abstract
import Derived.Shelf.RegionOpen
import Derived.OwnWalkIn
import Derived.TacticsInMore
import Derived.LoopNIn
import Derived.LoopIn
import Derived.BigRegionIn
import Derived.Deep.WholeRow
set_option linter.unusedSimpArgs false
set_option linter.unusedVariables false
set_option linter.all false
namespace Go.Proofs.YthlfhfliidhelaaGreatDoor
open Go.RowKit
theorem crcS_more {k s : Nat} (hk : k < 8) : crcS (8 - k) s = crcS (8 - (k + 1)) (crcB s) := by
  rw [show 8 - k = (8 - (k + 1)) + 1 by omega]; rfl
set_option maxHeartbeats 2000000 in
theorem step_any (r : Nat) (hr : r < 4294967296) (w : World) : Calls Tryz.prog 347 #[.int .u32 (r : Int)] w fun e w' => e = .returned (.int .u32 ((crcS 8 r : Nat) : Int)) ∧ w' = w := by
  go_enter Tryz.func347, Tryz.ntmps347
  go_wp2_with fail
  go_loop [0, 3] (fun x i => ∃ k s : Nat, k ≤ 8 ∧ s < 4294967296 ∧ i = .int .i64 k ∧ x = .int .u32 (s : Int) ∧ Hid (crcS (8 - k) s = crcS 8 r)) (fun x i => 8 - (intOf i).toNat)
  case atStart => exact ⟨0, r, by omega, hr, rfl, rfl, rfl⟩
  case round =>
    obtain ⟨k, s, hk, hs, rfl, rfl, hrel⟩ := hrel
    by_cases hlt : k < 8
    · have h1 := (crcS_more (s := s) hlt).symm.trans hrel.out
      by_cases h2 : s % 2 = 1
      · have e : crcB s = (s / 2) ^^^ crcP := by unfold crcB; rw [if_pos h2]
        go_wp2_with fail
        refine ⟨⟨k + 1, crcB s, by omega, crcB_lt hs, by go_num, ?_, h1⟩, by simp [intOf]; omega⟩
        rw [e, u32_xor _ _ (by omega) (by omega) (by omega) (by omega)]
        congr 1
      · have e : crcB s = s / 2 := by unfold crcB; rw [if_neg h2]
        go_wp2_with fail
        refine ⟨⟨k + 1, crcB s, by omega, crcB_lt hs, by go_num, ?_, h1⟩, by simp [intOf]; omega⟩
        rw [e]
        congr 1
    · obtain rfl : k = 8 := by omega
      go_wp2_with fail
      go_ret
      exact ⟨by rw [← hrel.out]; rfl, rfl⟩
end Go.Proofs.YthlfhfliidhelaaGreatDoor
namespace Go.Proofs.YthlfhfliidhelaaGreatDoor
open Go.RowKit Go.Shelf
attribute [local go_sem] Oper.semAt_some
def BKp (n0 nb : Nat) (W W' : World) : Prop := Below n0 W W' ∧ W'.heap[nb]? = W.heap[nb]?
set_option maxRecDepth 100000 in
set_option maxHeartbeats 1000000 in
theorem bytes_in (n : Nat) (hn : 1 ≤ n) (l nb n0 : Nat) (s : List UInt8) (hs : s.length ≤ 1000000) (J Jx : List UInt8 → World → Prop)
    (hY : ∀ pre (x : UInt8) W, J pre W → pre.length < s.length → YieldAt Fence.wide (n - 1) Tryz.prog l #[.int .u8 (x.toNat : Int)] W fun e W' =>
      (e = .returned (.bool true) ∧ J (pre ++ [x]) W' ∧ BKp n0 nb W W') ∨ (e = .returned (.bool false) ∧ Jx (pre ++ [x]) W'))
    (W : World) (hnb : Boxed W nb 9 (.string ⟨s.toArray⟩)) (h0 : J [] W) :
    CallsIn Fence.wide n Tryz.prog 348 #[.func (.yield l) #[] #[], .pointer (some ⟨nb, 0, none⟩)] W fun e W' => (∃ v, e = .returned v) ∧
      ((∃ ys, ys = s ∧ J ys W') ∨ (∃ pre, True ∧ Jx pre W')) := by
  have HY := Lib.hid hY
  clear hY
  have hc0 := hnb.cell
  have hsz : (⟨s.toArray⟩ : ByteArray).size = s.length := rfl
  refine callsIn_of_wp Tryz.func348 rfl trivial ?_ rfl
  simp only [Tryz.ntmps348, List.size_toArray, List.length_cons, List.length_nil, Nat.reduceAdd, Nat.reduceSub, Array.replicate_succ, Array.replicate_zero, List.push_toArray, List.append_toArray, List.nil_append, List.cons_append]
  gi_wp2
  gi_loopw [6] (fun i wr => ∃ k : Nat, k ≤ s.length ∧ i = .int .i64 k ∧ J (s.take k) wr ∧ BKp n0 nb W wr) (fun i _ => s.length - (intOf i).toNat)
  case atStart => exact ⟨0, Nat.zero_le _, rfl, h0, Below.refl _ _, rfl⟩
  case round =>
    obtain ⟨k, hk, rfl, hJs, hB⟩ := hrel
    have HB := Lib.hid hB
    clear hB
    by_cases hlt : k < s.length
    · have hb1 : Boxed wr nb 9 (.string ⟨s.toArray⟩) := HB.out.2.trans hnb
      have hc1 := hb1.cell
      have hxk : (⟨s.toArray⟩ : ByteArray)[k]'hlt = s[k]'hlt := by show s.toArray[k] = _; simp
      have HT : Hid (s.take (k + 1) = s.take k ++ [(⟨s.toArray⟩ : ByteArray)[k]'hlt]) := by show _ = _; rw [hxk, List.take_succ_eq_append_getElem hlt]
      obtain ⟨fn, tmps, assign, body, hy, hR⟩ := HY.out _ ((⟨s.toArray⟩ : ByteArray)[k]'hlt) wr hJs (by simp; omega)
      clear hxk
      gi_wp2
      refine hR.mono ?_
      rintro e W3 (⟨rfl, hJ3, hk3⟩ | ⟨rfl, hJx3⟩)
      · have HK := Lib.hid hk3
        clear hk3
        gi_wp2
        go_roundw
        case rel => exact ⟨k + 1, by omega, by go_num, by rw [HT.out]; exact hJ3, HB.out.1.trans HK.out.1, HK.out.2.trans HB.out.2⟩
        case measure => simp [intOf]; omega
      · gi_wp2
        refine bodyPost_ret (results_none rfl _ _ _) rfl ?_
        exact ⟨⟨_, rfl⟩, .inr ⟨_, trivial, hJx3⟩⟩
    · have hkk : Hid (k = s.length) := by show _ = _; omega
      gi_wp2
      go_end0
      exact ⟨⟨_, rfl⟩, .inl ⟨_, rfl, by rw [hkk.out, List.take_length] at hJs; exact hJs⟩⟩
theorem bytes_any (n : Nat) (s : ByteArray) (w : World) : CallsIn Fence.wide n Tryz.prog 237 #[.string s] w fun e w' =>
    e = .returned (.func (.func 348) #[] #[.pointer (some ⟨w.heap.size, 0, none⟩)]) ∧ w' = w.alloc (.cells #[.string s] 9) := by
  refine callsIn_of_wp Tryz.func237 rfl trivial ?_ rfl
  simp only [Tryz.ntmps237, List.size_toArray, List.length_cons, List.length_nil, Nat.reduceAdd, Nat.reduceSub, Array.replicate_succ, Array.replicate_zero, List.push_toArray, List.append_toArray, List.nil_append, List.cons_append]
  gi_wp2
  go_ret
  exact ⟨rfl, rfl⟩
theorem bytes_stops (n : Nat) (hn : 1 ≤ n) (nb n0 : Nat) (s : List UInt8) (hs : s.length ≤ 1000000) (w : World) (h2 : nb < w.heap.size) (hnb : Boxed w nb 9 (.string ⟨s.toArray⟩)) :
    SeqStopsK Fence.wide n Tryz.prog 348 #[.pointer (some ⟨nb, 0, none⟩)] (fun x : UInt8 => #[Value.int .u8 (x.toNat : Int)]) (BKp n0 nb) (fun ys => ys = s) (fun _ => True) s.length w := fun l J Jx W hW _ _ hY h0 =>
  bytes_in n hn l nb n0 s hs J Jx hY W ((hW.block nb h2).trans hnb) h0
end Go.Proofs.YthlfhfliidhelaaGreatDoor
namespace Go.Proofs.YthlfhfliidhelaaGreatDoor
open Go.RowKit Go.Shelf
attribute [local go_sem] Oper.semAt_some
def tblA : Array Value := ((List.range 256).map fun i => Value.int .u32 ((crcT i : Nat) : Int)).toArray
theorem tblA_size : tblA.size = 256 := by simp [tblA]
theorem tblA_get {i : Nat} (h : i < 256) : tblA[i]? = some (.int .u32 ((crcT i : Nat) : Int)) := by simp [tblA, h]
def TableOk : Prop := ∀ w : World, Calls Tryz.prog 236 #[] w fun e w' => e = .returned (.agg tblA) ∧ Below w.heap.size w w'
theorem bkp_t {n0 nb : Nat} {A B C : World} (h : BKp n0 nb A B) (k : BKp n0 nb B C) : BKp n0 nb A C := ⟨h.1.trans k.1, k.2.trans h.2⟩
theorem bkp_b {n0 nb : Nat} {w : World} (hn : n0 ≤ w.heap.size) (hb : nb < w.heap.size) (W : World) (l : Nat) (o o' : Obj) (hl : w.heap.size ≤ l) (h : W.heap[l]? = some o) (h1 : o.isCells = false) (h2 : o.isWalk = false) : BKp n0 nb W (W.putObj l o') :=
  ⟨belowK_b hn W l o o' hl h h1 h2, (grownBy_putObj' W l o').block nb (by have := (Array.getElem?_eq_some_iff.1 h).1; omega) (fun e => by cases e; omega)⟩
theorem cells_own {β : Type} (B : Nat) (t : TypeId) (cs : Array Value) : Own (fun (_ : β) W => W.heap[B]? = some (.cells cs t (0, 0))) := fun _ X _ row hs hg hrow =>
  (hg.block B (Array.getElem?_eq_some_iff.1 hs).1 (fun e' => by obtain ⟨o, ho, hc⟩ := hrow B e'.symm; rw [hs] at ho; cases ho; cases hc)).trans hs
set_option maxRecDepth 100000 in
set_option maxHeartbeats 2000000 in
theorem update_in (HT : TableOk) (r : Nat) (hr : r < 4294967296) (s : List UInt8) (hs : s.length ≤ 1000000) (w : World) : CallsIn Fence.wide 3 Tryz.prog 140 #[.int .u32 (r : Int), .string ⟨s.toArray⟩] w fun e w' =>
    e = .returned (.int .u32 ((crcF r s : Nat) : Int)) ∧ Below w.heap.size w w' := by
  refine callsIn_of_wp_marks Tryz.func140 rfl trivial ?_ rfl
  simp only [Tryz.ntmps140, List.size_toArray, List.length_cons, List.length_nil, Nat.reduceAdd, Nat.reduceSub, Array.replicate_succ, Array.replicate_zero, List.push_toArray, List.append_toArray, List.nil_append, List.cons_append]
  gi_wp2
  refine ⟨trivial, ?_⟩
  refine (callsIn_wide.2 (HT _)).mono ?_
  rintro e w1 ⟨rfl, hb1⟩
  gi_wp2
  rw [run_storeCells_new w1 422 Tryz.zeroCells422 tblA (by rw [tblA_size]; kernel_rfl) (by rw [tblA_size]; kernel_rfl) (by kernel_rfl)]
  simp only [Result.andThen]
  gi_wp2
  refine ⟨trivial, ?_⟩
  refine (bytes_any _ _ _).mono ?_
  rintro e w2 ⟨rfl, rfl⟩
  gi_wp2
  have h1s : w.heap.size + 1 ≤ w1.heap.size := by have := hb1.size; simpa using this
  have bR : Boxed ((w1.alloc (.cells tblA 422)).alloc (.cells #[.string ⟨s.toArray⟩] 9)) w.heap.size 275 (.int .u32 (r : Int)) :=
    ((show Boxed w1 w.heap.size 275 (.int .u32 (r : Int)) from (hb1.block _ (by simp)).trans (Boxed.new w 275 _)).alloc _).alloc _
  have bT : ((w1.alloc (.cells tblA 422)).alloc (.cells #[.string ⟨s.toArray⟩] 9)).heap[w1.heap.size]? = some (.cells tblA 422 (0, 0)) := (Below.heap_alloc _ _ _ (by simp)).trans (World.alloc_heap_new w1 _)
  have bS := Boxed.new (w1.alloc (.cells tblA 422)) 9 (.string ⟨s.toArray⟩)
  have hB0 : Below w.heap.size w ((w1.alloc (.cells tblA 422)).alloc (.cells #[.string ⟨s.toArray⟩] 9)) :=
    ((((Below.refl _ w).alloc (Nat.le_refl _) _).trans (hb1.mono (by simp))).alloc (by omega) _).alloc (by simp; omega) _
  have hsz : ((w1.alloc (.cells tblA 422)).alloc (.cells #[.string ⟨s.toArray⟩] 9)).heap.size = w1.heap.size + 2 := by simp
  simp only [World.size_alloc] at bS
  clear hb1
  generalize (w1.alloc (.cells tblA 422)).alloc (.cells #[.string ⟨s.toArray⟩] 9) = W0 at *
  generalize w1.heap.size = tb at *
  refine wpIn_rangeFunc_ownG (F := Fence.wide) rfl (by omega) (gf := 348) (lb := #[.pointer (some ⟨tb + 1, 0, none⟩)]) rfl trivial (enters_of Tryz.func348 (by kernel_rfl) rfl)
    (bytes_stops 2 (by omega) (tb + 1) w.heap.size s hs W0 (by omega) bS) bkp_t (bkp_b (by omega) (by omega)) (Below.refl _ _) (fun _ => rfl)
    (fun pre W => Boxed W w.heap.size 275 (.int .u32 ((crcF r pre : Nat) : Int)) ∧ W.heap[tb]? = some (.cells tblA 422 (0, 0)) ∧ Boxed W (tb + 1) 9 (.string ⟨s.toArray⟩) ∧ Below w.heap.size w W)
    (fun _ _ _ => False)
    (OwnFrom.and (Own.from (boxed_own _ _ _) _) (OwnFrom.and (Own.from (cells_own _ _ _) _) (OwnFrom.and (Own.from (boxed_own _ _ (fun _ => _)) _) (ownFrom_below (Nat.le_refl _) (by omega)))))
    (fun _ _ _ _ _ hs _ _ => hs)
    ⟨bR, bT, bS, hB0⟩
    (fun x => { tmps := #[.int .u32 (r : Int), .string ⟨s.toArray⟩, .pointer (some ⟨w.heap.size, 0, none⟩), undef, .int .u32 0, .pointer (some ⟨tb, 0, none⟩), .int .u8 (x.toNat : Int), .agg tblA, .string ⟨s.toArray⟩, .func (.func 348) #[] #[.pointer (some ⟨tb + 1, 0, none⟩)], .int .u8 (x.toNat : Int), undef, undef, undef, undef, undef, undef, undef, undef, undef, undef], defers := [] })
    ?assign ?body ?done ?stop
  case assign =>
    intro l i W K hK
    gi_wp2
    exact hK
  case body =>
    rintro l pre x W ⟨hv, hT, hS, hB⟩ hlt
    have hc1 := hv.cell
    have hfz := hv.frozen
    have hrl : crcF r pre < 4294967296 := crcF_lt pre hr
    have hxl := x.toNat_lt
    have hcr : crcF r (pre ++ [x]) = crcU (crcF r pre) x.toNat := by unfold crcF; rw [List.foldl_append]; rfl
    have HCR := Lib.hid hcr
    clear hcr
    generalize hq : crcF r pre = q at *
    have hix : (q % 256) ^^^ x.toNat < 256 := Nat.xor_lt_two_pow (n := 8) (by omega) hxl
    have hU : bits .xor .u8 ((q : Int) % 256) (x.toNat : Int) = (((q % 256) ^^^ x.toNat : Nat) : Int) := by
      rw [u8_xor _ _ (by omega) (by omega) (by omega) (by omega)]
      congr 1
    have hwq : IntKind.u8.wrap (q : Int) = (q : Int) % 256 := IntKind.wrap_u8' _
    have hU2 : bits .xor .u8 (IntKind.u8.wrap (q : Int)) (x.toNat : Int) = (((q % 256) ^^^ x.toNat : Nat) : Int) := by rw [hwq]; exact hU
    have hi1 : ((((q % 256) ^^^ x.toNat : Nat) : Int)) < 256 := by omega
    have hi2 : (0 : Int) ≤ (((q % 256) ^^^ x.toNat : Nat) : Int) := by omega
    have hfT := frozen_of_row _ _ ((q % 256) ^^^ x.toNat) _ _ hT
    have hTc : W.cell? ⟨tb, (q % 256) ^^^ x.toNat, none⟩ = some (.int .u32 ((crcT ((q % 256) ^^^ x.toNat) : Nat) : Int)) := (cell_of_row _ _ _ _ _ _ hT).trans (tblA_get hix)
    have hX : bits .xor .u32 ((q : Int) / 256) ((crcT ((q % 256) ^^^ x.toNat) : Nat) : Int) = ((crcU q x.toNat : Nat) : Int) := by
      have := crcT_lt hix
      rw [u32_xor _ _ (by omega) (by omega) (by omega) (by omega)]
      congr 1
    have hend : KeepsFrom W0.heap.size W (W.setCell ⟨w.heap.size, 0, none⟩ (.int .u32 ((crcU q x.toNat : Nat) : Int))).drew ∧ BKp w.heap.size (tb + 1) W (W.setCell ⟨w.heap.size, 0, none⟩ (.int .u32 ((crcU q x.toNat : Nat) : Int))).drew ∧
        (Boxed (W.setCell ⟨w.heap.size, 0, none⟩ (.int .u32 ((crcU q x.toNat : Nat) : Int))).drew w.heap.size 275 (.int .u32 ((crcF r (pre ++ [x]) : Nat) : Int)) ∧ (W.setCell ⟨w.heap.size, 0, none⟩ (.int .u32 ((crcU q x.toNat : Nat) : Int))).drew.heap[tb]? = some (.cells tblA 422 (0, 0)) ∧
          Boxed (W.setCell ⟨w.heap.size, 0, none⟩ (.int .u32 ((crcU q x.toNat : Nat) : Int))).drew (tb + 1) 9 (.string ⟨s.toArray⟩) ∧ Below w.heap.size w (W.setCell ⟨w.heap.size, 0, none⟩ (.int .u32 ((crcU q x.toNat : Nat) : Int))).drew) := by
      have hg := grownBy_setCell' W w.heap.size (.int .u32 ((crcU q x.toNat : Nat) : Int))
      have hk := KeepsFrom.of_grownBy (B := W0.heap.size) hg (fun j e => by have := Option.some.inj e; omega)
      have hbe := Below.drew ((Below.refl w.heap.size W).grown hg (Nat.le_of_lt hv.lt) (fun j e => by cases e; exact Nat.le_refl _))
      have t1 := hg.block tb (Array.getElem?_eq_some_iff.1 hT).1 (fun e => by have := Option.some.inj e; omega)
      have t2 := hg.block (tb + 1) hS.lt (fun e => by have := Option.some.inj e; omega)
      refine ⟨⟨hk.size, hk.same⟩, ⟨hbe, t2⟩, ?_, t1.trans hT, t2.trans hS, hB.trans hbe⟩
      rw [HCR.out]
      exact hv.set _
    have HEND := Lib.hid hend
    have HT2 := Lib.hid hT
    clear hT hend hS
    generalize (q % 256) ^^^ x.toNat = ix at *
    gi_wp2
    gi_region
    all_goals gi_wp2
    all_goals exact HEND.out
  case done =>
    rintro D ys W hD rfl ⟨hv, hT, hS, hB⟩ hK
    have hc1 := hv.cell
    gi_wp2
    refine ⟨by simp, .inl ⟨_, _, rfl, run_takeDeferred hK, ?_⟩⟩
    refine ⟨_, results_tmp rfl _ _ _, rfl, hB.trans (belowK_b (w := w) (Nat.le_refl _) W D _ _ (by omega) hK rfl rfl)⟩
  case stop =>
    rintro D cc pre W _ _ h _
    exact h.elim
end Go.Proofs.YthlfhfliidhelaaGreatDoor

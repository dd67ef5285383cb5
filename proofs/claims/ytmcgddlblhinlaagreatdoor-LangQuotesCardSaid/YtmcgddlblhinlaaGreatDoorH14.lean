/- The lines of a text, and the iterator that yields them. -/
import Derived.Test.YtmcgddlblhinlaaGreatDoorH6
import Derived.Test.YtmcgddlblhinlaaGreatDoorP3
import Derived.Test.YtmcgddlblhinlaaGreatDoorRC
import Derived.Shelf.Abstract
import Derived.Shelf.RegionOpen
import Derived.OwnWalkIn
import Derived.TacticsInMore
import Derived.LoopNIn
import Derived.LoopIn
import Derived.BigRegionIn
namespace Go.Proofs.YtmcgddlblhinlaaGreatDoor
open Go.RowKit Go.Shelf
attribute [local go_sem] Oper.semAt_some
theorem mk_size (l : List UInt8) : (⟨l.toArray⟩ : ByteArray).size = l.length := rfl
theorem grown_drewN (w : World) (n : Nat) (row : Option Nat) : w.grownBy (w.drewN n) row := ⟨rfl, rfl, rfl, Nat.le_refl _, fun _ _ _ => rfl⟩
/-- what stood below B stands -/
def Gw (w0 W : World) : Prop := w0.heap.size ≤ W.heap.size ∧ ∀ k, k < w0.heap.size → W.heap[k]? = w0.heap[k]?
theorem Glob.gw0 {w0 W : World} (h : Glob w0) (g : Gw w0 W) : Glob W := h.gw fun k hk => g.2 k (by have := h.lt; omega)
theorem Gw.grown {w0 A B : World} {xb : Nat} (h : Gw w0 A) (hg : A.grownBy B (some xb)) (hx : w0.heap.size ≤ xb) : Gw w0 B :=
  ⟨Nat.le_trans h.1 hg.size, fun k hk => (hg.block k (by have := h.1; omega) (by simp; omega)).trans (h.2 k hk)⟩
/-- the iterator's own steps -/
def LCl (xb : Nat) (A B : World) : Prop := A.grownBy B (some xb)
/-- what a round keeps -/
def LKp (N0 xb : Nat) (A B : World) : Prop := B.heap[xb]? = A.heap[xb]? ∧ (∀ k, k < N0 → B.heap[k]? = A.heap[k]?) ∧ A.heap.size ≤ B.heap.size
set_option maxRecDepth 100000 in
set_option maxHeartbeats 2000000 in
theorem lines_in (n : Nat) (hn : 1 ≤ n) (l xb : Nat) (w0 : World) (hG : Glob w0) (hx8 : w0.heap.size ≤ xb) (s : List UInt8) (hs : s.length ≤ 8192) (J Jx : List (Int × ByteArray) → World → Prop)
    (hJ : ∀ p A B, J p A → LCl xb A B → J p B)
    (hY : ∀ pre (x : Int × ByteArray) W, x.2.size ≤ 8192 → J pre W → pre.length < 8192 → YieldAt Fence.wide (n - 1) Tryz.prog l #[.int .i64 x.1, .string x.2] W fun e W' =>
      (e = .returned (.bool true) ∧ J (pre ++ [x]) W' ∧ LKp w0.heap.size xb W W') ∨ (e = .returned (.bool false) ∧ Jx (pre ++ [x]) W'))
    (W : World) (hb : Boxed W xb 9 (.string ⟨s.toArray⟩)) (hg0 : Gw w0 W) (h0 : J [] W) :
    CallsIn Fence.wide n Tryz.prog 57 #[.func (.yield l) #[] #[], .pointer (some ⟨xb, 0, none⟩)] W fun e W' => (∃ v, e = .returned v) ∧
      ((∃ ys, ys = linesT s.length 1 s ∧ J ys W') ∨ (∃ pre, (∃ post, pre ++ post = linesT s.length 1 s) ∧ Jx pre W')) := by
  have HY := Lib.hid hY
  have HJ := Lib.hid hJ
  clear hY hJ
  refine callsIn_of_wp Tryz.func57 rfl trivial ?_ rfl
  simp only [Tryz.ntmps57, List.size_toArray, List.length_cons, List.length_nil, Nat.reduceAdd, Nat.reduceSub, Array.replicate_succ, Array.replicate_zero, List.push_toArray, List.append_toArray, List.nil_append, List.cons_append]
  gi_wp2
  gi_loopw [3] (fun i wr => ∃ (k f : Nat) (s' : List UInt8) (pre : List (Int × ByteArray)), i = .int .i64 k ∧ k = pre.length + 1 ∧ s'.length ≤ f ∧ f + pre.length = s.length ∧ Hid (pre ++ linesT f k s' = linesT s.length 1 s) ∧ Boxed wr xb 9 (.string ⟨s'.toArray⟩) ∧ Gw w0 wr ∧ Hid (J pre wr)) (fun i _ => 8300 - (intOf i).toNat)
  case atStart => exact ⟨1, s.length, s, [], rfl, rfl, Nat.le_refl _, rfl, rfl, hb, hg0, h0⟩
  case round =>
    obtain ⟨k, f, s', pre, rfl, hk, hf, hfl, HL, hbr, hgr, HJr⟩ := hrel
    have hc := hbr.cell
    have hfz := hbr.frozen
    have HK := Lib.hid hk
    have hk2 : k ≤ 8193 := by omega
    have hpl : pre.length ≤ 8192 := by omega
    clear hk
    by_cases he : s' = []
    · subst he
      have hx : pre = linesT s.length 1 s := by rw [← HL.out, linesT_nil, List.append_nil]
      have HX := Lib.hid hx
      clear hx
      gi_wp2
      go_end0
      exact ⟨⟨_, rfl⟩, .inl ⟨_, HX.out, HJr.out⟩⟩
    · have hne : s'.isEmpty = false := by simpa using he
      have hp := List.length_pos_iff.2 he
      obtain ⟨f', rfl⟩ : ∃ f', f = f' + 1 := ⟨f - 1, by omega⟩
      have hsz : (⟨s'.toArray⟩ : ByteArray).size ≤ 70000 := by rw [mk_size]; omega
      have hst := HL.out
      rw [linesT_succ, if_neg he] at hst
      have HCL := Lib.hid (cut_less he)
      have HC1 := Lib.hid (cut_len1 s')
      have HLO : Hid (lineOf s' = if (Lib.cut s' [10]).2.2 = true then (Lib.cut s' [10]).1 else []) := rfl
      have HCN := Lib.hid (cut_none s')
      have HST := Lib.hid hst
      clear he hst HL
      gi_wp2
      refine ⟨trivial, ?_⟩
      refine (callsIn_wide.2 (cut_any _ ⟨#[10]⟩ hsz _ (hG.gw0 hgr))).mono ?_
      rintro e w1 ⟨rfl, q, rfl⟩
      have hJ1 : J pre (wr.drewN q) := HJ.out _ _ _ HJr.out (grown_drewN _ _ _)
      have HCL := HCL.out
      have HST := HST.out
      have HC1 := HC1.out
      have HLO := HLO.out
      have HCN := HCN.out
      generalize lineOf s' = ln at HST HLO
      generalize Lib.cut s' [10] = ct at HCL HST HC1 HLO HCN ⊢
      obtain ⟨c1, c2, c3⟩ := ct
      have hc1l : c1.length ≤ s'.length := HC1
      have hc2 : c2.length < s'.length := HCL
      clear HC1 HCL
      cases c3 with
      | false =>
        obtain rfl : ln = [] := HLO
        obtain rfl : c2 = [] := HCN rfl
        have hlz : (⟨([] : List UInt8).toArray⟩ : ByteArray).size ≤ 8192 := Nat.zero_le _
        obtain ⟨fn, tmps, assign, body, hy, hR⟩ := HY.out pre ((k : Int), ⟨([] : List UInt8).toArray⟩) (wr.drewN q) hlz hJ1 (by omega)
        rw [linesT_nil] at HST
        have HS : Hid (pre ++ [((k : Int), (⟨([] : List UInt8).toArray⟩ : ByteArray))] = linesT s.length 1 s) := HST
        clear HST HLO HCN hlz
        gi_wp2
        refine hR.mono ?_
        rintro e W3 (⟨rfl, hJ3, hk3⟩ | ⟨rfl, hJx3⟩)
        · gi_wp2
          refine bodyPost_ret (results_none rfl _ _ _) rfl ?_
          exact ⟨⟨_, rfl⟩, .inl ⟨_, HS.out, hJ3⟩⟩
        · gi_wp2
          refine bodyPost_ret (results_none rfl _ _ _) rfl ?_
          exact ⟨⟨_, rfl⟩, .inr ⟨_, ⟨[], by rw [List.append_nil]; exact HS.out⟩, hJx3⟩⟩
      | true =>
        obtain rfl : ln = c1 := HLO
        have hlz : (⟨ln.toArray⟩ : ByteArray).size ≤ 8192 := by rw [mk_size]; omega
        obtain ⟨fn, tmps, assign, body, hy, hR⟩ := HY.out pre ((k : Int), ⟨ln.toArray⟩) (wr.drewN q) hlz hJ1 (by omega)
        have HS : Hid ((pre ++ [((k : Int), (⟨ln.toArray⟩ : ByteArray))]) ++ linesT f' ((k : Int) + 1) c2 = linesT s.length 1 s) := by
          show _ = _
          rw [← HST]; simp
        clear HST HLO HCN hlz
        gi_wp2
        refine hR.mono ?_
        rintro e W3 (⟨rfl, hJ3, hk3⟩ | ⟨rfl, hJx3⟩)
        · have hb3 : Boxed W3 xb 9 (.string ⟨s'.toArray⟩) := hk3.1.trans hbr
          have hg3 : Gw w0 W3 := ⟨Nat.le_trans hgr.1 hk3.2.2, fun k hk => (hk3.2.1 k hk).trans (hgr.2 k hk)⟩
          have hc3 := hb3.cell
          have hf3 := hb3.frozen
          have hx3 := hb3.lt
          have hJ4 := Lib.hid (HJ.out _ _ _ hJ3 (grownBy_setCell' W3 xb (.string ⟨c2.toArray⟩)))
          have hb4 := hb3.set (.string ⟨c2.toArray⟩)
          have hg4 := hg3.grown (grownBy_setCell' W3 xb (.string ⟨c2.toArray⟩)) hx8
          clear hJ3 hk3 hc hfz hb3 hg3
          gi_wp2
          go_roundw
          case rel => exact ⟨k + 1, f', c2, _, by go_num, by have := HK.out; simp; omega, by omega, by simp; omega, (by have := HS.out; show _ = _; simpa using this), hb4, hg4, hJ4⟩
          case measure => simp [intOf]; omega
        · gi_wp2
          refine bodyPost_ret (results_none rfl _ _ _) rfl ?_
          exact ⟨⟨_, rfl⟩, .inr ⟨_, ⟨_, HS.out⟩, hJx3⟩⟩
theorem lines_fn (n : Nat) (s : ByteArray) (w : World) : CallsIn Fence.wide n Tryz.prog 37 #[.string s] w fun e w' =>
    e = .returned (.func (.func 57) #[] #[.pointer (some ⟨w.heap.size, 0, none⟩)]) ∧ w' = w.alloc (.cells #[.string s] 9) := by
  refine callsIn_of_wp Tryz.func37 rfl trivial ?_ rfl
  simp only [Tryz.ntmps37, List.size_toArray, List.length_cons, List.length_nil, Nat.reduceAdd, Nat.reduceSub, Array.replicate_succ, Array.replicate_zero, List.push_toArray, List.append_toArray, List.nil_append, List.cons_append]
  gi_wp2
  go_ret
  exact ⟨rfl, rfl⟩
theorem lines_seq (n : Nat) (hn : 1 ≤ n) (xb : Nat) (w0 : World) (hG : Glob w0) (hx8 : w0.heap.size ≤ xb) (s : List UInt8) (hs : s.length ≤ 8192) (w : World) (hb : Boxed w xb 9 (.string ⟨s.toArray⟩)) (hg0 : Gw w0 w) :
    SeqCl Fence.wide n Tryz.prog 57 #[.pointer (some ⟨xb, 0, none⟩)] (fun x : Int × ByteArray => #[Value.int .i64 x.1, Value.string x.2]) (fun x => x.2.size ≤ 8192) (LKp w0.heap.size xb) (LCl xb) (fun ys => ys = linesT s.length 1 s) (fun pre => ∃ post, pre ++ post = linesT s.length 1 s) 8192 w :=
  fun l J Jx W hW hJ _ hY h0 => lines_in n hn l xb w0 hG hx8 s hs J Jx hJ hY W ((hW.block xb hb.lt).trans hb) ⟨Nat.le_trans hg0.1 hW.size, fun k hk => (hW.block k (Nat.lt_of_lt_of_le hk hg0.1)).trans (hg0.2 k hk)⟩ h0
end Go.Proofs.YtmcgddlblhinlaaGreatDoor

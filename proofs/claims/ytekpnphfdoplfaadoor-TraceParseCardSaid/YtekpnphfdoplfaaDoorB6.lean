/- The lines of a text, and the iterator that yields them. -/
import Derived.Test.YtekpnphfdoplfaaDoorB4
import Derived.Test.YtekpnphfdoplfaaDoorRC
import Derived.Shelf.Abstract
import Derived.Shelf.RegionOpen
import Derived.OwnWalkIn
import Derived.TacticsInMore
import Derived.LoopNIn
import Derived.LoopIn
import Derived.BigRegionIn
namespace Go.Proofs.YtekpnphfdoplfaaDoor
open Go.RowKit Go.Shelf
attribute [local go_sem] Oper.semAt_some
theorem cut_len {l : List UInt8} (h : (Lib.cut l [10]).2.2 = true) (hl : l ≠ []) : (Lib.cut l [10]).2.1.length < l.length := by
  have hp := List.length_pos_iff.2 hl
  unfold Lib.cut at h ⊢
  split at h <;> rename_i hi
  · rw [if_pos hi]; simp; omega
  · cases h
theorem cut_len1 (l : List UInt8) : (Lib.cut l [10]).1.length ≤ l.length := by
  unfold Lib.cut
  split
  · simp; omega
  · exact Nat.le_refl _
/-- the first line, with its line feed -/
def lineOf (l : List UInt8) : List UInt8 := if (Lib.cut l [10]).2.2 = true then (Lib.cut l [10]).1 ++ [10] else (Lib.cut l [10]).1
/-- the lines from number n on -/
def linesT : Nat → Int → List UInt8 → List (Int × ByteArray)
  | 0, _, _ => []
  | f + 1, n, l => if l = [] then [] else (n, ⟨(lineOf l).toArray⟩) :: linesT f (n + 1) (Lib.cut l [10]).2.1
theorem linesT_succ (f : Nat) (n : Int) (l : List UInt8) : linesT (f + 1) n l = if l = [] then [] else (n, ⟨(lineOf l).toArray⟩) :: linesT f (n + 1) (Lib.cut l [10]).2.1 := rfl
theorem linesT_nil (f : Nat) (n : Int) : linesT f n [] = [] := by cases f <;> simp [linesT]
theorem cut_none (l : List UInt8) (h : (Lib.cut l [10]).2.2 = false) : (Lib.cut l [10]).2.1 = [] := by
  unfold Lib.cut at h ⊢
  split at h
  · cases h
  · rename_i hi; rw [if_neg hi]
theorem cut_less {l : List UInt8} (hl : l ≠ []) : (Lib.cut l [10]).2.1.length < l.length := by
  have hp := List.length_pos_iff.2 hl
  cases h : (Lib.cut l [10]).2.2
  · rw [cut_none l h]; exact hp
  · exact cut_len h hl
theorem lineOf_len (l : List UInt8) : (lineOf l).length ≤ l.length + 1 := by
  have := cut_len1 l
  unfold lineOf; split <;> simp <;> omega
theorem grown_drewN (w : World) (n : Nat) (row : Option Nat) : w.grownBy (w.drewN n) row := ⟨rfl, rfl, rfl, Nat.le_refl _, fun _ _ _ => rfl⟩
/-- what stood below B stands -/
def Gw (w0 W : World) : Prop := w0.heap.size ≤ W.heap.size ∧ ∀ k, k < w0.heap.size → W.heap[k]? = w0.heap[k]?
theorem Glob.gw {w0 W : World} (h : Glob w0) (g : Gw w0 W) : Glob W := by
  have hc : ∀ b o v, w0.cell? ⟨b, o, none⟩ = some v → W.cell? ⟨b, o, none⟩ = some v := fun b o v hv => (World.cell?_of_block (a := ⟨b, o, none⟩) (g.2 b (cell_lt hv))).trans hv
  obtain ⟨⟨m, h1⟩, h2, ⟨T, oT, R, oR, a1, a2, a3, a4, a5⟩, ⟨t1, p1, h4⟩, ⟨t2, p2, h5⟩, h6⟩ := h
  exact ⟨⟨m, hc _ _ _ h1⟩, tabIs_keep Tryd.gSpace h2 (g.2 _ (tabIs_lt Tryd.gSpace h2)), ⟨T, oT, R, oR, hc _ _ _ a1, hc _ _ _ a2, hc _ _ _ a3, hc _ _ _ a4, fun i hi => hc _ _ _ (a5 i hi)⟩, ⟨t1, p1, hc _ _ _ h4⟩, ⟨t2, p2, hc _ _ _ h5⟩, tabIs_keep Tryd.gPow h6 (g.2 _ (tabIs_lt Tryd.gPow h6))⟩
theorem Gw.grown {w0 A B : World} {xb : Nat} (h : Gw w0 A) (hg : A.grownBy B (some xb)) (hx : w0.heap.size ≤ xb) : Gw w0 B :=
  ⟨Nat.le_trans h.1 hg.size, fun k hk => (hg.block k (by have := h.1; omega) (by simp; omega)).trans (h.2 k hk)⟩
/-- the iterator's own steps -/
def LCl (xb : Nat) (A B : World) : Prop := A.grownBy B (some xb)
/-- what a round keeps -/
def LKp (N0 xb : Nat) (A B : World) : Prop := B.heap[xb]? = A.heap[xb]? ∧ (∀ k, k < N0 → B.heap[k]? = A.heap[k]?) ∧ A.heap.size ≤ B.heap.size
set_option maxRecDepth 100000 in
set_option maxHeartbeats 2000000 in
theorem lines_in (n : Nat) (hn : 1 ≤ n) (l xb : Nat) (w0 : World) (hG : Glob w0) (hx8 : w0.heap.size ≤ xb) (s : List UInt8) (hs : s.length ≤ 65536) (J Jx : List (Int × ByteArray) → World → Prop)
    (hJ : ∀ p A B, J p A → LCl xb A B → J p B)
    (hY : ∀ pre (x : Int × ByteArray) W, x.2.size ≤ 65537 → J pre W → pre.length < 65536 → YieldAt Fence.wide (n - 1) Tryd.prog l #[.int .i64 x.1, .string x.2] W fun e W' =>
      (e = .returned (.bool true) ∧ J (pre ++ [x]) W' ∧ LKp w0.heap.size xb W W') ∨ (e = .returned (.bool false) ∧ Jx (pre ++ [x]) W'))
    (W : World) (hb : Boxed W xb 9 (.string ⟨s.toArray⟩)) (hg0 : Gw w0 W) (h0 : J [] W) :
    CallsIn Fence.wide n Tryd.prog 45 #[.func (.yield l) #[] #[], .pointer (some ⟨xb, 0, none⟩)] W fun e W' => (∃ v, e = .returned v) ∧
      ((∃ ys, ys = linesT s.length 1 s ∧ J ys W') ∨ (∃ pre, (∃ post, pre ++ post = linesT s.length 1 s) ∧ Jx pre W')) := by
  have HY := Lib.hid hY
  have HJ := Lib.hid hJ
  clear hY hJ
  refine callsIn_of_wp Tryd.func45 rfl trivial ?_ rfl
  simp only [Tryd.ntmps45, List.size_toArray, List.length_cons, List.length_nil, Nat.reduceAdd, Nat.reduceSub, Array.replicate_succ, Array.replicate_zero, List.push_toArray, List.append_toArray, List.nil_append, List.cons_append]
  gi_wp2
  gi_loopw [3] (fun i wr => ∃ (k f : Nat) (s' : List UInt8) (pre : List (Int × ByteArray)), i = .int .i64 k ∧ k = pre.length + 1 ∧ s'.length ≤ f ∧ f + pre.length = s.length ∧ Hid (pre ++ linesT f k s' = linesT s.length 1 s) ∧ Boxed wr xb 9 (.string ⟨s'.toArray⟩) ∧ Gw w0 wr ∧ Hid (J pre wr)) (fun i _ => 65600 - (intOf i).toNat)
  case atStart => exact ⟨1, s.length, s, [], rfl, rfl, Nat.le_refl _, rfl, rfl, hb, hg0, h0⟩
  case round =>
    obtain ⟨k, f, s', pre, rfl, hk, hf, hfl, HL, hbr, hgr, HJr⟩ := hrel
    have hc := hbr.cell
    have hfz := hbr.frozen
    have HK := Lib.hid hk
    have hk2 : k ≤ 65537 := by omega
    have hpl : pre.length ≤ 65536 := by omega
    clear hk
    by_cases he : s' = []
    · subst he
      have hx : pre = linesT s.length 1 s := by rw [← HL.out, linesT_nil, List.append_nil]
      have HX := Lib.hid hx
      clear hx
      gi_wp2
      go_end0
      exact ⟨⟨_, rfl⟩, .inl ⟨_, HX.out, HJr.out⟩⟩
    · have hne : s'.isEmpty = false := by simpa using he
      have hp := List.length_pos_iff.2 he
      obtain ⟨f', rfl⟩ : ∃ f', f = f' + 1 := ⟨f - 1, by omega⟩
      have hsz : (⟨s'.toArray⟩ : ByteArray).size ≤ 70000 := by rw [mk_size]; omega
      have HN := Lib.hid he
      have hst := HL.out
      rw [linesT_succ, if_neg he] at hst
      have HCL := Lib.hid (cut_less he)
      have HC1 := Lib.hid (cut_len1 s')
      have HLN := Lib.hid (lineOf_len s')
      have HLO : Hid (lineOf s' = if (Lib.cut s' [10]).2.2 = true then (Lib.cut s' [10]).1 ++ [10] else (Lib.cut s' [10]).1) := rfl
      have HST := Lib.hid hst
      clear he hst HL
      gi_wp2
      refine ⟨trivial, ?_⟩
      refine (callsIn_wide.2 (cut_any _ hsz _ (hG.gw hgr))).mono ?_
      rintro e w1 ⟨rfl, q, rfl⟩
      have hJ1 : J pre (wr.drewN q) := HJ.out _ _ _ HJr.out (grown_drewN _ _ _)
      have HCL := HCL.out
      have HST := HST.out
      have HC1 := HC1.out
      have HLO := HLO.out
      have HLN := HLN.out
      generalize lineOf s' = ln at HST HLO HLN
      generalize Lib.cut s' [10] = ct at HCL HST HC1 HLO ⊢
      obtain ⟨c1, c2, c3⟩ := ct
      have hc1l : c1.length ≤ s'.length := HC1
      have hc2 : c2.length < s'.length := HCL
      have hcat : ¬ 9223372036854775807 < c1.length + 1 := by omega
      have hlz : (⟨ln.toArray⟩ : ByteArray).size ≤ 65537 := by rw [mk_size]; omega
      clear HC1 HCL HLN
      obtain ⟨fn, tmps, assign, body, hy, hR⟩ := HY.out pre ((k : Int), ⟨ln.toArray⟩) (wr.drewN q) hlz hJ1 (by omega)
      have HS : Hid ((pre ++ [((k : Int), (⟨ln.toArray⟩ : ByteArray))]) ++ linesT f' ((k : Int) + 1) c2 = linesT s.length 1 s) := by
        show _ = _
        rw [← HST]; simp
      clear HST hlz
      cases c3 with
      | false =>
        obtain rfl : ln = c1 := HLO
        clear HLO hcat
        gi_wp2
        refine hR.mono ?_
        rintro e W3 (⟨rfl, hJ3, hk3⟩ | ⟨rfl, hJx3⟩)
        · have hb3 : Boxed W3 xb 9 (.string ⟨s'.toArray⟩) := hk3.1.trans hbr
          have hg3 : Gw w0 W3 := ⟨Nat.le_trans hgr.1 hk3.2.2, fun k hk => (hk3.2.1 k hk).trans (hgr.2 k hk)⟩
          have hc3 := hb3.cell
          have hf3 := hb3.frozen
          have hx3 := hb3.lt
          have hJ4 := Lib.hid (HJ.out _ _ _ hJ3 (grownBy_setCell' W3 xb (.string ⟨c2.toArray⟩)))
          have hb4 := hb3.set (.string ⟨c2.toArray⟩)
          have hg4 := hg3.grown (grownBy_setCell' W3 xb (.string ⟨c2.toArray⟩)) hx8
          clear hJ3 hk3 hc hfz hb3 hg3
          gi_wp2
          go_roundw
          case rel => exact ⟨k + 1, f', c2, _, by go_num, by have := HK.out; simp; omega, by omega, by simp; omega, (by have := HS.out; show _ = _; simpa using this), hb4, hg4, hJ4⟩
          case measure => simp [intOf]; omega
        · gi_wp2
          refine bodyPost_ret (results_none rfl _ _ _) rfl ?_
          exact ⟨⟨_, rfl⟩, .inr ⟨_, ⟨_, HS.out⟩, hJx3⟩⟩
      | true =>
        obtain rfl : ln = c1 ++ [10] := HLO
        have hap : (⟨c1.toArray⟩ : ByteArray) ++ ⟨#[10]⟩ = ⟨(c1 ++ [10]).toArray⟩ := ByteArray.mk_append_mk c1 [10]
        rw [← hap] at hy hR HS
        have hcb : ¬ 9223372036854775807 < (⟨c1.toArray⟩ : ByteArray).size + 1 := by rw [mk_size]; omega
        clear HLO hap hcat
        generalize (⟨c1.toArray⟩ : ByteArray) = cb at *
        gi_wp2
        refine hR.mono ?_
        rintro e W3 (⟨rfl, hJ3, hk3⟩ | ⟨rfl, hJx3⟩)
        · have hb3 : Boxed W3 xb 9 (.string ⟨s'.toArray⟩) := hk3.1.trans hbr
          have hg3 : Gw w0 W3 := ⟨Nat.le_trans hgr.1 hk3.2.2, fun k hk => (hk3.2.1 k hk).trans (hgr.2 k hk)⟩
          have hc3 := hb3.cell
          have hf3 := hb3.frozen
          have hx3 := hb3.lt
          have hJ4 := Lib.hid (HJ.out _ _ _ hJ3 (grownBy_setCell' W3 xb (.string ⟨c2.toArray⟩)))
          have hb4 := hb3.set (.string ⟨c2.toArray⟩)
          have hg4 := hg3.grown (grownBy_setCell' W3 xb (.string ⟨c2.toArray⟩)) hx8
          clear hJ3 hk3 hc hfz hb3 hg3
          gi_wp2
          go_roundw
          case rel => exact ⟨k + 1, f', c2, _, by go_num, by have := HK.out; simp; omega, by omega, by simp; omega, (by have := HS.out; show _ = _; simpa using this), hb4, hg4, hJ4⟩
          case measure => simp [intOf]; omega
        · gi_wp2
          refine bodyPost_ret (results_none rfl _ _ _) rfl ?_
          exact ⟨⟨_, rfl⟩, .inr ⟨_, ⟨_, HS.out⟩, hJx3⟩⟩
theorem lines_fn (n : Nat) (s : ByteArray) (w : World) : CallsIn Fence.wide n Tryd.prog 28 #[.string s] w fun e w' =>
    e = .returned (.func (.func 45) #[] #[.pointer (some ⟨w.heap.size, 0, none⟩)]) ∧ w' = w.alloc (.cells #[.string s] 9) := by
  refine callsIn_of_wp Tryd.func28 rfl trivial ?_ rfl
  simp only [Tryd.ntmps28, List.size_toArray, List.length_cons, List.length_nil, Nat.reduceAdd, Nat.reduceSub, Array.replicate_succ, Array.replicate_zero, List.push_toArray, List.append_toArray, List.nil_append, List.cons_append]
  gi_wp2
  go_ret
  exact ⟨rfl, rfl⟩
theorem lines_seq (n : Nat) (hn : 1 ≤ n) (xb : Nat) (w0 : World) (hG : Glob w0) (hx8 : w0.heap.size ≤ xb) (s : List UInt8) (hs : s.length ≤ 65536) (w : World) (hb : Boxed w xb 9 (.string ⟨s.toArray⟩)) (hg0 : Gw w0 w) :
    SeqCl Fence.wide n Tryd.prog 45 #[.pointer (some ⟨xb, 0, none⟩)] (fun x : Int × ByteArray => #[Value.int .i64 x.1, Value.string x.2]) (fun x => x.2.size ≤ 65537) (LKp w0.heap.size xb) (LCl xb) (fun ys => ys = linesT s.length 1 s) (fun pre => ∃ post, pre ++ post = linesT s.length 1 s) 65536 w :=
  fun l J Jx W hW hJ _ hY h0 => lines_in n hn l xb w0 hG hx8 s hs J Jx hJ hY W ((hW.block xb hb.lt).trans hb) ⟨Nat.le_trans hg0.1 hW.size, fun k hk => (hW.block k (Nat.lt_of_lt_of_le hk hg0.1)).trans (hg0.2 k hk)⟩ h0
end Go.Proofs.YtekpnphfdoplfaaDoor

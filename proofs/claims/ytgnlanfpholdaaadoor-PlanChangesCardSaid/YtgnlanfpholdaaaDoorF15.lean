/- The lines of a text, and the iterator that yields them. -/
import Derived.Test.YtgnlanfpholdaaaDoorF14
import Derived.Test.YtgnlanfpholdaaaDoorRC
import Derived.Shelf.Abstract
import Derived.Shelf.RegionOpen
import Derived.OwnWalkIn
import Derived.TacticsInMore
import Derived.LoopNIn
import Derived.LoopIn
namespace Go.Proofs.YtgnlanfpholdaaaDoor
open Go.RowKit Go.Shelf
attribute [local go_sem] Oper.semAt_some
/-- the lines from number n on; one that is not ended has the number 0 -/
def linesF : Nat → Int → List UInt8 → List (Int × ByteArray)
  | 0, _, _ => []
  | f + 1, n, l => if l = [] then [] else
    if (Lib.cut l [10]).2.2 = true then (n, ⟨(Lib.cut l [10]).1.toArray⟩) :: linesF f (n + 1) (Lib.cut l [10]).2.1
    else [(0, ⟨(Lib.cut l [10]).1.toArray⟩)]
theorem cut_len {l : List UInt8} (h : (Lib.cut l [10]).2.2 = true) (hl : l ≠ []) : (Lib.cut l [10]).2.1.length < l.length := by
  have hp := List.length_pos_iff.2 hl
  unfold Lib.cut at h ⊢
  split at h <;> rename_i hi
  · rw [if_pos hi]; simp; omega
  · cases h
theorem cut_len1 (l : List UInt8) : (Lib.cut l [10]).1.length ≤ l.length := by
  unfold Lib.cut
  split
  · simp; omega
  · exact Nat.le_refl _
theorem linesF_len : ∀ (f : Nat) (n : Int) (l : List UInt8), (linesF f n l).length ≤ f
  | 0, _, _ => Nat.le_refl _
  | f + 1, n, l => by
    unfold linesF
    split
    · exact Nat.zero_le _
    · split
      · have := linesF_len f (n + 1) (Lib.cut l [10]).2.1
        simp only [List.length_cons]; omega
      · simp
theorem linesF_succ (f : Nat) (n : Int) (l : List UInt8) : linesF (f + 1) n l = if l = [] then [] else if (Lib.cut l [10]).2.2 = true then (n, ⟨(Lib.cut l [10]).1.toArray⟩) :: linesF f (n + 1) (Lib.cut l [10]).2.1 else [(0, ⟨(Lib.cut l [10]).1.toArray⟩)] := rfl
theorem linesF_nil (f : Nat) (n : Int) : linesF f n [] = [] := by cases f <;> simp [linesF]
/-- the iterator's own steps -/
def LCl (xb : Nat) (A B : World) : Prop := A.grownBy B (some xb)
/-- what a round keeps -/
def LKp (xb : Nat) (A B : World) : Prop := B.heap[xb]? = A.heap[xb]? ∧ (∀ k, k < 8 → B.heap[k]? = A.heap[k]?) ∧ A.heap.size ≤ B.heap.size
theorem grown_drewN (w : World) (n : Nat) (row : Option Nat) : w.grownBy (w.drewN n) row := ⟨rfl, rfl, rfl, Nat.le_refl _, fun _ _ _ => rfl⟩
set_option maxRecDepth 100000 in
set_option maxHeartbeats 2000000 in
theorem lines_in (n : Nat) (hn : 1 ≤ n) (l xb : Nat) (hx8 : 8 ≤ xb) (s : List UInt8) (hs : s.length ≤ 8192) (J Jx : List (Int × ByteArray) → World → Prop)
    (hJ : ∀ p A B, J p A → LCl xb A B → J p B)
    (hY : ∀ pre (x : Int × ByteArray) W, x.2.size ≤ 8192 → J pre W → pre.length < 8192 → YieldAt Fence.wide (n - 1) Tryd.prog l #[.int .i64 x.1, .string x.2] W fun e W' =>
      (e = .returned (.bool true) ∧ J (pre ++ [x]) W' ∧ LKp xb W W') ∨ (e = .returned (.bool false) ∧ Jx (pre ++ [x]) W'))
    (W : World) (hb : Boxed W xb 9 (.string ⟨s.toArray⟩)) (hG : Glob W) (h0 : J [] W) :
    CallsIn Fence.wide n Tryd.prog 66 #[.func (.yield l) #[] #[], .pointer (some ⟨xb, 0, none⟩)] W fun e W' => (∃ v, e = .returned v) ∧
      ((∃ ys, ys = linesF s.length 1 s ∧ J ys W') ∨ (∃ pre, (∃ post, pre ++ post = linesF s.length 1 s) ∧ Jx pre W')) := by
  have HY := Lib.hid hY
  have HJ := Lib.hid hJ
  clear hY hJ
  refine callsIn_of_wp Tryd.func66 rfl trivial ?_ rfl
  simp only [Tryd.ntmps66, List.size_toArray, List.length_cons, List.length_nil, Nat.reduceAdd, Nat.reduceSub, Array.replicate_succ, Array.replicate_zero, List.push_toArray, List.append_toArray, List.nil_append, List.cons_append]
  gi_wp2
  gi_loopw [3] (fun i wr => ∃ (k f : Nat) (s' : List UInt8) (pre : List (Int × ByteArray)), i = .int .i64 k ∧ k = pre.length + 1 ∧ s'.length ≤ f ∧ f + pre.length = s.length ∧ Hid (pre ++ linesF f k s' = linesF s.length 1 s) ∧ Boxed wr xb 9 (.string ⟨s'.toArray⟩) ∧ Glob wr ∧ Hid (J pre wr)) (fun i _ => 8200 - (intOf i).toNat)
  case atStart => exact ⟨1, s.length, s, [], rfl, rfl, Nat.le_refl _, rfl, rfl, hb, hG, h0⟩
  case round =>
    obtain ⟨k, f, s', pre, rfl, hk, hf, hfl, HL, hbr, hgr, HJr⟩ := hrel
    have hc := hbr.cell
    have hfz := hbr.frozen
    have HK := Lib.hid hk
    have hk2 : k ≤ 8193 := by omega
    have hpl : pre.length ≤ 8192 := by omega
    clear hk
    by_cases he : s' = []
    · subst he
      have hx : pre = linesF s.length 1 s := by rw [← HL.out, linesF_nil, List.append_nil]
      have HX := Lib.hid hx
      clear hx
      gi_wp2
      go_end0
      exact ⟨⟨_, rfl⟩, .inl ⟨_, HX.out, HJr.out⟩⟩
    · have hne : s'.isEmpty = false := by simpa using he
      have hp := List.length_pos_iff.2 he
      obtain ⟨f', rfl⟩ : ∃ f', f = f' + 1 := ⟨f - 1, by omega⟩
      have hsz : (⟨s'.toArray⟩ : ByteArray).size ≤ 8192 := by show s'.toArray.size ≤ 8192; simp; omega
      have HN := Lib.hid he
      have hst := HL.out
      rw [linesF_succ, if_neg he] at hst
      have hcl : (Lib.cut s' [10]).2.2 = true → (Lib.cut s' [10]).2.1.length < s'.length := fun h => cut_len h he
      have HCL := Lib.hid hcl
      have HC1 := Lib.hid (cut_len1 s')
      have HST := Lib.hid hst
      clear he hst hcl HL
      gi_wp2
      refine ⟨trivial, ?_⟩
      refine (callsIn_wide.2 (cut_any _ hsz _ hgr)).mono ?_
      rintro e w1 ⟨rfl, q, rfl⟩
      have hJ1 : J pre (wr.drewN q) := HJ.out _ _ _ HJr.out (grown_drewN _ _ _)
      have HCL := HCL.out
      have HST := HST.out
      have HC1 := HC1.out
      generalize Lib.cut s' [10] = ct at HCL HST HC1 ⊢
      obtain ⟨c1, c2, c3⟩ := ct
      have hc1l : c1.length ≤ s'.length := HC1
      clear HC1
      cases c3 with
      | false =>
        simp only [Bool.false_eq_true, if_false] at HST
        obtain ⟨fn, tmps, assign, body, hy, hR⟩ := HY.out pre (0, ⟨c1.toArray⟩) (wr.drewN q) (by show c1.toArray.size ≤ 8192; simp; omega) hJ1 (by omega)
        have HS := Lib.hid HST
        clear HST HCL
        gi_wp2
        refine hR.mono ?_
        rintro e W3 (⟨rfl, hJ3, hk3⟩ | ⟨rfl, hJx3⟩)
        · have HJ3 := Lib.hid hJ3
          clear hJ3 hk3
          gi_wp2
          refine bodyPost_ret (results_none rfl _ _ _) rfl ?_
          exact ⟨⟨_, rfl⟩, .inl ⟨_, HS.out, HJ3.out⟩⟩
        · gi_wp2
          refine bodyPost_ret (results_none rfl _ _ _) rfl ?_
          exact ⟨⟨_, rfl⟩, .inr ⟨_, ⟨[], by rw [List.append_nil]; exact HS.out⟩, hJx3⟩⟩
      | true =>
        simp only [if_true] at HST
        have hc2 : c2.length < s'.length := HCL rfl
        obtain ⟨fn, tmps, assign, body, hy, hR⟩ := HY.out pre ((k : Int), ⟨c1.toArray⟩) (wr.drewN q) (by show c1.toArray.size ≤ 8192; simp; omega) hJ1 (by omega)
        have HS : Hid ((pre ++ [((k : Int), (⟨c1.toArray⟩ : ByteArray))]) ++ linesF f' ((k : Int) + 1) c2 = linesF s.length 1 s) := by
          show _ = _
          rw [← HST]; simp
        clear HST HCL
        gi_wp2
        refine hR.mono ?_
        rintro e W3 (⟨rfl, hJ3, hk3⟩ | ⟨rfl, hJx3⟩)
        · have hb3 : Boxed W3 xb 9 (.string ⟨s'.toArray⟩) := hk3.1.trans hbr
          have hg3 : Glob W3 := hgr.keep hk3.2.2 hk3.2.1
          have hc3 := hb3.cell
          have hf3 := hb3.frozen
          have hx3 := hb3.lt
          have hJ4 := Lib.hid (HJ.out _ _ _ hJ3 (grownBy_setCell' W3 xb (.string ⟨c2.toArray⟩)))
          have hb4 := hb3.set (.string ⟨c2.toArray⟩)
          have hg4 := hg3.set ⟨xb, 0, none⟩ (.string ⟨c2.toArray⟩) hx8
          clear hJ3 hk3 hc hfz hb3 hg3
          gi_wp2
          go_roundw
          case rel => exact ⟨k + 1, f', c2, pre ++ [((k : Int), ⟨c1.toArray⟩)], by go_num, by have := HK.out; simp; omega, by omega, by simp; omega, (by have := HS.out; show _ = _; simpa using this), hb4, hg4, hJ4⟩
          case measure => simp [intOf]; omega
        · gi_wp2
          refine bodyPost_ret (results_none rfl _ _ _) rfl ?_
          exact ⟨⟨_, rfl⟩, .inr ⟨_, ⟨_, HS.out⟩, hJx3⟩⟩
theorem lines_fn (n : Nat) (s : ByteArray) (w : World) : CallsIn Fence.wide n Tryd.prog 55 #[.string s] w fun e w' =>
    e = .returned (.func (.func 66) #[] #[.pointer (some ⟨w.heap.size, 0, none⟩)]) ∧ w' = w.alloc (.cells #[.string s] 9) := by
  refine callsIn_of_wp Tryd.func55 rfl trivial ?_ rfl
  simp only [Tryd.ntmps55, List.size_toArray, List.length_cons, List.length_nil, Nat.reduceAdd, Nat.reduceSub, Array.replicate_succ, Array.replicate_zero, List.push_toArray, List.append_toArray, List.nil_append, List.cons_append]
  gi_wp2
  go_ret
  exact ⟨rfl, rfl⟩
theorem lines_seq (n : Nat) (hn : 1 ≤ n) (xb : Nat) (hx8 : 8 ≤ xb) (s : List UInt8) (hs : s.length ≤ 8192) (w : World) (hb : Boxed w xb 9 (.string ⟨s.toArray⟩)) (hG : Glob w) :
    SeqCl Fence.wide n Tryd.prog 66 #[.pointer (some ⟨xb, 0, none⟩)] (fun x : Int × ByteArray => #[Value.int .i64 x.1, Value.string x.2]) (fun x => x.2.size ≤ 8192) (LKp xb) (LCl xb) (fun ys => ys = linesF s.length 1 s) (fun pre => ∃ post, pre ++ post = linesF s.length 1 s) 8192 w :=
  fun l J Jx W hW hJ _ hY h0 => lines_in n hn l xb hx8 s hs J Jx hJ hY W ((hW.block xb hb.lt).trans hb) (hG.below hW hG.1) h0
end Go.Proofs.YtgnlanfpholdaaaDoor

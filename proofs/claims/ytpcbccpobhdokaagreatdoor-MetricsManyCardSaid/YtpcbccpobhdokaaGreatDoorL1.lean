/- MetricsTexts: the law returns true for every two lists of metrics. -/
import Derived.Test.YtpcbccpobhdokaaGreatDoorP1
import Derived.Test.YtpcbccpobhdokaaGreatDoorA1
import Derived.Lib.Strings
set_option linter.unusedSimpArgs false
set_option linter.unusedVariables false
set_option linter.all false
namespace Go.Proofs.YtpcbccpobhdokaaGreatDoor
open Go.RowKit
attribute [local go_sem] Oper.semAt_some
def AwakeOk : Prop := ∀ w : World, GOk w → Calls Tryz.prog 7 #[] w fun e w' => e = .returned (.bool true) ∧ Below w.heap.size w w'
def LawPost (w : World) (e : Ending) (w' : World) : Prop := e = .returned (.bool true) ∧ Below w.heap.size w w'
def printS (l : List Met) : ByteArray := if chkE l = 0 then ⟨(catL l).toArray⟩ else ⟨#[]⟩
def printE (l : List Met) : Int := if chkE l = 0 then 0 else 1
theorem print_any (l : List Met) (V : Value) (w : World) (h : Mets w w.heap.size V l) (hG : GOk w) : Calls Tryz.prog 10 #[V] w fun e w' => e = .returned (.tuple #[.string (printS l), .int .i64 (printE l)]) ∧ Below w.heap.size w w' := by
  unfold printS printE
  by_cases hE : chkE l = 0
  · rw [if_pos hE, if_pos hE]; exact print_ok l V w h hG hE
  · rw [if_neg hE, if_neg hE]; exact print_bad l V w h hE
theorem count_any (l : List Met) (hE : chkE l = 0) (w : World) (hG : GOk w) : Calls Tryz.prog 18 #[.string (printS l), .string ⟨#[10]⟩] w fun e w' => e = .returned (.int .i64 (l.length : Nat)) ∧ w' = w := by
  obtain ⟨m, hm⟩ := hG.2.2
  have hs : (printS l).size < 4294967281 := by
    rw [printS, if_pos hE, mk_size]; have := cat_size hE; omega
  refine (Tryz.strings_Count_any (printS l) ⟨#[10]⟩ m w hs hm (by decide)).mono ?_
  rintro e w' ⟨rfl, hw⟩
  refine ⟨?_, hw⟩
  have : Lib.countB (printS l) ⟨#[10]⟩ = l.length := by
    show Lib.count (printS l).data.toList [10] = _
    rw [Lib.count_one, printS, if_pos hE]
    exact cat_count (chk_all hE)
  rw [this]
set_option maxRecDepth 100000 in
set_option maxHeartbeats 1000000 in
theorem texts_g1 (HW : AwakeOk) (a b : List Met) (A A' : Option Addr) (c c' : Nat) (w : World) (HG : Hid (∀ W : World, Below w.heap.size w W → GOk W)) (h1 : (a.length : Int) > 60) : Calls Tryz.prog 6 #[.slice A a.length c, .slice A' b.length c'] w (LawPost w) := by
  have B0 : Hid (Below w.heap.size w w) := Below.refl _ _
  go_enter Tryz.func6, Tryz.ntmps6
  go_wp2_with fail
  refine (HW _ (HG.out _ B0.out)).mono ?_
  rintro e w6 ⟨rfl, hb6⟩
  have B6 : Hid (Below w.heap.size w w6) := B0.out.trans (hb6.mono B0.out.size)
  clear hb6
  go_wp2_with fail
  go_ret
  exact ⟨rfl, B6.out⟩
set_option maxRecDepth 100000 in
set_option maxHeartbeats 1000000 in
theorem texts_g2 (HW : AwakeOk) (a b : List Met) (A A' : Option Addr) (c c' : Nat) (w : World) (HG : Hid (∀ W : World, Below w.heap.size w W → GOk W)) (h1 : ¬ (a.length : Int) > 60) (h2 : (b.length : Int) > 60) : Calls Tryz.prog 6 #[.slice A a.length c, .slice A' b.length c'] w (LawPost w) := by
  have B0 : Hid (Below w.heap.size w w) := Below.refl _ _
  go_enter Tryz.func6, Tryz.ntmps6
  go_wp2_with fail
  refine (HW _ (HG.out _ B0.out)).mono ?_
  rintro e w6 ⟨rfl, hb6⟩
  have B6 : Hid (Below w.heap.size w w6) := B0.out.trans (hb6.mono B0.out.size)
  clear hb6
  go_wp2_with fail
  go_ret
  exact ⟨rfl, B6.out⟩
set_option maxRecDepth 100000 in
set_option maxHeartbeats 1000000 in
theorem texts_eq (HW : AwakeOk) (a b : List Met) (A A' : Option Addr) (c c' : Nat) (w : World) (MA : Hid (∀ W : World, Below w.heap.size w W → Mets W W.heap.size (.slice A a.length c) a)) (MB : Hid (∀ W : World, Below w.heap.size w W → Mets W W.heap.size (.slice A' b.length c') b)) (HG : Hid (∀ W : World, Below w.heap.size w W → GOk W)) (h1 : ¬ (a.length : Int) > 60) (h2 : ¬ (b.length : Int) > 60) (sa : ByteArray) (PA : ∀ W : World, Mets W W.heap.size (.slice A a.length c) a → GOk W → Calls Tryz.prog 10 #[.slice A a.length c] W fun e w' => e = .returned (.tuple #[.string sa, .int .i64 0]) ∧ Below W.heap.size W w') (PB : ∀ W : World, Mets W W.heap.size (.slice A' b.length c') b → GOk W → Calls Tryz.prog 10 #[.slice A' b.length c'] W fun e w' => e = .returned (.tuple #[.string sa, .int .i64 0]) ∧ Below W.heap.size W w') (CA : ∀ W : World, Mets W W.heap.size (.slice A a.length c) a → Calls Tryz.prog 14 #[.slice A a.length c] W fun e w' => e = .returned (.int .i64 0) ∧ Below W.heap.size W w') (CT : ∀ W : World, GOk W → Calls Tryz.prog 18 #[.string sa, .string ⟨#[10]⟩] W fun e w' => e = .returned (.int .i64 (a.length : Nat)) ∧ w' = W) (SA : ∀ W : World, Mets W W.heap.size (.slice A a.length c) a → Mets W W.heap.size (.slice A' b.length c') b → Calls Tryz.prog 16 #[.slice A a.length c, .slice A' b.length c'] W fun e w' => e = .returned (.bool true) ∧ Below W.heap.size W w') : Calls Tryz.prog 6 #[.slice A a.length c, .slice A' b.length c'] w (LawPost w) := by
  have PA := Lib.hid PA
  have PB := Lib.hid PB
  have CA := Lib.hid CA
  have CT := Lib.hid CT
  have SA := Lib.hid SA
  have B0 : Hid (Below w.heap.size w w) := Below.refl _ _
  go_enter Tryz.func6, Tryz.ntmps6
  go_wp2_with fail
  refine (PA.out _ (MA.out _ B0.out) (HG.out _ B0.out)).mono ?_
  rintro e w1 ⟨rfl, hb1⟩
  have B1 : Hid (Below w.heap.size w w1) := B0.out.trans (hb1.mono B0.out.size)
  clear hb1
  go_wp2_with fail
  refine (PB.out _ (MB.out _ B1.out) (HG.out _ B1.out)).mono ?_
  rintro e w2 ⟨rfl, hb2⟩
  have B2 : Hid (Below w.heap.size w w2) := B1.out.trans (hb2.mono B1.out.size)
  clear hb2
  go_wp2_with fail
  refine (CA.out _ (MA.out _ B2.out)).mono ?_
  rintro e w3 ⟨rfl, hb3⟩
  have B3 : Hid (Below w.heap.size w w3) := B2.out.trans (hb3.mono B2.out.size)
  clear hb3
  go_wp2_with fail
  refine (CT.out _ (HG.out _ B3.out)).mono ?_
  rintro e w4 ⟨rfl, h4⟩
  obtain rfl := h4.symm
  clear h4
  go_wp2_with fail
  refine (SA.out _ (MA.out _ B3.out) (MB.out _ B3.out)).mono ?_
  rintro e w5 ⟨rfl, hb5⟩
  have B5 : Hid (Below w.heap.size w w5) := B3.out.trans (hb5.mono B3.out.size)
  clear hb5
  go_wp2_with fail
  refine (HW _ (HG.out _ B5.out)).mono ?_
  rintro e w6 ⟨rfl, hb6⟩
  have B6 : Hid (Below w.heap.size w w6) := B5.out.trans (hb6.mono B5.out.size)
  clear hb6
  go_wp2_with fail
  go_ret
  exact ⟨rfl, B6.out⟩
set_option maxRecDepth 100000 in
set_option maxHeartbeats 1000000 in
theorem texts_ne (HW : AwakeOk) (a b : List Met) (A A' : Option Addr) (c c' : Nat) (w : World) (MA : Hid (∀ W : World, Below w.heap.size w W → Mets W W.heap.size (.slice A a.length c) a)) (MB : Hid (∀ W : World, Below w.heap.size w W → Mets W W.heap.size (.slice A' b.length c') b)) (HG : Hid (∀ W : World, Below w.heap.size w W → GOk W)) (h1 : ¬ (a.length : Int) > 60) (h2 : ¬ (b.length : Int) > 60) (sa sb : ByteArray) (hne : (sa.toList == sb.toList) = false) (PA : ∀ W : World, Mets W W.heap.size (.slice A a.length c) a → GOk W → Calls Tryz.prog 10 #[.slice A a.length c] W fun e w' => e = .returned (.tuple #[.string sa, .int .i64 0]) ∧ Below W.heap.size W w') (PB : ∀ W : World, Mets W W.heap.size (.slice A' b.length c') b → GOk W → Calls Tryz.prog 10 #[.slice A' b.length c'] W fun e w' => e = .returned (.tuple #[.string sb, .int .i64 0]) ∧ Below W.heap.size W w') (CA : ∀ W : World, Mets W W.heap.size (.slice A a.length c) a → Calls Tryz.prog 14 #[.slice A a.length c] W fun e w' => e = .returned (.int .i64 0) ∧ Below W.heap.size W w') (CT : ∀ W : World, GOk W → Calls Tryz.prog 18 #[.string sa, .string ⟨#[10]⟩] W fun e w' => e = .returned (.int .i64 (a.length : Nat)) ∧ w' = W) (SA : ∀ W : World, Mets W W.heap.size (.slice A a.length c) a → Mets W W.heap.size (.slice A' b.length c') b → Calls Tryz.prog 16 #[.slice A a.length c, .slice A' b.length c'] W fun e w' => e = .returned (.bool false) ∧ Below W.heap.size W w') : Calls Tryz.prog 6 #[.slice A a.length c, .slice A' b.length c'] w (LawPost w) := by
  have PA := Lib.hid PA
  have PB := Lib.hid PB
  have CA := Lib.hid CA
  have CT := Lib.hid CT
  have SA := Lib.hid SA
  have B0 : Hid (Below w.heap.size w w) := Below.refl _ _
  go_enter Tryz.func6, Tryz.ntmps6
  go_wp2_with fail
  refine (PA.out _ (MA.out _ B0.out) (HG.out _ B0.out)).mono ?_
  rintro e w1 ⟨rfl, hb1⟩
  have B1 : Hid (Below w.heap.size w w1) := B0.out.trans (hb1.mono B0.out.size)
  clear hb1
  go_wp2_with fail
  refine (PB.out _ (MB.out _ B1.out) (HG.out _ B1.out)).mono ?_
  rintro e w2 ⟨rfl, hb2⟩
  have B2 : Hid (Below w.heap.size w w2) := B1.out.trans (hb2.mono B1.out.size)
  clear hb2
  go_wp2_with fail
  refine (CA.out _ (MA.out _ B2.out)).mono ?_
  rintro e w3 ⟨rfl, hb3⟩
  have B3 : Hid (Below w.heap.size w w3) := B2.out.trans (hb3.mono B2.out.size)
  clear hb3
  go_wp2_with fail
  refine (CT.out _ (HG.out _ B3.out)).mono ?_
  rintro e w4 ⟨rfl, h4⟩
  obtain rfl := h4.symm
  clear h4
  go_wp2_with fail
  refine (SA.out _ (MA.out _ B3.out) (MB.out _ B3.out)).mono ?_
  rintro e w5 ⟨rfl, hb5⟩
  have B5 : Hid (Below w.heap.size w w5) := B3.out.trans (hb5.mono B3.out.size)
  clear hb5
  go_wp2_with fail
  refine (HW _ (HG.out _ B5.out)).mono ?_
  rintro e w6 ⟨rfl, hb6⟩
  have B6 : Hid (Below w.heap.size w w6) := B5.out.trans (hb6.mono B5.out.size)
  clear hb6
  go_wp2_with fail
  go_ret
  exact ⟨rfl, B6.out⟩
set_option maxRecDepth 100000 in
set_option maxHeartbeats 1000000 in
theorem texts_b1 (HW : AwakeOk) (a b : List Met) (A A' : Option Addr) (c c' : Nat) (w : World) (MA : Hid (∀ W : World, Below w.heap.size w W → Mets W W.heap.size (.slice A a.length c) a)) (MB : Hid (∀ W : World, Below w.heap.size w W → Mets W W.heap.size (.slice A' b.length c') b)) (HG : Hid (∀ W : World, Below w.heap.size w W → GOk W)) (h1 : ¬ (a.length : Int) > 60) (h2 : ¬ (b.length : Int) > 60) (sa sb : ByteArray) (PA : ∀ W : World, Mets W W.heap.size (.slice A a.length c) a → GOk W → Calls Tryz.prog 10 #[.slice A a.length c] W fun e w' => e = .returned (.tuple #[.string sa, .int .i64 0]) ∧ Below W.heap.size W w') (PB : ∀ W : World, Mets W W.heap.size (.slice A' b.length c') b → GOk W → Calls Tryz.prog 10 #[.slice A' b.length c'] W fun e w' => e = .returned (.tuple #[.string sb, .int .i64 1]) ∧ Below W.heap.size W w') (CA : ∀ W : World, Mets W W.heap.size (.slice A a.length c) a → Calls Tryz.prog 14 #[.slice A a.length c] W fun e w' => e = .returned (.int .i64 0) ∧ Below W.heap.size W w') (CT : ∀ W : World, GOk W → Calls Tryz.prog 18 #[.string sa, .string ⟨#[10]⟩] W fun e w' => e = .returned (.int .i64 (a.length : Nat)) ∧ w' = W) : Calls Tryz.prog 6 #[.slice A a.length c, .slice A' b.length c'] w (LawPost w) := by
  have PA := Lib.hid PA
  have PB := Lib.hid PB
  have CA := Lib.hid CA
  have CT := Lib.hid CT
  have B0 : Hid (Below w.heap.size w w) := Below.refl _ _
  go_enter Tryz.func6, Tryz.ntmps6
  go_wp2_with fail
  refine (PA.out _ (MA.out _ B0.out) (HG.out _ B0.out)).mono ?_
  rintro e w1 ⟨rfl, hb1⟩
  have B1 : Hid (Below w.heap.size w w1) := B0.out.trans (hb1.mono B0.out.size)
  clear hb1
  go_wp2_with fail
  refine (PB.out _ (MB.out _ B1.out) (HG.out _ B1.out)).mono ?_
  rintro e w2 ⟨rfl, hb2⟩
  have B2 : Hid (Below w.heap.size w w2) := B1.out.trans (hb2.mono B1.out.size)
  clear hb2
  go_wp2_with fail
  refine (CA.out _ (MA.out _ B2.out)).mono ?_
  rintro e w3 ⟨rfl, hb3⟩
  have B3 : Hid (Below w.heap.size w w3) := B2.out.trans (hb3.mono B2.out.size)
  clear hb3
  go_wp2_with fail
  refine (CT.out _ (HG.out _ B3.out)).mono ?_
  rintro e w4 ⟨rfl, h4⟩
  obtain rfl := h4.symm
  clear h4
  go_wp2_with fail
  refine (HW _ (HG.out _ B3.out)).mono ?_
  rintro e w6 ⟨rfl, hb6⟩
  have B6 : Hid (Below w.heap.size w w6) := B3.out.trans (hb6.mono B3.out.size)
  clear hb6
  go_wp2_with fail
  go_ret
  exact ⟨rfl, B6.out⟩
set_option maxRecDepth 100000 in
set_option maxHeartbeats 1000000 in
theorem texts_a1 (HW : AwakeOk) (a b : List Met) (A A' : Option Addr) (c c' : Nat) (w : World) (MA : Hid (∀ W : World, Below w.heap.size w W → Mets W W.heap.size (.slice A a.length c) a)) (MB : Hid (∀ W : World, Below w.heap.size w W → Mets W W.heap.size (.slice A' b.length c') b)) (HG : Hid (∀ W : World, Below w.heap.size w W → GOk W)) (h1 : ¬ (a.length : Int) > 60) (h2 : ¬ (b.length : Int) > 60) (sb : ByteArray) (eb ca : Int) (hce : (ca == 0) = false) (PA : ∀ W : World, Mets W W.heap.size (.slice A a.length c) a → GOk W → Calls Tryz.prog 10 #[.slice A a.length c] W fun e w' => e = .returned (.tuple #[.string ⟨#[]⟩, .int .i64 1]) ∧ Below W.heap.size W w') (PB : ∀ W : World, Mets W W.heap.size (.slice A' b.length c') b → GOk W → Calls Tryz.prog 10 #[.slice A' b.length c'] W fun e w' => e = .returned (.tuple #[.string sb, .int .i64 eb]) ∧ Below W.heap.size W w') (CA : ∀ W : World, Mets W W.heap.size (.slice A a.length c) a → Calls Tryz.prog 14 #[.slice A a.length c] W fun e w' => e = .returned (.int .i64 ca) ∧ Below W.heap.size W w') : Calls Tryz.prog 6 #[.slice A a.length c, .slice A' b.length c'] w (LawPost w) := by
  have PA := Lib.hid PA
  have PB := Lib.hid PB
  have CA := Lib.hid CA
  have B0 : Hid (Below w.heap.size w w) := Below.refl _ _
  go_enter Tryz.func6, Tryz.ntmps6
  go_wp2_with fail
  refine (PA.out _ (MA.out _ B0.out) (HG.out _ B0.out)).mono ?_
  rintro e w1 ⟨rfl, hb1⟩
  have B1 : Hid (Below w.heap.size w w1) := B0.out.trans (hb1.mono B0.out.size)
  clear hb1
  go_wp2_with fail
  refine (PB.out _ (MB.out _ B1.out) (HG.out _ B1.out)).mono ?_
  rintro e w2 ⟨rfl, hb2⟩
  have B2 : Hid (Below w.heap.size w w2) := B1.out.trans (hb2.mono B1.out.size)
  clear hb2
  go_wp2_with fail
  refine (CA.out _ (MA.out _ B2.out)).mono ?_
  rintro e w3 ⟨rfl, hb3⟩
  have B3 : Hid (Below w.heap.size w w3) := B2.out.trans (hb3.mono B2.out.size)
  clear hb3
  go_wp2_with fail
  refine (HW _ (HG.out _ B3.out)).mono ?_
  rintro e w6 ⟨rfl, hb6⟩
  have B6 : Hid (Below w.heap.size w w6) := B3.out.trans (hb6.mono B3.out.size)
  clear hb6
  go_wp2_with fail
  go_ret
  exact ⟨rfl, B6.out⟩
theorem texts_any (HW : AwakeOk) (a b : List Met) (V U : Value) (w : World) (ha : Mets w w.heap.size V a) (hb : Mets w w.heap.size U b) (hG : GOk w) : Calls Tryz.prog 6 #[V, U] w (LawPost w) := by
  have MA := Lib.hid (fun (W : World) (h : Below w.heap.size w W) => ha.base h h.size)
  have MB := Lib.hid (fun (W : World) (h : Below w.heap.size w W) => hb.base h h.size)
  have HG := Lib.hid (fun (W : World) (h : Below w.heap.size w W) => hG.below h)
  obtain ⟨A, c, rfl, _, _, _⟩ := ha
  obtain ⟨A', c', rfl, _, _, _⟩ := hb
  by_cases h1 : (a.length : Int) > 60
  · exact texts_g1 HW a b A A' c c' w HG h1
  by_cases h2 : (b.length : Int) > 60
  · exact texts_g2 HW a b A A' c c' w HG h1 h2
  have PA := fun W hW hG => print_any a (.slice A a.length c) W hW hG
  have PB := fun W hW hG => print_any b (.slice A' b.length c') W hW hG
  have CA := fun W hW => check_any a (.slice A a.length c) W hW
  have SA := fun W h1 h2 => same_any (.slice A a.length c) (.slice A' b.length c') a b W h1 h2
  by_cases hea : chkE a = 0
  · have CT := fun W hG => count_any a hea W hG
    have e1 : printE a = 0 := by rw [printE, if_pos hea]
    rw [e1] at PA
    rw [hea] at CA
    by_cases heb : chkE b = 0
    · have e2 : printE b = 0 := by rw [printE, if_pos heb]
      rw [e2] at PB
      by_cases hab : a = b
      · have e4 : printS b = printS a := by rw [hab]
        rw [e4] at PB
        rw [(sameL_iff a b).2 hab] at SA
        exact texts_eq HW a b A A' c c' w MA MB HG h1 h2 (printS a) PA PB CA CT SA
      · have e3 : sameL a b = false := by
          cases hs : sameL a b
          · rfl
          · exact absurd ((sameL_iff a b).1 hs) hab
        rw [e3] at SA
        have e4 : ¬ (printS a).toList = (printS b).toList := fun h => hab (by
          have h5 := (ba_list _ _).1 h
          rw [printS, printS, if_pos hea, if_pos heb] at h5
          exact cat_inj (chk_all hea) (chk_all heb) (by simpa using congrArg ByteArray.data h5))
        exact texts_ne HW a b A A' c c' w MA MB HG h1 h2 (printS a) (printS b) (by simpa using e4) PA PB CA CT SA
    · have e2 : printE b = 1 := by rw [printE, if_neg heb]
      rw [e2] at PB
      exact texts_b1 HW a b A A' c c' w MA MB HG h1 h2 (printS a) (printS b) PA PB CA CT
  · have e1 : printE a = 1 := by rw [printE, if_neg hea]
    have e5 : printS a = ⟨#[]⟩ := by rw [printS, if_neg hea]
    have hce : (chkE a == 0) = false := by simpa using hea
    rw [e1, e5] at PA
    exact texts_a1 HW a b A A' c c' w MA MB HG h1 h2 (printS b) (printE b) (chkE a) hce PA PB CA
end Go.Proofs.YtpcbccpobhdokaaGreatDoor

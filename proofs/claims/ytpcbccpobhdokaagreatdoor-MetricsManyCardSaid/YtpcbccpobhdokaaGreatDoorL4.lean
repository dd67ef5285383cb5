/- MetricsMany: the law returns true. -/
import Derived.Test.YtpcbccpobhdokaaGreatDoorL1
import Derived.Test.YtpcbccpobhdokaaGreatDoorA7
import Derived.Test.YtpcbccpobhdokaaGreatDoorP3
set_option linter.unusedSimpArgs false
set_option linter.unusedVariables false
set_option linter.all false
namespace Go.Proofs.YtpcbccpobhdokaaGreatDoor
open Go.RowKit
theorem ser_cast (v : Int) (F k : Nat) {y : Int} (hy : y = ((F + k : Nat) : Int)) : metCells (ser v F k ++ [⟨⟨#[120]⟩, y, v, 1⟩]) = metCells (ser v F (k + 1)) := by
  rw [ser_snoc, hy]
theorem eq_two (W : World) : (binOp .eql 30 (.agg #[.int .i64 2, .int .i64 1]) (.agg #[.int .i64 2, .int .i64 1])).run Tryz.prog W = .ok (.bool true) W := by kernel_rfl
set_option maxRecDepth 100000 in
set_option maxHeartbeats 8000000 in
theorem many_t (HW : AwakeOk) (w : World) (hG : GOk w) : Calls Tryz.prog 4 #[.bool true] w (LawPost w) := by
  have HG := Lib.hid (fun (W : World) (h : Below w.heap.size w W) => hG.below h)
  clear hG
  go_enter Tryz.func4, Tryz.ntmps4
  go_wp2_with fail
  go_loopw [11, 3, 4] (fun s11 s3 s4 wr => ∃ (k : Nat) (v3 v4 : Value), k ≤ 600 ∧ s11 = .int .i64 k ∧ v3 = s3 ∧ v4 = s4 ∧ Hid (wr.ownsRow w.heap.size 37 4 v3 k (metCells (ser 1 0 k))) ∧ Hid (wr.ownsRow w.heap.size 37 4 v4 k (metCells (ser 1 400 k))) ∧ Hid (∀ g, v4.ownBlock = some g → v3.ownBlock ≠ some g) ∧ Hid (Below w.heap.size w wr)) (fun s _ _ _ => 600 - (intOf s).toNat)
  case atStart => exact ⟨0, _, _, by omega, rfl, rfl, rfl, ⟨rfl, .inl ⟨rfl, rfl⟩⟩, ⟨rfl, .inl ⟨rfl, rfl⟩⟩, (fun g h => by cases h), Below.refl _ _⟩
  case round =>
    obtain ⟨k, v3, v4, hk, rfl, rfl, rfl, HO3, HO4, HN, HB⟩ := hrel
    rename World => wq
    by_cases hkt : k < 600
    · have hkz : (k : Int) < 600 := by omega
      have hwk : IntKind.i64.wrap (400 + (k : Int)) = 400 + (k : Int) := by rw [IntKind.wrap_i64]; omega
      have HO3L := Lib.hid (show wq.ownsRow w.heap.size 37 4 v3 (ser 1 0 k).length (metCells (ser 1 0 k)) by rw [ser_len]; exact HO3.out)
      go_wp2_with (at_builtin; refine app_met wq rfl (.tmp 14) (.tmp 18) rfl w.heap.size v3 (ser 1 0 k) ⟨⟨#[120]⟩, (k : Int), 1, 1⟩ ?q1 ?q2 HO3L.out (by rw [ser_len]; omega) HB.out.size ?_)
      case q1 => rfl
      case q2 => rfl
      intro g1 c1 w1 ho1 hg1 hb1 hat1
      have HO1 := Lib.hid (show w1.ownsRow w.heap.size 37 4 (.slice (some ⟨g1, 0, none⟩) ((ser 1 0 k).length + 1) c1) (k + 1) (metCells (ser 1 0 (k + 1))) by
        have h : w1.ownsRow w.heap.size 37 4 (.slice (some ⟨g1, 0, none⟩) ((ser 1 0 k).length + 1) c1) ((ser 1 0 k).length + 1) (metCells (ser 1 0 k ++ [(⟨⟨#[120]⟩, (k : Int), 1, 1⟩ : Met)])) := ho1
        rw [ser_cast 1 0 k (by omega), ser_len] at h
        rw [ser_len]
        exact h)
      have HOK := Lib.hid (show w1.ownsRow w.heap.size 37 4 v4 (ser 1 400 k).length (metCells (ser 1 400 k)) by
        rw [ser_len]
        refine ((HO4.out.alloc _).kept hg1 ?_)
        cases hv : v4.ownBlock with
        | none => exact .inl rfl
        | some g => right; intro e; exact HN.out g hv e.symm)
      have HB1 := Lib.hid (HB.out.trans (hb1.mono (Nat.le_refl _)))
      -- the two rows lie apart
      have HN1 := Lib.hid (show ∀ g, v4.ownBlock = some g → g ≠ g1 ∧ g < w1.heap.size from fun g h => by
        have hlt := (HO4.out.lt g h)
        refine ⟨fun e => ?_, Nat.lt_of_lt_of_le hlt.2 hb1.size⟩
        rcases hat1 with h1 | h1
        · exact HN.out g h (by rw [e]; exact h1)
        · have := hlt.2; omega)
      have HG1 := Lib.hid (show g1 < w1.heap.size from (HO1.out.lt g1 rfl).2)
      clear ho1 hg1 hb1 hat1 HO3 HO4 HN HB HO3L
      have hL0 : (ser 1 0 k).length = k := ser_len 1 k 0
      generalize (ser 1 0 k).length = n1 at *
      subst hL0
      go_wp2_with (at_builtin; refine app_met w1 rfl (.tmp 20) (.tmp 26) rfl w.heap.size v4 (ser 1 400 n1) ⟨⟨#[120]⟩, 400 + (n1 : Int), 1, 1⟩ ?q3 ?q4 HOK.out (by rw [ser_len]; omega) HB1.out.size ?_)
      case q3 => rfl
      case q4 => rfl
      intro g2 c2 w2 ho2 hg2 hb2 hat2
      have HO2 := Lib.hid (show w2.ownsRow w.heap.size 37 4 (.slice (some ⟨g2, 0, none⟩) ((ser 1 400 n1).length + 1) c2) (n1 + 1) (metCells (ser 1 400 (n1 + 1))) by
        have h : w2.ownsRow w.heap.size 37 4 (.slice (some ⟨g2, 0, none⟩) ((ser 1 400 n1).length + 1) c2) ((ser 1 400 n1).length + 1) (metCells (ser 1 400 n1 ++ [(⟨⟨#[120]⟩, 400 + (n1 : Int), 1, 1⟩ : Met)])) := ho2
        rw [ser_cast 1 400 n1 (by omega), ser_len] at h
        rw [ser_len]
        exact h)
      have HO1K := Lib.hid (show w2.ownsRow w.heap.size 37 4 (.slice (some ⟨g1, 0, none⟩) (n1 + 1) c1) (n1 + 1) (metCells (ser 1 0 (n1 + 1))) from (HO1.out.alloc _).kept hg2 (by
        cases hv : v4.ownBlock with
        | none => right; intro e; cases e
        | some g => right; intro e; exact (HN1.out g hv).1 (Option.some.inj (e.symm)).symm.symm))
      have HB2 := Lib.hid (HB1.out.trans (hb2.mono (Nat.le_refl _)))
      have HN2 := Lib.hid (show g2 ≠ g1 from fun e => by
        rcases hat2 with h1 | h1
        · exact (HN1.out g2 h1).1 e
        · have := HG1.out; omega)
      clear ho2 hg2 hb2 hat2 HO1 HOK HN1 HG1 HB1
      go_wp2_with fail
      go_roundw
      case rel => exact ⟨n1 + 1, _, _, by omega, by go_num, rfl, rfl, HO1K.out, HO2.out, (fun g h e => by cases h; cases e; exact HN2.out rfl), HB2.out⟩
      case measure => simp [intOf]; omega
    · obtain rfl : k = 600 := by omega
      have hy := many_yes
      have q3 := ser_len 1 600 0
      have q4 := ser_len 1 600 400
      obtain ⟨L3, e3⟩ : ∃ L3, ser 1 0 600 = L3 := ⟨_, rfl⟩
      obtain ⟨L4, e4⟩ : ∃ L4, ser 1 400 600 = L4 := ⟨_, rfl⟩
      rw [e3] at HO3 q3
      rw [e4] at HO4 q4
      rw [e3, e4] at hy
      clear e3 e4
      have hm3 := mets_of_own (l := L3) (show wq.ownsRow w.heap.size 37 4 v3 L3.length (metCells L3) by rw [q3]; exact HO3.out)
      have hm4 := mets_of_own (l := L4) (show wq.ownsRow w.heap.size 37 4 v4 L4.length (metCells L4) by rw [q4]; exact HO4.out)
      have HM := Lib.hid (merge_any L3 L4 v3 v4 wq hm3 hm4)
      have HY := Lib.hid hy
      clear hm3 hm4 HO3 HO4 HN hy q3 q4
      go_wp2_with fail
      refine HM.out.mono ?_
      rintro e w2 ⟨V, rfl, hV, hb2⟩
      have HB2 := Lib.hid (HB.out.trans (hb2.mono HB.out.size))
      clear hb2
      obtain ⟨e1, e2, x, e3, e4, e5⟩ := HY.out
      rw [e1]
      obtain ⟨A, cc, rfl, _, _, h3⟩ := hV
      rw [e2] at h3 ⊢
      obtain ⟨B, o, rfl, hB, hc⟩ := h3 (by omega)
      have hx := hc 500 (by omega)
      rw [e3] at hx
      obtain ⟨_, _, x2, x3⟩ := hx
      rw [e4] at x2
      rw [e5] at x3
      have hq := eq_two
      clear h3 hc e1 e2 e3 e4 e5
      go_wp2_with fail
      refine (HW _ (HG.out _ HB2.out)).mono ?_
      rintro e w6 ⟨rfl, hb6⟩
      go_wp2_with fail
      go_ret
      exact ⟨rfl, HB2.out.trans (hb6.mono HB2.out.size)⟩
set_option maxRecDepth 100000 in
set_option maxHeartbeats 8000000 in
theorem many_f (HW : AwakeOk) (w : World) (hG : GOk w) : Calls Tryz.prog 4 #[.bool false] w (LawPost w) := by
  have HG := Lib.hid (fun (W : World) (h : Below w.heap.size w W) => hG.below h)
  clear hG
  go_enter Tryz.func4, Tryz.ntmps4
  go_wp2_with fail
  go_loopw [11, 3, 4] (fun s11 s3 s4 wr => ∃ (k : Nat) (v3 v4 : Value), k ≤ 600 ∧ s11 = .int .i64 k ∧ v3 = s3 ∧ v4 = s4 ∧ Hid (wr.ownsRow w.heap.size 37 4 v3 k (metCells (ser 1 0 k))) ∧ Hid (wr.ownsRow w.heap.size 37 4 v4 k (metCells (ser 1 401 k))) ∧ Hid (∀ g, v4.ownBlock = some g → v3.ownBlock ≠ some g) ∧ Hid (Below w.heap.size w wr)) (fun s _ _ _ => 600 - (intOf s).toNat)
  case atStart => exact ⟨0, _, _, by omega, rfl, rfl, rfl, ⟨rfl, .inl ⟨rfl, rfl⟩⟩, ⟨rfl, .inl ⟨rfl, rfl⟩⟩, (fun g h => by cases h), Below.refl _ _⟩
  case round =>
    obtain ⟨k, v3, v4, hk, rfl, rfl, rfl, HO3, HO4, HN, HB⟩ := hrel
    rename World => wq
    by_cases hkt : k < 600
    · have hkz : (k : Int) < 600 := by omega
      have hwk : IntKind.i64.wrap (401 + (k : Int)) = 401 + (k : Int) := by rw [IntKind.wrap_i64]; omega
      have HO3L := Lib.hid (show wq.ownsRow w.heap.size 37 4 v3 (ser 1 0 k).length (metCells (ser 1 0 k)) by rw [ser_len]; exact HO3.out)
      go_wp2_with (at_builtin; refine app_met wq rfl (.tmp 14) (.tmp 18) rfl w.heap.size v3 (ser 1 0 k) ⟨⟨#[120]⟩, (k : Int), 1, 1⟩ ?q1 ?q2 HO3L.out (by rw [ser_len]; omega) HB.out.size ?_)
      case q1 => rfl
      case q2 => rfl
      intro g1 c1 w1 ho1 hg1 hb1 hat1
      have HO1 := Lib.hid (show w1.ownsRow w.heap.size 37 4 (.slice (some ⟨g1, 0, none⟩) ((ser 1 0 k).length + 1) c1) (k + 1) (metCells (ser 1 0 (k + 1))) by
        have h : w1.ownsRow w.heap.size 37 4 (.slice (some ⟨g1, 0, none⟩) ((ser 1 0 k).length + 1) c1) ((ser 1 0 k).length + 1) (metCells (ser 1 0 k ++ [(⟨⟨#[120]⟩, (k : Int), 1, 1⟩ : Met)])) := ho1
        rw [ser_cast 1 0 k (by omega), ser_len] at h
        rw [ser_len]
        exact h)
      have HOK := Lib.hid (show w1.ownsRow w.heap.size 37 4 v4 (ser 1 401 k).length (metCells (ser 1 401 k)) by
        rw [ser_len]
        refine ((HO4.out.alloc _).kept hg1 ?_)
        cases hv : v4.ownBlock with
        | none => exact .inl rfl
        | some g => right; intro e; exact HN.out g hv e.symm)
      have HB1 := Lib.hid (HB.out.trans (hb1.mono (Nat.le_refl _)))
      -- the two rows lie apart
      have HN1 := Lib.hid (show ∀ g, v4.ownBlock = some g → g ≠ g1 ∧ g < w1.heap.size from fun g h => by
        have hlt := (HO4.out.lt g h)
        refine ⟨fun e => ?_, Nat.lt_of_lt_of_le hlt.2 hb1.size⟩
        rcases hat1 with h1 | h1
        · exact HN.out g h (by rw [e]; exact h1)
        · have := hlt.2; omega)
      have HG1 := Lib.hid (show g1 < w1.heap.size from (HO1.out.lt g1 rfl).2)
      clear ho1 hg1 hb1 hat1 HO3 HO4 HN HB HO3L
      have hL0 : (ser 1 0 k).length = k := ser_len 1 k 0
      generalize (ser 1 0 k).length = n1 at *
      subst hL0
      go_wp2_with (at_builtin; refine app_met w1 rfl (.tmp 20) (.tmp 26) rfl w.heap.size v4 (ser 1 401 n1) ⟨⟨#[120]⟩, 401 + (n1 : Int), 1, 1⟩ ?q3 ?q4 HOK.out (by rw [ser_len]; omega) HB1.out.size ?_)
      case q3 => rfl
      case q4 => rfl
      intro g2 c2 w2 ho2 hg2 hb2 hat2
      have HO2 := Lib.hid (show w2.ownsRow w.heap.size 37 4 (.slice (some ⟨g2, 0, none⟩) ((ser 1 401 n1).length + 1) c2) (n1 + 1) (metCells (ser 1 401 (n1 + 1))) by
        have h : w2.ownsRow w.heap.size 37 4 (.slice (some ⟨g2, 0, none⟩) ((ser 1 401 n1).length + 1) c2) ((ser 1 401 n1).length + 1) (metCells (ser 1 401 n1 ++ [(⟨⟨#[120]⟩, 401 + (n1 : Int), 1, 1⟩ : Met)])) := ho2
        rw [ser_cast 1 401 n1 (by omega), ser_len] at h
        rw [ser_len]
        exact h)
      have HO1K := Lib.hid (show w2.ownsRow w.heap.size 37 4 (.slice (some ⟨g1, 0, none⟩) (n1 + 1) c1) (n1 + 1) (metCells (ser 1 0 (n1 + 1))) from (HO1.out.alloc _).kept hg2 (by
        cases hv : v4.ownBlock with
        | none => right; intro e; cases e
        | some g => right; intro e; exact (HN1.out g hv).1 (Option.some.inj (e.symm)).symm.symm))
      have HB2 := Lib.hid (HB1.out.trans (hb2.mono (Nat.le_refl _)))
      have HN2 := Lib.hid (show g2 ≠ g1 from fun e => by
        rcases hat2 with h1 | h1
        · exact (HN1.out g2 h1).1 e
        · have := HG1.out; omega)
      clear ho2 hg2 hb2 hat2 HO1 HOK HN1 HG1 HB1
      go_wp2_with fail
      go_roundw
      case rel => exact ⟨n1 + 1, _, _, by omega, by go_num, rfl, rfl, HO1K.out, HO2.out, (fun g h e => by cases h; cases e; exact HN2.out rfl), HB2.out⟩
      case measure => simp [intOf]; omega
    · obtain rfl : k = 600 := by omega
      have hy := many_no
      have q3 := ser_len 1 600 0
      have q4 := ser_len 1 600 401
      obtain ⟨L3, e3⟩ : ∃ L3, ser 1 0 600 = L3 := ⟨_, rfl⟩
      obtain ⟨L4, e4⟩ : ∃ L4, ser 1 401 600 = L4 := ⟨_, rfl⟩
      rw [e3] at HO3 q3
      rw [e4] at HO4 q4
      rw [e3, e4] at hy
      clear e3 e4
      have hm3 := mets_of_own (l := L3) (show wq.ownsRow w.heap.size 37 4 v3 L3.length (metCells L3) by rw [q3]; exact HO3.out)
      have hm4 := mets_of_own (l := L4) (show wq.ownsRow w.heap.size 37 4 v4 L4.length (metCells L4) by rw [q4]; exact HO4.out)
      have HM := Lib.hid (merge_any L3 L4 v3 v4 wq hm3 hm4)
      have HY := Lib.hid hy
      clear hm3 hm4 HO3 HO4 HN hy q3 q4
      go_wp2_with fail
      refine HM.out.mono ?_
      rintro e w2 ⟨V, rfl, hV, hb2⟩
      have HB2 := Lib.hid (HB.out.trans (hb2.mono HB.out.size))
      clear hb2
      obtain ⟨e1, e2⟩ := HY.out
      rw [e1]
      rw [e2] at hV
      obtain ⟨A, cc, rfl, _, _, _⟩ := hV
      clear e1 e2
      go_wp2_with fail
      refine (HW _ (HG.out _ HB2.out)).mono ?_
      rintro e w6 ⟨rfl, hb6⟩
      go_wp2_with fail
      go_ret
      exact ⟨rfl, HB2.out.trans (hb6.mono HB2.out.size)⟩
theorem many_any (HW : AwakeOk) (c : Bool) (w : World) (hG : GOk w) : Calls Tryz.prog 4 #[.bool c] w (LawPost w) := by
  cases c with
  | true => exact many_t HW w hG
  | false => exact many_f HW w hG
end Go.Proofs.YtpcbccpobhdokaaGreatDoor

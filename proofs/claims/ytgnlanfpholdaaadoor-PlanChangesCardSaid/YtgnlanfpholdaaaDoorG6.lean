/- Same: two plans are equal. -/
import Derived.Test.YtgnlanfpholdaaaDoorG2
import Derived.Test.YtgnlanfpholdaaaDoorG3
namespace Go.Proofs.YtgnlanfpholdaaaDoor
open Go.RowKit
theorem neq7 (w : World) (a0 a1 a2 a3 a4 a5 a6 b0 b1 b2 b3 b4 b5 b6 : Int) : (binOp .neq 40 (.agg #[.int .i64 a0, .int .i64 a1, .int .i64 a2, .int .i64 a3, .int .i64 a4, .int .i64 a5, .int .i64 a6]) (.agg #[.int .i64 b0, .int .i64 b1, .int .i64 b2, .int .i64 b3, .int .i64 b4, .int .i64 b5, .int .i64 b6])).run Tryd.prog w = .ok (.bool (!((a0 == b0) && ((a1 == b1) && ((a2 == b2) && ((a3 == b3) && ((a4 == b4) && ((a5 == b5) && (a6 == b6))))))))) w := by
  cases h0 : (a0 == b0)
  · go_simp
  cases h1 : (a1 == b1)
  · go_simp
  cases h2 : (a2 == b2)
  · go_simp
  cases h3 : (a3 == b3)
  · go_simp
  cases h4 : (a4 == b4)
  · go_simp
  cases h5 : (a5 == b5)
  · go_simp
  cases h6 : (a6 == b6)
  · go_simp
  · go_simp
theorem con_eq (c d : Con) : ((c.a == d.a) && ((c.b == d.b) && ((c.s == d.s) && ((c.e == d.e) && ((c.r == d.r) && ((c.g == d.g) && (c.l == d.l))))))) = decide (c = d) := by
  rw [Bool.eq_iff_iff]
  simp only [Bool.and_eq_true, beq_iff_eq, decide_eq_true_eq]
  constructor
  · rintro ⟨h0, h1, h2, h3, h4, h5, h6⟩
    cases c; cases d
    simp_all
  · rintro rfl; simp
theorem neq_con (c d : Con) {b : Bool} (h : decide (c = d) = b) : ∀ w, (binOp .neq 40 (.agg #[.int .i64 c.a, .int .i64 c.b, .int .i64 c.s, .int .i64 c.e, .int .i64 c.r, .int .i64 c.g, .int .i64 c.l]) (.agg #[.int .i64 d.a, .int .i64 d.b, .int .i64 d.s, .int .i64 d.e, .int .i64 d.r, .int .i64 d.g, .int .i64 d.l])).run Tryd.prog w = .ok (.bool (!b)) w := fun w => by rw [neq7, con_eq, h]
def SameB (qs qs' : List Int) (cs cs' : List Con) : Bool := decide (qs = qs' ∧ cs = cs')
structure SI (w wr : World) (a b a' b' : Value) : Prop where
  one : Two w.heap.size a b wr
  two : Two (w.heap.size + 1) a' b' wr
  bel : Below w.heap.size w wr
theorem SI.drewN {w wr : World} {a b a' b' : Value} (h : SI w wr a b a' b') (n : Nat) : SI w (wr.drewN n) a b a' b' := ⟨⟨h.one.lt, h.one.c0, h.one.c1⟩, ⟨h.two.lt, h.two.c0, h.two.c1⟩, below_drewN h.bel n⟩
set_option maxHeartbeats 4000000 in
theorem same_any (qv cv qv' cv' : Value) (qs qs' : List Int) (cs cs' : List Con) (w : World) (hq : Ints w w.heap.size qv qs) (hc : Cons w w.heap.size cv cs) (hq' : Ints w w.heap.size qv' qs') (hc' : Cons w w.heap.size cv' cs') : Calls Tryd.prog 33 #[.agg #[qv, cv], .agg #[qv', cv']] w fun e w' => e = .returned (.bool (SameB qs qs' cs cs')) ∧ Below w.heap.size w w' := by
  obtain ⟨A1, c1, rfl, hc1, hm1, hA1⟩ := hq
  obtain ⟨A2, c2, rfl, hc2, hm2, hA2⟩ := hc
  obtain ⟨A3, c3, rfl, hc3, hm3, hA3⟩ := hq'
  obtain ⟨A4, c4, rfl, hc4, hm4, hA4⟩ := hc'
  unfold maxLen at hm1 hm2 hm3 hm4
  have HA1 := Lib.hid hA1
  have HA2 := Lib.hid hA2
  have HA3 := Lib.hid hA3
  have HA4 := Lib.hid hA4
  clear hA1 hA2 hA3 hA4
  by_cases l1 : qs.length = qs'.length
  · have l1b : ((qs.length : Int) != qs'.length) = false := by simp [l1]
    by_cases l2 : cs.length = cs'.length
    · have l2b : ((cs.length : Int) != cs'.length) = false := by simp [l2]
      have L1 := Lib.hid l1
      have L2 := Lib.hid l2
      clear l1 l2
      go_enter Tryd.func33, Tryd.ntmps33
      go_wp2_with fail
      have s0 : SI w ((w.alloc (.cells #[.slice A1 qs.length c1, .slice A2 cs.length c2] 25)).alloc (.cells #[.slice A3 qs'.length c3, .slice A4 cs'.length c4] 25)) (.slice A1 qs.length c1) (.slice A2 cs.length c2) (.slice A3 qs'.length c3) (.slice A4 cs'.length c4) := ⟨⟨by simp; omega, by simp [go_sem], by simp [go_sem]⟩, ⟨by simp, by simp [go_sem], by simp [go_sem]⟩, by (repeat' (first | (with_reducible exact Below.refl _ _) | (with_reducible refine Below.alloc ?_ ?_ _) | (with_reducible refine Below.drew ?_) | (with_reducible refine below_drewN ?_ _) | (with_reducible refine Below.setCell ?_ ?_ _) | (with_reducible refine Below.trans ?_ (Below.mono (by assumption) ?_)) | (with_reducible exact Nat.le_refl _) | omega | (simp; omega) | (simp; done)))⟩
      go_loopw [5] (fun i wr => ∃ k : Nat, k ≤ qs.length ∧ i = .int .i64 k ∧ Hid (qs.take k = qs'.take k) ∧ SI w wr (.slice A1 qs.length c1) (.slice A2 cs.length c2) (.slice A3 qs'.length c3) (.slice A4 cs'.length c4)) (fun i _ => qs.length - (intOf i).toNat)
      case atStart => exact ⟨0, by omega, rfl, rfl, s0⟩
      case round =>
        obtain ⟨k, hk, rfl, hT, sr⟩ := hrel
        have q0 := sr.one.c0
        have r0 := sr.two.c0
        have hl1 := sr.one.lt
        have hl2 := sr.two.lt
        by_cases hlt : k < qs.length
        · have hlt' : k < qs'.length := by have := L1.out; omega
          obtain ⟨b1, o1, rfl, hb1, hcell1⟩ := HA1.out (by omega)
          obtain ⟨b3, o3, rfl, hb3, hcell3⟩ := HA3.out (by omega)
          have z1 := (sr.bel.cell (p := ⟨b1, o1 + k, none⟩) hb1).trans (hcell1 k hlt)
          have z3 := (sr.bel.cell (p := ⟨b3, o3 + k, none⟩) hb3).trans (hcell3 k hlt')
          have HS1 := Lib.hid (take_int qs k hlt)
          have HS3 := Lib.hid (take_int qs' k hlt')
          have ic1 : (0 : Int) ≤ k := by omega
          have ic2 : (k : Int) < qs.length := by omega
          have ic3 : (k : Int) < qs'.length := by omega
          have hb1r : b1 < wr.heap.size := Nat.lt_of_lt_of_le hb1 sr.bel.size
          have hb3r : b3 < wr.heap.size := Nat.lt_of_lt_of_le hb3 sr.bel.size
          clear hcell1 hcell3
          generalize qs.getD k 0 = x at *
          generalize qs'.getD k 0 = y at *
          cases hp : (x != y)
          · have hT2 : Hid (qs.take (k + 1) = qs'.take (k + 1)) := by show _ = _; rw [HS1.out, HS3.out, hT.out, show x = y by simpa using hp]
            go_wp2_with fail
            go_quiet (fail)
            go_wp2_with fail
            go_roundw
            case rel => exact ⟨k + 1, by omega, by go_num, hT2, sr.drewN _⟩
            case measure => simp [intOf]; omega
          · have HR : Hid (SameB qs qs' cs cs' = false) := by
              show _ = _
              refine decide_eq_false fun h => ?_
              have e : qs.take (k + 1) = qs'.take (k + 1) := by rw [h.1]
              rw [HS1.out, HS3.out, hT.out] at e
              have := List.append_cancel_left e
              simp at this
              rw [this] at hp
              simp at hp
            go_wp2_with fail
            go_quiet (fail)
            go_wp2_with fail
            go_ret
            exact ⟨by rw [HR.out]; rfl, (sr.drewN _).bel⟩
        · have HQ : Hid (qs = qs') := by
            show _ = _
            have := hT.out
            rwa [List.take_of_length_le (by omega), List.take_of_length_le (by have := L1.out; omega)] at this
          clear hT
          go_wp2_with fail
          go_loopw [6] (fun i wr => ∃ k : Nat, k ≤ cs.length ∧ i = .int .i64 k ∧ Hid (cs.take k = cs'.take k) ∧ SI w wr (.slice A1 qs.length c1) (.slice A2 cs.length c2) (.slice A3 qs'.length c3) (.slice A4 cs'.length c4)) (fun i _ => cs.length - (intOf i).toNat)
          case atStart => exact ⟨0, by omega, rfl, rfl, sr⟩
          case round =>
            obtain ⟨m, hm, rfl, hT, ss⟩ := hrel
            clear q0 r0 hl1 hl2 sr
            have q1 := ss.one.c1
            have r1 := ss.two.c1
            have hl1 := ss.one.lt
            have hl2 := ss.two.lt
            by_cases hlt : m < cs.length
            · have hlt' : m < cs'.length := by have := L2.out; omega
              obtain ⟨b2, o2, rfl, hb2, hcell2⟩ := HA2.out (by omega)
              obtain ⟨b4, o4, rfl, hb4, hcell4⟩ := HA4.out (by omega)
              have z2 := (hcell2 m hlt).below ss.bel hb2
              have z4 := (hcell4 m hlt').below ss.bel hb4
              have HS1 := Lib.hid (take_con cs m hlt)
              have HS3 := Lib.hid (take_con cs' m hlt')
              have ic1 : (0 : Int) ≤ m := by omega
              have ic2 : (m : Int) < cs.length := by omega
              have ic3 : (m : Int) < cs'.length := by omega
              have hb2r : b2 < wr.heap.size := Nat.lt_of_lt_of_le hb2 ss.bel.size
              have hb4r : b4 < wr.heap.size := Nat.lt_of_lt_of_le hb4 ss.bel.size
              clear hcell2 hcell4
              generalize cs.getD m Con.zero = x at *
              generalize cs'.getD m Con.zero = y at *
              obtain ⟨x0, x1, x2, x3, x4, x5, x6⟩ := z2
              obtain ⟨y0, y1, y2, y3, y4, y5, y6⟩ := z4
              cases hp : decide (x = y)
              · have hne := neq_con x y hp
                have HR : Hid (SameB qs qs' cs cs' = false) := by
                  show _ = _
                  refine decide_eq_false fun h => ?_
                  have e : cs.take (m + 1) = cs'.take (m + 1) := by rw [h.2]
                  rw [HS1.out, HS3.out, hT.out] at e
                  have := List.append_cancel_left e
                  simp at this
                  rw [this] at hp
                  simp at hp
                clear hp
                go_wp2_with fail
                go_quiet (fail)
                go_wp2_with fail
                go_ret
                exact ⟨by rw [HR.out]; rfl, (ss.drewN _).bel⟩
              · have hne := neq_con x y hp
                have hT2 : Hid (cs.take (m + 1) = cs'.take (m + 1)) := by show _ = _; rw [HS1.out, HS3.out, hT.out, show x = y by simpa using hp]
                clear hp
                go_wp2_with fail
                go_quiet (fail)
                go_wp2_with fail
                go_roundw
                case rel => exact ⟨m + 1, by omega, by go_num, hT2, ss.drewN _⟩
                case measure => simp [intOf]; omega
            · have HR : Hid (SameB qs qs' cs cs' = true) := by
                show _ = _
                refine decide_eq_true ⟨HQ.out, ?_⟩
                have := hT.out
                rwa [List.take_of_length_le (by omega), List.take_of_length_le (by have := L2.out; omega)] at this
              go_wp2_with fail
              go_ret
              exact ⟨by rw [HR.out]; rfl, ss.bel⟩
    · have l2b : ((cs.length : Int) != cs'.length) = true := by simp; omega
      have HR : Hid (SameB qs qs' cs cs' = false) := by show _ = _; exact decide_eq_false fun h => l2 (by rw [h.2])
      clear l2 l1
      go_enter Tryd.func33, Tryd.ntmps33
      go_wp2_with fail
      go_ret
      exact ⟨by rw [HR.out]; rfl, by (repeat' (first | (with_reducible exact Below.refl _ _) | (with_reducible refine Below.alloc ?_ ?_ _) | (with_reducible refine Below.drew ?_) | (with_reducible refine below_drewN ?_ _) | (with_reducible refine Below.setCell ?_ ?_ _) | (with_reducible refine Below.trans ?_ (Below.mono (by assumption) ?_)) | (with_reducible exact Nat.le_refl _) | omega | (simp; omega) | (simp; done)))⟩
  · have l1b : ((qs.length : Int) != qs'.length) = true := by simp; omega
    have HR : Hid (SameB qs qs' cs cs' = false) := by show _ = _; exact decide_eq_false fun h => l1 (by rw [h.1])
    clear l1
    go_enter Tryd.func33, Tryd.ntmps33
    go_wp2_with fail
    go_ret
    exact ⟨by rw [HR.out]; rfl, by (repeat' (first | (with_reducible exact Below.refl _ _) | (with_reducible refine Below.alloc ?_ ?_ _) | (with_reducible refine Below.drew ?_) | (with_reducible refine below_drewN ?_ _) | (with_reducible refine Below.setCell ?_ ?_ _) | (with_reducible refine Below.trans ?_ (Below.mono (by assumption) ?_)) | (with_reducible exact Nat.le_refl _) | omega | (simp; omega) | (simp; done)))⟩
end Go.Proofs.YtgnlanfpholdaaaDoor

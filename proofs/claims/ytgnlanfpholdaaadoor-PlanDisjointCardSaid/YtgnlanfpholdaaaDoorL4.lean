/- Walk of the law PlanDisjoint. -/
import Derived.Test.YtgnlanfpholdaaaDoorG2
import Derived.Test.YtgnlanfpholdaaaDoorG5
import Derived.Test.YtgnlanfpholdaaaDoorP2
namespace Go.Proofs.YtgnlanfpholdaaaDoor
open Go.RowKit
set_option maxHeartbeats 4000000 in
theorem disjoint_ok (qv cv : Value) (qs : List Int) (cs : List Con) (x y t : Int) (w : World) (hq : Ints w w.heap.size qv qs) (hc : Cons w w.heap.size cv cs) (hG : Glob w) (hg : greatB qs cs = false) (hE : planE qs cs = 0) : Calls Tryd.prog 6 #[.agg #[qv, cv], .int .i64 x, .int .i64 y, .int .i64 t] w fun e w' => e = .returned (.bool true) ∧ Below w.heap.size w w' := by
  have HG := Lib.hid hg
  have HE := Lib.hid hE
  have HOne := Lib.hid (one_active hE x y t)
  have HGood := Lib.hid (fun j hj => (good_con (j := j) hE hj).1)
  have HNone := Lib.hid (fun j hj => none_over (k := j) hE hj)
  have h64 := filL_len64 (betB x y) qs cs
  have hlen := (planE_len hE).2.2
  clear hg hE
  have hq0 := hq
  have hc0 := hc
  obtain ⟨A1, c1, rfl, hc1, hm1, _⟩ := hq
  obtain ⟨A2, c2, rfl, hc2, hm2, hA2⟩ := hc
  unfold maxLen at hm1 hm2
  have HA2 := Lib.hid hA2
  clear hA2
  go_enter Tryd.func6, Tryd.ntmps6
  go_wp2_with fail
  have b0 := PB.new w (.slice A1 qs.length c1) (.slice A2 cs.length c2) 25
  refine (great_any _ _ qs cs _ (b0.ints hq0) (b0.cons hc0)).mono ?_
  rw [HG.out]
  rintro e w1 ⟨rfl, hb1⟩
  have b1 := b0.below hb1
  have q0 := b1.two.c0
  have q1 := b1.two.c1
  have hl := b1.two.lt
  clear hb1
  go_wp2_with fail
  refine (pcheck_any _ _ qs cs _ (b1.ints hq0) (b1.cons hc0)).mono ?_
  rw [HE.out]
  rintro e w2 ⟨rfl, hb2⟩
  clear q0 q1 hl
  have b2 := b1.below hb2
  have q0 := b2.two.c0
  have q1 := b2.two.c1
  have hl := b2.two.lt
  clear hb2
  go_wp2_with fail
  refine (act_any _ _ qs cs _ _ (b2.ints hq0) (b2.cons hc0)).mono ?_
  rintro e w3 ⟨va, rfl, hva, hb3⟩
  clear q0 q1 hl
  have b3 := b2.below hb3
  have q0 := b3.two.c0
  have q1 := b3.two.c1
  have hl := b3.two.lt
  clear hb3
  go_wp2_with fail
  refine (bet_any _ _ qs cs _ _ _ (b3.ints hq0) (b3.cons hc0)).mono ?_
  rintro e w4 ⟨vl, rfl, hvl, hb4⟩
  clear q0 q1 hl
  have HAct := Lib.hid (hva.below hb4)
  clear hva
  have b4 := b3.below hb4
  have q0 := b4.two.c0
  have q1 := b4.two.c1
  have hl := b4.two.lt
  clear hb4
  generalize filL (actB t) qs cs = act at *
  generalize filL (betB x y) qs cs = L at *
  obtain ⟨A3, c3, rfl, hc3, hm3, hA3⟩ := hvl
  unfold maxLen at hm3
  have HA3 := Lib.hid hA3
  clear hA3
  go_wp2_with fail
  go_loopw [9, 31] (fun n i wr => ∃ k : Nat, k ≤ L.length ∧ i = .int .i64 k ∧ n = .int .i64 (cntL act L k) ∧ wr = w4) (fun _ i _ => L.length - (intOf i).toNat)
  case atStart => exact ⟨0, by omega, rfl, by simp [cntL], rfl⟩
  case round =>
    obtain ⟨k, hk, rfl, rfl, rfl⟩ := hrel
    have hcl := cntL_le act L k
    by_cases hlt : k < L.length
    · obtain ⟨b3, o3, rfl, hb3, hL3⟩ := HA3.out (by omega)
      have z3 := hL3 k hlt
      clear hL3
      have ic1 : (0 : Int) ≤ k := by omega
      have ic2 : (k : Int) < L.length := by omega
      cases hp : act.contains (L.getD k 0)
      · have HM := Lib.hid (cntL_miss hlt hp)
        have HP := Lib.hid hp
        clear hp
        generalize L.getD k 0 = z at *
        go_wp2_with fail
        refine (has_any _ act _ _ _ HAct.out).mono ?_
        rw [HP.out]
        rintro e w5 ⟨rfl, rfl⟩
        go_wp2_with fail
        go_roundw
        case rel => exact ⟨k + 1, by omega, by go_num, by rw [HM.out], by first | rfl | trivial⟩
        case measure => simp [intOf]; omega
      · have HM := Lib.hid (cntL_hit hlt hp)
        have HP := Lib.hid hp
        clear hp
        generalize L.getD k 0 = z at *
        go_wp2_with fail
        refine (has_any _ act _ _ _ HAct.out).mono ?_
        rw [HP.out]
        rintro e w5 ⟨rfl, rfl⟩
        go_wp2_with fail
        go_roundw
        case rel => exact ⟨k + 1, by omega, by go_num, by rw [HM.out]; go_num, by first | rfl | trivial⟩
        case measure => simp [intOf]; omega
    · obtain rfl : k = L.length := by omega
      have hone := HOne.out
      generalize cntL act L L.length = n at *
      have hn1 : (n : Int) ≤ 1 := by omega
      have hn0 : (0 : Int) ≤ n := by omega
      go_wp2_with fail
      go_loopw [44] (fun i wr => ∃ k : Nat, k ≤ cs.length ∧ i = .int .i64 k ∧ PB w wr (.slice A1 qs.length c1) (.slice A2 cs.length c2)) (fun i _ => cs.length - (intOf i).toNat)
      case atStart => exact ⟨0, by omega, rfl, b4⟩
      case round =>
        obtain ⟨m, hm, rfl, br⟩ := hrel
        clear q0 q1 hl
        have q1 := br.two.c1
        have hl := br.two.lt
        by_cases hlt : m < cs.length
        · have hE := HGood.out m hlt
          have hO := HNone.out m hlt
          obtain ⟨b2', o2, rfl, hb2, hcell2⟩ := HA2.out (by omega)
          have hx := (hcell2 m hlt).below br.bel hb2
          have hb2r : b2' < wr.heap.size := Nat.lt_of_lt_of_le hb2 br.bel.size
          clear hcell2
          generalize cs.getD m Con.zero = d at *
          have HE2 := Lib.hid hE
          have HO := Lib.hid hO
          clear hE hO
          obtain ⟨x0, x1, x2, x3, x4, x5, x6⟩ := hx
          have ic1 : (0 : Int) ≤ m := by omega
          have ic2 : (m : Int) < cs.length := by omega
          go_wp2_with fail
          refine (ccheck_any d _).mono ?_
          rw [HE2.out]
          rintro e w5 ⟨rfl, hb5⟩
          have b5 := (br.alloc (.cells #[.int .i64 d.a, .int .i64 d.b, .int .i64 d.s, .int .i64 d.e, .int .i64 d.r, .int .i64 d.g, .int .i64 d.l] 40)).below hb5
          have hAt : ConAt w5 wr.heap.size 0 d := ConAt.below (w := wr.alloc (.cells #[.int .i64 d.a, .int .i64 d.b, .int .i64 d.s, .int .i64 d.e, .int .i64 d.r, .int .i64 d.g, .int .i64 d.l] 40)) (B := wr.heap.size + 1) (by simp [ConAt, go_sem]) (hb5.mono (by simp)) (by omega)
          have hz5 : wr.heap.size + 1 ≤ w5.heap.size := Nat.le_trans (by simp) hb5.size
          clear q1 hl x0 x1 x2 x3 x4 x5 x6 hb5
          have q1 := b5.two.c1
          have hl := b5.two.lt
          go_wp2_with fail
          refine (pd_contains _ (cs.take m) wr.heap.size (overB d) _ ?_ ?_).mono ?_
          · exact ((hc0.below b5.bel).take m (by omega)).more b5.bel.size
          · exact fun c W hW => pd_closure d c wr.heap.size W (by have := hW.size; omega) (hAt.below hW (by omega))
          rw [HO.out]
          rintro e w6 ⟨rfl, hb6⟩
          have b6 := b5.below hb6
          clear hb6
          go_wp2_with fail
          go_roundw
          case rel => exact ⟨m + 1, by omega, by go_num, b6⟩
          case measure => simp [intOf]; omega
        · go_wp2_with fail
          refine (awake_any _ (br.glob hG)).mono ?_
          rintro e w5 ⟨rfl, hb5⟩
          have b5 := br.below hb5
          go_wp2_with fail
          go_ret
          exact ⟨rfl, b5.bel⟩
theorem disjoint_any (qv cv : Value) (qs : List Int) (cs : List Con) (x y t : Int) (w : World) (hq : Ints w w.heap.size qv qs) (hc : Cons w w.heap.size cv cs) (hG : Glob w) : Calls Tryd.prog 6 #[.agg #[qv, cv], .int .i64 x, .int .i64 y, .int .i64 t] w fun e w' => e = .returned (.bool true) ∧ Below w.heap.size w w' := by
  cases hg : greatB qs cs
  · by_cases hE : planE qs cs = 0
    · exact disjoint_ok qv cv qs cs x y t w hq hc hG hg hE
    · have HG := Lib.hid hg
      have hEb : (planE qs cs != 0) = true := by simpa using hE
      clear hg hE
      have hq0 := hq
      have hc0 := hc
      obtain ⟨A1, c1, rfl, hc1, hm1, _⟩ := hq
      obtain ⟨A2, c2, rfl, hc2, hm2, hA2⟩ := hc
      unfold maxLen at hm1 hm2
      have HA2 := Lib.hid hA2
      clear hA2
      go_enter Tryd.func6, Tryd.ntmps6
      go_wp2_with fail
      have b0 := PB.new w (.slice A1 qs.length c1) (.slice A2 cs.length c2) 25
      refine (great_any _ _ qs cs _ (b0.ints hq0) (b0.cons hc0)).mono ?_
      rw [HG.out]
      rintro e w1 ⟨rfl, hb1⟩
      have b1 := b0.below hb1
      have q0 := b1.two.c0
      have q1 := b1.two.c1
      have hl := b1.two.lt
      clear hb1
      go_wp2_with fail
      refine (pcheck_any _ _ qs cs _ (b1.ints hq0) (b1.cons hc0)).mono ?_
      rintro e w2 ⟨rfl, hb2⟩
      clear q0 q1 hl
      have b2 := b1.below hb2
      have q0 := b2.two.c0
      have q1 := b2.two.c1
      have hl := b2.two.lt
      clear hb2
      go_wp2_with fail
      refine (awake_any _ (b2.glob hG)).mono ?_
      rintro e w3 ⟨rfl, hb3⟩
      have b3 := b2.below hb3
      go_wp2_with fail
      go_ret
      exact ⟨rfl, b3.bel⟩
  · have HG := Lib.hid hg
    clear hg
    have hq0 := hq
    have hc0 := hc
    obtain ⟨A1, c1, rfl, hc1, hm1, _⟩ := hq
    obtain ⟨A2, c2, rfl, hc2, hm2, hA2⟩ := hc
    unfold maxLen at hm1 hm2
    have HA2 := Lib.hid hA2
    clear hA2
    go_enter Tryd.func6, Tryd.ntmps6
    go_wp2_with fail
    have b0 := PB.new w (.slice A1 qs.length c1) (.slice A2 cs.length c2) 25
    refine (great_any _ _ qs cs _ (b0.ints hq0) (b0.cons hc0)).mono ?_
    rw [HG.out]
    rintro e w1 ⟨rfl, hb1⟩
    have b1 := b0.below hb1
    have q0 := b1.two.c0
    have q1 := b1.two.c1
    have hl := b1.two.lt
    clear hb1
    go_wp2_with fail
    refine (awake_any _ (b1.glob hG)).mono ?_
    rintro e w2 ⟨rfl, hb2⟩
    have b2 := b1.below hb2
    go_wp2_with fail
    go_ret
    exact ⟨rfl, b2.bel⟩
end Go.Proofs.YtgnlanfpholdaaaDoor

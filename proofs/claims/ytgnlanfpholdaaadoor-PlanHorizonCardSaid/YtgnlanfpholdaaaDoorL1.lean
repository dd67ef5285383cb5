/- Walk of the law PlanHorizon. -/
import Derived.Test.YtgnlanfpholdaaaDoorG2
namespace Go.Proofs.YtgnlanfpholdaaaDoor
open Go.RowKit
set_option maxHeartbeats 2000000 in
theorem horizon_any (qv cv : Value) (qs : List Int) (cs : List Con) (t : Int) (w : World) (hq : Ints w w.heap.size qv qs) (hc : Cons w w.heap.size cv cs) (hG : Glob w) : Calls Tryd.prog 3 #[.agg #[qv, cv], .int .i64 t] w fun e w' => e = .returned (.bool true) ∧ Below w.heap.size w w' := by
  have hq0 := hq
  have hc0 := hc
  obtain ⟨A1, c1, rfl, hc1, hm1, _⟩ := hq
  obtain ⟨A2, c2, rfl, hc2, hm2, _⟩ := hc
  cases hg : greatB qs cs
  · have HG := Lib.hid hg
    clear hg
    by_cases hE : planE qs cs = 0
    · have HE := Lib.hid hE
      by_cases h0 : cs.length = 0
      · have HR : Hid (horE qs cs = 20 ∧ horF qs cs = (0, 0)) := by show _ ∧ _; simp [horE, horF, hE, h0]
        have h0b : ((cs.length : Int) == 0) = true := by simp [h0]
        clear hE h0
        go_enter Tryd.func3, Tryd.ntmps3
        go_wp2_with fail
        have b0 := PB.new w (.slice A1 qs.length c1) (.slice A2 cs.length c2) 25
        refine (great_any _ _ qs cs _ (b0.ints hq0) (b0.cons hc0)).mono ?_
        rw [HG.out]
        rintro e w1 ⟨rfl, hb1⟩
        have b1 := b0.below hb1
        have q0 := b1.two.c0
        have q1 := b1.two.c1
        have hl := b1.two.lt
        clear hb1
        go_wp2_with fail
        refine (pcheck_any _ _ qs cs _ (b1.ints hq0) (b1.cons hc0)).mono ?_
        rw [HE.out]
        rintro e w2 ⟨rfl, hb2⟩
        clear q0 q1 hl
        have b2 := b1.below hb2
        have q0 := b2.two.c0
        have q1 := b2.two.c1
        have hl := b2.two.lt
        clear hb2
        go_wp2_with fail
        refine (hor_any _ _ qs cs _ (b2.ints hq0) (b2.cons hc0)).mono ?_
        unfold HorPost
        rw [HR.out.1, HR.out.2]
        rintro e w3 ⟨rfl, hb3⟩
        clear q0 q1 hl
        have b3 := b2.below hb3
        have q0 := b3.two.c0
        have q1 := b3.two.c1
        have hl := b3.two.lt
        clear hb3
        go_wp2_with fail
        have b4 := b3.alloc (.cells #[.int .i64 0, .int .i64 0] 31)
        refine (awake_any _ (b4.glob hG)).mono ?_
        rintro e w5 ⟨rfl, hb5⟩
        have b5 := b4.below hb5
        go_wp2_with fail
        go_ret
        exact ⟨rfl, b5.bel⟩
      · have HR : Hid (horE qs cs = 0 ∧ horF qs cs = hor cs cs.length) := by show _ ∧ _; simp [horE, horF, hE, h0]
        have HN := Lib.hid (fun t => act_none (t := t) hE)
        have HL := Lib.hid (act_lo hE (by omega))
        obtain ⟨e1, e2, e3⟩ := hor_bounds hE (by omega)
        clear hE h0
        generalize hor cs cs.length = H at *
        obtain ⟨lo, hi⟩ := H
        simp only at e1 e2 e3
        by_cases t1 : t < lo
        · go_enter Tryd.func3, Tryd.ntmps3
          go_wp2_with fail
          have b0 := PB.new w (.slice A1 qs.length c1) (.slice A2 cs.length c2) 25
          refine (great_any _ _ qs cs _ (b0.ints hq0) (b0.cons hc0)).mono ?_
          rw [HG.out]
          rintro e w1 ⟨rfl, hb1⟩
          have b1 := b0.below hb1
          have q0 := b1.two.c0
          have q1 := b1.two.c1
          have hl := b1.two.lt
          clear hb1
          go_wp2_with fail
          refine (pcheck_any _ _ qs cs _ (b1.ints hq0) (b1.cons hc0)).mono ?_
          rw [HE.out]
          rintro e w2 ⟨rfl, hb2⟩
          clear q0 q1 hl
          have b2 := b1.below hb2
          have q0 := b2.two.c0
          have q1 := b2.two.c1
          have hl := b2.two.lt
          clear hb2
          go_wp2_with fail
          refine (hor_any _ _ qs cs _ (b2.ints hq0) (b2.cons hc0)).mono ?_
          unfold HorPost
          rw [HR.out.1, HR.out.2]
          rintro e w3 ⟨rfl, hb3⟩
          clear q0 q1 hl
          have b3 := b2.below hb3
          have q0 := b3.two.c0
          have q1 := b3.two.c1
          have hl := b3.two.lt
          clear hb3
          go_wp2_with fail
          have b4 := b3.alloc (.cells #[.int .i64 lo, .int .i64 hi] 31)
          have x4 := Two.new w3 (.int .i64 lo) (.int .i64 hi) 31
          have y0 := x4.c0
          have y1 := x4.c1
          have hly := x4.lt
          refine (act_any _ _ qs cs _ _ (b4.ints hq0) (b4.cons hc0)).mono ?_
          rintro e w5 ⟨v5, rfl, hv5, hb5⟩
          rw [HN.out t (.inl t1)] at hv5
          obtain ⟨A5, k5, rfl, _⟩ := hv5
          clear q0 q1 hl y0 y1
          have x5 := x4.below hb5
          have y0 := x5.c0
          have y1 := x5.c1
          have b5 := b4.below hb5
          have q0 := b5.two.c0
          have q1 := b5.two.c1
          have hl := b5.two.lt
          have hly := x5.lt
          clear hb5
          go_wp2_with fail
          refine (act_any _ _ qs cs _ _ (b5.ints hq0) (b5.cons hc0)).mono ?_
          rintro e w6 ⟨v6, rfl, hv6, hb6⟩
          have hp6 := HL.out.1
          obtain ⟨A6, k6, rfl, hk6, hm6, _⟩ := hv6
          try dsimp only at hp6
          have hp6' : (0 : Int) < (filL (actB (lo)) qs cs).length := by omega
          have hm6' : (filL (actB (lo)) qs cs).length ≤ 9223372036854775807 := by unfold maxLen at hm6; omega
          generalize (filL (actB (lo)) qs cs).length = n6 at *
          clear q0 q1 hl y0 y1
          have x6 := x5.below hb6
          have y0 := x6.c0
          have y1 := x6.c1
          have b6 := b5.below hb6
          have q0 := b6.two.c0
          have q1 := b6.two.c1
          have hl := b6.two.lt
          have hly := x6.lt
          clear hb6
          go_wp2_with fail
          refine (act_any _ _ qs cs _ _ (b6.ints hq0) (b6.cons hc0)).mono ?_
          rintro e w7 ⟨v7, rfl, hv7, hb7⟩
          have hp7 := HL.out.2
          obtain ⟨A7, k7, rfl, hk7, hm7, _⟩ := hv7
          try dsimp only at hp7
          have hp7' : (0 : Int) < (filL (actB (hi - 1)) qs cs).length := by omega
          have hm7' : (filL (actB (hi - 1)) qs cs).length ≤ 9223372036854775807 := by unfold maxLen at hm7; omega
          generalize (filL (actB (hi - 1)) qs cs).length = n7 at *
          clear q0 q1 hl y0 y1
          have x7 := x6.below hb7
          have y0 := x7.c0
          have y1 := x7.c1
          have b7 := b6.below hb7
          have q0 := b7.two.c0
          have q1 := b7.two.c1
          have hl := b7.two.lt
          have hly := x7.lt
          clear hb7
          go_wp2_with fail
          refine (awake_any _ (b7.glob hG)).mono ?_
          rintro e w8 ⟨rfl, hb8⟩
          have b8 := b7.below hb8
          go_wp2_with fail
          go_ret
          exact ⟨rfl, b8.bel⟩
        · by_cases t2 : hi ≤ t
          · go_enter Tryd.func3, Tryd.ntmps3
            go_wp2_with fail
            have b0 := PB.new w (.slice A1 qs.length c1) (.slice A2 cs.length c2) 25
            refine (great_any _ _ qs cs _ (b0.ints hq0) (b0.cons hc0)).mono ?_
            rw [HG.out]
            rintro e w1 ⟨rfl, hb1⟩
            have b1 := b0.below hb1
            have q0 := b1.two.c0
            have q1 := b1.two.c1
            have hl := b1.two.lt
            clear hb1
            go_wp2_with fail
            refine (pcheck_any _ _ qs cs _ (b1.ints hq0) (b1.cons hc0)).mono ?_
            rw [HE.out]
            rintro e w2 ⟨rfl, hb2⟩
            clear q0 q1 hl
            have b2 := b1.below hb2
            have q0 := b2.two.c0
            have q1 := b2.two.c1
            have hl := b2.two.lt
            clear hb2
            go_wp2_with fail
            refine (hor_any _ _ qs cs _ (b2.ints hq0) (b2.cons hc0)).mono ?_
            unfold HorPost
            rw [HR.out.1, HR.out.2]
            rintro e w3 ⟨rfl, hb3⟩
            clear q0 q1 hl
            have b3 := b2.below hb3
            have q0 := b3.two.c0
            have q1 := b3.two.c1
            have hl := b3.two.lt
            clear hb3
            go_wp2_with fail
            have b4 := b3.alloc (.cells #[.int .i64 lo, .int .i64 hi] 31)
            have x4 := Two.new w3 (.int .i64 lo) (.int .i64 hi) 31
            have y0 := x4.c0
            have y1 := x4.c1
            have hly := x4.lt
            refine (act_any _ _ qs cs _ _ (b4.ints hq0) (b4.cons hc0)).mono ?_
            rintro e w5 ⟨v5, rfl, hv5, hb5⟩
            rw [HN.out t (.inr t2)] at hv5
            obtain ⟨A5, k5, rfl, _⟩ := hv5
            clear q0 q1 hl y0 y1
            have x5 := x4.below hb5
            have y0 := x5.c0
            have y1 := x5.c1
            have b5 := b4.below hb5
            have q0 := b5.two.c0
            have q1 := b5.two.c1
            have hl := b5.two.lt
            have hly := x5.lt
            clear hb5
            go_wp2_with fail
            refine (act_any _ _ qs cs _ _ (b5.ints hq0) (b5.cons hc0)).mono ?_
            rintro e w6 ⟨v6, rfl, hv6, hb6⟩
            have hp6 := HL.out.1
            obtain ⟨A6, k6, rfl, hk6, hm6, _⟩ := hv6
            try dsimp only at hp6
            have hp6' : (0 : Int) < (filL (actB (lo)) qs cs).length := by omega
            have hm6' : (filL (actB (lo)) qs cs).length ≤ 9223372036854775807 := by unfold maxLen at hm6; omega
            generalize (filL (actB (lo)) qs cs).length = n6 at *
            clear q0 q1 hl y0 y1
            have x6 := x5.below hb6
            have y0 := x6.c0
            have y1 := x6.c1
            have b6 := b5.below hb6
            have q0 := b6.two.c0
            have q1 := b6.two.c1
            have hl := b6.two.lt
            have hly := x6.lt
            clear hb6
            go_wp2_with fail
            refine (act_any _ _ qs cs _ _ (b6.ints hq0) (b6.cons hc0)).mono ?_
            rintro e w7 ⟨v7, rfl, hv7, hb7⟩
            have hp7 := HL.out.2
            obtain ⟨A7, k7, rfl, hk7, hm7, _⟩ := hv7
            try dsimp only at hp7
            have hp7' : (0 : Int) < (filL (actB (hi - 1)) qs cs).length := by omega
            have hm7' : (filL (actB (hi - 1)) qs cs).length ≤ 9223372036854775807 := by unfold maxLen at hm7; omega
            generalize (filL (actB (hi - 1)) qs cs).length = n7 at *
            clear q0 q1 hl y0 y1
            have x7 := x6.below hb7
            have y0 := x7.c0
            have y1 := x7.c1
            have b7 := b6.below hb7
            have q0 := b7.two.c0
            have q1 := b7.two.c1
            have hl := b7.two.lt
            have hly := x7.lt
            clear hb7
            go_wp2_with fail
            refine (awake_any _ (b7.glob hG)).mono ?_
            rintro e w8 ⟨rfl, hb8⟩
            have b8 := b7.below hb8
            go_wp2_with fail
            go_ret
            exact ⟨rfl, b8.bel⟩
          · go_enter Tryd.func3, Tryd.ntmps3
            go_wp2_with fail
            have b0 := PB.new w (.slice A1 qs.length c1) (.slice A2 cs.length c2) 25
            refine (great_any _ _ qs cs _ (b0.ints hq0) (b0.cons hc0)).mono ?_
            rw [HG.out]
            rintro e w1 ⟨rfl, hb1⟩
            have b1 := b0.below hb1
            have q0 := b1.two.c0
            have q1 := b1.two.c1
            have hl := b1.two.lt
            clear hb1
            go_wp2_with fail
            refine (pcheck_any _ _ qs cs _ (b1.ints hq0) (b1.cons hc0)).mono ?_
            rw [HE.out]
            rintro e w2 ⟨rfl, hb2⟩
            clear q0 q1 hl
            have b2 := b1.below hb2
            have q0 := b2.two.c0
            have q1 := b2.two.c1
            have hl := b2.two.lt
            clear hb2
            go_wp2_with fail
            refine (hor_any _ _ qs cs _ (b2.ints hq0) (b2.cons hc0)).mono ?_
            unfold HorPost
            rw [HR.out.1, HR.out.2]
            rintro e w3 ⟨rfl, hb3⟩
            clear q0 q1 hl
            have b3 := b2.below hb3
            have q0 := b3.two.c0
            have q1 := b3.two.c1
            have hl := b3.two.lt
            clear hb3
            go_wp2_with fail
            have b4 := b3.alloc (.cells #[.int .i64 lo, .int .i64 hi] 31)
            have x4 := Two.new w3 (.int .i64 lo) (.int .i64 hi) 31
            have y0 := x4.c0
            have y1 := x4.c1
            have hly := x4.lt
            refine (act_any _ _ qs cs _ _ (b4.ints hq0) (b4.cons hc0)).mono ?_
            rintro e w5 ⟨v5, rfl, hv5, hb5⟩
            have hp5 := HL.out.1
            obtain ⟨A5, k5, rfl, hk5, hm5, _⟩ := hv5
            try dsimp only at hp5
            have hp5' : (0 : Int) < (filL (actB (lo)) qs cs).length := by omega
            have hm5' : (filL (actB (lo)) qs cs).length ≤ 9223372036854775807 := by unfold maxLen at hm5; omega
            generalize (filL (actB (lo)) qs cs).length = n5 at *
            clear q0 q1 hl y0 y1
            have x5 := x4.below hb5
            have y0 := x5.c0
            have y1 := x5.c1
            have b5 := b4.below hb5
            have q0 := b5.two.c0
            have q1 := b5.two.c1
            have hl := b5.two.lt
            have hly := x5.lt
            clear hb5
            go_wp2_with fail
            refine (act_any _ _ qs cs _ _ (b5.ints hq0) (b5.cons hc0)).mono ?_
            rintro e w6 ⟨v6, rfl, hv6, hb6⟩
            have hp6 := HL.out.2
            obtain ⟨A6, k6, rfl, hk6, hm6, _⟩ := hv6
            try dsimp only at hp6
            have hp6' : (0 : Int) < (filL (actB (hi - 1)) qs cs).length := by omega
            have hm6' : (filL (actB (hi - 1)) qs cs).length ≤ 9223372036854775807 := by unfold maxLen at hm6; omega
            generalize (filL (actB (hi - 1)) qs cs).length = n6 at *
            clear q0 q1 hl y0 y1
            have x6 := x5.below hb6
            have y0 := x6.c0
            have y1 := x6.c1
            have b6 := b5.below hb6
            have q0 := b6.two.c0
            have q1 := b6.two.c1
            have hl := b6.two.lt
            have hly := x6.lt
            clear hb6
            go_wp2_with fail
            refine (awake_any _ (b6.glob hG)).mono ?_
            rintro e w7 ⟨rfl, hb7⟩
            have b7 := b6.below hb7
            go_wp2_with fail
            go_ret
            exact ⟨rfl, b7.bel⟩
    · have hEb : (planE qs cs != 0) = true := by simpa using hE
      clear hE
      go_enter Tryd.func3, Tryd.ntmps3
      go_wp2_with fail
      have b0 := PB.new w (.slice A1 qs.length c1) (.slice A2 cs.length c2) 25
      refine (great_any _ _ qs cs _ (b0.ints hq0) (b0.cons hc0)).mono ?_
      rw [HG.out]
      rintro e w1 ⟨rfl, hb1⟩
      have b1 := b0.below hb1
      have q0 := b1.two.c0
      have q1 := b1.two.c1
      have hl := b1.two.lt
      clear hb1
      go_wp2_with fail
      refine (pcheck_any _ _ qs cs _ (b1.ints hq0) (b1.cons hc0)).mono ?_
      rintro e w2 ⟨rfl, hb2⟩
      clear q0 q1 hl
      have b2 := b1.below hb2
      have q0 := b2.two.c0
      have q1 := b2.two.c1
      have hl := b2.two.lt
      clear hb2
      go_wp2_with fail
      refine (awake_any _ (b2.glob hG)).mono ?_
      rintro e w3 ⟨rfl, hb3⟩
      have b3 := b2.below hb3
      go_wp2_with fail
      go_ret
      exact ⟨rfl, b3.bel⟩
  · have HG := Lib.hid hg
    clear hg
    go_enter Tryd.func3, Tryd.ntmps3
    go_wp2_with fail
    have b0 := PB.new w (.slice A1 qs.length c1) (.slice A2 cs.length c2) 25
    refine (great_any _ _ qs cs _ (b0.ints hq0) (b0.cons hc0)).mono ?_
    rw [HG.out]
    rintro e w1 ⟨rfl, hb1⟩
    have b1 := b0.below hb1
    have q0 := b1.two.c0
    have q1 := b1.two.c1
    have hl := b1.two.lt
    clear hb1
    go_wp2_with fail
    refine (awake_any _ (b1.glob hG)).mono ?_
    rintro e w2 ⟨rfl, hb2⟩
    have b2 := b1.below hb2
    go_wp2_with fail
    go_ret
    exact ⟨rfl, b2.bel⟩
end Go.Proofs.YtgnlanfpholdaaaDoor

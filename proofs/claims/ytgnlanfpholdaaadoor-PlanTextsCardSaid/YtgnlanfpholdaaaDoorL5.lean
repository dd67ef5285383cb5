/- Walk of the law PlanTexts. -/
import Derived.Test.YtgnlanfpholdaaaDoorL8
import Derived.Test.YtgnlanfpholdaaaDoorG13
import Derived.Test.YtgnlanfpholdaaaDoorG16
namespace Go.Proofs.YtgnlanfpholdaaaDoor
open Go.RowKit
attribute [local go_sem ↓] Go.wp_at_zero Go.wp_at_succ
set_option maxHeartbeats 4000000 in
set_option maxRecDepth 100000 in
theorem texts_any (qv cv : Value) (qs : List Int) (cs : List Con) (s : ByteArray) (hs : s.size ≤ 9223372036854775807) (w : World) (hq : Ints w w.heap.size qv qs) (hc : Cons w w.heap.size cv cs) (hG : Glob w) : Calls Tryd.prog 7 #[.agg #[qv, cv], .string s] w fun e w' => e = .returned (.bool true) ∧ Below w.heap.size w w' := by
  cases hg : greatB qs cs
  · have HG := Lib.hid hg
    clear hg
    by_cases h6 : (600 : Int) < s.size
    · by_cases h8 : (s.size : Int) ≤ 8192
      · have hq0 := hq
        have hc0 := hc
        obtain ⟨A1, c1, rfl, hc1, hm1, _⟩ := hq
        obtain ⟨A2, c2, rfl, hc2, hm2, _⟩ := hc
        unfold maxLen at hm1 hm2
        go_enter Tryd.func7, Tryd.ntmps7
        go_wp2_with fail
        have b0 := PB.new w (.slice A1 qs.length c1) (.slice A2 cs.length c2) 25
        refine (great_any _ _ qs cs _ (b0.ints hq0) (b0.cons hc0)).mono ?_
        rw [HG.out]
        rintro e w1 ⟨rfl, hb1⟩
        have b1 := b0.below hb1
        have q0 := b1.two.c0
        have q1 := b1.two.c1
        have hl := b1.two.lt
        clear hb1
        go_wp2_with fail
        refine (awake_any _ (b1.glob hG)).mono ?_
        rintro e w2 ⟨rfl, hb2⟩
        have b2 := b1.below hb2
        go_wp2_with fail
        go_ret
        exact ⟨rfl, b2.bel⟩
      · have hq0 := hq
        have hc0 := hc
        obtain ⟨A1, c1, rfl, hc1, hm1, _⟩ := hq
        obtain ⟨A2, c2, rfl, hc2, hm2, _⟩ := hc
        unfold maxLen at hm1 hm2
        go_enter Tryd.func7, Tryd.ntmps7
        go_wp2_with fail
        have b0 := PB.new w (.slice A1 qs.length c1) (.slice A2 cs.length c2) 25
        refine (great_any _ _ qs cs _ (b0.ints hq0) (b0.cons hc0)).mono ?_
        rw [HG.out]
        rintro e w1 ⟨rfl, hb1⟩
        have b1 := b0.below hb1
        have q0 := b1.two.c0
        have q1 := b1.two.c1
        have hl := b1.two.lt
        clear hb1
        go_wp2_with fail
        refine (print_any _ _ qs cs _ (b1.ints hq0) (b1.cons hc0) (b1.glob hG)).mono ?_
        rintro e w2 ⟨rfl, hb2⟩
        clear q0 q1 hl
        have b2 := b1.below hb2
        have q0 := b2.two.c0
        have q1 := b2.two.c1
        have hl := b2.two.lt
        clear hb2
        go_wp2_with fail
        refine (rprint_any _ _ qs cs _ (b2.ints hq0) (b2.cons hc0)).mono ?_
        rintro e w3 ⟨rfl, hb3⟩
        clear q0 q1 hl
        have b3 := b2.below hb3
        have q0 := b3.two.c0
        have q1 := b3.two.c1
        have hl := b3.two.lt
        clear hb3
        generalize printS qs cs = ps at *
        generalize printE qs cs = pe at *
        go_wp2_with fail
        refine (parse_any s _ (b3.glob hG)).mono ?_
        unfold ParsePost
        rintro e w4 ⟨qv4, cv4, rfl, hi4, hc4, hb4⟩
        have u4 := Own.new hi4 hc4
        obtain ⟨Aq4, kq4, rfl, _⟩ := hi4
        obtain ⟨Ac4, kc4, rfl, _⟩ := hc4
        have b4 := b3.below hb4
        clear hb4
        clear q0 q1 hl
        have q0 := b4.two.c0
        have q1 := b4.two.c1
        have hl := b4.two.lt
        go_wp2_with fail
        refine (rparse_any s _).mono ?_
        unfold ParsePost
        rintro e w5 ⟨qv5, cv5, rfl, hi5, hc5, hb5⟩
        have u5 := Own.new hi5 hc5
        obtain ⟨Aq5, kq5, rfl, _⟩ := hi5
        obtain ⟨Ac5, kc5, rfl, _⟩ := hc5
        have b5 := (b4.alloc _).below hb5
        have u4b := u4.below hb5
        clear hb5
        clear q0 q1 hl
        have q0 := b5.two.c0
        have q1 := b5.two.c1
        have hl := b5.two.lt
        have HS : Hid (SameB (parseR s).1 (parseR s).1 (parseR s).2.1 (parseR s).2.1 = true) := by show _ = _; simp [SameB]
        generalize (parseR s).1 = Q at *
        generalize (parseR s).2.1 = C at *
        generalize (parseR s).2.2.1 = ln at *
        generalize (parseR s).2.2.2 = er at *
        have r0 := u4b.two.c0
        have r1 := u4b.two.c1
        have rl := u4b.two.lt
        go_wp2_with fail
        have b5b := b5.alloc (.cells #[.slice Aq5 Q.length kq5, .slice Ac5 C.length kc5] 25)
        have u4c := u4b.below ((Below.refl _ w5).alloc (Nat.le_refl _) (.cells #[.slice Aq5 Q.length kq5, .slice Ac5 C.length kc5] 25))
        refine (same_any _ _ _ _ Q Q C C _ u4c.ints u4c.cons u5.ints u5.cons).mono ?_
        rw [HS.out]
        rintro e w6 ⟨rfl, hb6⟩
        have b6 := b5b.below hb6
        clear hb6 r0 r1 rl q0 q1 hl
        go_wp2_with fail
        refine (awake_any _ (b6.glob hG)).mono ?_
        rintro e w7 ⟨rfl, hb7⟩
        have b7 := b6.below hb7
        go_wp2_with fail
        go_ret
        exact ⟨rfl, b7.bel⟩
    · have hq0 := hq
      have hc0 := hc
      obtain ⟨A1, c1, rfl, hc1, hm1, _⟩ := hq
      obtain ⟨A2, c2, rfl, hc2, hm2, _⟩ := hc
      unfold maxLen at hm1 hm2
      go_enter Tryd.func7, Tryd.ntmps7
      go_wp2_with fail
      have b0 := PB.new w (.slice A1 qs.length c1) (.slice A2 cs.length c2) 25
      refine (great_any _ _ qs cs _ (b0.ints hq0) (b0.cons hc0)).mono ?_
      rw [HG.out]
      rintro e w1 ⟨rfl, hb1⟩
      have b1 := b0.below hb1
      have q0 := b1.two.c0
      have q1 := b1.two.c1
      have hl := b1.two.lt
      clear hb1
      go_wp2_with fail
      refine (print_any _ _ qs cs _ (b1.ints hq0) (b1.cons hc0) (b1.glob hG)).mono ?_
      rintro e w2 ⟨rfl, hb2⟩
      clear q0 q1 hl
      have b2 := b1.below hb2
      have q0 := b2.two.c0
      have q1 := b2.two.c1
      have hl := b2.two.lt
      clear hb2
      go_wp2_with fail
      refine (rprint_any _ _ qs cs _ (b2.ints hq0) (b2.cons hc0)).mono ?_
      rintro e w3 ⟨rfl, hb3⟩
      clear q0 q1 hl
      have b3 := b2.below hb3
      have q0 := b3.two.c0
      have q1 := b3.two.c1
      have hl := b3.two.lt
      clear hb3
      generalize printS qs cs = ps at *
      generalize printE qs cs = pe at *
      go_wp2_with fail
      refine (parse_any s _ (b3.glob hG)).mono ?_
      unfold ParsePost
      rintro e w4 ⟨qv4, cv4, rfl, hi4, hc4, hb4⟩
      have u4 := Own.new hi4 hc4
      obtain ⟨Aq4, kq4, rfl, _⟩ := hi4
      obtain ⟨Ac4, kc4, rfl, _⟩ := hc4
      have b4 := b3.below hb4
      clear hb4
      clear q0 q1 hl
      have q0 := b4.two.c0
      have q1 := b4.two.c1
      have hl := b4.two.lt
      go_wp2_with fail
      refine (rparse_any s _).mono ?_
      unfold ParsePost
      rintro e w5 ⟨qv5, cv5, rfl, hi5, hc5, hb5⟩
      have u5 := Own.new hi5 hc5
      obtain ⟨Aq5, kq5, rfl, _⟩ := hi5
      obtain ⟨Ac5, kc5, rfl, _⟩ := hc5
      have b5 := (b4.alloc _).below hb5
      have u4b := u4.below hb5
      clear hb5
      clear q0 q1 hl
      have q0 := b5.two.c0
      have q1 := b5.two.c1
      have hl := b5.two.lt
      have HS : Hid (SameB (parseR s).1 (parseR s).1 (parseR s).2.1 (parseR s).2.1 = true) := by show _ = _; simp [SameB]
      generalize (parseR s).1 = Q at *
      generalize (parseR s).2.1 = C at *
      generalize (parseR s).2.2.1 = ln at *
      generalize (parseR s).2.2.2 = er at *
      have r0 := u4b.two.c0
      have r1 := u4b.two.c1
      have rl := u4b.two.lt
      go_wp2_with fail
      have b5b := b5.alloc (.cells #[.slice Aq5 Q.length kq5, .slice Ac5 C.length kc5] 25)
      have u4c := u4b.below ((Below.refl _ w5).alloc (Nat.le_refl _) (.cells #[.slice Aq5 Q.length kq5, .slice Ac5 C.length kc5] 25))
      refine (same_any _ _ _ _ Q Q C C _ u4c.ints u4c.cons u5.ints u5.cons).mono ?_
      rw [HS.out]
      rintro e w6 ⟨rfl, hb6⟩
      have b6 := b5b.below hb6
      clear hb6 r0 r1 rl q0 q1 hl
      go_wp2_with fail
      refine (awake_any _ (b6.glob hG)).mono ?_
      rintro e w7 ⟨rfl, hb7⟩
      have b7 := b6.below hb7
      go_wp2_with fail
      go_ret
      exact ⟨rfl, b7.bel⟩
  · have HG := Lib.hid hg
    clear hg
    have hq0 := hq
    have hc0 := hc
    obtain ⟨A1, c1, rfl, hc1, hm1, _⟩ := hq
    obtain ⟨A2, c2, rfl, hc2, hm2, _⟩ := hc
    unfold maxLen at hm1 hm2
    go_enter Tryd.func7, Tryd.ntmps7
    go_wp2_with fail
    have b0 := PB.new w (.slice A1 qs.length c1) (.slice A2 cs.length c2) 25
    refine (great_any _ _ qs cs _ (b0.ints hq0) (b0.cons hc0)).mono ?_
    rw [HG.out]
    rintro e w1 ⟨rfl, hb1⟩
    have b1 := b0.below hb1
    have q0 := b1.two.c0
    have q1 := b1.two.c1
    have hl := b1.two.lt
    clear hb1
    go_wp2_with fail
    refine (awake_any _ (b1.glob hG)).mono ?_
    rintro e w2 ⟨rfl, hb2⟩
    have b2 := b1.below hb2
    go_wp2_with fail
    go_ret
    exact ⟨rfl, b2.bel⟩
end Go.Proofs.YtgnlanfpholdaaaDoor

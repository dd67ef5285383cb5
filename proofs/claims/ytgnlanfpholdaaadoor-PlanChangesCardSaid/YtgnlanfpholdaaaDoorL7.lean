/- Walk of the law PlanChanges. -/
import Derived.Test.YtgnlanfpholdaaaDoorL8
import Derived.Test.YtgnlanfpholdaaaDoorG5
import Derived.Test.YtgnlanfpholdaaaDoorG19
namespace Go.Proofs.YtgnlanfpholdaaaDoor
open Go.RowKit
attribute [local go_sem ↓] Go.wp_at_zero Go.wp_at_succ
set_option maxHeartbeats 4000000 in
set_option maxRecDepth 100000 in
theorem changes_any (qv cv : Value) (qs : List Int) (cs : List Con) (c : Con) (x : Int) (w : World) (hq : Ints w w.heap.size qv qs) (hc : Cons w w.heap.size cv cs) (hG : Glob w) : Calls Tryd.prog 9 #[.agg #[qv, cv], .agg #[.int .i64 c.a, .int .i64 c.b, .int .i64 c.s, .int .i64 c.e, .int .i64 c.r, .int .i64 c.g, .int .i64 c.l], .int .i64 x] w fun e w' => e = .returned (.bool true) ∧ Below w.heap.size w w' := by
  cases hg : greatB qs cs
  · have HG := Lib.hid hg
    clear hg
    have hq0 := hq
    have hc0 := hc
    obtain ⟨A1, c1, rfl, hc1, hm1, _⟩ := hq
    obtain ⟨A2, c2, rfl, hc2, hm2, _⟩ := hc
    unfold maxLen at hm1 hm2
    go_enter Tryd.func9, Tryd.ntmps9
    go_wp2_with fail
    have b0 := PC.new w (.slice A1 qs.length c1) (.slice A2 cs.length c2) c
    refine (great_any _ _ qs cs _ (b0.pb.ints hq0) (b0.pb.cons hc0)).mono ?_
    rw [HG.out]
    rintro e w1 ⟨rfl, hb1⟩
    have b1 := b0.below hb1
    clear hb1
    have q0 := b1.pb.two.c0
    have q1 := b1.pb.two.c1
    have hl := b1.pb.two.lt
    obtain ⟨y0, y1, y2, y3, y4, y5, y6⟩ := b1.con
    simp only [Nat.zero_add] at y0 y1 y2 y3 y4 y5 y6
    have hl1 := b1.lt
    go_wp2_with fail
    refine (find_any _ _ qs cs c _ (b1.pb.ints hq0) (b1.pb.cons hc0)).mono ?_
    unfold FindPost
    rintro e w2 ⟨rfl, hb2⟩
    have b2 := b1.below hb2
    clear hb2
    clear q0 q1 hl y0 y1 y2 y3 y4 y5 y6 hl1
    have q0 := b2.pb.two.c0
    have q1 := b2.pb.two.c1
    have hl := b2.pb.two.lt
    obtain ⟨y0, y1, y2, y3, y4, y5, y6⟩ := b2.con
    simp only [Nat.zero_add] at y0 y1 y2 y3 y4 y5 y6
    have hl1 := b2.lt
    go_wp2_with fail
    refine (rfind_any _ _ qs cs c _ (b2.pb.ints hq0) (b2.pb.cons hc0)).mono ?_
    unfold FindPost
    rintro e w3 ⟨rfl, hb3⟩
    have b3 := b2.below hb3
    clear hb3
    clear q0 q1 hl y0 y1 y2 y3 y4 y5 y6 hl1
    have q0 := b3.pb.two.c0
    have q1 := b3.pb.two.c1
    have hl := b3.pb.two.lt
    obtain ⟨y0, y1, y2, y3, y4, y5, y6⟩ := b3.con
    simp only [Nat.zero_add] at y0 y1 y2 y3 y4 y5 y6
    have hl1 := b3.lt
    go_wp2_with fail
    generalize max (findI (likeB c) cs 0) 0 = mx at *
    generalize decide (0 ≤ findI (likeB c) cs 0) = mb at *
    refine (with_any _ _ qs cs c _ (b3.pb.ints hq0) (b3.pb.cons hc0)).mono ?_
    unfold PlanPost
    rintro e w4 ⟨qv4, cv4, rfl, hi4, hc4, hb4⟩
    have l4_4 := Own.new hi4 hc4
    obtain ⟨Aq4, kq4, rfl, _⟩ := hi4
    obtain ⟨Ac4, kc4, rfl, _⟩ := hc4
    have b4 := b3.below hb4
    clear hb4
    clear q0 q1 hl y0 y1 y2 y3 y4 y5 y6 hl1
    have q0 := b4.pb.two.c0
    have q1 := b4.pb.two.c1
    have hl := b4.pb.two.lt
    obtain ⟨y0, y1, y2, y3, y4, y5, y6⟩ := b4.con
    simp only [Nat.zero_add] at y0 y1 y2 y3 y4 y5 y6
    have hl1 := b4.lt
    go_wp2_with fail
    refine (rwith_any _ _ qs cs c _ ((b4.alloc _).pb.ints hq0) ((b4.alloc _).pb.cons hc0)).mono ?_
    unfold PlanPost
    rintro e w5 ⟨qv5, cv5, rfl, hi5, hc5, hb5⟩
    have l5_5 := Own.new hi5 hc5
    obtain ⟨Aq5, kq5, rfl, _⟩ := hi5
    obtain ⟨Ac5, kc5, rfl, _⟩ := hc5
    have b5 := (b4.alloc _).below hb5
    have u4_5 := l4_4.below hb5
    clear hb5
    clear q0 q1 hl y0 y1 y2 y3 y4 y5 y6 hl1
    have q0 := b5.pb.two.c0
    have q1 := b5.pb.two.c1
    have hl := b5.pb.two.lt
    obtain ⟨y0, y1, y2, y3, y4, y5, y6⟩ := b5.con
    simp only [Nat.zero_add] at y0 y1 y2 y3 y4 y5 y6
    have hl1 := b5.lt
    go_wp2_with fail
    have l4_5 := u4_5.below ((Below.refl _ w5).alloc (Nat.le_refl _) (.cells #[.slice Aq5 (withR qs cs c).1.length kq5, .slice Ac5 (withR qs cs c).2.1.length kc5] 25))
    refine (wout_any _ _ qs cs x _ ((b5.alloc _).pb.ints hq0) ((b5.alloc _).pb.cons hc0)).mono ?_
    unfold PlanPost
    rintro e w6 ⟨qv6, cv6, rfl, hi6, hc6, hb6⟩
    have l6_6 := Own.new hi6 hc6
    obtain ⟨Aq6, kq6, rfl, _⟩ := hi6
    obtain ⟨Ac6, kc6, rfl, _⟩ := hc6
    have b6 := (b5.alloc _).below hb6
    have u4_6 := l4_5.below hb6
    have u5_6 := l5_5.below hb6
    clear hb6
    clear q0 q1 hl y0 y1 y2 y3 y4 y5 y6 hl1
    have q0 := b6.pb.two.c0
    have q1 := b6.pb.two.c1
    have hl := b6.pb.two.lt
    obtain ⟨y0, y1, y2, y3, y4, y5, y6⟩ := b6.con
    simp only [Nat.zero_add] at y0 y1 y2 y3 y4 y5 y6
    have hl1 := b6.lt
    go_wp2_with fail
    have l4_6 := u4_6.below ((Below.refl _ w6).alloc (Nat.le_refl _) (.cells #[.slice Aq6 (woutR qs cs x).1.length kq6, .slice Ac6 (woutR qs cs x).2.1.length kc6] 25))
    have l5_6 := u5_6.below ((Below.refl _ w6).alloc (Nat.le_refl _) (.cells #[.slice Aq6 (woutR qs cs x).1.length kq6, .slice Ac6 (woutR qs cs x).2.1.length kc6] 25))
    refine (rwout_any _ _ qs cs x _ ((b6.alloc _).pb.ints hq0) ((b6.alloc _).pb.cons hc0)).mono ?_
    unfold PlanPost
    rintro e w7 ⟨qv7, cv7, rfl, hi7, hc7, hb7⟩
    have l7_7 := Own.new hi7 hc7
    obtain ⟨Aq7, kq7, rfl, _⟩ := hi7
    obtain ⟨Ac7, kc7, rfl, _⟩ := hc7
    have b7 := (b6.alloc _).below hb7
    have u4_7 := l4_6.below hb7
    have u5_7 := l5_6.below hb7
    have u6_7 := l6_6.below hb7
    clear hb7
    clear q0 q1 hl y0 y1 y2 y3 y4 y5 y6 hl1
    have q0 := b7.pb.two.c0
    have q1 := b7.pb.two.c1
    have hl := b7.pb.two.lt
    obtain ⟨y0, y1, y2, y3, y4, y5, y6⟩ := b7.con
    simp only [Nat.zero_add] at y0 y1 y2 y3 y4 y5 y6
    have hl1 := b7.lt
    have HS1 : Hid (SameB (withR qs cs c).1 (withR qs cs c).1 (withR qs cs c).2.1 (withR qs cs c).2.1 = true) := by show _ = _; simp [SameB]
    have HS2 : Hid (SameB (woutR qs cs x).1 (woutR qs cs x).1 (woutR qs cs x).2.1 (woutR qs cs x).2.1 = true) := by show _ = _; simp [SameB]
    generalize (withR qs cs c).1 = Q1 at *
    generalize (withR qs cs c).2.1 = C1 at *
    generalize (withR qs cs c).2.2 = E1 at *
    generalize (woutR qs cs x).1 = Q2 at *
    generalize (woutR qs cs x).2.1 = C2 at *
    generalize (woutR qs cs x).2.2 = E2 at *
    have r0 := u4_7.two.c0
    have r1 := u4_7.two.c1
    have rl := u4_7.two.lt
    have s0 := u5_7.two.c0
    have s1 := u5_7.two.c1
    have sl := u5_7.two.lt
    go_wp2_with fail
    have v4 := u4_7.below ((Below.refl _ w7).alloc (Nat.le_refl _) (.cells #[.slice Aq7 Q2.length kq7, .slice Ac7 C2.length kc7] 25))
    have v5 := u5_7.below ((Below.refl _ w7).alloc (Nat.le_refl _) (.cells #[.slice Aq7 Q2.length kq7, .slice Ac7 C2.length kc7] 25))
    have v6 := u6_7.below ((Below.refl _ w7).alloc (Nat.le_refl _) (.cells #[.slice Aq7 Q2.length kq7, .slice Ac7 C2.length kc7] 25))
    refine (same_any _ _ _ _ Q1 Q1 C1 C1 _ v4.ints v4.cons v5.ints v5.cons).mono ?_
    rw [HS1.out]
    rintro e w8 ⟨rfl, hb8⟩
    have b8 := (b7.alloc _).below hb8
    have x6 := v6.below hb8
    have x7 := l7_7.below hb8
    clear hb8 r0 r1 rl s0 s1 sl
    clear q0 q1 hl y0 y1 y2 y3 y4 y5 y6 hl1
    have r0 := x6.two.c0
    have r1 := x6.two.c1
    have rl := x6.two.lt
    have s0 := x7.two.c0
    have s1 := x7.two.c1
    have sl := x7.two.lt
    go_wp2_with fail
    refine (same_any _ _ _ _ Q2 Q2 C2 C2 _ x6.ints x6.cons x7.ints x7.cons).mono ?_
    rw [HS2.out]
    rintro e w9 ⟨rfl, hb9⟩
    have b9 := b8.below hb9
    clear hb9 r0 r1 rl s0 s1 sl
    go_wp2_with fail
    refine (awake_any _ (b9.pb.glob hG)).mono ?_
    rintro e w10 ⟨rfl, hb10⟩
    have b10 := b9.below hb10
    go_wp2_with fail
    go_ret
    exact ⟨rfl, b10.pb.bel⟩
  · have HG := Lib.hid hg
    clear hg
    have hq0 := hq
    have hc0 := hc
    obtain ⟨A1, c1, rfl, hc1, hm1, _⟩ := hq
    obtain ⟨A2, c2, rfl, hc2, hm2, _⟩ := hc
    unfold maxLen at hm1 hm2
    go_enter Tryd.func9, Tryd.ntmps9
    go_wp2_with fail
    have b0 := PC.new w (.slice A1 qs.length c1) (.slice A2 cs.length c2) c
    refine (great_any _ _ qs cs _ (b0.pb.ints hq0) (b0.pb.cons hc0)).mono ?_
    rw [HG.out]
    rintro e w1 ⟨rfl, hb1⟩
    have b1 := b0.below hb1
    clear hb1
    have q0 := b1.pb.two.c0
    have q1 := b1.pb.two.c1
    have hl := b1.pb.two.lt
    obtain ⟨y0, y1, y2, y3, y4, y5, y6⟩ := b1.con
    simp only [Nat.zero_add] at y0 y1 y2 y3 y4 y5 y6
    have hl1 := b1.lt
    go_wp2_with fail
    refine (awake_any _ (b1.pb.glob hG)).mono ?_
    rintro e w2 ⟨rfl, hb2⟩
    have b2 := b1.below hb2
    go_wp2_with fail
    go_ret
    exact ⟨rfl, b2.pb.bel⟩
end Go.Proofs.YtgnlanfpholdaaaDoor

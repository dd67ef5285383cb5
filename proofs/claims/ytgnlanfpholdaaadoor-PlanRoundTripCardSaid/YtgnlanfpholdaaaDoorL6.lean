/- Walk of the law PlanRoundTrip. -/
import Derived.Test.YtgnlanfpholdaaaDoorL8
import Derived.Test.YtgnlanfpholdaaaDoorP9
namespace Go.Proofs.YtgnlanfpholdaaaDoor
open Go.RowKit
attribute [local go_sem ↓] Go.wp_at_zero Go.wp_at_succ
theorem Own.put2 {w3 : World} {n : Nat} {qv cv : Value} {qs : List Int} {cs : List Con} {A1 A2 : Option Addr} {n1 n2 k1 k2 : Nat} (hn : w3.heap[n]? = some (.cells #[.slice A1 n1 k1, .slice A2 n2 k2] 25 (0, 0))) (hq : Ints w3 w3.heap.size qv qs) (hc : Cons w3 w3.heap.size cv cs) : Own n qv cv qs cs ((w3.setCell ⟨n, 0, none⟩ qv).setCell ⟨n, 1, none⟩ cv) := by
  obtain ⟨t0, t1⟩ := two_cells (cell_blk hn 0) (cell_blk hn 1) qv cv
  have hsz : ((w3.setCell ⟨n, 0, none⟩ qv).setCell ⟨n, 1, none⟩ cv).heap.size = w3.heap.size := by simp
  have hno : ∀ o x, w3.cell? ⟨n, o, none⟩ ≠ some (.int .i64 x) := fun o x h => by
    rw [cell_blk hn o] at h
    match o, h with
    | 0, h => simp at h
    | 1, h => simp at h
    | k + 2, h => simp at h
  refine ⟨⟨by rw [hsz]; exact blk_lt hn, t0, t1⟩, ?_, ?_⟩
  · rw [hsz]
    obtain ⟨A, k, e, h1, h2, h3⟩ := hq
    refine ⟨A, k, e, h1, h2, fun hp => ?_⟩
    obtain ⟨b, o, e1, h4, h5⟩ := h3 hp
    have hbn : b ≠ n := fun e => by subst e; exact hno _ _ (h5 0 hp)
    refine ⟨b, o, e1, h4, fun j hj => ?_⟩
    have hb1 : (⟨b, o + j, none⟩ : Addr) ≠ ⟨n, 1, none⟩ := fun e => hbn (congrArg Addr.block e)
    have hb0 : (⟨b, o + j, none⟩ : Addr) ≠ ⟨n, 0, none⟩ := fun e => hbn (congrArg Addr.block e)
    rw [World.cell?_setCell_other _ _ _ _ (fun e => hb1 e.symm), World.cell?_setCell_other _ _ _ _ (fun e => hb0 e.symm)]
    exact h5 j hj
  · rw [hsz]
    obtain ⟨A, k, e, h1, h2, h3⟩ := hc
    refine ⟨A, k, e, h1, h2, fun hp => ?_⟩
    obtain ⟨b, o, e1, h4, h5⟩ := h3 hp
    have hbn : b ≠ n := fun e => by subst e; exact hno _ _ (h5 0 hp).1
    exact ⟨b, o, e1, h4, fun j hj => conAt_two (h5 j hj) hbn _ _⟩
theorem great_len {qs : List Int} {cs : List Con} (h : greatB qs cs = false) (hE : planE qs cs = 0) : cs.length ≤ 12 := by
  have h64 := (planE_len hE).2.2
  simp [greatB] at h
  omega
set_option maxHeartbeats 4000000 in
set_option maxRecDepth 100000 in
theorem round_ok (qv cv : Value) (qs : List Int) (cs : List Con) (s : ByteArray) (hs : s.size ≤ 9223372036854775807) (w : World) (hq : Ints w w.heap.size qv qs) (hc : Cons w w.heap.size cv cs) (hG : Glob w) (hg : greatB qs cs = false) (hE : planE qs cs = 0) (h6 : ¬ (600 : Int) < s.size) : Calls Tryd.prog 8 #[.agg #[qv, cv], .string s] w fun e w' => e = .returned (.bool true) ∧ Below w.heap.size w w' := by
  have HR := Lib.hid (parse_print hE (great_len hg hE))
  have HPE : Hid (printE qs cs = 0) := by show _ = _; rw [printE, if_pos hE]
  have HS : Hid (SameB qs qs cs cs = true) := by show _ = _; simp [SameB]
  have HG := Lib.hid hg
  have HE := Lib.hid hE
  clear hg hE
  have hq0 := hq
  have hc0 := hc
  obtain ⟨A1, c1, rfl, hc1, hm1, _⟩ := hq
  obtain ⟨A2, c2, rfl, hc2, hm2, _⟩ := hc
  unfold maxLen at hm1 hm2
  go_enter Tryd.func8, Tryd.ntmps8
  go_wp2_with fail
  have b0 := PB.new w (.slice A1 qs.length c1) (.slice A2 cs.length c2) 25
  refine (great_any _ _ qs cs _ (b0.ints hq0) (b0.cons hc0)).mono ?_
  rw [HG.out]
  rintro e w1 ⟨rfl, hb1⟩
  have b1 := b0.below hb1
  have q0 := b1.two.c0
  have q1 := b1.two.c1
  have hl := b1.two.lt
  clear hb1
  go_wp2_with fail
  refine (print_any _ _ qs cs _ (b1.ints hq0) (b1.cons hc0) (b1.glob hG)).mono ?_
  rw [HPE.out]
  rintro e w2 ⟨rfl, hb2⟩
  clear q0 q1 hl
  have b2 := b1.below hb2
  have q0 := b2.two.c0
  have q1 := b2.two.c1
  have hl := b2.two.lt
  clear hb2
  generalize printS qs cs = ps at *
  go_wp2_with fail
  refine (parse_any ps _ (b2.glob hG)).mono ?_
  unfold ParsePost
  rw [HR.out]
  dsimp only
  rintro e w3 ⟨qv3, cv3, rfl, hi3, hc3, hb3⟩
  have u3 := Own.new hi3 hc3
  obtain ⟨Aq3, kq3, rfl, _⟩ := hi3
  obtain ⟨Ac3, kc3, rfl, _⟩ := hc3
  have b3 := b2.below hb3
  clear hb3
  clear q0 q1 hl
  have q0 := b3.two.c0
  have q1 := b3.two.c1
  have hl := b3.two.lt
  have hn3 : (w3.alloc (.cells #[.slice Aq3 qs.length kq3, .slice Ac3 cs.length kc3] 25)).heap[w3.heap.size]? = some (.cells #[.slice Aq3 qs.length kq3, .slice Ac3 cs.length kc3] 25 (0, 0)) := heap_last _ _ _ rfl
  have hlt3 := b3.two.lt
  go_wp2_with fail
  have b3b := b3.alloc (.cells #[.slice Aq3 qs.length kq3, .slice Ac3 cs.length kc3] 25)
  refine (pcheck_any _ _ qs cs _ (b3b.ints hq0) (b3b.cons hc0)).mono ?_
  rw [HE.out]
  rintro e w4 ⟨rfl, hb4⟩
  have b4 := b3b.below hb4
  have u4 := u3.below hb4
  have hn4 := (hb4.block w3.heap.size (blk_lt hn3)).trans hn3
  clear hb4 hn3 b3b u3 b3
  clear q0 q1 hl
  have q0 := b4.two.c0
  have q1 := b4.two.c1
  have hl := b4.two.lt
  have r0 := u4.two.c0
  have r1 := u4.two.c1
  have rl := u4.two.lt
  go_wp2_with fail
  refine (same_any _ _ _ _ qs qs cs cs _ (b4.ints hq0) (b4.cons hc0) u4.ints u4.cons).mono ?_
  rw [HS.out]
  rintro e w5 ⟨rfl, hb5⟩
  have b5 := b4.below hb5
  have hn5 := (hb5.block w3.heap.size (blk_lt hn4)).trans hn4
  clear hb5 hn4 b4 u4
  clear q0 q1 hl
  clear r0 r1 rl
  have q0 := b5.two.c0
  have q1 := b5.two.c1
  have hl := b5.two.lt
  go_wp2_with fail
  by_cases hf : (parseR s).2.2.2 = 0
  · obtain ⟨hE2, hn0, ht⟩ := print_parse hf
    have HPE2 : Hid (printE (parseR s).1 (parseR s).2.1 = 0) := by show _ = _; rw [printE, if_pos hE2]
    have HT := Lib.hid ht
    clear hE2 ht
    refine (parse_any s _ (b5.glob hG)).mono ?_
    unfold ParsePost
    rw [hf, hn0]
    clear hf hn0
    generalize (parseR s).1 = Q at *
    generalize (parseR s).2.1 = C at *
    rintro e w6 ⟨qv6, cv6, rfl, hi6, hc6, hb6⟩
    have b6 := b5.below hb6
    have hn6 := (hb6.block w3.heap.size (blk_lt hn5)).trans hn5
    have o6 := Own.put2 hn6 hi6 hc6
    obtain ⟨Aq6, kq6, rfl, _⟩ := hi6
    obtain ⟨Ac6, kc6, rfl, _⟩ := hc6
    have r0 := cell_blk hn6 0
    have r1 := cell_blk hn6 1
    have z0 := frozen_blk hn6 0
    have z1 := frozen_blk hn6 1
    have rl := blk_lt hn6
    simp only [List.getElem?_toArray, List.getElem?_cons_zero, List.getElem?_cons_succ] at r0 r1
    have B6 := b6.belowB (below_two (Below.refl w3.heap.size w6) (Nat.le_refl _) (.slice Aq6 Q.length kq6) (.slice Ac6 C.length kc6)) hlt3
    clear hb6
    go_wp2_with fail
    refine (print_any _ _ Q C _ o6.ints o6.cons (B6.glob hG)).mono ?_
    rw [HT.out, HPE2.out]
    rintro e w7 ⟨rfl, hb7⟩
    have b7 := B6.below hb7
    clear hb7 r0 r1 rl z0 z1
    go_wp2_with fail
    refine (awake_any _ (b7.glob hG)).mono ?_
    rintro e w8 ⟨rfl, hb8⟩
    have b8 := b7.below hb8
    go_wp2_with fail
    go_ret
    exact ⟨rfl, b8.bel⟩
  · obtain ⟨h1, h2, h3⟩ := parse_fail hf
    have hfb : ((parseR s).2.2.2 != 0) = true := by simpa using hf
    clear hf
    refine (parse_any s _ (b5.glob hG)).mono ?_
    unfold ParsePost
    rw [h1, h2]
    clear h1 h2
    generalize (parseR s).2.2.2 = er at *
    generalize (parseR s).2.2.1 = ln at *
    by_cases he : er = 3
    · have hp := h3.2 he
      have he3 : (er == 3) = true := by simpa using he
      have hpd : decide (0 < ln) = true := decide_eq_true hp
      clear h3 he
      rintro e w6 ⟨qv6, cv6, rfl, hi6, hc6, hb6⟩
      have b6 := b5.below hb6
      have hn6 := (hb6.block w3.heap.size (blk_lt hn5)).trans hn5
      have o6 := Own.put2 hn6 hi6 hc6
      obtain ⟨Aq6, kq6, rfl, _⟩ := hi6
      obtain ⟨Ac6, kc6, rfl, _⟩ := hc6
      have r0 := cell_blk hn6 0
      have r1 := cell_blk hn6 1
      have z0 := frozen_blk hn6 0
      have z1 := frozen_blk hn6 1
      have rl := blk_lt hn6
      simp only [List.getElem?_toArray, List.getElem?_cons_zero, List.getElem?_cons_succ] at r0 r1
      have B6 := b6.belowB (below_two (Below.refl w3.heap.size w6) (Nat.le_refl _) (.slice Aq6 0 kq6) (.slice Ac6 0 kc6)) hlt3
      clear hb6
      go_wp2_with fail
      refine (awake_any _ (B6.glob hG)).mono ?_
      rintro e w7 ⟨rfl, hb7⟩
      have b7 := B6.below hb7
      go_wp2_with fail
      go_ret
      exact ⟨rfl, b7.bel⟩
    · have hp : ¬ 0 < ln := fun h => he (h3.1 h)
      have he3 : (er == 3) = false := by simpa using he
      have hpd : decide (0 < ln) = false := decide_eq_false hp
      clear h3 he
      rintro e w6 ⟨qv6, cv6, rfl, hi6, hc6, hb6⟩
      have b6 := b5.below hb6
      have hn6 := (hb6.block w3.heap.size (blk_lt hn5)).trans hn5
      have o6 := Own.put2 hn6 hi6 hc6
      obtain ⟨Aq6, kq6, rfl, _⟩ := hi6
      obtain ⟨Ac6, kc6, rfl, _⟩ := hc6
      have r0 := cell_blk hn6 0
      have r1 := cell_blk hn6 1
      have z0 := frozen_blk hn6 0
      have z1 := frozen_blk hn6 1
      have rl := blk_lt hn6
      simp only [List.getElem?_toArray, List.getElem?_cons_zero, List.getElem?_cons_succ] at r0 r1
      have B6 := b6.belowB (below_two (Below.refl w3.heap.size w6) (Nat.le_refl _) (.slice Aq6 0 kq6) (.slice Ac6 0 kc6)) hlt3
      clear hb6
      go_wp2_with fail
      refine (awake_any _ (B6.glob hG)).mono ?_
      rintro e w7 ⟨rfl, hb7⟩
      have b7 := B6.below hb7
      go_wp2_with fail
      go_ret
      exact ⟨rfl, b7.bel⟩
set_option maxHeartbeats 4000000 in
set_option maxRecDepth 100000 in
theorem round_bad (qv cv : Value) (qs : List Int) (cs : List Con) (s : ByteArray) (hs : s.size ≤ 9223372036854775807) (w : World) (hq : Ints w w.heap.size qv qs) (hc : Cons w w.heap.size cv cs) (hG : Glob w) (hg : greatB qs cs = false) (hE : planE qs cs ≠ 0) (h6 : ¬ (600 : Int) < s.size) : Calls Tryd.prog 8 #[.agg #[qv, cv], .string s] w fun e w' => e = .returned (.bool true) ∧ Below w.heap.size w w' := by
  have HPE : Hid (printE qs cs = 1) := by show _ = _; rw [printE, if_neg hE]
  have hEb : (planE qs cs == 0) = false := by simpa using hE
  have HG := Lib.hid hg
  clear hg hE
  have hq0 := hq
  have hc0 := hc
  obtain ⟨A1, c1, rfl, hc1, hm1, _⟩ := hq
  obtain ⟨A2, c2, rfl, hc2, hm2, _⟩ := hc
  unfold maxLen at hm1 hm2
  go_enter Tryd.func8, Tryd.ntmps8
  go_wp2_with fail
  have b0 := PB.new w (.slice A1 qs.length c1) (.slice A2 cs.length c2) 25
  refine (great_any _ _ qs cs _ (b0.ints hq0) (b0.cons hc0)).mono ?_
  rw [HG.out]
  rintro e w1 ⟨rfl, hb1⟩
  have b1 := b0.below hb1
  have q0 := b1.two.c0
  have q1 := b1.two.c1
  have hl := b1.two.lt
  clear hb1
  go_wp2_with fail
  refine (print_any _ _ qs cs _ (b1.ints hq0) (b1.cons hc0) (b1.glob hG)).mono ?_
  rw [HPE.out]
  rintro e w2 ⟨rfl, hb2⟩
  clear q0 q1 hl
  have b2 := b1.below hb2
  have q0 := b2.two.c0
  have q1 := b2.two.c1
  have hl := b2.two.lt
  clear hb2
  generalize printS qs cs = ps at *
  go_wp2_with fail
  refine (parse_any ps _ (b2.glob hG)).mono ?_
  unfold ParsePost
  generalize parseR ps = R0 at *
  obtain ⟨Q0, C0, n0, e0⟩ := R0
  dsimp only
  rintro e w3 ⟨qv3, cv3, rfl, hi3, hc3, hb3⟩
  have u3 := Own.new hi3 hc3
  obtain ⟨Aq3, kq3, rfl, _⟩ := hi3
  obtain ⟨Ac3, kc3, rfl, _⟩ := hc3
  have b3 := b2.below hb3
  clear hb3
  clear q0 q1 hl
  have q0 := b3.two.c0
  have q1 := b3.two.c1
  have hl := b3.two.lt
  have hn3 : (w3.alloc (.cells #[.slice Aq3 Q0.length kq3, .slice Ac3 C0.length kc3] 25)).heap[w3.heap.size]? = some (.cells #[.slice Aq3 Q0.length kq3, .slice Ac3 C0.length kc3] 25 (0, 0)) := heap_last _ _ _ rfl
  have hlt3 := b3.two.lt
  go_wp2_with fail
  have b3b := b3.alloc (.cells #[.slice Aq3 Q0.length kq3, .slice Ac3 C0.length kc3] 25)
  refine (pcheck_any _ _ qs cs _ (b3b.ints hq0) (b3b.cons hc0)).mono ?_
  rintro e w4 ⟨rfl, hb4⟩
  have b4 := b3b.below hb4
  have hn4 := (hb4.block w3.heap.size (blk_lt hn3)).trans hn3
  clear hb4 hn3 b3b u3 b3
  clear q0 q1 hl
  have q0 := b4.two.c0
  have q1 := b4.two.c1
  have hl := b4.two.lt
  go_wp2_with fail
  by_cases hf : (parseR s).2.2.2 = 0
  · obtain ⟨hE2, hn0, ht⟩ := print_parse hf
    have HPE2 : Hid (printE (parseR s).1 (parseR s).2.1 = 0) := by show _ = _; rw [printE, if_pos hE2]
    have HT := Lib.hid ht
    clear hE2 ht
    refine (parse_any s _ (b4.glob hG)).mono ?_
    unfold ParsePost
    rw [hf, hn0]
    clear hf hn0
    generalize (parseR s).1 = Q at *
    generalize (parseR s).2.1 = C at *
    rintro e w5 ⟨qv5, cv5, rfl, hi5, hc5, hb5⟩
    have b5 := b4.below hb5
    have hn5 := (hb5.block w3.heap.size (blk_lt hn4)).trans hn4
    have o5 := Own.put2 hn5 hi5 hc5
    obtain ⟨Aq5, kq5, rfl, _⟩ := hi5
    obtain ⟨Ac5, kc5, rfl, _⟩ := hc5
    have r0 := cell_blk hn5 0
    have r1 := cell_blk hn5 1
    have z0 := frozen_blk hn5 0
    have z1 := frozen_blk hn5 1
    have rl := blk_lt hn5
    simp only [List.getElem?_toArray, List.getElem?_cons_zero, List.getElem?_cons_succ] at r0 r1
    have B5 := b5.belowB (below_two (Below.refl w3.heap.size w5) (Nat.le_refl _) (.slice Aq5 Q.length kq5) (.slice Ac5 C.length kc5)) hlt3
    clear hb5
    go_wp2_with fail
    refine (print_any _ _ Q C _ o5.ints o5.cons (B5.glob hG)).mono ?_
    rw [HT.out, HPE2.out]
    rintro e w6 ⟨rfl, hb6⟩
    have b6 := B5.below hb6
    clear hb6 r0 r1 rl z0 z1
    go_wp2_with fail
    refine (awake_any _ (b6.glob hG)).mono ?_
    rintro e w7 ⟨rfl, hb7⟩
    have b7 := b6.below hb7
    go_wp2_with fail
    go_ret
    exact ⟨rfl, b7.bel⟩
  · obtain ⟨h1, h2, h3⟩ := parse_fail hf
    have hfb : ((parseR s).2.2.2 != 0) = true := by simpa using hf
    clear hf
    refine (parse_any s _ (b4.glob hG)).mono ?_
    unfold ParsePost
    rw [h1, h2]
    clear h1 h2
    generalize (parseR s).2.2.2 = er at *
    generalize (parseR s).2.2.1 = ln at *
    by_cases he : er = 3
    · have hp := h3.2 he
      have he3 : (er == 3) = true := by simpa using he
      have hpd : decide (0 < ln) = true := decide_eq_true hp
      clear h3 he
      rintro e w5 ⟨qv5, cv5, rfl, hi5, hc5, hb5⟩
      have b5 := b4.below hb5
      have hn5 := (hb5.block w3.heap.size (blk_lt hn4)).trans hn4
      have o5 := Own.put2 hn5 hi5 hc5
      obtain ⟨Aq5, kq5, rfl, _⟩ := hi5
      obtain ⟨Ac5, kc5, rfl, _⟩ := hc5
      have r0 := cell_blk hn5 0
      have r1 := cell_blk hn5 1
      have z0 := frozen_blk hn5 0
      have z1 := frozen_blk hn5 1
      have rl := blk_lt hn5
      simp only [List.getElem?_toArray, List.getElem?_cons_zero, List.getElem?_cons_succ] at r0 r1
      have B5 := b5.belowB (below_two (Below.refl w3.heap.size w5) (Nat.le_refl _) (.slice Aq5 0 kq5) (.slice Ac5 0 kc5)) hlt3
      clear hb5
      go_wp2_with fail
      refine (awake_any _ (B5.glob hG)).mono ?_
      rintro e w6 ⟨rfl, hb6⟩
      have b6 := B5.below hb6
      go_wp2_with fail
      go_ret
      exact ⟨rfl, b6.bel⟩
    · have hp : ¬ 0 < ln := fun h => he (h3.1 h)
      have he3 : (er == 3) = false := by simpa using he
      have hpd : decide (0 < ln) = false := decide_eq_false hp
      clear h3 he
      rintro e w5 ⟨qv5, cv5, rfl, hi5, hc5, hb5⟩
      have b5 := b4.below hb5
      have hn5 := (hb5.block w3.heap.size (blk_lt hn4)).trans hn4
      have o5 := Own.put2 hn5 hi5 hc5
      obtain ⟨Aq5, kq5, rfl, _⟩ := hi5
      obtain ⟨Ac5, kc5, rfl, _⟩ := hc5
      have r0 := cell_blk hn5 0
      have r1 := cell_blk hn5 1
      have z0 := frozen_blk hn5 0
      have z1 := frozen_blk hn5 1
      have rl := blk_lt hn5
      simp only [List.getElem?_toArray, List.getElem?_cons_zero, List.getElem?_cons_succ] at r0 r1
      have B5 := b5.belowB (below_two (Below.refl w3.heap.size w5) (Nat.le_refl _) (.slice Aq5 0 kq5) (.slice Ac5 0 kc5)) hlt3
      clear hb5
      go_wp2_with fail
      refine (awake_any _ (B5.glob hG)).mono ?_
      rintro e w6 ⟨rfl, hb6⟩
      have b6 := B5.below hb6
      go_wp2_with fail
      go_ret
      exact ⟨rfl, b6.bel⟩
set_option maxHeartbeats 4000000 in
theorem round_any (qv cv : Value) (qs : List Int) (cs : List Con) (s : ByteArray) (hs : s.size ≤ 9223372036854775807) (w : World) (hq : Ints w w.heap.size qv qs) (hc : Cons w w.heap.size cv cs) (hG : Glob w) : Calls Tryd.prog 8 #[.agg #[qv, cv], .string s] w fun e w' => e = .returned (.bool true) ∧ Below w.heap.size w w' := by
  cases hg : greatB qs cs
  · by_cases h6 : (600 : Int) < s.size
    · have HG := Lib.hid hg
      clear hg
      have hq0 := hq
      have hc0 := hc
      obtain ⟨A1, c1, rfl, hc1, hm1, _⟩ := hq
      obtain ⟨A2, c2, rfl, hc2, hm2, _⟩ := hc
      unfold maxLen at hm1 hm2
      go_enter Tryd.func8, Tryd.ntmps8
      go_wp2_with fail
      have b0 := PB.new w (.slice A1 qs.length c1) (.slice A2 cs.length c2) 25
      refine (great_any _ _ qs cs _ (b0.ints hq0) (b0.cons hc0)).mono ?_
      rw [HG.out]
      rintro e w1 ⟨rfl, hb1⟩
      have b1 := b0.below hb1
      have q0 := b1.two.c0
      have q1 := b1.two.c1
      have hl := b1.two.lt
      clear hb1
      go_wp2_with fail
      refine (awake_any _ (b1.glob hG)).mono ?_
      rintro e w2 ⟨rfl, hb2⟩
      have b2 := b1.below hb2
      go_wp2_with fail
      go_ret
      exact ⟨rfl, b2.bel⟩
    · by_cases hE : planE qs cs = 0
      · exact round_ok qv cv qs cs s hs w hq hc hG hg hE h6
      · exact round_bad qv cv qs cs s hs w hq hc hG hg hE h6
  · have HG := Lib.hid hg
    clear hg
    have hq0 := hq
    have hc0 := hc
    obtain ⟨A1, c1, rfl, hc1, hm1, _⟩ := hq
    obtain ⟨A2, c2, rfl, hc2, hm2, _⟩ := hc
    unfold maxLen at hm1 hm2
    go_enter Tryd.func8, Tryd.ntmps8
    go_wp2_with fail
    have b0 := PB.new w (.slice A1 qs.length c1) (.slice A2 cs.length c2) 25
    refine (great_any _ _ qs cs _ (b0.ints hq0) (b0.cons hc0)).mono ?_
    rw [HG.out]
    rintro e w1 ⟨rfl, hb1⟩
    have b1 := b0.below hb1
    have q0 := b1.two.c0
    have q1 := b1.two.c1
    have hl := b1.two.lt
    clear hb1
    go_wp2_with fail
    refine (awake_any _ (b1.glob hG)).mono ?_
    rintro e w2 ⟨rfl, hb2⟩
    have b2 := b1.below hb2
    go_wp2_with fail
    go_ret
    exact ⟨rfl, b2.bel⟩
end Go.Proofs.YtgnlanfpholdaaaDoor

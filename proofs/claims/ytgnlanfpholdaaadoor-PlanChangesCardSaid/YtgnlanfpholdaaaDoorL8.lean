/- Walk of the law PlanAdds. -/
import Derived.Test.YtgnlanfpholdaaaDoorP4
import Derived.Test.YtgnlanfpholdaaaDoorG6
import Derived.Test.YtgnlanfpholdaaaDoorL2
namespace Go.Proofs.YtgnlanfpholdaaaDoor
open Go.RowKit
attribute [local go_sem ↓] Go.wp_at_zero Go.wp_at_succ
/-- the boxes of a plan and of a contact at the beginning of a law -/
structure PC (w W : World) (qv cv : Value) (c : Con) : Prop where
  pb : PB w W qv cv
  lt : w.heap.size + 1 < W.heap.size
  con : ConAt W (w.heap.size + 1) 0 c
theorem PC.new (w : World) (a b : Value) (c : Con) : PC w ((w.alloc (.cells #[a, b] 25)).alloc (.cells #[.int .i64 c.a, .int .i64 c.b, .int .i64 c.s, .int .i64 c.e, .int .i64 c.r, .int .i64 c.g, .int .i64 c.l] 40)) a b c :=
  ⟨(PB.new w a b 25).alloc _, by simp, by simp [ConAt, go_sem]⟩
theorem PC.below {w W W' : World} {qv cv : Value} {c : Con} (h : PC w W qv cv c) (hb : Below W.heap.size W W') : PC w W' qv cv c :=
  ⟨h.pb.below hb, Nat.lt_of_lt_of_le h.lt hb.size, h.con.below hb h.lt⟩
theorem PC.alloc {w W : World} {qv cv : Value} {c : Con} (h : PC w W qv cv c) (o : Obj) : PC w (W.alloc o) qv cv c := h.below ((Below.refl _ W).alloc (Nat.le_refl _) o)
/-- a plan in a box of its own -/
structure Own (n : Nat) (qv cv : Value) (qs : List Int) (cs : List Con) (W : World) : Prop where
  two : Two n qv cv W
  ints : Ints W W.heap.size qv qs
  cons : Cons W W.heap.size cv cs
theorem Own.below {n : Nat} {qv cv : Value} {qs : List Int} {cs : List Con} {W W' : World} (h : Own n qv cv qs cs W) (hb : Below W.heap.size W W') : Own n qv cv qs cs W' :=
  ⟨h.two.below hb, (h.ints.below hb).more hb.size, (h.cons.below hb).more hb.size⟩
theorem Own.new {w : World} {qv cv : Value} {qs : List Int} {cs : List Con} (hq : Ints w w.heap.size qv qs) (hc : Cons w w.heap.size cv cs) : Own w.heap.size qv cv qs cs (w.alloc (.cells #[qv, cv] 25)) :=
  ⟨Two.new w qv cv 25, (hq.below ((Below.refl _ w).alloc (Nat.le_refl _) _)).more (by simp), (hc.below ((Below.refl _ w).alloc (Nat.le_refl _) _)).more (by simp)⟩
theorem PC.belowB {w W W' : World} {qv cv : Value} {c : Con} {B : Nat} (h : PC w W qv cv c) (hb : Below B W W') (hB : w.heap.size + 1 < B) : PC w W' qv cv c :=
  ⟨⟨⟨Nat.lt_of_lt_of_le h.pb.two.lt hb.size, (hb.cell (p := ⟨w.heap.size, 0, none⟩) (by show w.heap.size < B; omega)).trans h.pb.two.c0, (hb.cell (p := ⟨w.heap.size, 1, none⟩) (by show w.heap.size < B; omega)).trans h.pb.two.c1⟩, h.pb.bel.trans (hb.mono (by omega))⟩, Nat.lt_of_lt_of_le h.lt hb.size, h.con.below hb hB⟩
theorem Own.put {w3 : World} {n : Nat} {qv cv : Value} {qs : List Int} {cs : List Con} (hn : w3.heap[n]? = some (.cells #[.slice none 0 0, .slice none 0 0] 25 (0, 0))) (hq : Ints w3 w3.heap.size qv qs) (hc : Cons w3 w3.heap.size cv cs) : Own n qv cv qs cs ((w3.setCell ⟨n, 0, none⟩ qv).setCell ⟨n, 1, none⟩ cv) := by
  obtain ⟨t0, t1⟩ := two_cells (cell_blk hn 0) (cell_blk hn 1) qv cv
  have hsz : ((w3.setCell ⟨n, 0, none⟩ qv).setCell ⟨n, 1, none⟩ cv).heap.size = w3.heap.size := by simp
  have hno : ∀ o x, w3.cell? ⟨n, o, none⟩ ≠ some (.int .i64 x) := fun o x h => by
    rw [cell_blk hn o] at h
    match o, h with
    | 0, h => simp at h
    | 1, h => simp at h
    | k + 2, h => simp at h
  refine ⟨⟨by rw [hsz]; exact blk_lt hn, t0, t1⟩, ?_, ?_⟩
  · rw [hsz]
    obtain ⟨A, k, e, h1, h2, h3⟩ := hq
    refine ⟨A, k, e, h1, h2, fun hp => ?_⟩
    obtain ⟨b, o, e1, h4, h5⟩ := h3 hp
    have hbn : b ≠ n := fun e => by subst e; exact hno _ _ (h5 0 hp)
    refine ⟨b, o, e1, h4, fun j hj => ?_⟩
    rw [World.cell?_setCell_other _ _ _ _ (by simp []), World.cell?_setCell_other _ _ _ _ (by simp [])]
    exact h5 j hj
  · rw [hsz]
    obtain ⟨A, k, e, h1, h2, h3⟩ := hc
    refine ⟨A, k, e, h1, h2, fun hp => ?_⟩
    obtain ⟨b, o, e1, h4, h5⟩ := h3 hp
    have hbn : b ≠ n := fun e => by subst e; exact hno _ _ (h5 0 hp).1
    exact ⟨b, o, e1, h4, fun j hj => conAt_two (h5 j hj) hbn _ _⟩
theorem ba {W0 w' : World} (h : Below W0.heap.size W0 w') (o : Obj) : Below W0.heap.size W0 (w'.alloc o) := h.alloc h.size o
theorem rem_any (i : Int) (n : Nat) (h0 : 0 ≤ i) (_h1 : i ≤ 255) (hn : 0 < n) : ∃ m : Nat, (∀ w, (binOp .rem 3 (.int .i64 i) (.int .i64 (n : Int))).run Tryd.prog w = .ok (.int .i64 (m : Int)) w) ∧ i.tmod n = m ∧ m < n := by
  have hz : ¬ (n : Int) = 0 := by omega
  have hz0 : ¬ n = 0 := by omega
  have hz2 : ((n : Int) == 0) = false := by simp [hz0]
  have hm : ¬ (n : Int) = -1 := by omega
  have h2 := Int.tmod_nonneg (n : Int) h0
  have h3 := Int.tmod_lt_of_pos i (show (0 : Int) < n by omega)
  refine ⟨(i.tmod n).toNat, fun w => ?_, by omega, by omega⟩
  rw [Int.toNat_of_nonneg h2]
  go_simp
set_option maxHeartbeats 4000000 in
theorem adds_trivial (qv cv : Value) (qs : List Int) (cs : List Con) (c : Con) (i : Int) (_hi0 : 0 ≤ i) (_hi1 : i ≤ 255) (w : World) (hq : Ints w w.heap.size qv qs) (hc : Cons w w.heap.size cv cs) (hG : Glob w) (h : greatB qs cs = true ∨ planE qs cs ≠ 0) : Calls Tryd.prog 10 #[.agg #[qv, cv], .agg #[.int .i64 c.a, .int .i64 c.b, .int .i64 c.s, .int .i64 c.e, .int .i64 c.r, .int .i64 c.g, .int .i64 c.l], .int .u8 i] w fun e w' => e = .returned (.bool true) ∧ Below w.heap.size w w' := by
  cases hg : greatB qs cs
  · have hE : planE qs cs ≠ 0 := by rcases h with h | h; rw [hg] at h; cases h; exact h
    have HG := Lib.hid hg
    have hEb : (planE qs cs != 0) = true := by simpa using hE
    clear hg hE h
    have hq0 := hq
    have hc0 := hc
    obtain ⟨A1, c1, rfl, hc1, hm1, _⟩ := hq
    obtain ⟨A2, c2, rfl, hc2, hm2, _⟩ := hc
    unfold maxLen at hm1 hm2
    go_enter Tryd.func10, Tryd.ntmps10
    go_wp2_with fail
    have b0 := PC.new w (.slice A1 qs.length c1) (.slice A2 cs.length c2) c
    refine (great_any _ _ qs cs _ (b0.pb.ints hq0) (b0.pb.cons hc0)).mono ?_
    rw [HG.out]
    rintro e w1 ⟨rfl, hb1⟩
    have b1 := b0.below hb1
    clear hb1
    have q0 := b1.pb.two.c0
    have q1 := b1.pb.two.c1
    have hl := b1.pb.two.lt
    obtain ⟨y0, y1, y2, y3, y4, y5, y6⟩ := b1.con
    simp only [Nat.zero_add] at y0 y1 y2 y3 y4 y5 y6
    have hl1 := b1.lt
    go_wp2_with fail
    refine (rpcheck_any _ _ qs cs _ (b1.pb.ints hq0) (b1.pb.cons hc0)).mono ?_
    rintro e w2 ⟨rfl, hb2⟩
    have b2 := b1.below hb2
    clear hb2
    clear q0 q1 hl y0 y1 y2 y3 y4 y5 y6 hl1
    have q0 := b2.pb.two.c0
    have q1 := b2.pb.two.c1
    have hl := b2.pb.two.lt
    obtain ⟨y0, y1, y2, y3, y4, y5, y6⟩ := b2.con
    simp only [Nat.zero_add] at y0 y1 y2 y3 y4 y5 y6
    have hl1 := b2.lt
    go_wp2_with fail
    refine (awake_any _ (b2.pb.glob hG)).mono ?_
    rintro e w3 ⟨rfl, hb3⟩
    have b3 := b2.below hb3
    go_wp2_with fail
    go_ret
    exact ⟨rfl, b3.pb.bel⟩
  · have HG := Lib.hid hg
    clear hg h
    have hq0 := hq
    have hc0 := hc
    obtain ⟨A1, c1, rfl, hc1, hm1, _⟩ := hq
    obtain ⟨A2, c2, rfl, hc2, hm2, _⟩ := hc
    unfold maxLen at hm1 hm2
    go_enter Tryd.func10, Tryd.ntmps10
    go_wp2_with fail
    have b0 := PC.new w (.slice A1 qs.length c1) (.slice A2 cs.length c2) c
    refine (great_any _ _ qs cs _ (b0.pb.ints hq0) (b0.pb.cons hc0)).mono ?_
    rw [HG.out]
    rintro e w1 ⟨rfl, hb1⟩
    have b1 := b0.below hb1
    clear hb1
    have q0 := b1.pb.two.c0
    have q1 := b1.pb.two.c1
    have hl := b1.pb.two.lt
    obtain ⟨y0, y1, y2, y3, y4, y5, y6⟩ := b1.con
    simp only [Nat.zero_add] at y0 y1 y2 y3 y4 y5 y6
    have hl1 := b1.lt
    go_wp2_with fail
    refine (awake_any _ (b1.pb.glob hG)).mono ?_
    rintro e w2 ⟨rfl, hb2⟩
    have b2 := b1.below hb2
    go_wp2_with fail
    go_ret
    exact ⟨rfl, b2.pb.bel⟩
set_option maxHeartbeats 4000000 in
set_option maxRecDepth 100000 in
theorem adds_none (qv cv : Value) (qs : List Int) (cs : List Con) (c : Con) (i : Int) (_hi0 : 0 ≤ i) (_hi1 : i ≤ 255) (w : World) (hq : Ints w w.heap.size qv qs) (hc : Cons w w.heap.size cv cs) (hG : Glob w) (hg : greatB qs cs = false) (hE : planE qs cs = 0) (hp : ¬ 0 < cs.length) : Calls Tryd.prog 10 #[.agg #[qv, cv], .agg #[.int .i64 c.a, .int .i64 c.b, .int .i64 c.s, .int .i64 c.e, .int .i64 c.r, .int .i64 c.g, .int .i64 c.l], .int .u8 i] w fun e w' => e = .returned (.bool true) ∧ Below w.heap.size w w' := by
  have HG := Lib.hid hg
  have HE := Lib.hid hE
  have hlen := (planE_len hE).2.2
  clear hg hE
  have hq0 := hq
  have hc0 := hc
  obtain ⟨A1, c1, rfl, hc1, hm1, _⟩ := hq
  obtain ⟨A2, c2, rfl, hc2, hm2, _⟩ := hc
  unfold maxLen at hm1 hm2
  go_enter Tryd.func10, Tryd.ntmps10
  go_wp2_with fail
  have b0 := PC.new w (.slice A1 qs.length c1) (.slice A2 cs.length c2) c
  refine (great_any _ _ qs cs _ (b0.pb.ints hq0) (b0.pb.cons hc0)).mono ?_
  rw [HG.out]
  rintro e w1 ⟨rfl, hb1⟩
  have b1 := b0.below hb1
  clear hb1
  have q0 := b1.pb.two.c0
  have q1 := b1.pb.two.c1
  have hl := b1.pb.two.lt
  obtain ⟨y0, y1, y2, y3, y4, y5, y6⟩ := b1.con
  simp only [Nat.zero_add] at y0 y1 y2 y3 y4 y5 y6
  have hl1 := b1.lt
  go_wp2_with fail
  refine (rpcheck_any _ _ qs cs _ (b1.pb.ints hq0) (b1.pb.cons hc0)).mono ?_
  rw [HE.out]
  rintro e w2 ⟨rfl, hb2⟩
  have b2 := b1.below hb2
  clear hb2
  clear q0 q1 hl y0 y1 y2 y3 y4 y5 y6 hl1
  have q0 := b2.pb.two.c0
  have q1 := b2.pb.two.c1
  have hl := b2.pb.two.lt
  obtain ⟨y0, y1, y2, y3, y4, y5, y6⟩ := b2.con
  simp only [Nat.zero_add] at y0 y1 y2 y3 y4 y5 y6
  have hl1 := b2.lt
  go_wp2_with fail
  refine (with_any _ _ qs cs c _ (b2.pb.ints hq0) (b2.pb.cons hc0)).mono ?_
  unfold PlanPost
  by_cases hE2 : planE qs (cs ++ [c]) = 0
  · have HW : Hid (withR qs cs c = (qs, cs ++ [c], 0)) := by show _ = _; rw [withR, if_neg (by simp [HE.out]), if_neg (by simp [hE2])]
    have HF := Lib.hid (find_added hE2)
    have HO : Hid (woutR qs (cs ++ [c]) (cs.length : Int) = (qs, cs, 0)) := by show _ = _; rw [woutR, if_neg (by simp [hE2]), if_neg (by simp; omega), Int.toNat_natCast, delL_last]
    have HM : Hid (max (findI (likeB c) (cs ++ [c]) 0) 0 = cs.length ∧ decide (0 ≤ findI (likeB c) (cs ++ [c]) 0) = true) := by show _ ∧ _; rw [HF.out]; exact ⟨by omega, by simp⟩
    have HS : Hid (SameB qs qs cs cs = true) := by show _ = _; simp [SameB]
    have HE2 := Lib.hid hE2
    clear hE2
    rw [HW.out]
    clear HF HW
    generalize cs ++ [c] = ds at *
    dsimp only
    rintro e w3 ⟨qv6, cv6, rfl, hi6, hc6, hb3⟩
    have hi6' := hi6
    have hc6' := hc6
    obtain ⟨Aq6, kq6, rfl, _⟩ := hi6'
    obtain ⟨Ac6, kc6, rfl, _, hkc6, _⟩ := hc6'
    have b3 := b2.below hb3
    have o3 := Own.new hi6 hc6
    clear hb3 hi6 hc6
    clear q0 q1 hl y0 y1 y2 y3 y4 y5 y6 hl1
    have q0 := b3.pb.two.c0
    have q1 := b3.pb.two.c1
    have hl := b3.pb.two.lt
    obtain ⟨y0, y1, y2, y3, y4, y5, y6⟩ := b3.con
    simp only [Nat.zero_add] at y0 y1 y2 y3 y4 y5 y6
    have hl1 := b3.lt
    go_wp2_with fail
    refine (wout_any _ _ qs ds _ _ o3.ints o3.cons).mono ?_
    unfold PlanPost
    rw [HO.out]
    dsimp only
    rintro e w4 ⟨qv7, cv7, rfl, hi7, hc7, hb4⟩
    have b4 := (b3.alloc _).below hb4
    have o4 := o3.below hb4
    have u4 := Own.new hi7 hc7
    obtain ⟨Aq7, kq7, rfl, _⟩ := hi7
    obtain ⟨Ac7, kc7, rfl, _⟩ := hc7
    clear hb4
    clear q0 q1 hl y0 y1 y2 y3 y4 y5 y6 hl1
    have q0 := b4.pb.two.c0
    have q1 := b4.pb.two.c1
    have hl := b4.pb.two.lt
    obtain ⟨y0, y1, y2, y3, y4, y5, y6⟩ := b4.con
    simp only [Nat.zero_add] at y0 y1 y2 y3 y4 y5 y6
    have hl1 := b4.lt
    have r0 := o4.two.c0
    have r1 := o4.two.c1
    have rl := o4.two.lt
    go_wp2_with fail
    have o4' := o4.below ((Below.refl _ _).alloc (Nat.le_refl _) (.cells #[.slice Aq7 qs.length kq7, .slice Ac7 cs.length kc7] 25))
    refine (find_any _ _ qs ds c _ o4'.ints o4'.cons).mono ?_
    unfold FindPost
    rw [HM.out.1, HM.out.2]
    rintro e w5 ⟨rfl, hb5⟩
    have b5 := (b4.alloc _).below hb5
    have o5 := o4'.below hb5
    have u5 := u4.below hb5
    clear hb5 o4' r0 r1 rl
    clear q0 q1 hl y0 y1 y2 y3 y4 y5 y6 hl1
    have q0 := b5.pb.two.c0
    have q1 := b5.pb.two.c1
    have hl := b5.pb.two.lt
    obtain ⟨y0, y1, y2, y3, y4, y5, y6⟩ := b5.con
    simp only [Nat.zero_add] at y0 y1 y2 y3 y4 y5 y6
    have hl1 := b5.lt
    have r0 := o5.two.c0
    have r1 := o5.two.c1
    have rl := o5.two.lt
    have s0 := u5.two.c0
    have s1 := u5.two.c1
    have sl := u5.two.lt
    go_wp2_with fail
    refine (pcheck_any _ _ qs ds _ o5.ints o5.cons).mono ?_
    rw [HE2.out]
    rintro e w6 ⟨rfl, hb6⟩
    have b6 := b5.below hb6
    have u6 := u5.below hb6
    clear hb6 r0 r1 rl s0 s1 sl
    clear q0 q1 hl y0 y1 y2 y3 y4 y5 y6 hl1
    have q0 := b6.pb.two.c0
    have q1 := b6.pb.two.c1
    have hl := b6.pb.two.lt
    obtain ⟨y0, y1, y2, y3, y4, y5, y6⟩ := b6.con
    simp only [Nat.zero_add] at y0 y1 y2 y3 y4 y5 y6
    have hl1 := b6.lt
    have s0 := u6.two.c0
    have s1 := u6.two.c1
    have sl := u6.two.lt
    go_wp2_with fail
    refine (same_any _ _ _ _ qs qs cs cs _ u6.ints u6.cons (b6.pb.ints hq0) (b6.pb.cons hc0)).mono ?_
    rw [HS.out]
    rintro e w7 ⟨rfl, hb7⟩
    have b7 := b6.below hb7
    clear hb7 s0 s1 sl
    clear q0 q1 hl y0 y1 y2 y3 y4 y5 y6 hl1
    have q0 := b7.pb.two.c0
    have q1 := b7.pb.two.c1
    have hl := b7.pb.two.lt
    obtain ⟨y0, y1, y2, y3, y4, y5, y6⟩ := b7.con
    simp only [Nat.zero_add] at y0 y1 y2 y3 y4 y5 y6
    have hl1 := b7.lt
    go_wp2_with fail
    refine (awake_any _ (b7.pb.glob hG)).mono ?_
    rintro e w8 ⟨rfl, hb8⟩
    have b8 := b7.below hb8
    go_wp2_with fail
    go_ret
    exact ⟨rfl, b8.pb.bel⟩
  · have HW : Hid (withR qs cs c = ([], [], planE qs (cs ++ [c]))) := by show _ = _; rw [withR, if_neg (by simp [HE.out]), if_pos hE2]
    have hEb : (planE qs (cs ++ [c]) != 0) = true := by simpa using hE2
    clear hE2
    rw [HW.out]
    dsimp only
    rintro e w3 ⟨qv6, cv6, rfl, hi6, hc6, hb3⟩
    obtain ⟨Aq6, kq6, rfl, _⟩ := hi6
    obtain ⟨Ac6, kc6, rfl, _⟩ := hc6
    have b3 := (b2.below hb3).alloc (.cells #[.slice Aq6 0 kq6, .slice Ac6 0 kc6] 25)
    clear hb3
    clear q0 q1 hl y0 y1 y2 y3 y4 y5 y6 hl1
    go_wp2_with fail
    refine (awake_any _ (b3.pb.glob hG)).mono ?_
    rintro e w4 ⟨rfl, hb4⟩
    have b4 := b3.below hb4
    go_wp2_with fail
    go_ret
    exact ⟨rfl, b4.pb.bel⟩
end Go.Proofs.YtgnlanfpholdaaaDoor

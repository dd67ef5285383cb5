/- Walk of the law PlanAdds, at a plan with contacts. -/
import Derived.Test.YtgnlanfpholdaaaDoorL8
namespace Go.Proofs.YtgnlanfpholdaaaDoor
open Go.RowKit
attribute [local go_sem ↓] Go.wp_at_zero Go.wp_at_succ
set_option maxHeartbeats 4000000 in
set_option maxRecDepth 100000 in
theorem adds_some (qv cv : Value) (qs : List Int) (cs : List Con) (c : Con) (i : Int) (hi0 : 0 ≤ i) (hi1 : i ≤ 255) (w : World) (hq : Ints w w.heap.size qv qs) (hc : Cons w w.heap.size cv cs) (hG : Glob w) (hg : greatB qs cs = false) (hE : planE qs cs = 0) (hp : 0 < cs.length) : Calls Tryd.prog 10 #[.agg #[qv, cv], .agg #[.int .i64 c.a, .int .i64 c.b, .int .i64 c.s, .int .i64 c.e, .int .i64 c.r, .int .i64 c.g, .int .i64 c.l], .int .u8 i] w fun e w' => e = .returned (.bool true) ∧ Below w.heap.size w w' := by
  have HG := Lib.hid hg
  have HE := Lib.hid hE
  have hlen := (planE_len hE).2.2
  clear hg hE
  have hq0 := hq
  have hc0 := hc
  obtain ⟨A1, c1, rfl, hc1, hm1, _⟩ := hq
  obtain ⟨A2, c2, rfl, hc2, hm2, _⟩ := hc
  unfold maxLen at hm1 hm2
  go_enter Tryd.func10, Tryd.ntmps10
  go_wp2_with fail
  have b0 := PC.new w (.slice A1 qs.length c1) (.slice A2 cs.length c2) c
  refine (great_any _ _ qs cs _ (b0.pb.ints hq0) (b0.pb.cons hc0)).mono ?_
  rw [HG.out]
  rintro e w1 ⟨rfl, hb1⟩
  have b1 := b0.below hb1
  clear hb1
  have q0 := b1.pb.two.c0
  have q1 := b1.pb.two.c1
  have hl := b1.pb.two.lt
  obtain ⟨y0, y1, y2, y3, y4, y5, y6⟩ := b1.con
  simp only [Nat.zero_add] at y0 y1 y2 y3 y4 y5 y6
  have hl1 := b1.lt
  go_wp2_with fail
  refine (rpcheck_any _ _ qs cs _ (b1.pb.ints hq0) (b1.pb.cons hc0)).mono ?_
  rw [HE.out]
  rintro e w2 ⟨rfl, hb2⟩
  have b2 := b1.below hb2
  clear hb2
  clear q0 q1 hl y0 y1 y2 y3 y4 y5 y6 hl1
  have q0 := b2.pb.two.c0
  have q1 := b2.pb.two.c1
  have hl := b2.pb.two.lt
  obtain ⟨y0, y1, y2, y3, y4, y5, y6⟩ := b2.con
  simp only [Nat.zero_add] at y0 y1 y2 y3 y4 y5 y6
  have hl1 := b2.lt
  go_wp2_with fail
  have hwi : IntKind.i64.wrap i = i := by rw [IntKind.wrap_i64]; omega
  obtain ⟨m, hrem, hmt, hml⟩ := rem_any i cs.length hi0 hi1 hp
  have hz2 : ((cs.length : Int) == 0) = false := by simp; exact fun h => by rw [h] at hp; simp at hp
  have hz3 : ¬ cs = [] := fun h => by rw [h] at hp; simp at hp
  have hz4 : ¬ cs.length = 0 := by omega
  have hz5 : ¬ (cs.length : Int) = 0 := by omega
  have hz6 : ¬ (cs.length : Int) = -1 := by omega
  have HR : Hid (woutR qs cs (m : Int) = (qs, delL cs m, 0)) := by show _ = _; rw [woutR, if_neg (by simp [HE.out]), if_neg (by omega), Int.toNat_natCast]
  have HD := Lib.hid (delL_ok HE.out m)
  have hdl := delL_len hml
  have HNE : Hid ((((delL cs m).length : Int) != (cs.length : Int) - 1) = false) := by show _ = _; rw [hdl]; simp; omega
  clear hdl
  have hW := Below.refl w2.heap.size w2
  go_region_held3 (fun w' => w'.cell? ⟨w.heap.size, 0, none⟩ = some (.slice A1 qs.length c1) ∧ w'.cell? ⟨w.heap.size, 1, none⟩ = some (.slice A2 cs.length c2) ∧ Below w2.heap.size w2 w')
    ((repeat' (with_reducible apply And.intro)) <;> first | assumption | exact (Below.cell (p := ⟨w.heap.size, 0, none⟩) (show Below w2.heap.size w2 _ from (by first | assumption | exact ba (by assumption) _ | exact below_two (by assumption) (Nat.le_refl _) _ _ | exact ba (Below.drew (Below.refl _ _)) _ | exact ba (below_drewN (Below.refl _ _) _) _ | exact below_drewN (Below.refl _ _) _ | exact Below.drew (Below.refl _ _) | exact below_drewN (by assumption) _ | exact Below.drew (by assumption) | (repeat' (first | (with_reducible exact Below.refl _ _) | (with_reducible refine Below.alloc ?_ ?_ _) | (with_reducible refine Below.drew ?_) | (with_reducible refine below_drewN ?_ _) | (with_reducible refine Below.setCell ?_ ?_ _) | (with_reducible refine Below.trans ?_ (Below.mono (by assumption) ?_)) | (with_reducible exact Nat.le_refl _) | omega | (simp; omega) | (simp; done))))) hl).trans q0 | exact (Below.cell (p := ⟨w.heap.size, 1, none⟩) (show Below w2.heap.size w2 _ from (by first | assumption | exact ba (by assumption) _ | exact below_two (by assumption) (Nat.le_refl _) _ _ | exact ba (Below.drew (Below.refl _ _)) _ | exact ba (below_drewN (Below.refl _ _) _) _ | exact below_drewN (Below.refl _ _) _ | exact Below.drew (Below.refl _ _) | exact below_drewN (by assumption) _ | exact Below.drew (by assumption) | (repeat' (first | (with_reducible exact Below.refl _ _) | (with_reducible refine Below.alloc ?_ ?_ _) | (with_reducible refine Below.drew ?_) | (with_reducible refine below_drewN ?_ _) | (with_reducible refine Below.setCell ?_ ?_ _) | (with_reducible refine Below.trans ?_ (Below.mono (by assumption) ?_)) | (with_reducible exact Nat.le_refl _) | omega | (simp; omega) | (simp; done))))) hl).trans q1 | (exact (show Below w2.heap.size w2 _ from (by first | assumption | exact ba (by assumption) _ | exact below_two (by assumption) (Nat.le_refl _) _ _ | exact ba (Below.drew (Below.refl _ _)) _ | exact ba (below_drewN (Below.refl _ _) _) _ | exact below_drewN (Below.refl _ _) _ | exact Below.drew (Below.refl _ _) | exact below_drewN (by assumption) _ | exact Below.drew (by assumption) | (repeat' (first | (with_reducible exact Below.refl _ _) | (with_reducible refine Below.alloc ?_ ?_ _) | (with_reducible refine Below.drew ?_) | (with_reducible refine below_drewN ?_ _) | (with_reducible refine Below.setCell ?_ ?_ _) | (with_reducible refine Below.trans ?_ (Below.mono (by assumption) ?_)) | (with_reducible exact Nat.le_refl _) | omega | (simp; omega) | (simp; done)))))))
    (first
     | (go_at_call 38; go_split_ands; refine (wout_any _ _ qs cs _ _ (((hq0.below b2.pb.bel).below (B := w.heap.size) (Below.mono (show Below w2.heap.size w2 _ from (by first | assumption | exact ba (by assumption) _ | exact below_two (by assumption) (Nat.le_refl _) _ _ | exact ba (Below.drew (Below.refl _ _)) _ | exact ba (below_drewN (Below.refl _ _) _) _ | exact below_drewN (Below.refl _ _) _ | exact Below.drew (Below.refl _ _) | exact below_drewN (by assumption) _ | exact Below.drew (by assumption) | (repeat' (first | (with_reducible exact Below.refl _ _) | (with_reducible refine Below.alloc ?_ ?_ _) | (with_reducible refine Below.drew ?_) | (with_reducible refine below_drewN ?_ _) | (with_reducible refine Below.setCell ?_ ?_ _) | (with_reducible refine Below.trans ?_ (Below.mono (by assumption) ?_)) | (with_reducible exact Nat.le_refl _) | omega | (simp; omega) | (simp; done))))) b2.pb.bel.size)).more (Nat.le_trans b2.pb.bel.size (show Below w2.heap.size w2 _ from (by first | assumption | exact ba (by assumption) _ | exact below_two (by assumption) (Nat.le_refl _) _ _ | exact ba (Below.drew (Below.refl _ _)) _ | exact ba (below_drewN (Below.refl _ _) _) _ | exact below_drewN (Below.refl _ _) _ | exact Below.drew (Below.refl _ _) | exact below_drewN (by assumption) _ | exact Below.drew (by assumption) | (repeat' (first | (with_reducible exact Below.refl _ _) | (with_reducible refine Below.alloc ?_ ?_ _) | (with_reducible refine Below.drew ?_) | (with_reducible refine below_drewN ?_ _) | (with_reducible refine Below.setCell ?_ ?_ _) | (with_reducible refine Below.trans ?_ (Below.mono (by assumption) ?_)) | (with_reducible exact Nat.le_refl _) | omega | (simp; omega) | (simp; done))))).size)) (((hc0.below b2.pb.bel).below (B := w.heap.size) (Below.mono (show Below w2.heap.size w2 _ from (by first | assumption | exact ba (by assumption) _ | exact below_two (by assumption) (Nat.le_refl _) _ _ | exact ba (Below.drew (Below.refl _ _)) _ | exact ba (below_drewN (Below.refl _ _) _) _ | exact below_drewN (Below.refl _ _) _ | exact Below.drew (Below.refl _ _) | exact below_drewN (by assumption) _ | exact Below.drew (by assumption) | (repeat' (first | (with_reducible exact Below.refl _ _) | (with_reducible refine Below.alloc ?_ ?_ _) | (with_reducible refine Below.drew ?_) | (with_reducible refine below_drewN ?_ _) | (with_reducible refine Below.setCell ?_ ?_ _) | (with_reducible refine Below.trans ?_ (Below.mono (by assumption) ?_)) | (with_reducible exact Nat.le_refl _) | omega | (simp; omega) | (simp; done))))) b2.pb.bel.size)).more (Nat.le_trans b2.pb.bel.size (show Below w2.heap.size w2 _ from (by first | assumption | exact ba (by assumption) _ | exact below_two (by assumption) (Nat.le_refl _) _ _ | exact ba (Below.drew (Below.refl _ _)) _ | exact ba (below_drewN (Below.refl _ _) _) _ | exact below_drewN (Below.refl _ _) _ | exact Below.drew (Below.refl _ _) | exact below_drewN (by assumption) _ | exact Below.drew (by assumption) | (repeat' (first | (with_reducible exact Below.refl _ _) | (with_reducible refine Below.alloc ?_ ?_ _) | (with_reducible refine Below.drew ?_) | (with_reducible refine below_drewN ?_ _) | (with_reducible refine Below.setCell ?_ ?_ _) | (with_reducible refine Below.trans ?_ (Below.mono (by assumption) ?_)) | (with_reducible exact Nat.le_refl _) | omega | (simp; omega) | (simp; done))))).size))).mono ?_; unfold PlanPost; rw [HR.out]; dsimp only; rintro e w3 ⟨qv3, cv3, rfl, hi3, hc3, hb3⟩; have hS3 : Below w2.heap.size w2 w3 := bt (W0 := w2) (by first | assumption | exact ba (by assumption) _ | exact below_two (by assumption) (Nat.le_refl _) _ _ | exact ba (Below.drew (Below.refl _ _)) _ | exact ba (below_drewN (Below.refl _ _) _) _ | exact below_drewN (Below.refl _ _) _ | exact Below.drew (Below.refl _ _) | exact below_drewN (by assumption) _ | exact Below.drew (by assumption) | (repeat' (first | (with_reducible exact Below.refl _ _) | (with_reducible refine Below.alloc ?_ ?_ _) | (with_reducible refine Below.drew ?_) | (with_reducible refine below_drewN ?_ _) | (with_reducible refine Below.setCell ?_ ?_ _) | (with_reducible refine Below.trans ?_ (Below.mono (by assumption) ?_)) | (with_reducible exact Nat.le_refl _) | omega | (simp; omega) | (simp; done)))) hb3; have hk3 := bc hb3 (Nat.le_refl _); have hf3 := bf hb3 (Nat.le_refl _); have hi3' := hi3; have hc3' := hc3; obtain ⟨Aq, kq, rfl, _⟩ := hi3'; obtain ⟨Ac, kc, rfl, _⟩ := hc3'))
  · have o4 := Own.new hi3 hc3
    have b4 := (b2.belowB hS3 b2.lt).alloc (.cells #[.slice Aq qs.length kq, .slice Ac (delL cs m).length kc] 25)
    clear hb3 hS3 hk3 hf3 hi3 hc3 hW
    generalize (w3.alloc (.cells #[.slice Aq qs.length kq, .slice Ac (delL cs m).length kc] 25)) = w4 at *
    generalize w3.heap.size = n8 at *
    clear q0 q1 hl y0 y1 y2 y3 y4 y5 y6 hl1
    have q0 := b4.pb.two.c0
    have q1 := b4.pb.two.c1
    have hl := b4.pb.two.lt
    obtain ⟨y0, y1, y2, y3, y4, y5, y6⟩ := b4.con
    simp only [Nat.zero_add] at y0 y1 y2 y3 y4 y5 y6
    have hl1 := b4.lt
    have r0 := o4.two.c0
    have r1 := o4.two.c1
    have rl := o4.two.lt
    have hne := HNE.out
    go_wp2_with fail
    refine (pcheck_any _ _ qs (delL cs m) _ o4.ints o4.cons).mono ?_
    rw [HD.out]
    rintro e w5 ⟨rfl, hb5⟩
    have o5 := o4.below hb5
    have b5 := b4.below hb5
    clear hb5 r0 r1 rl
    clear q0 q1 hl y0 y1 y2 y3 y4 y5 y6 hl1
    have q0 := b5.pb.two.c0
    have q1 := b5.pb.two.c1
    have hl := b5.pb.two.lt
    obtain ⟨y0, y1, y2, y3, y4, y5, y6⟩ := b5.con
    simp only [Nat.zero_add] at y0 y1 y2 y3 y4 y5 y6
    have hl1 := b5.lt
    have r0 := o5.two.c0
    have r1 := o5.two.c1
    have rl := o5.two.lt
    go_wp2_with fail
    refine (with_any _ _ qs cs c _ (b5.pb.ints hq0) (b5.pb.cons hc0)).mono ?_
    unfold PlanPost
    by_cases hE2 : planE qs (cs ++ [c]) = 0
    · have HW : Hid (withR qs cs c = (qs, cs ++ [c], 0)) := by show _ = _; rw [withR, if_neg (by simp [HE.out]), if_neg (by simp [hE2])]
      have HF := Lib.hid (find_added hE2)
      have HO : Hid (woutR qs (cs ++ [c]) (cs.length : Int) = (qs, cs, 0)) := by show _ = _; rw [woutR, if_neg (by simp [hE2]), if_neg (by simp; omega), Int.toNat_natCast, delL_last]
      have HM : Hid (max (findI (likeB c) (cs ++ [c]) 0) 0 = cs.length ∧ decide (0 ≤ findI (likeB c) (cs ++ [c]) 0) = true) := by show _ ∧ _; rw [HF.out]; exact ⟨by omega, by simp⟩
      have HS : Hid (SameB qs qs cs cs = true) := by show _ = _; simp [SameB]
      have HE2 := Lib.hid hE2
      clear hE2
      rw [HW.out]
      clear HF HW
      generalize cs ++ [c] = ds at *
      dsimp only
      rintro e w6 ⟨qv6, cv6, rfl, hi6, hc6, hb6⟩
      have hi6' := hi6
      have hc6' := hc6
      obtain ⟨Aq6, kq6, rfl, _⟩ := hi6'
      obtain ⟨Ac6, kc6, rfl, _, hkc6, _⟩ := hc6'
      have b6 := b5.below hb6
      have o6 := Own.new hi6 hc6
      clear hb6 hi6 hc6
      clear q0 q1 hl y0 y1 y2 y3 y4 y5 y6 hl1
      have q0 := b6.pb.two.c0
      have q1 := b6.pb.two.c1
      have hl := b6.pb.two.lt
      obtain ⟨y0, y1, y2, y3, y4, y5, y6⟩ := b6.con
      simp only [Nat.zero_add] at y0 y1 y2 y3 y4 y5 y6
      have hl1 := b6.lt
      go_wp2_with fail
      refine (wout_any _ _ qs ds _ _ o6.ints o6.cons).mono ?_
      unfold PlanPost
      rw [HO.out]
      dsimp only
      rintro e w7 ⟨qv7, cv7, rfl, hi7, hc7, hb7⟩
      have b7 := (b6.alloc _).below hb7
      have o7 := o6.below hb7
      have u7 := Own.new hi7 hc7
      obtain ⟨Aq7, kq7, rfl, _⟩ := hi7
      obtain ⟨Ac7, kc7, rfl, _⟩ := hc7
      clear hb7
      clear q0 q1 hl y0 y1 y2 y3 y4 y5 y6 hl1
      have q0 := b7.pb.two.c0
      have q1 := b7.pb.two.c1
      have hl := b7.pb.two.lt
      obtain ⟨y0, y1, y2, y3, y4, y5, y6⟩ := b7.con
      simp only [Nat.zero_add] at y0 y1 y2 y3 y4 y5 y6
      have hl1 := b7.lt
      have r0 := o7.two.c0
      have r1 := o7.two.c1
      have rl := o7.two.lt
      go_wp2_with fail
      have o7' := o7.below ((Below.refl _ _).alloc (Nat.le_refl _) (.cells #[.slice Aq7 qs.length kq7, .slice Ac7 cs.length kc7] 25))
      refine (find_any _ _ qs ds c _ o7'.ints o7'.cons).mono ?_
      unfold FindPost
      rw [HM.out.1, HM.out.2]
      rintro e w8 ⟨rfl, hb8⟩
      have b8 := (b7.alloc _).below hb8
      have o8 := o7'.below hb8
      have u8 := u7.below hb8
      clear hb8 o7' r0 r1 rl
      clear q0 q1 hl y0 y1 y2 y3 y4 y5 y6 hl1
      have q0 := b8.pb.two.c0
      have q1 := b8.pb.two.c1
      have hl := b8.pb.two.lt
      obtain ⟨y0, y1, y2, y3, y4, y5, y6⟩ := b8.con
      simp only [Nat.zero_add] at y0 y1 y2 y3 y4 y5 y6
      have hl1 := b8.lt
      have r0 := o8.two.c0
      have r1 := o8.two.c1
      have rl := o8.two.lt
      have s0 := u8.two.c0
      have s1 := u8.two.c1
      have sl := u8.two.lt
      go_wp2_with fail
      refine (pcheck_any _ _ qs ds _ o8.ints o8.cons).mono ?_
      rw [HE2.out]
      rintro e w9 ⟨rfl, hb9⟩
      have b9 := b8.below hb9
      have u9 := u8.below hb9
      clear hb9 r0 r1 rl s0 s1 sl
      clear q0 q1 hl y0 y1 y2 y3 y4 y5 y6 hl1
      have q0 := b9.pb.two.c0
      have q1 := b9.pb.two.c1
      have hl := b9.pb.two.lt
      obtain ⟨y0, y1, y2, y3, y4, y5, y6⟩ := b9.con
      simp only [Nat.zero_add] at y0 y1 y2 y3 y4 y5 y6
      have hl1 := b9.lt
      have s0 := u9.two.c0
      have s1 := u9.two.c1
      have sl := u9.two.lt
      go_wp2_with fail
      refine (same_any _ _ _ _ qs qs cs cs _ u9.ints u9.cons (b9.pb.ints hq0) (b9.pb.cons hc0)).mono ?_
      rw [HS.out]
      rintro e w10 ⟨rfl, hb10⟩
      have b10 := b9.below hb10
      clear hb10 s0 s1 sl
      clear q0 q1 hl y0 y1 y2 y3 y4 y5 y6 hl1
      have q0 := b10.pb.two.c0
      have q1 := b10.pb.two.c1
      have hl := b10.pb.two.lt
      obtain ⟨y0, y1, y2, y3, y4, y5, y6⟩ := b10.con
      simp only [Nat.zero_add] at y0 y1 y2 y3 y4 y5 y6
      have hl1 := b10.lt
      go_wp2_with fail
      refine (awake_any _ (b10.pb.glob hG)).mono ?_
      rintro e w11 ⟨rfl, hb11⟩
      have b11 := b10.below hb11
      go_wp2_with fail
      go_ret
      exact ⟨rfl, b11.pb.bel⟩
    · have HW : Hid (withR qs cs c = ([], [], planE qs (cs ++ [c]))) := by show _ = _; rw [withR, if_neg (by simp [HE.out]), if_pos hE2]
      have hEb : (planE qs (cs ++ [c]) != 0) = true := by simpa using hE2
      clear hE2
      rw [HW.out]
      dsimp only
      rintro e w6 ⟨qv6, cv6, rfl, hi6, hc6, hb6⟩
      obtain ⟨Aq6, kq6, rfl, _⟩ := hi6
      obtain ⟨Ac6, kc6, rfl, _⟩ := hc6
      have b6 := (b5.below hb6).alloc (.cells #[.slice Aq6 0 kq6, .slice Ac6 0 kc6] 25)
      clear hb6
      clear q0 q1 hl y0 y1 y2 y3 y4 y5 y6 hl1
      go_wp2_with fail
      refine (awake_any _ (b6.pb.glob hG)).mono ?_
      rintro e w7 ⟨rfl, hb7⟩
      have b7 := b6.below hb7
      go_wp2_with fail
      go_ret
      exact ⟨rfl, b7.pb.bel⟩
  · have hn3 : w3.heap[w2.heap.size]? = some (.cells #[.slice none 0 0, .slice none 0 0] 25 (0, 0)) := (hb3.block w2.heap.size (by simp)).trans (heap_last w2 _ _ rfl)
    have o4 := Own.put hn3 hi3 hc3
    have b4 := (b2.belowB (hS3) b2.lt).belowB (below_two (Below.refl w2.heap.size w3) (Nat.le_refl _) (.slice Aq qs.length kq) (.slice Ac (delL cs m).length kc)) b2.lt
    clear hb3 hS3 hk3 hf3 hn3 hi3 hc3 hW
    generalize ((w3.setCell ⟨w2.heap.size, 0, none⟩ (.slice Aq qs.length kq)).setCell ⟨w2.heap.size, 1, none⟩ (.slice Ac (delL cs m).length kc)) = w4 at *
    generalize w2.heap.size = n8 at *
    clear q0 q1 hl y0 y1 y2 y3 y4 y5 y6 hl1
    have q0 := b4.pb.two.c0
    have q1 := b4.pb.two.c1
    have hl := b4.pb.two.lt
    obtain ⟨y0, y1, y2, y3, y4, y5, y6⟩ := b4.con
    simp only [Nat.zero_add] at y0 y1 y2 y3 y4 y5 y6
    have hl1 := b4.lt
    have r0 := o4.two.c0
    have r1 := o4.two.c1
    have rl := o4.two.lt
    have hne := HNE.out
    go_wp2_with fail
    refine (pcheck_any _ _ qs (delL cs m) _ o4.ints o4.cons).mono ?_
    rw [HD.out]
    rintro e w5 ⟨rfl, hb5⟩
    have o5 := o4.below hb5
    have b5 := b4.below hb5
    clear hb5 r0 r1 rl
    clear q0 q1 hl y0 y1 y2 y3 y4 y5 y6 hl1
    have q0 := b5.pb.two.c0
    have q1 := b5.pb.two.c1
    have hl := b5.pb.two.lt
    obtain ⟨y0, y1, y2, y3, y4, y5, y6⟩ := b5.con
    simp only [Nat.zero_add] at y0 y1 y2 y3 y4 y5 y6
    have hl1 := b5.lt
    have r0 := o5.two.c0
    have r1 := o5.two.c1
    have rl := o5.two.lt
    go_wp2_with fail
    refine (with_any _ _ qs cs c _ (b5.pb.ints hq0) (b5.pb.cons hc0)).mono ?_
    unfold PlanPost
    by_cases hE2 : planE qs (cs ++ [c]) = 0
    · have HW : Hid (withR qs cs c = (qs, cs ++ [c], 0)) := by show _ = _; rw [withR, if_neg (by simp [HE.out]), if_neg (by simp [hE2])]
      have HF := Lib.hid (find_added hE2)
      have HO : Hid (woutR qs (cs ++ [c]) (cs.length : Int) = (qs, cs, 0)) := by show _ = _; rw [woutR, if_neg (by simp [hE2]), if_neg (by simp; omega), Int.toNat_natCast, delL_last]
      have HM : Hid (max (findI (likeB c) (cs ++ [c]) 0) 0 = cs.length ∧ decide (0 ≤ findI (likeB c) (cs ++ [c]) 0) = true) := by show _ ∧ _; rw [HF.out]; exact ⟨by omega, by simp⟩
      have HS : Hid (SameB qs qs cs cs = true) := by show _ = _; simp [SameB]
      have HE2 := Lib.hid hE2
      clear hE2
      rw [HW.out]
      clear HF HW
      generalize cs ++ [c] = ds at *
      dsimp only
      rintro e w6 ⟨qv6, cv6, rfl, hi6, hc6, hb6⟩
      have hi6' := hi6
      have hc6' := hc6
      obtain ⟨Aq6, kq6, rfl, _⟩ := hi6'
      obtain ⟨Ac6, kc6, rfl, _, hkc6, _⟩ := hc6'
      have b6 := b5.below hb6
      have o6 := Own.new hi6 hc6
      clear hb6 hi6 hc6
      clear q0 q1 hl y0 y1 y2 y3 y4 y5 y6 hl1
      have q0 := b6.pb.two.c0
      have q1 := b6.pb.two.c1
      have hl := b6.pb.two.lt
      obtain ⟨y0, y1, y2, y3, y4, y5, y6⟩ := b6.con
      simp only [Nat.zero_add] at y0 y1 y2 y3 y4 y5 y6
      have hl1 := b6.lt
      go_wp2_with fail
      refine (wout_any _ _ qs ds _ _ o6.ints o6.cons).mono ?_
      unfold PlanPost
      rw [HO.out]
      dsimp only
      rintro e w7 ⟨qv7, cv7, rfl, hi7, hc7, hb7⟩
      have b7 := (b6.alloc _).below hb7
      have o7 := o6.below hb7
      have u7 := Own.new hi7 hc7
      obtain ⟨Aq7, kq7, rfl, _⟩ := hi7
      obtain ⟨Ac7, kc7, rfl, _⟩ := hc7
      clear hb7
      clear q0 q1 hl y0 y1 y2 y3 y4 y5 y6 hl1
      have q0 := b7.pb.two.c0
      have q1 := b7.pb.two.c1
      have hl := b7.pb.two.lt
      obtain ⟨y0, y1, y2, y3, y4, y5, y6⟩ := b7.con
      simp only [Nat.zero_add] at y0 y1 y2 y3 y4 y5 y6
      have hl1 := b7.lt
      have r0 := o7.two.c0
      have r1 := o7.two.c1
      have rl := o7.two.lt
      go_wp2_with fail
      have o7' := o7.below ((Below.refl _ _).alloc (Nat.le_refl _) (.cells #[.slice Aq7 qs.length kq7, .slice Ac7 cs.length kc7] 25))
      refine (find_any _ _ qs ds c _ o7'.ints o7'.cons).mono ?_
      unfold FindPost
      rw [HM.out.1, HM.out.2]
      rintro e w8 ⟨rfl, hb8⟩
      have b8 := (b7.alloc _).below hb8
      have o8 := o7'.below hb8
      have u8 := u7.below hb8
      clear hb8 o7' r0 r1 rl
      clear q0 q1 hl y0 y1 y2 y3 y4 y5 y6 hl1
      have q0 := b8.pb.two.c0
      have q1 := b8.pb.two.c1
      have hl := b8.pb.two.lt
      obtain ⟨y0, y1, y2, y3, y4, y5, y6⟩ := b8.con
      simp only [Nat.zero_add] at y0 y1 y2 y3 y4 y5 y6
      have hl1 := b8.lt
      have r0 := o8.two.c0
      have r1 := o8.two.c1
      have rl := o8.two.lt
      have s0 := u8.two.c0
      have s1 := u8.two.c1
      have sl := u8.two.lt
      go_wp2_with fail
      refine (pcheck_any _ _ qs ds _ o8.ints o8.cons).mono ?_
      rw [HE2.out]
      rintro e w9 ⟨rfl, hb9⟩
      have b9 := b8.below hb9
      have u9 := u8.below hb9
      clear hb9 r0 r1 rl s0 s1 sl
      clear q0 q1 hl y0 y1 y2 y3 y4 y5 y6 hl1
      have q0 := b9.pb.two.c0
      have q1 := b9.pb.two.c1
      have hl := b9.pb.two.lt
      obtain ⟨y0, y1, y2, y3, y4, y5, y6⟩ := b9.con
      simp only [Nat.zero_add] at y0 y1 y2 y3 y4 y5 y6
      have hl1 := b9.lt
      have s0 := u9.two.c0
      have s1 := u9.two.c1
      have sl := u9.two.lt
      go_wp2_with fail
      refine (same_any _ _ _ _ qs qs cs cs _ u9.ints u9.cons (b9.pb.ints hq0) (b9.pb.cons hc0)).mono ?_
      rw [HS.out]
      rintro e w10 ⟨rfl, hb10⟩
      have b10 := b9.below hb10
      clear hb10 s0 s1 sl
      clear q0 q1 hl y0 y1 y2 y3 y4 y5 y6 hl1
      have q0 := b10.pb.two.c0
      have q1 := b10.pb.two.c1
      have hl := b10.pb.two.lt
      obtain ⟨y0, y1, y2, y3, y4, y5, y6⟩ := b10.con
      simp only [Nat.zero_add] at y0 y1 y2 y3 y4 y5 y6
      have hl1 := b10.lt
      go_wp2_with fail
      refine (awake_any _ (b10.pb.glob hG)).mono ?_
      rintro e w11 ⟨rfl, hb11⟩
      have b11 := b10.below hb11
      go_wp2_with fail
      go_ret
      exact ⟨rfl, b11.pb.bel⟩
    · have HW : Hid (withR qs cs c = ([], [], planE qs (cs ++ [c]))) := by show _ = _; rw [withR, if_neg (by simp [HE.out]), if_pos hE2]
      have hEb : (planE qs (cs ++ [c]) != 0) = true := by simpa using hE2
      clear hE2
      rw [HW.out]
      dsimp only
      rintro e w6 ⟨qv6, cv6, rfl, hi6, hc6, hb6⟩
      obtain ⟨Aq6, kq6, rfl, _⟩ := hi6
      obtain ⟨Ac6, kc6, rfl, _⟩ := hc6
      have b6 := (b5.below hb6).alloc (.cells #[.slice Aq6 0 kq6, .slice Ac6 0 kc6] 25)
      clear hb6
      clear q0 q1 hl y0 y1 y2 y3 y4 y5 y6 hl1
      go_wp2_with fail
      refine (awake_any _ (b6.pb.glob hG)).mono ?_
      rintro e w7 ⟨rfl, hb7⟩
      have b7 := b6.below hb7
      go_wp2_with fail
      go_ret
      exact ⟨rfl, b7.pb.bel⟩
theorem adds_any (qv cv : Value) (qs : List Int) (cs : List Con) (c : Con) (i : Int) (hi0 : 0 ≤ i) (hi1 : i ≤ 255) (w : World) (hq : Ints w w.heap.size qv qs) (hc : Cons w w.heap.size cv cs) (hG : Glob w) : Calls Tryd.prog 10 #[.agg #[qv, cv], .agg #[.int .i64 c.a, .int .i64 c.b, .int .i64 c.s, .int .i64 c.e, .int .i64 c.r, .int .i64 c.g, .int .i64 c.l], .int .u8 i] w fun e w' => e = .returned (.bool true) ∧ Below w.heap.size w w' := by
  by_cases h : greatB qs cs = true ∨ planE qs cs ≠ 0
  · exact adds_trivial qv cv qs cs c i hi0 hi1 w hq hc hG h
  · have hg : greatB qs cs = false := by cases hg : greatB qs cs; rfl; exact (h (.inl hg)).elim
    have hE : planE qs cs = 0 := by by_cases hE : planE qs cs = 0; exact hE; exact (h (.inr hE)).elim
    by_cases hp : 0 < cs.length
    · exact adds_some qv cv qs cs c i hi0 hi1 w hq hc hG hg hE hp
    · exact adds_none qv cv qs cs c i hi0 hi1 w hq hc hG hg hE hp
theorem u8_range {n : Int} (h : (Lit.int .u8 n).wf = true) : 0 ≤ n ∧ n ≤ 255 := by
  simp only [Lit.wf, Bool.and_eq_true, decide_eq_true_eq] at h
  have e1 : IntKind.u8.min = 0 := rfl
  have e2 : IntKind.u8.max = 255 := rfl
  omega
end Go.Proofs.YtgnlanfpholdaaaDoor

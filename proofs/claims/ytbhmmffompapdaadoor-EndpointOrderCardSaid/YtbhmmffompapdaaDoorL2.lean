/- Walk of the law EndpointOrder. -/
import Derived.Test.YtbhmmffompapdaaDoorR0
import Derived.Test.YtbhmmffompapdaaDoorP2
import Derived.IntWalk
namespace Go.Proofs.YtbhmmffompapdaaDoor
open Go.RowKit
theorem bm' {W0 w' : World} {B : Nat} (h : Below W0.heap.size W0 w') (hb : B ≤ W0.heap.size) : Below B W0 w' := h.mono hb
theorem order_great (v : Value) (gs : List (List Int)) (k n x : Int) (w : World) (hg : Grps w w.heap.size v gs) (h : greatB gs = true) : Calls Tryd.prog 4 #[v, .agg #[.int .i64 k, .int .i64 n], .int .i64 x] w fun e w' => e = .returned (.bool true) ∧ Below w.heap.size w w' := by
  have H := Lib.hid h
  clear h
  go_enter Tryd.func4, Tryd.ntmps4
  go_wp2_with fail
  refine (great_any _ gs _ w.heap.size (hg.below (by (repeat' (first | (with_reducible exact Below.refl _ _) | (with_reducible refine Below.alloc ?_ ?_ _) | (with_reducible refine Below.drew ?_) | (with_reducible refine below_drewN ?_ _) | (with_reducible refine Below.setCell ?_ ?_ _) | (with_reducible refine Below.trans ?_ (Below.mono (by assumption) ?_)) | (with_reducible exact Nat.le_refl _) | omega | (simp; omega) | (simp; done)))))).mono ?_
  rw [H.out]
  rintro e w1 ⟨rfl, rfl⟩
  go_wp2_with fail
  refine (awake_any _).mono ?_
  rintro e w1 ⟨rfl, hb⟩
  go_wp2_with fail
  go_ret
  exact ⟨rfl, by (repeat' (first | (with_reducible exact Below.refl _ _) | (with_reducible refine Below.alloc ?_ ?_ _) | (with_reducible refine Below.drew ?_) | (with_reducible refine below_drewN ?_ _) | (with_reducible refine Below.setCell ?_ ?_ _) | (with_reducible refine Below.trans ?_ (Below.mono (by assumption) ?_)) | (with_reducible exact Nat.le_refl _) | omega | (simp; omega) | (simp; done)))⟩
set_option maxHeartbeats 2000000 in
theorem order_small (v : Value) (gs : List (List Int)) (k n x : Int) (w : World) (hg : Grps w w.heap.size v gs) (h : greatB gs = false) : Calls Tryd.prog 4 #[v, .agg #[.int .i64 k, .int .i64 n], .int .i64 x] w fun e w' => e = .returned (.bool true) ∧ Below w.heap.size w w' := by
  have H := Lib.hid h
  clear h
  have HAS := Lib.hid (memL_asc gs k n)
  go_enter Tryd.func4, Tryd.ntmps4
  go_wp2_with fail
  refine (great_any _ gs _ w.heap.size (hg.below (by (repeat' (first | (with_reducible exact Below.refl _ _) | (with_reducible refine Below.alloc ?_ ?_ _) | (with_reducible refine Below.drew ?_) | (with_reducible refine below_drewN ?_ _) | (with_reducible refine Below.setCell ?_ ?_ _) | (with_reducible refine Below.trans ?_ (Below.mono (by assumption) ?_)) | (with_reducible exact Nat.le_refl _) | omega | (simp; omega) | (simp; done)))))).mono ?_
  rw [H.out]
  rintro e w1 ⟨rfl, rfl⟩
  go_wp2_with fail
  refine (members_any v gs k n _ ((hg.below (by (repeat' (first | (with_reducible exact Below.refl _ _) | (with_reducible refine Below.alloc ?_ ?_ _) | (with_reducible refine Below.drew ?_) | (with_reducible refine below_drewN ?_ _) | (with_reducible refine Below.setCell ?_ ?_ _) | (with_reducible refine Below.trans ?_ (Below.mono (by assumption) ?_)) | (with_reducible exact Nat.le_refl _) | omega | (simp; omega) | (simp; done))))).more (by (first | omega | (simp; done) | (simp; omega))))).mono ?_
  rintro e w1 ⟨u1, rfl, hu1, hb1⟩
  have hz1 : w.heap.size + 1 ≤ w1.heap.size := Nat.le_trans (by (first | omega | (simp; done) | (simp; omega))) hb1.size
  go_wp2_with fail
  refine (of_any v gs x _ ((hg.below (by (repeat' (first | (with_reducible exact Below.refl _ _) | (with_reducible refine Below.alloc ?_ ?_ _) | (with_reducible refine Below.drew ?_) | (with_reducible refine below_drewN ?_ _) | (with_reducible refine Below.setCell ?_ ?_ _) | (with_reducible refine Below.trans ?_ (Below.mono (by assumption) ?_)) | (with_reducible exact Nat.le_refl _) | omega | (simp; omega) | (simp; done))))).more (by omega))).mono ?_
  rintro e w2 ⟨u2, rfl, hu2, hb2⟩
  have hz2 : w1.heap.size ≤ w2.heap.size := hb2.size
  have hu3 := (hu1.below hb2).more hz2
  have hB : Below w.heap.size w w2 := by (repeat' (first | (with_reducible exact Below.refl _ _) | (with_reducible refine Below.alloc ?_ ?_ _) | (with_reducible refine Below.drew ?_) | (with_reducible refine below_drewN ?_ _) | (with_reducible refine Below.setCell ?_ ?_ _) | (with_reducible refine Below.trans ?_ (Below.mono (by assumption) ?_)) | (with_reducible exact Nat.le_refl _) | omega | (simp; omega) | (simp; done)))
  have hW : w.heap.size ≤ w2.heap.size := by omega
  clear hb1 hb2 hu1 hz1 hz2 hg
  obtain ⟨A1, c1, rfl, hc1, hm1, hA1⟩ := hu3
  obtain ⟨A2, c2, rfl, hc2, hm2, hA2⟩ := hu2
  have HA1 := Lib.hid hA1
  have HA2 := Lib.hid hA2
  clear hA1 hA2
  unfold maxLen at hm1 hm2
  generalize memL gs k n = ml at *
  go_wp2_with fail
  go_loopw [11] (fun i wr => ∃ (j q : Nat), 1 ≤ j ∧ (ml.length < j → j = 1) ∧ j ≤ ml.length + 1 ∧ i = .int .i64 j ∧ wr = w2.drewN q) (fun i _ => ml.length - (intOf i).toNat)
  case atStart => exact ⟨1, 0, by omega, by omega, by omega, rfl, rfl⟩
  case round =>
    obtain ⟨j, q, hj1, hj3, hj2, rfl, rfl⟩ := hrel
    clear hj3
    by_cases hlt : j < ml.length
    · obtain ⟨b1, o1, rfl, hb1, hcell1⟩ := HA1.out (by omega)
      have x1 := hcell1 j hlt
      have x2 := hcell1 (j - 1) (by omega)
      have x3 := HAS.out j hj1 hlt
      clear hcell1
      generalize ml.getD j 0 = y1 at *
      generalize ml.getD (j - 1) 0 = y2 at *
      have hk2 : ((j : Int) - 1).toNat = j - 1 := by omega
      have hk3 : IntKind.i64.wrap ((j : Int) - 1) = (j : Int) - 1 := IntWalk.i64_in _ (by omega)
      have hk4 : (j : Int) - 1 < ml.length := by omega
      have hk8 : (0 : Int) ≤ (j : Int) - 1 := by omega
      have hk1 : (1 : Int) ≤ j := by omega
      have hk5 : (j : Int) < ml.length := by omega
      have hd : decide (y1 ≤ y2) = false := by simp; omega
      go_wp2_with fail
      go_quiet (fail)
      clear hk2 hk3
      go_wp2_with fail
      go_roundw
      case rel => exact ⟨j + 1, _, by omega, by omega, by omega, by go_num, rfl⟩
      case measure => simp [intOf]; omega
    · by_cases he : ofE gs x = 0
      · have H0 := ofL_zero he
        have H1 := ofL_succ he
        have h5 : (ofE gs x != 0) = false := by simpa using he
        clear he
        generalize ofL gs x = ol at *
        obtain ⟨H0a, H0b⟩ := H0
        have HZ := Lib.hid H0b
        have HS := Lib.hid H1
        clear H0b H1
        obtain ⟨b2, o2, rfl, hb2, hcell2⟩ := HA2.out H0a
        have HC := Lib.hid hcell2
        clear hcell2 HA2
        go_wp2_with fail
        go_loopw [55] (fun i wr => ∃ m : Nat, m ≤ ol.length ∧ i = .int .i64 m ∧ Below w2.heap.size w2 wr) (fun i _ => ol.length - (intOf i).toNat)
        case atStart => exact ⟨0, by omega, rfl, below_drewN (Below.refl _ _) _⟩
        case round =>
          obtain ⟨m, hm, rfl, hBr⟩ := hrel
          have hzr := hBr.size
          by_cases hlm : m < ol.length
          · obtain ⟨y1, y2⟩ := HC.out m hlm
            have z1 : wr.cell? ⟨b2, o2 + m * 2, none⟩ = _ := (hBr.cell (p := ⟨b2, o2 + m * 2, none⟩) hb2).trans y1
            have z2 : wr.cell? ⟨b2, o2 + m * 2 + 1, none⟩ = _ := (hBr.cell (p := ⟨b2, o2 + m * 2 + 1, none⟩) hb2).trans y2
            clear y1 y2
            have hml : (m : Int) < ol.length := by omega
            have hm0 : (0 : Int) ≤ m := by omega
            by_cases hm1 : m = 0
            · subst hm1
              rw [HZ.out] at z1 z2
              have hne : ∀ w, (binOp .neq 23 (.agg #[.int .i64 1, .int .i64 x]) (.agg #[.int .i64 1, .int .i64 x])).run Tryd.prog w = .ok (.bool false) w := fun w => by rw [neq_ep, decide_eq_true rfl]; rfl
              simp only [Nat.zero_mul, Nat.add_zero] at z1 z2
              go_wp2_with fail
              go_quiet (fail)
              go_wp2_with fail
              go_roundw
              case rel => exact ⟨1, by omega, rfl, below_drewN (hBr.alloc hzr _) _⟩
              case measure => simp [intOf]; omega
            · obtain ⟨s1, s2⟩ := HS.out m (by omega) hlm
              rw [s1] at z1
              have hm2 : 1 ≤ m := by omega
              have g1 : ((m : Int) == 0) = false := by simpa using hm1
              have g2 : decide ((0 : Int) < m) = true := by simp; omega
              have g3 : 0 < m := by omega
              clear s1 hm1
              by_cases hm3 : m < 2
              · have g4 : decide ((1 : Int) < m) = false := by simp; omega
                have g5 : decide (1 < m) = false := by simp; omega
                clear s2
                generalize (ol.getD m (0, 0)).2 = nn at *
                go_wp2_with fail
                go_quiet (fail)
                go_wp2_with fail
                go_roundw
                case rel => exact ⟨m + 1, by omega, by go_num, below_drewN (hBr.alloc hzr _) _⟩
                case measure => simp [intOf]; omega
              · have s3 := s2 (by omega)
                obtain ⟨_, y4⟩ := HC.out (m - 1) (by omega)
                have z4 : wr.cell? ⟨b2, o2 + (m - 1) * 2 + 1, none⟩ = _ := (hBr.cell (p := ⟨b2, o2 + (m - 1) * 2 + 1, none⟩) hb2).trans y4
                have z5 := fun (o : Obj) => (World.cell?_alloc_lt wr o ⟨b2, o2 + (m - 1) * 2 + 1, none⟩ (show b2 < wr.heap.size by omega)).trans z4
                clear s2 y4
                generalize (ol.getD m (0, 0)).2 = nn at *
                generalize (ol.getD (m - 1) (0, 0)).2 = np at *
                have g4 : decide ((1 : Int) < m) = true := by simp; omega
                have g5 : 1 < m := by omega
                have g6 : decide (nn ≤ np) = false := by simp; omega
                have hk2 : ((m : Int) - 1).toNat = m - 1 := by omega
                have hk3 : IntKind.i64.wrap ((m : Int) - 1) = (m : Int) - 1 := IntWalk.i64_in _ (by omega)
                have hk4 : (m : Int) - 1 < ol.length := by omega
                have hk8 : (0 : Int) ≤ (m : Int) - 1 := by omega
                have hk1 : (1 : Int) ≤ m := by omega
                go_wp2_with fail
                go_quiet (fail)
                clear hk2 hk3
                go_wp2_with fail
                go_roundw
                case rel => exact ⟨m + 1, by omega, by go_num, below_drewN (hBr.alloc hzr _) _⟩
                case measure => simp [intOf]; omega
          · have hd : decide ((0 : Int) < ol.length) = true := by simp; omega
            go_wp2_with fail
            refine (awake_any _).mono ?_
            rintro e w3 ⟨rfl, hb3⟩
            go_wp2_with fail
            go_ret
            exact ⟨rfl, hB.trans ((bm' hBr hW).trans (hb3.mono (by omega)))⟩
      · have H0 := ofL_bad he
        have h5 : (ofE gs x != 0) = true := by simpa using he
        rw [H0] at hc2 HA2 ⊢
        clear H0 he
        go_wp2_with fail
        refine (awake_any _).mono ?_
        rintro e w3 ⟨rfl, hb3⟩
        go_wp2_with fail
        go_ret
        exact ⟨rfl, hB.trans ((below_drewN (Below.refl _ _) _).trans (hb3.mono (by simp; omega)))⟩
theorem order_any (v : Value) (gs : List (List Int)) (k n x : Int) (w : World) (hg : Grps w w.heap.size v gs) : Calls Tryd.prog 4 #[v, .agg #[.int .i64 k, .int .i64 n], .int .i64 x] w fun e w' => e = .returned (.bool true) ∧ Below w.heap.size w w' := by
  cases h : greatB gs
  · exact order_small v gs k n x w hg h
  · exact order_great v gs k n x w hg h
end Go.Proofs.YtbhmmffompapdaaDoor

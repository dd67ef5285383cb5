/- The reference Check of plans. -/
import Derived.Test.YtclkjjdfdndplaaGreatDoorF4
import Derived.StillTailTactics
namespace Go.Proofs.YtclkjjdfdndplaaGreatDoor
open Go.RowKit
theorem any_stepC (p : Con → Bool) (cs : List Con) (m n : Nat) (h : n < m) (hm : m ≤ cs.length) : ((cs.take m).drop n).any p = (p (cs.getD n Con.zero) || ((cs.take m).drop (n + 1)).any p) := by
  have hl : n < (cs.take m).length := by rw [List.length_take]; omega
  rw [drop_con _ n hl, List.any_cons]
  have : (cs.take m).getD n Con.zero = cs.getD n Con.zero := by simp [List.getD, h]
  rw [this]
set_option maxRecDepth 100000 in
set_option maxHeartbeats 4000000 in
theorem rpcheck_any (qv cv : Value) (qs : List Int) (cs : List Con) (w : World) (hq : Ints w w.heap.size qv qs) (hc : Cons w w.heap.size cv cs) : Calls Tryz.prog 25 #[.agg #[qv, cv]] w fun e w' => e = .returned (.int .i64 (planE qs cs)) ∧ Below w.heap.size w w' := by
  have hc0 := hc
  obtain ⟨A1, c1, rfl, hc1, hm1, hA1⟩ := hq
  obtain ⟨A2, c2, rfl, hc2, hm2, hA2⟩ := hc
  unfold maxLen at hm1 hm2
  have HA1 := Lib.hid hA1
  have HA2 := Lib.hid hA2
  have HC := Lib.hid hc0
  clear hA1 hA2 hc0
  by_cases hL : qs.length < 1 ∨ 16 < qs.length ∨ 64 < cs.length
  · have HE : Hid (planE qs cs = 4) := by show _ = _; rw [planE, if_pos hL]
    by_cases g1 : qs.length < 1
    · clear hL
      go_enter Tryz.func25, Tryz.ntmps25
      go_wp2_with fail
      go_ret
      exact ⟨by rw [HE.out]; rfl, by (repeat' (first | (with_reducible exact Below.refl _ _) | (with_reducible refine Below.alloc ?_ ?_ _) | (with_reducible refine Below.drew ?_) | (with_reducible refine below_drewN ?_ _) | (with_reducible refine Below.setCell ?_ ?_ _) | (with_reducible refine Below.trans ?_ (Below.mono (by assumption) ?_)) | (with_reducible exact Nat.le_refl _) | omega | (simp; omega) | (simp; done)))⟩
    · have g1' : 1 ≤ qs.length := by omega
      have g1i : (1 : Int) ≤ qs.length := by omega
      by_cases g2 : 16 < qs.length
      · clear hL
        have g2i : (16 : Int) < qs.length := by omega
        go_enter Tryz.func25, Tryz.ntmps25
        go_wp2_with fail
        go_ret
        exact ⟨by rw [HE.out]; rfl, by (repeat' (first | (with_reducible exact Below.refl _ _) | (with_reducible refine Below.alloc ?_ ?_ _) | (with_reducible refine Below.drew ?_) | (with_reducible refine below_drewN ?_ _) | (with_reducible refine Below.setCell ?_ ?_ _) | (with_reducible refine Below.trans ?_ (Below.mono (by assumption) ?_)) | (with_reducible exact Nat.le_refl _) | omega | (simp; omega) | (simp; done)))⟩
      · have g3 : 64 < cs.length := by omega
        have g2i : ¬ (16 : Int) < qs.length := by omega
        have g3i : (64 : Int) < cs.length := by omega
        clear hL
        go_enter Tryz.func25, Tryz.ntmps25
        go_wp2_with fail
        go_ret
        exact ⟨by rw [HE.out]; rfl, by (repeat' (first | (with_reducible exact Below.refl _ _) | (with_reducible refine Below.alloc ?_ ?_ _) | (with_reducible refine Below.drew ?_) | (with_reducible refine below_drewN ?_ _) | (with_reducible refine Below.setCell ?_ ?_ _) | (with_reducible refine Below.trans ?_ (Below.mono (by assumption) ?_)) | (with_reducible exact Nat.le_refl _) | omega | (simp; omega) | (simp; done)))⟩
  · have HP : Hid (planE qs cs = if quE qs ≠ 0 then 2 else consE qs.length [] cs) := by show _ = _; rw [planE, if_neg hL]
    have g1 : 1 ≤ qs.length := by omega
    have g2 : qs.length ≤ 16 := by omega
    have g3 : cs.length ≤ 64 := by omega
    have g1i : (1 : Int) ≤ qs.length := by omega
    have g2i : ¬ (16 : Int) < qs.length := by omega
    have g3i : ¬ (64 : Int) < cs.length := by omega
    clear hL
    obtain ⟨b1, o1, rfl, hb1, hcell1⟩ := HA1.out (by omega)
    have HCE := Lib.hid hcell1
    clear hcell1 HA1
    go_enter Tryz.func25, Tryz.ntmps25
    go_wp2_with fail
    go_loop [3] (fun i => ∃ k : Nat, k ≤ qs.length ∧ i = .int .i64 k ∧ Hid (quE (qs.drop k) = quE qs)) (fun i => qs.length - (intOf i).toNat)
    case atStart => exact ⟨0, by omega, rfl, rfl⟩
    case round =>
      obtain ⟨k, hk, rfl, hr⟩ := hrel
      by_cases hlt : k < qs.length
      · have hx := HCE.out k hlt
        have y1 := fun (o : Obj) => (World.cell?_alloc_lt w o ⟨b1, o1 + k, none⟩ (show b1 < w.heap.size from hb1)).trans hx
        have HST := Lib.hid (quE_step qs k hlt)
        generalize qs.getD k 0 = q at *
        by_cases hn : q < 0
        · have HT : Hid (planE qs cs = 2) := by show _ = _; rw [HP.out, if_pos (by rw [← hr.out, HST.out, if_pos (.inl hn)]; decide)]
          go_wp2_with fail
          go_ret
          exact ⟨by rw [HT.out]; rfl, by (repeat' (first | (with_reducible exact Below.refl _ _) | (with_reducible refine Below.alloc ?_ ?_ _) | (with_reducible refine Below.drew ?_) | (with_reducible refine below_drewN ?_ _) | (with_reducible refine Below.setCell ?_ ?_ _) | (with_reducible refine Below.trans ?_ (Below.mono (by assumption) ?_)) | (with_reducible exact Nat.le_refl _) | omega | (simp; omega) | (simp; done)))⟩
        · by_cases hn2 : 1073741824 < q
          · have HT : Hid (planE qs cs = 2) := by show _ = _; rw [HP.out, if_pos (by rw [← hr.out, HST.out, if_pos (.inr hn2)]; decide)]
            go_wp2_with fail
            go_ret
            exact ⟨by rw [HT.out]; rfl, by (repeat' (first | (with_reducible exact Below.refl _ _) | (with_reducible refine Below.alloc ?_ ?_ _) | (with_reducible refine Below.drew ?_) | (with_reducible refine below_drewN ?_ _) | (with_reducible refine Below.setCell ?_ ?_ _) | (with_reducible refine Below.trans ?_ (Below.mono (by assumption) ?_)) | (with_reducible exact Nat.le_refl _) | omega | (simp; omega) | (simp; done)))⟩
          · have HT : Hid (quE (qs.drop (k + 1)) = quE qs) := by show _ = _; rw [← hr.out, HST.out, if_neg (by omega)]
            go_wp2_with fail
            go_round
            case rel => exact ⟨k + 1, by omega, by go_num, HT⟩
            case measure => simp [intOf]; omega
      · have HQ : Hid (planE qs cs = consE qs.length [] cs) := by show _ = _; rw [HP.out, if_neg (by rw [← hr.out, List.drop_of_length_le (by omega)]; simp [quE])]
        clear hr HP
        go_wp2_with fail
        go_loopw [4] (fun i wr => ∃ m : Nat, m ≤ cs.length ∧ i = .int .i64 m ∧ Hid (consE qs.length (cs.take m) (cs.drop m) = consE qs.length [] cs) ∧ Below (w.heap.size + 1) (w.alloc (.cells #[.slice (some ⟨b1, o1, none⟩) qs.length c1, .slice A2 cs.length c2] 25)) wr) (fun i _ => cs.length - (intOf i).toNat)
        case atStart => exact ⟨0, by omega, rfl, rfl, Below.refl _ _⟩
        case round =>
          obtain ⟨m, hm, rfl, hr, hWr⟩ := hrel
          have hzr : w.heap.size + 1 ≤ wr.heap.size := Nat.le_trans (by simp) hWr.size
          have hBr : Below w.heap.size w wr := ((Below.refl _ w).alloc (Nat.le_refl _) _).trans (hWr.mono (by omega))
          have p1 : wr.cell? ⟨w.heap.size, 1, none⟩ = some (.slice A2 cs.length c2) := (hWr.cell (p := ⟨w.heap.size, 1, none⟩) (by show w.heap.size < _; omega)).trans (by simp [go_sem])
          have p0 : wr.cell? ⟨w.heap.size, 0, none⟩ = some (.slice (some ⟨b1, o1, none⟩) qs.length c1) := (hWr.cell (p := ⟨w.heap.size, 0, none⟩) (by show w.heap.size < _; omega)).trans (by simp [go_sem])
          by_cases hlm : m < cs.length
          · obtain ⟨b2, o2, rfl, hb2, hcell2⟩ := HA2.out (by omega)
            have hx := (hcell2 m hlm).below hBr hb2
            have HST := Lib.hid (consE_step qs.length cs m hlm)
            clear hcell2
            generalize cs.getD m Con.zero = d at *
            have HX := Lib.hid hx
            obtain ⟨x0, x1, x2, x3, x4, x5, x6⟩ := hx
            by_cases hE : conE d = 0
            · have HE := Lib.hid hE
              by_cases hN : (qs.length : Int) ≤ d.a ∨ (qs.length : Int) ≤ d.b
              · have HT : Hid (planE qs cs = 2) := by show _ = _; rw [HQ.out, ← hr.out, HST.out, if_neg (by simp [hE]), if_pos hN]
                clear hE
                by_cases hN1 : (qs.length : Int) ≤ d.a
                · clear hN
                  go_wp2_with fail
                  refine (rccheck_any d _).mono ?_
                  rw [HE.out]
                  rintro e w3 ⟨rfl, hb3⟩
                  have hB3 := bt' ((hBr.alloc (by omega) (.cells #[.int .i64 d.a, .int .i64 d.b, .int .i64 d.s, .int .i64 d.e, .int .i64 d.r, .int .i64 d.g, .int .i64 d.l] 61))) hb3 (by simp; omega)
                  have y0 := (hb3.cell (p := ⟨wr.heap.size, 0, none⟩) (by simp)).trans (show (wr.alloc (.cells #[.int .i64 d.a, .int .i64 d.b, .int .i64 d.s, .int .i64 d.e, .int .i64 d.r, .int .i64 d.g, .int .i64 d.l] 61)).cell? ⟨wr.heap.size, 0, none⟩ = some (.int .i64 d.a) by simp [go_sem])
                  have p5 := (hb3.cell (p := ⟨w.heap.size, 0, none⟩) (by simp; omega)).trans ((World.cell?_alloc_lt wr _ ⟨w.heap.size, 0, none⟩ (by show w.heap.size < wr.heap.size; omega)).trans p0)
                  clear hb3
                  go_wp2_with fail
                  go_ret
                  exact ⟨by rw [HT.out]; rfl, hB3⟩
                · have hN2 : (qs.length : Int) ≤ d.b := by omega
                  clear hN
                  go_wp2_with fail
                  refine (rccheck_any d _).mono ?_
                  rw [HE.out]
                  rintro e w3 ⟨rfl, hb3⟩
                  have hB3 := bt' ((hBr.alloc (by omega) (.cells #[.int .i64 d.a, .int .i64 d.b, .int .i64 d.s, .int .i64 d.e, .int .i64 d.r, .int .i64 d.g, .int .i64 d.l] 61))) hb3 (by simp; omega)
                  have y0 := (hb3.cell (p := ⟨wr.heap.size, 0, none⟩) (by simp)).trans (show (wr.alloc (.cells #[.int .i64 d.a, .int .i64 d.b, .int .i64 d.s, .int .i64 d.e, .int .i64 d.r, .int .i64 d.g, .int .i64 d.l] 61)).cell? ⟨wr.heap.size, 0, none⟩ = some (.int .i64 d.a) by simp [go_sem])
                  have y1 := (hb3.cell (p := ⟨wr.heap.size, 1, none⟩) (by simp)).trans (show (wr.alloc (.cells #[.int .i64 d.a, .int .i64 d.b, .int .i64 d.s, .int .i64 d.e, .int .i64 d.r, .int .i64 d.g, .int .i64 d.l] 61)).cell? ⟨wr.heap.size, 1, none⟩ = some (.int .i64 d.b) by simp [go_sem])
                  have p5 := (hb3.cell (p := ⟨w.heap.size, 0, none⟩) (by simp; omega)).trans ((World.cell?_alloc_lt wr _ ⟨w.heap.size, 0, none⟩ (by show w.heap.size < wr.heap.size; omega)).trans p0)
                  clear hb3
                  go_wp2_with fail
                  go_ret
                  exact ⟨by rw [HT.out]; rfl, hB3⟩
              · have hN1 : ¬ (qs.length : Int) ≤ d.a := by omega
                have hN2 : ¬ (qs.length : Int) ≤ d.b := by omega
                have HNN := Lib.hid hN
                clear hN
                have hm1 : (0 : Int) ≤ m := by omega
                have hm2 : (m : Int) ≤ c2 := by omega
                have hm3 : m ≤ c2 := by omega
                have HNX : Hid ((cs.take m).any (overB d) = false → consE qs.length (cs.take (m + 1)) (cs.drop (m + 1)) = consE qs.length [] cs) := fun hO => by rw [← hr.out, HST.out, if_neg (by simp [hE]), if_neg HNN.out, hO]; rfl
                have HOV : Hid ((cs.take m).any (overB d) = true → planE qs cs = 14) := fun hO => by rw [HQ.out, ← hr.out, HST.out, if_neg (by simp [hE]), if_neg HNN.out, hO]; rfl
                clear hE
                go_wp2_with fail
                refine (rccheck_any d _).mono ?_
                rw [HE.out]
                rintro e w3 ⟨rfl, hb3⟩
                have hW3 := bt' ((hWr.alloc (by omega) (.cells #[.int .i64 d.a, .int .i64 d.b, .int .i64 d.s, .int .i64 d.e, .int .i64 d.r, .int .i64 d.g, .int .i64 d.l] 61))) hb3 (by simp; omega)
                have hB3 := bt' ((hBr.alloc (by omega) (.cells #[.int .i64 d.a, .int .i64 d.b, .int .i64 d.s, .int .i64 d.e, .int .i64 d.r, .int .i64 d.g, .int .i64 d.l] 61))) hb3 (by simp; omega)
                have hz3 : wr.heap.size + 1 ≤ w3.heap.size := Nat.le_trans (by simp) hb3.size
                have hAt : ConAt w3 wr.heap.size 0 d := ConAt.below (w := wr.alloc (.cells #[.int .i64 d.a, .int .i64 d.b, .int .i64 d.s, .int .i64 d.e, .int .i64 d.r, .int .i64 d.g, .int .i64 d.l] 61)) (B := wr.heap.size + 1) (by simp [ConAt, go_sem]) (hb3.mono (by simp)) (by omega)
                have p3 := (hW3.cell (p := ⟨w.heap.size, 1, none⟩) (by show w.heap.size < _; omega)).trans (show (w.alloc (.cells #[.slice (some ⟨b1, o1, none⟩) qs.length c1, .slice (some ⟨b2, o2, none⟩) cs.length c2] 25)).cell? ⟨w.heap.size, 1, none⟩ = some (.slice (some ⟨b2, o2, none⟩) cs.length c2) by simp [go_sem])
                have p0 := (hW3.cell (p := ⟨w.heap.size, 0, none⟩) (by show w.heap.size < _; omega)).trans (show (w.alloc (.cells #[.slice (some ⟨b1, o1, none⟩) qs.length c1, .slice (some ⟨b2, o2, none⟩) cs.length c2] 25)).cell? ⟨w.heap.size, 0, none⟩ = some (.slice (some ⟨b1, o1, none⟩) qs.length c1) by simp [go_sem])
                have y0 := hAt.1
                have y1 := hAt.2.1
                simp only [Nat.zero_add] at y1
                have HAT := Lib.hid hAt
                clear hb3 x0 x1 x2 x3 x4 x5 x6 p1 hAt
                go_wp2_with fail
                clear y0 y1 p0
                obtain ⟨wo, rfl⟩ : ∃ wo : World, wo = wr := ⟨_, rfl⟩
                go_loopw [7] (fun i wr => ∃ n : Nat, n ≤ m ∧ i = .int .i64 n ∧ Hid (((cs.take m).drop n).any (overB d) = (cs.take m).any (overB d)) ∧ Below w3.heap.size w3 wr) (fun i _ => m - (intOf i).toNat)
                case atStart => exact ⟨0, by omega, rfl, rfl, Below.refl _ _⟩
                case round =>
                  obtain ⟨n, hn, rfl, hrn, hWx⟩ := hrel
                  have hzx := hWx.size
                  have hBx : Below w.heap.size w wr := hB3.trans (hWx.mono (by omega))
                  have p4 := (hWx.cell (p := ⟨w.heap.size, 1, none⟩) (by show w.heap.size < _; omega)).trans p3
                  by_cases hln : n < m
                  · have HS := Lib.hid (any_stepC (overB d) cs m n hln (by omega))
                    obtain ⟨_, _, e9, _, hc9⟩ := HA2.out (by omega)
                    simp only [Option.some.injEq, Addr.mk.injEq, and_true] at e9
                    obtain ⟨rfl, rfl⟩ := e9
                    have hdx := (hc9 n (by omega)).below hBx hb2
                    have hat := HAT.out.below hWx (show wo.heap.size < w3.heap.size by omega)
                    clear hc9
                    generalize cs.getD n Con.zero = f at *
                    obtain ⟨x0, x1, x2, x3, x4, x5, x6⟩ := hdx
                    obtain ⟨z0, z1, z2, z3, z4, z5, z6⟩ := hat
                    simp only [Nat.zero_add] at z0 z1 z2 z3 z4 z5 z6
                    have i1 : (0 : Int) ≤ n := by omega
                    have i2 : (n : Int) < cs.length := by omega
                    have i3 : (n : Int) < m := by omega
                    cases hO : overB d f
                    · have HT : Hid (((cs.take m).drop (n + 1)).any (overB d) = (cs.take m).any (overB d)) := by show _ = _; rw [← hrn.out, HS.out, hO, Bool.false_or]
                      have HO : Hid (overB f d = false) := by show _ = _; rw [overB_comm, hO]
                      clear hO
                      go_wp2_with fail
                      go_still_tail 6, (by kernel_rfl)
                      go_wp2_with fail
                      refine (rover_any f d _).mono ?_
                      rw [HO.out]
                      rintro e w5 ⟨rfl, hb5⟩
                      have hW5 : Below w3.heap.size w3 w5 := hWx.trans ((below_drewN (Below.refl _ wr) 1).trans (hb5.mono (by simp; omega)))
                      clear hb5
                      go_wp2_with fail
                      go_roundw
                      case rel => exact ⟨n + 1, by omega, by go_num, HT, hW5⟩
                      case measure => simp [intOf]; omega
                    · have HT : Hid (planE qs cs = 14) := HOV.out (by rw [← hrn.out, HS.out, hO, Bool.true_or])
                      have HO : Hid (overB f d = true) := by show _ = _; rw [overB_comm, hO]
                      clear hO
                      go_wp2_with fail
                      go_still_tail 6, (by kernel_rfl)
                      go_wp2_with fail
                      refine (rover_any f d _).mono ?_
                      rw [HO.out]
                      rintro e w5 ⟨rfl, hb5⟩
                      have hB5 : Below w.heap.size w w5 := hBx.trans ((below_drewN (Below.refl _ wr) 1).trans (hb5.mono (by simp; omega)))
                      clear hb5
                      go_wp2_with fail
                      go_ret
                      exact ⟨by rw [HT.out]; rfl, hB5⟩
                  · have HT := Lib.hid (HNX.out (by rw [← hrn.out, List.drop_of_length_le (by rw [List.length_take]; omega)]; rfl))
                    have hWx2 := hW3.trans (hWx.mono (by omega))
                    go_wp2_with fail
                    go_roundw
                    case rel => exact ⟨m + 1, by omega, by go_num, HT, hWx2⟩
                    case measure => simp [intOf]; omega
            · have HT : Hid (planE qs cs = conE d) := by show _ = _; rw [HQ.out, ← hr.out, HST.out, if_pos hE]
              have hEb : (conE d != 0) = true := by simpa using hE
              clear hE
              go_wp2_with fail
              refine (rccheck_any d _).mono ?_
              rintro e w3 ⟨rfl, hb3⟩
              have hB3 := bt' ((hBr.alloc (by omega) (.cells #[.int .i64 d.a, .int .i64 d.b, .int .i64 d.s, .int .i64 d.e, .int .i64 d.r, .int .i64 d.g, .int .i64 d.l] 61))) hb3 (by simp; omega)
              clear hb3
              go_wp2_with fail
              go_ret
              exact ⟨by rw [HT.out]; rfl, hB3⟩
          · have HT : Hid (planE qs cs = 0) := by show _ = _; rw [HQ.out, ← hr.out, List.drop_of_length_le (by omega)]; rfl
            go_wp2_with fail
            go_ret
            exact ⟨by rw [HT.out]; rfl, hBr⟩
end Go.Proofs.YtclkjjdfdndplaaGreatDoor

/- The reference's Check of metrics. -/
import Derived.Test.YtpcbccpobhdokaaGreatDoorB1
set_option linter.unusedSimpArgs false
set_option linter.unusedVariables false
set_option linter.all false
namespace Go.Proofs.YtpcbccpobhdokaaGreatDoor
open Go.RowKit
theorem met_bad {p : Option Met} {x : Met} {l t : List Met} {e : Int} (h : (if metE p x = 0 then chkL (some x) t else metE p x) = chkL none l) (he : metE p x = e) (h0 : e ≠ 0) : chkL none l = e := by
  rw [← h, if_neg (by rw [he]; exact h0), he]
set_option maxRecDepth 100000 in
set_option maxHeartbeats 8000000 in
theorem rcheckM_any (l : List Met) (V : Value) (w : World) (h : Mets w w.heap.size V l) : Calls Tryz.prog 15 #[V] w fun e w' => e = .returned (.int .i64 (chkE l)) ∧ Below w.heap.size w w' := by
  obtain ⟨A, c, rfl, h1, h2, h3⟩ := h
  have H3 := Lib.hid h3
  clear h3
  unfold maxLen at h2
  unfold chkE
  by_cases hl : l.length > 1000
  · rw [if_pos hl]
    have hl2 : (l.length : Int) > 1000 := by omega
    go_enter Tryz.func15, Tryz.ntmps15
    go_wp2_with fail
    refine bodyPost_ret (by (simp [results, Tryz.results15, go_sem, *]; try rfl)) rfl ?_
    exact ⟨rfl, Below.refl _ _⟩
  · rw [if_neg hl]
    have hl2 : ¬ (l.length : Int) > 1000 := by omega
    go_enter Tryz.func15, Tryz.ntmps15
    go_wp2_with fail
    go_loopw [3] (fun i wr => ∃ k : Nat, k ≤ l.length ∧ i = .int .i64 k ∧ Hid (chkL (prevM l k) (l.drop k) = chkL none l) ∧ Hid (Below w.heap.size w wr)) (fun i _ => l.length - (intOf i).toNat)
    case atStart => exact ⟨0, Nat.zero_le _, rfl, rfl, Below.refl _ _⟩
    case round =>
      obtain ⟨k, hk, rfl, HC, HB⟩ := hrel
      rename World => wq
      by_cases hkt : k < l.length
      · obtain ⟨B, o, rfl, hBl, hc⟩ := H3.out (by omega)
        have hkz : (k : Int) < (l.length : Int) := by omega
        have hx := hc k hkt
        have hC := HC.out
        rw [chkL_drop hkt] at hC
        obtain ⟨x, hxe⟩ : ∃ x, l.getD k mz = x := ⟨_, rfl⟩
        rw [hxe] at hx hC
        obtain ⟨g0, g1, g2, g3⟩ := hx
        have HE := Lib.hid hxe
        have HCC := Lib.hid hC
        have HCL := Lib.hid hc
        have ec : ∀ q, wq.cell? ⟨B, q, none⟩ = w.cell? ⟨B, q, none⟩ := fun q => HB.out.cell (p := ⟨B, q, none⟩) hBl
        have c0 := (ec _).trans g0
        have c1 := (ec _).trans g1
        have c2 := (ec _).trans g2
        have c3 := (ec _).trans g3
        have HN := Lib.hid (fun (W : World) => fname_any x.n W)
        have HR := Lib.hid (fun (W : World) => fcheck_any x.a x.b W)
        have hbq := HB.out.size
        clear hC hc hxe g0 g1 g2 g3 ec
        cases hnm : nameB x.n with
        | false =>
          have HM := Lib.hid (met_bad HCC.out (show metE (prevM l k) x = 1 by simp [metE, hnm]) (by decide))
          rw [hnm] at HN
          clear hnm
          go_wp2_with (go_at_call 38; refine (HN.out _).mono ?_; rintro e w1 ⟨rfl, rfl⟩)
          refine bodyPost_ret (by (simp [results, Tryz.results15, go_sem, *]; try rfl)) rfl ?_
          exact ⟨by rw [HM.out], HB.out⟩
        | true =>
          rw [hnm] at HN
          by_cases hi : x.i < 0 ∨ x.i > 1152921504606846976
          · have HM := Lib.hid (met_bad HCC.out (show metE (prevM l k) x = 2 by simp [metE, hnm, hi]) (by decide))
            clear hnm
            rcases hi with hi | hi
            · go_wp2_with (go_at_call 38; refine (HN.out _).mono ?_; rintro e w1 ⟨rfl, rfl⟩)
              refine bodyPost_ret (by (simp [results, Tryz.results15, go_sem, *]; try rfl)) rfl ?_
              exact ⟨by rw [HM.out], HB.out⟩
            · have hi0 : ¬ x.i < 0 := by omega
              go_wp2_with (go_at_call 38; refine (HN.out _).mono ?_; rintro e w1 ⟨rfl, rfl⟩)
              refine bodyPost_ret (by (simp [results, Tryz.results15, go_sem, *]; try rfl)) rfl ?_
              exact ⟨by rw [HM.out], HB.out⟩
          · have hi1 : ¬ x.i < 0 := by omega
            have hi2 : ¬ x.i > 1152921504606846976 := by omega
            by_cases hr : ratE x.a x.b = 0
            · rw [hr] at HR
              by_cases hk0 : k = 0
              · subst hk0
                rw [Nat.zero_mul, Nat.add_zero] at c0 c1 c2 c3
                have HN2 := Lib.hid (show chkL (prevM l 1) (l.drop 1) = chkL none l by
                  have he : metE (prevM l 0) x = 0 := by simp [metE, prevM, hnm, hi1, hi2, hr]
                  have := HCC.out
                  rw [if_pos he] at this
                  show chkL (some (l.getD (1 - 1) mz)) (l.drop 1) = chkL none l
                  rw [show (1 - 1 : Nat) = 0 from rfl, HE.out]; exact this)
                clear hnm hr hi
                go_wp2_with (first | (go_at_call 39; refine (HR.out _).mono ?_; rintro e w2 ⟨rfl, hb2⟩; have HB2 := Lib.hid (HB.out.trans (hb2.mono hbq)); clear hb2) | (go_at_call 38; refine (HN.out _).mono ?_; rintro e w1 ⟨rfl, rfl⟩))
                refine wp_region_held_drew (S := fun _ => True) (by kernel_rfl) trivial (fun hHeld => ?_)
                (refine wpAnyH_take (i := 0) (v := ?_) rfl (by kernel_rfl) (by kernel_rfl) (by kernel_rfl) (fun _ _ _ h => h) (Or.inl ⟨by kernel_rfl, fun w0 hSw => ?_⟩) hHeld ?_; rotate_left; (focus ((try dsimp only at hSw); simp only [List.getElem_toArray, List.getElem_cons_zero, List.getElem_cons_succ]; (first | (go_simp; done) | (go_simp; with_reducible rfl)))); (try simp only [List.getElem_toArray, List.getElem_cons_zero, List.getElem_cons_succ, Act.put, List.setIfInBounds_toArray, List.set_cons_zero, List.set_cons_succ]))
                (refine wpAnyH_take (i := 1) (v := ?_) rfl (by kernel_rfl) (by kernel_rfl) (by kernel_rfl) (fun _ _ _ h => h) (Or.inl ⟨by kernel_rfl, fun w0 hSw => ?_⟩) hHeld ?_; rotate_left; (focus ((try dsimp only at hSw); simp only [List.getElem_toArray, List.getElem_cons_zero, List.getElem_cons_succ]; (first | (go_simp; done) | (go_simp; with_reducible rfl)))); (try simp only [List.getElem_toArray, List.getElem_cons_zero, List.getElem_cons_succ, Act.put, List.setIfInBounds_toArray, List.set_cons_zero, List.set_cons_succ]))
                (refine wpAnyH_take (i := 2) (v := ?_) rfl (by kernel_rfl) (by kernel_rfl) (by kernel_rfl) (fun _ _ _ h => h) (Or.inl ⟨by kernel_rfl, fun w0 hSw => ?_⟩) hHeld ?_; rotate_left; (focus ((try dsimp only at hSw); simp only [List.getElem_toArray, List.getElem_cons_zero, List.getElem_cons_succ]; (first | (go_simp; done) | (go_simp; with_reducible rfl)))); (try simp only [List.getElem_toArray, List.getElem_cons_zero, List.getElem_cons_succ, Act.put, List.setIfInBounds_toArray, List.set_cons_zero, List.set_cons_succ]))
                (refine wpAnyH_take (i := 3) rfl (by kernel_rfl) (by kernel_rfl) (by kernel_rfl) (fun _ _ _ h => h) (Or.inr ⟨by kernel_rfl, rfl⟩) hHeld ?_; (try simp only [List.getElem_toArray, List.getElem_cons_zero, List.getElem_cons_succ, Act.put, List.setIfInBounds_toArray, List.set_cons_zero, List.set_cons_succ]))
                (refine wpAnyH_take (i := 4) rfl (by kernel_rfl) (by kernel_rfl) (by kernel_rfl) (fun _ _ _ h => h) (Or.inr ⟨by kernel_rfl, rfl⟩) hHeld ?_; (try simp only [List.getElem_toArray, List.getElem_cons_zero, List.getElem_cons_succ, Act.put, List.setIfInBounds_toArray, List.set_cons_zero, List.set_cons_succ]))
                (refine wpAnyH_take (i := 5) rfl (by kernel_rfl) (by kernel_rfl) (by kernel_rfl) (fun _ _ _ h => h) (Or.inr ⟨by kernel_rfl, rfl⟩) hHeld ?_; (try simp only [List.getElem_toArray, List.getElem_cons_zero, List.getElem_cons_succ, Act.put, List.setIfInBounds_toArray, List.set_cons_zero, List.set_cons_succ]))
                (refine wpAnyH_take (i := 6) rfl (by kernel_rfl) (by kernel_rfl) (by kernel_rfl) (fun _ _ _ h => h) (Or.inr ⟨by kernel_rfl, rfl⟩) hHeld ?_; (try simp only [List.getElem_toArray, List.getElem_cons_zero, List.getElem_cons_succ, Act.put, List.setIfInBounds_toArray, List.set_cons_zero, List.set_cons_succ]))
                (refine wpAnyH_take (i := 7) rfl (by kernel_rfl) (by kernel_rfl) (by kernel_rfl) (fun _ _ _ h => h) (Or.inr ⟨by kernel_rfl, rfl⟩) hHeld ?_; (try simp only [List.getElem_toArray, List.getElem_cons_zero, List.getElem_cons_succ, Act.put, List.setIfInBounds_toArray, List.set_cons_zero, List.set_cons_succ]))
                (refine wpAnyH_take (i := 8) rfl (by kernel_rfl) (by kernel_rfl) (by kernel_rfl) (fun _ _ _ h => h) (Or.inr ⟨by kernel_rfl, rfl⟩) hHeld ?_; (try simp only [List.getElem_toArray, List.getElem_cons_zero, List.getElem_cons_succ, Act.put, List.setIfInBounds_toArray, List.set_cons_zero, List.set_cons_succ]))
                (refine wpAnyH_take (i := 9) rfl (by kernel_rfl) (by kernel_rfl) (by kernel_rfl) (fun _ _ _ h => h) (Or.inr ⟨by kernel_rfl, rfl⟩) hHeld ?_; (try simp only [List.getElem_toArray, List.getElem_cons_zero, List.getElem_cons_succ, Act.put, List.setIfInBounds_toArray, List.set_cons_zero, List.set_cons_succ]))
                (refine wpAnyH_take (i := 10) rfl (by kernel_rfl) (by kernel_rfl) (by kernel_rfl) (fun _ _ _ h => h) (Or.inr ⟨by kernel_rfl, rfl⟩) hHeld ?_; (try simp only [List.getElem_toArray, List.getElem_cons_zero, List.getElem_cons_succ, Act.put, List.setIfInBounds_toArray, List.set_cons_zero, List.set_cons_succ]))
                (refine wpAnyH_take (i := 11) rfl (by kernel_rfl) (by kernel_rfl) (by kernel_rfl) (fun _ _ _ h => h) (Or.inr ⟨by kernel_rfl, rfl⟩) hHeld ?_; (try simp only [List.getElem_toArray, List.getElem_cons_zero, List.getElem_cons_succ, Act.put, List.setIfInBounds_toArray, List.set_cons_zero, List.set_cons_succ]))
                (refine wpAnyH_take (i := 12) rfl (by kernel_rfl) (by kernel_rfl) (by kernel_rfl) (fun _ _ _ h => h) (Or.inr ⟨by kernel_rfl, rfl⟩) hHeld ?_; (try simp only [List.getElem_toArray, List.getElem_cons_zero, List.getElem_cons_succ, Act.put, List.setIfInBounds_toArray, List.set_cons_zero, List.set_cons_succ]))
                (refine wpAnyH_take (i := 13) rfl (by kernel_rfl) (by kernel_rfl) (by kernel_rfl) (fun _ _ _ h => h) (Or.inr ⟨by kernel_rfl, rfl⟩) hHeld ?_; (try simp only [List.getElem_toArray, List.getElem_cons_zero, List.getElem_cons_succ, Act.put, List.setIfInBounds_toArray, List.set_cons_zero, List.set_cons_succ]))
                (refine wpAnyH_take (i := 14) (v := ?_) rfl (by kernel_rfl) (by kernel_rfl) (by kernel_rfl) (fun _ _ _ h => h) (Or.inl ⟨by kernel_rfl, fun w0 hSw => ?_⟩) hHeld ?_; rotate_left; (focus ((try dsimp only at hSw); simp only [List.getElem_toArray, List.getElem_cons_zero, List.getElem_cons_succ]; (first | (go_simp; done) | (go_simp; with_reducible rfl)))); (try simp only [List.getElem_toArray, List.getElem_cons_zero, List.getElem_cons_succ, Act.put, List.setIfInBounds_toArray, List.set_cons_zero, List.set_cons_succ]))
                refine wpAnyH_done (by kernel_rfl) ?_ _
                clear hHeld
                go_wp2_with fail
                go_roundw
                case rel => exact ⟨1, by omega, by go_num, HN2.out, HB2.out.drew⟩
                case measure => simp [intOf]; omega
              · obtain ⟨m, rfl⟩ : ∃ m, k = m + 1 := ⟨k - 1, by omega⟩
                have hy := HCL.out m (by omega)
                have hm1 : ((m + 1 : Nat) : Int) > 0 := by omega
                have hwr : IntKind.i64.wrap (((m + 1 : Nat) : Int) - 1) = (m : Int) := by
                  rw [show ((m + 1 : Nat) : Int) - 1 = (m : Int) by omega]
                  rw [IntKind.wrap_i64]; omega
                have hwm : IntKind.i64.wrap (m : Int) = (m : Int) := by rw [IntKind.wrap_i64]; omega
                have hml : (0 : Int) ≤ (m : Int) ∧ (m : Int) < (l.length : Int) := by omega
                obtain ⟨y, hye⟩ : ∃ y, l.getD m mz = y := ⟨_, rfl⟩
                rw [hye] at hy
                have HN2 := Lib.hid (show (lessB y x = true → chkL (prevM l (m + 1 + 1)) (l.drop (m + 1 + 1)) = chkL none l) ∧ (lessB y x = false → chkL none l = 9) by
                  have he : metE (prevM l (m + 1)) x = if 0 ≤ cmpM y.n x.n y.i x.i then 9 else 0 := by
                    simp [metE, prevM, hnm, hi1, hi2, hr, ← hye]
                  have h5 := HCC.out
                  have hcm : cmpM y.n x.n y.i x.i < 0 ↔ ltN y x := cf_lt (x := y) (y := x)
                  constructor
                  · intro hb
                    rw [lessB_iff, ← hcm] at hb
                    rw [he, if_neg (show ¬ 0 ≤ cmpM y.n x.n y.i x.i by omega), if_pos rfl] at h5
                    show chkL (some (l.getD (m + 1 + 1 - 1) mz)) (l.drop (m + 1 + 1)) = chkL none l
                    rw [show (m + 1 + 1 - 1 : Nat) = m + 1 from rfl, HE.out]; exact h5
                  · intro hb
                    have hb2 : ¬ ltN y x := fun h6 => by rw [← lessB_iff, hb] at h6; cases h6
                    rw [← hcm] at hb2
                    rw [he, if_pos (show 0 ≤ cmpM y.n x.n y.i x.i by omega)] at h5
                    rw [← h5]; rfl)
                have HLS := Lib.hid (fun (W : World) => less_any y x W)
                clear hnm hr hi hye hk0 HCC HCL HE HC
                go_wp2_with (first | (go_at_call 39; refine (HR.out _).mono ?_; rintro e w2 ⟨rfl, hb2⟩; have HB2 := Lib.hid (HB.out.trans (hb2.mono hbq)); clear hb2) | (go_at_call 38; refine (HN.out _).mono ?_; rintro e w1 ⟨rfl, rfl⟩))
                have ec : ∀ q, w2.cell? ⟨B, q, none⟩ = w.cell? ⟨B, q, none⟩ := fun q => HB2.out.cell (p := ⟨B, q, none⟩) hBl
                have ec1 := fun q => (ec q).trans (HB.out.cell (p := ⟨B, q, none⟩) hBl).symm
                have y0 := (ec _).trans hy.1
                have y1 := (ec _).trans hy.2.1
                have y2 := (ec _).trans hy.2.2.1
                have y3 := (ec _).trans hy.2.2.2
                have x0 := (ec1 _).trans c0
                have x1 := (ec1 _).trans c1
                have x2 := (ec1 _).trans c2
                have x3 := (ec1 _).trans c3
                clear ec ec1 c0 c1 c2 c3 hy
                have hgB : B < w2.heap.size := Nat.lt_of_lt_of_le hBl HB2.out.size
                have hm1z : decide (((m + 1 : Nat) : Int) > 0) = true := decide_eq_true hm1
                refine wp_region_held_drew (S := fun w' => w'.cell? ⟨B, o + m * 4, none⟩ = some (.string y.n) ∧ w'.cell? ⟨B, o + m * 4 + 1, none⟩ = some (.int .i64 y.i) ∧ w'.cell? ⟨B, o + m * 4 + 2, none⟩ = some (.int .i64 y.a) ∧ w'.cell? ⟨B, o + m * 4 + 3, none⟩ = some (.int .i64 y.b) ∧ w'.cell? ⟨B, o + (m + 1) * 4, none⟩ = some (.string x.n) ∧ w'.cell? ⟨B, o + (m + 1) * 4 + 1, none⟩ = some (.int .i64 x.i) ∧ w'.cell? ⟨B, o + (m + 1) * 4 + 2, none⟩ = some (.int .i64 x.a) ∧ w'.cell? ⟨B, o + (m + 1) * 4 + 3, none⟩ = some (.int .i64 x.b)) (by kernel_rfl) ⟨y0, y1, y2, y3, x0, x1, x2, x3⟩ (fun hHeld => ?_)
                (refine wpAnyH_take (i := 0) (v := ?_) rfl (by kernel_rfl) (by kernel_rfl) (by kernel_rfl) (fun _ _ _ h => h) (Or.inl ⟨by kernel_rfl, fun w0 hSw => ?_⟩) hHeld ?_; rotate_left; (focus ((try dsimp only at hSw); simp only [List.getElem_toArray, List.getElem_cons_zero, List.getElem_cons_succ]; (first | (go_simp; done) | (go_simp; with_reducible rfl)))); (try simp only [List.getElem_toArray, List.getElem_cons_zero, List.getElem_cons_succ, Act.put, List.setIfInBounds_toArray, List.set_cons_zero, List.set_cons_succ]))
                (refine wpAnyH_take (i := 1) (v := ?_) rfl (by kernel_rfl) (by kernel_rfl) (by kernel_rfl) (fun _ _ _ h => h) (Or.inl ⟨by kernel_rfl, fun w0 hSw => ?_⟩) hHeld ?_; rotate_left; (focus ((try dsimp only at hSw); simp only [List.getElem_toArray, List.getElem_cons_zero, List.getElem_cons_succ]; (first | (go_simp; done) | (go_simp; with_reducible rfl)))); (try simp only [List.getElem_toArray, List.getElem_cons_zero, List.getElem_cons_succ, Act.put, List.setIfInBounds_toArray, List.set_cons_zero, List.set_cons_succ]))
                (refine wpAnyH_take (i := 2) (v := ?_) rfl (by kernel_rfl) (by kernel_rfl) (by kernel_rfl) (fun _ _ _ h => h) (Or.inl ⟨by kernel_rfl, fun w0 hSw => ?_⟩) hHeld ?_; rotate_left; (focus ((try dsimp only at hSw); simp only [List.getElem_toArray, List.getElem_cons_zero, List.getElem_cons_succ]; (first | (go_simp; done) | (go_simp; with_reducible rfl)))); (try simp only [List.getElem_toArray, List.getElem_cons_zero, List.getElem_cons_succ, Act.put, List.setIfInBounds_toArray, List.set_cons_zero, List.set_cons_succ]))
                (refine wpAnyH_take (i := 3) (v := ?_) rfl (by kernel_rfl) (by kernel_rfl) (by kernel_rfl) (fun _ _ _ h => h) (Or.inl ⟨by kernel_rfl, fun w0 hSw => ?_⟩) hHeld ?_; rotate_left; (focus ((try dsimp only at hSw); simp only [List.getElem_toArray, List.getElem_cons_zero, List.getElem_cons_succ]; (first | (go_simp; done) | (go_simp; with_reducible rfl)))); (try simp only [List.getElem_toArray, List.getElem_cons_zero, List.getElem_cons_succ, Act.put, List.setIfInBounds_toArray, List.set_cons_zero, List.set_cons_succ]))
                (refine wpAnyH_take (i := 4) (v := ?_) rfl (by kernel_rfl) (by kernel_rfl) (by kernel_rfl) (fun _ _ _ h => h) (Or.inl ⟨by kernel_rfl, fun w0 hSw => ?_⟩) hHeld ?_; rotate_left; (focus ((try dsimp only at hSw); simp only [List.getElem_toArray, List.getElem_cons_zero, List.getElem_cons_succ]; (first | (go_simp; done) | (go_simp; with_reducible rfl)))); (try simp only [List.getElem_toArray, List.getElem_cons_zero, List.getElem_cons_succ, Act.put, List.setIfInBounds_toArray, List.set_cons_zero, List.set_cons_succ]))
                (refine wpAnyH_take (i := 5) (v := ?_) rfl (by kernel_rfl) (by kernel_rfl) (by kernel_rfl) (fun _ _ _ h => h) (Or.inl ⟨by kernel_rfl, fun w0 hSw => ?_⟩) hHeld ?_; rotate_left; (focus ((try dsimp only at hSw); simp only [List.getElem_toArray, List.getElem_cons_zero, List.getElem_cons_succ]; (first | (go_simp; done) | (go_simp; with_reducible rfl)))); (try simp only [List.getElem_toArray, List.getElem_cons_zero, List.getElem_cons_succ, Act.put, List.setIfInBounds_toArray, List.set_cons_zero, List.set_cons_succ]))
                (refine wpAnyH_take (i := 6) (v := ?_) rfl (by kernel_rfl) (by kernel_rfl) (by kernel_rfl) (fun _ _ _ h => h) (Or.inl ⟨by kernel_rfl, fun w0 hSw => ?_⟩) hHeld ?_; rotate_left; (focus ((try dsimp only at hSw); simp only [List.getElem_toArray, List.getElem_cons_zero, List.getElem_cons_succ]; (first | (go_simp; done) | (go_simp; with_reducible rfl)))); (try simp only [List.getElem_toArray, List.getElem_cons_zero, List.getElem_cons_succ, Act.put, List.setIfInBounds_toArray, List.set_cons_zero, List.set_cons_succ]))
                (refine wpAnyH_take (i := 7) (v := ?_) rfl (by kernel_rfl) (by kernel_rfl) (by kernel_rfl) (fun _ _ _ h => h) (Or.inl ⟨by kernel_rfl, fun w0 hSw => ?_⟩) hHeld ?_; rotate_left; (focus ((try dsimp only at hSw); simp only [List.getElem_toArray, List.getElem_cons_zero, List.getElem_cons_succ]; (first | (go_simp; done) | (go_simp; with_reducible rfl)))); (try simp only [List.getElem_toArray, List.getElem_cons_zero, List.getElem_cons_succ, Act.put, List.setIfInBounds_toArray, List.set_cons_zero, List.set_cons_succ]))
                (refine wpAnyH_take (i := 8) (v := ?_) rfl (by kernel_rfl) (by kernel_rfl) (by kernel_rfl) (fun _ _ _ h => h) (Or.inl ⟨by kernel_rfl, fun w0 hSw => ?_⟩) hHeld ?_; rotate_left; (focus ((try dsimp only at hSw); simp only [List.getElem_toArray, List.getElem_cons_zero, List.getElem_cons_succ]; (first | (go_simp; done) | (go_simp; with_reducible rfl)))); (try simp only [List.getElem_toArray, List.getElem_cons_zero, List.getElem_cons_succ, Act.put, List.setIfInBounds_toArray, List.set_cons_zero, List.set_cons_succ]))
                (refine wpAnyH_take (i := 9) (v := ?_) rfl (by kernel_rfl) (by kernel_rfl) (by kernel_rfl) (fun _ _ _ h => h) (Or.inl ⟨by kernel_rfl, fun w0 hSw => ?_⟩) hHeld ?_; rotate_left; (focus ((try dsimp only at hSw); simp only [List.getElem_toArray, List.getElem_cons_zero, List.getElem_cons_succ]; (first | (go_simp; done) | (go_simp; with_reducible rfl)))); (try simp only [List.getElem_toArray, List.getElem_cons_zero, List.getElem_cons_succ, Act.put, List.setIfInBounds_toArray, List.set_cons_zero, List.set_cons_succ]))
                (refine wpAnyH_take (i := 10) (v := ?_) rfl (by kernel_rfl) (by kernel_rfl) (by kernel_rfl) (fun _ _ _ h => h) (Or.inl ⟨by kernel_rfl, fun w0 hSw => ?_⟩) hHeld ?_; rotate_left; (focus ((try dsimp only at hSw); simp only [List.getElem_toArray, List.getElem_cons_zero, List.getElem_cons_succ]; (first | (go_simp; done) | (go_simp; with_reducible rfl)))); (try simp only [List.getElem_toArray, List.getElem_cons_zero, List.getElem_cons_succ, Act.put, List.setIfInBounds_toArray, List.set_cons_zero, List.set_cons_succ]))
                (refine wpAnyH_take (i := 11) (v := ?_) rfl (by kernel_rfl) (by kernel_rfl) (by kernel_rfl) (fun _ _ _ h => h) (Or.inl ⟨by kernel_rfl, fun w0 hSw => ?_⟩) hHeld ?_; rotate_left; (focus ((try dsimp only at hSw); simp only [List.getElem_toArray, List.getElem_cons_zero, List.getElem_cons_succ]; (first | (go_simp; done) | (go_simp; with_reducible rfl)))); (try simp only [List.getElem_toArray, List.getElem_cons_zero, List.getElem_cons_succ, Act.put, List.setIfInBounds_toArray, List.set_cons_zero, List.set_cons_succ]))
                refine wpAnyH_ready (rs := [12]) (by kernel_rfl) (by simp) ?_
                refine AllReadyH.cons rfl (fun K hK => ?_) AllReadyH.nil
                simp only [List.getElem_toArray, List.getElem_cons_zero, List.getElem_cons_succ]
                go_simp
                refine (HLS.out _).mono ?_
                rintro e w3 ⟨rfl, hgr⟩
                have hb3 := hgr.below
                have HB3 := Lib.hid (HB2.out.drew.trans (hb3.mono HB2.out.size))
                refine hK.out _ _ ⟨(hb3.cell (p := ⟨B, o + m * 4, none⟩) hgB).trans y0, (hb3.cell (p := ⟨B, o + m * 4 + 1, none⟩) hgB).trans y1, (hb3.cell (p := ⟨B, o + m * 4 + 2, none⟩) hgB).trans y2, (hb3.cell (p := ⟨B, o + m * 4 + 3, none⟩) hgB).trans y3, (hb3.cell (p := ⟨B, o + (m + 1) * 4, none⟩) hgB).trans x0, (hb3.cell (p := ⟨B, o + (m + 1) * 4 + 1, none⟩) hgB).trans x1, (hb3.cell (p := ⟨B, o + (m + 1) * 4 + 2, none⟩) hgB).trans x2, (hb3.cell (p := ⟨B, o + (m + 1) * 4 + 3, none⟩) hgB).trans x3⟩ (fun hHeld => ?_)
                clear hK K hgr hb3
                (try simp only [List.getElem_toArray, List.getElem_cons_zero, List.getElem_cons_succ, Act.put, List.setIfInBounds_toArray, List.set_cons_zero, List.set_cons_succ])
                cases hlb : lessB y x with
                | false =>
                  (refine wpAnyH_take (i := 13) (v := ?_) rfl (by kernel_rfl) (by kernel_rfl) (by kernel_rfl) (fun _ _ _ h => h) (Or.inl ⟨by kernel_rfl, fun w0 hSw => ?_⟩) hHeld ?_; rotate_left; (focus ((try dsimp only at hSw); simp only [List.getElem_toArray, List.getElem_cons_zero, List.getElem_cons_succ]; (first | (go_simp; done) | (go_simp; with_reducible rfl)))); (try simp only [List.getElem_toArray, List.getElem_cons_zero, List.getElem_cons_succ, Act.put, List.setIfInBounds_toArray, List.set_cons_zero, List.set_cons_succ]))
                  (refine wpAnyH_take (i := 14) (v := ?_) rfl (by kernel_rfl) (by kernel_rfl) (by kernel_rfl) (fun _ _ _ h => h) (Or.inl ⟨by kernel_rfl, fun w0 hSw => ?_⟩) hHeld ?_; rotate_left; (focus ((try dsimp only at hSw); simp only [List.getElem_toArray, List.getElem_cons_zero, List.getElem_cons_succ]; (first | (go_simp; done) | (go_simp; with_reducible rfl)))); (try simp only [List.getElem_toArray, List.getElem_cons_zero, List.getElem_cons_succ, Act.put, List.setIfInBounds_toArray, List.set_cons_zero, List.set_cons_succ]))
                  refine wpAnyH_done (by kernel_rfl) ?_ _
                  clear hHeld
                  have HM := Lib.hid (HN2.out.2 hlb)
                  clear hlb
                  go_wp2_with fail
                  refine bodyPost_ret (by (simp [results, Tryz.results15, go_sem, *]; try rfl)) rfl ?_
                  exact ⟨by rw [HM.out], HB3.out⟩
                | true =>
                  (refine wpAnyH_take (i := 13) (v := ?_) rfl (by kernel_rfl) (by kernel_rfl) (by kernel_rfl) (fun _ _ _ h => h) (Or.inl ⟨by kernel_rfl, fun w0 hSw => ?_⟩) hHeld ?_; rotate_left; (focus ((try dsimp only at hSw); simp only [List.getElem_toArray, List.getElem_cons_zero, List.getElem_cons_succ]; (first | (go_simp; done) | (go_simp; with_reducible rfl)))); (try simp only [List.getElem_toArray, List.getElem_cons_zero, List.getElem_cons_succ, Act.put, List.setIfInBounds_toArray, List.set_cons_zero, List.set_cons_succ]))
                  (refine wpAnyH_take (i := 14) (v := ?_) rfl (by kernel_rfl) (by kernel_rfl) (by kernel_rfl) (fun _ _ _ h => h) (Or.inl ⟨by kernel_rfl, fun w0 hSw => ?_⟩) hHeld ?_; rotate_left; (focus ((try dsimp only at hSw); simp only [List.getElem_toArray, List.getElem_cons_zero, List.getElem_cons_succ]; (first | (go_simp; done) | (go_simp; with_reducible rfl)))); (try simp only [List.getElem_toArray, List.getElem_cons_zero, List.getElem_cons_succ, Act.put, List.setIfInBounds_toArray, List.set_cons_zero, List.set_cons_succ]))
                  refine wpAnyH_done (by kernel_rfl) ?_ _
                  clear hHeld
                  have HM := Lib.hid (HN2.out.1 hlb)
                  clear hlb
                  go_wp2_with fail
                  go_roundw
                  case rel => exact ⟨m + 1 + 1, by omega, by go_num, HM.out, HB3.out⟩
                  case measure => simp [intOf]; omega
            · have HM := Lib.hid (show chkL none l = ratE x.a x.b by
                have e : metE (prevM l k) x = ratE x.a x.b := by simp [metE, hnm, hi1, hi2, hr]
                rw [← HCC.out, if_neg (by rw [e]; exact hr), e])
              clear hnm hi
              generalize ratE x.a x.b = re at *
              go_wp2_with (first | (go_at_call 39; refine (HR.out _).mono ?_; rintro e w2 ⟨rfl, hb2⟩; have HB2 := Lib.hid (HB.out.trans (hb2.mono hbq)); clear hb2) | (go_at_call 38; refine (HN.out _).mono ?_; rintro e w1 ⟨rfl, rfl⟩))
              refine bodyPost_ret (by (simp [results, Tryz.results15, go_sem, *]; try rfl)) rfl ?_
              exact ⟨by rw [HM.out], HB2.out⟩
      · have hkz : ¬ (k : Int) < (l.length : Int) := by omega
        have HM := Lib.hid (show chkL none l = 0 by rw [← HC.out, show k = l.length by omega, List.drop_length]; rfl)
        go_wp2_with fail
        refine bodyPost_ret (by (simp [results, Tryz.results15, go_sem, *]; try rfl)) rfl ?_
        exact ⟨by rw [HM.out], HB.out⟩
end Go.Proofs.YtpcbccpobhdokaaGreatDoor

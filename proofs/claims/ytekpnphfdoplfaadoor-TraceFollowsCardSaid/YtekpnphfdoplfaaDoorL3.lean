/- Walk of the law TraceFollows. -/
import Derived.Test.YtekpnphfdoplfaaDoorL2
import Derived.Test.YtekpnphfdoplfaaDoorB11
import Derived.Test.YtekpnphfdoplfaaDoorP3
namespace Go.Proofs.YtekpnphfdoplfaaDoor
open Go.RowKit Go.Shelf
theorem u8_range {n : Int} (h : (Lit.int .u8 n).wf = true) : 0 ≤ n ∧ n ≤ 255 := by
  simp only [Lit.wf, Bool.and_eq_true, decide_eq_true_eq] at h
  have e1 : IntKind.u8.min = 0 := rfl
  have e2 : IntKind.u8.max = 255 := rfl
  omega
theorem rem_any (i : Int) (n : Nat) (h0 : 0 ≤ i) (hn : 0 < n) : ∃ m : Nat, (∀ w, (binOp .rem 3 (.int .i64 i) (.int .i64 (n : Int))).run Tryd.prog w = .ok (.int .i64 (m : Int)) w) ∧ i.tmod n = m ∧ m < n := by
  have hz : ¬ (n : Int) = 0 := by omega
  have hz0 : ¬ n = 0 := by omega
  have hz2 : ((n : Int) == 0) = false := by simp [hz0]
  have hm : ¬ (n : Int) = -1 := by omega
  have h2 := Int.tmod_nonneg (n : Int) h0
  have h3 := Int.tmod_lt_of_pos i (show (0 : Int) < n by omega)
  refine ⟨(i.tmod n).toNat, fun w => ?_, by omega, by omega⟩
  rw [Int.toNat_of_nonneg h2]
  go_simp
theorem Ents.slc {w : World} {v : Value} {xs : List Ent} (h : Ents w w.heap.size v xs) : ∃ A c, v = .slice A xs.length c ∧ xs.length ≤ c ∧ c ≤ 9223372036854775807 := by
  obtain ⟨A, c, rfl, h1, h2, _⟩ := h
  exact ⟨A, c, rfl, h1, h2⟩
set_option maxHeartbeats 4000000 in
set_option maxRecDepth 100000 in
theorem law_follows (v : Value) (xs : List Ent) (tk at' : Int) (w : World) (hv : Ents w w.heap.size v xs) (hok : ∀ x ∈ xs, okE x) (htk : (Lit.int .i64 tk).wf = true) (hat : (Lit.int .u8 at').wf = true) (hG : Glob w) : Calls Tryd.prog 5 #[v, .int .i64 tk, .int .u8 at'] w fun e w' => e = .returned (.bool true) ∧ Below w.heap.size w w' := by
  obtain ⟨hi0, hi1⟩ := u8_range hat
  by_cases h60 : 60 < xs.length
  · have hg : decide (60 < xs.length) = true := decide_eq_true h60
    go_enter Tryd.func5, Tryd.ntmps5
    go_wp2_with fail
    refine (great_any v xs w hv).mono ?_
    rw [hg]
    rintro e w1 ⟨rfl, b1⟩
    go_wp2_with fail
    refine (awake_any w1 (hG.below (b1))).mono ?_
    rintro e w2 ⟨rfl, b2⟩
    go_wp2_with fail
    go_ret
    exact ⟨rfl, (b1).trans (b2.mono (b1).size)⟩
  · have hg : decide (60 < xs.length) = false := decide_eq_false h60
    by_cases h0 : tk < 0
    · skip
      go_enter Tryd.func5, Tryd.ntmps5
      go_wp2_with fail
      refine (great_any v xs w hv).mono ?_
      rw [hg]
      rintro e w1 ⟨rfl, b1⟩
      go_wp2_with fail
      refine (awake_any w1 (hG.below (b1))).mono ?_
      rintro e w2 ⟨rfl, b2⟩
      go_wp2_with fail
      go_ret
      exact ⟨rfl, (b1).trans (b2.mono (b1).size)⟩
    · have h0' : (0 : Int) ≤ tk := by omega
      have hl : xs.length ≤ 60 := by omega
      obtain ⟨m, hrem, hmt, hml⟩ := rem_any at' (xs.length + 1) hi0 (by omega)
      have hwi : IntKind.i64.wrap at' = at' := by rw [IntKind.wrap_i64]; omega
      have hm1 : ¬ ((xs.length : Int) + 1) = 0 := by omega
      have hm2 : ¬ ((xs.length : Int) + 1) = -1 := by omega
      push_cast at hrem hmt
      have hv0 := hv
      obtain ⟨A, c, rfl, hlc, hc⟩ := hv.slc
      go_enter Tryd.func5, Tryd.ntmps5
      go_wp2_with fail
      refine (great_any _ xs w hv0).mono ?_
      rw [hg]
      rintro e w1 ⟨rfl, b1⟩
      go_wp2_with fail
      refine (of_any _ xs tk w1 (hv0.keep b1) hok htk (by omega)).mono ?_
      rintro e w2 ⟨u2, rfl, hu2, b2⟩
      have c2 := b1.trans (b2.mono b1.size)
      go_wp2_with fail
      obtain ⟨hpl, hpe⟩ := ofL_first tk xs m
      have HF : Hid (∀ (i : Nat) (y : Ent), i < xs.length → (xs.getD i Ent.zero).k = 16 → (xs.getD i Ent.zero).v = tk → y ∈ ofL (xs.getD i Ent.zero).j (xs.drop i) → y ∈ ofL tk xs) := fun i y hi hk hv hy => follows h0' hi hk hv hy
      have HW : Hid (∀ i : Nat, i < xs.length → (xs.getD i Ent.zero).j = tk → xs.getD i Ent.zero ∈ ofL tk xs) := fun i hi hj => own_in h0' hi hj
      refine (of_any _ (xs.take m) tk w2 ((ents_take hv0 (by omega)).keep c2) (fun x hx => hok x (List.mem_of_mem_take hx)) htk (by rw [List.length_take]; omega)).mono ?_
      rintro e w3 ⟨u3, rfl, hu3, b3⟩
      have c3 := c2.trans (b3.mono c2.size)
      generalize ofL tk (xs.take m) = F at *
      generalize ofL tk xs = O at *
      obtain ⟨A2, k2, rfl, hlc2, hc2⟩ := hu2.slc
      obtain ⟨A3, k3, rfl, hlc3, hc3⟩ := hu3.slc
      have hO := hu2.keep b3
      have hpl2 : ¬ ((O.length : Int) < (F.length : Int)) := by omega
      have hF2 : Ents w3 w3.heap.size (.slice A2 F.length k2) F := by have := ents_take hO hpl; rwa [hpe] at this
      clear hpe hu2
      go_wp2_with fail
      refine (same_any _ _ F F w3 hu3 hF2).mono ?_
      rw [sameL_self]
      rintro e w4 ⟨rfl, b4⟩
      have c4 := c3.trans (b4.mono c3.size)
      have O4 := hO.keep b4
      have V4 := hv0.keep c4
      clear hF2 hu3 hO b1 b2 b3 b4 c2 c3
      go_wp2_with fail
      have hG4 := hG.below c4
      have HO4 := Lib.hid O4
      obtain ⟨Av, cv, ev, hcv, hmv, hAv⟩ := V4
      injection ev with e1 e2 e3
      subst e1
      subst e3
      have HA := Lib.hid hAv
      have HV := Lib.hid hv0
      have HK := Lib.hid hok
      clear hAv e2 O4 hok
      simp only [show decide (O.length < F.length) = false from decide_eq_false (by omega), show decide (tk < 0) = false from decide_eq_false (by omega)]
      go_loopw [53] (fun i wr => ∃ k : Nat, k ≤ xs.length ∧ i = .int .i64 k ∧ Below w4.heap.size w4 wr) (fun i _ => xs.length - (intOf i).toNat)
      case atStart => exact ⟨0, by omega, rfl, Below.refl _ _⟩
      case round =>
        obtain ⟨k, hk, rfl, hB⟩ := hrel
        have hzr := hB.size
        by_cases hlt : k < xs.length
        · obtain ⟨b, o, rfl, hb, hcell⟩ := HA.out (by omega)
          have hx := (hcell k hlt).below hB hb
          have HFk := Lib.hid (HF.out k)
          have HJ := Lib.hid (HK.out (xs.getD k Ent.zero) (by simp [List.getD, hlt])).1
          have hbr : b < wr.heap.size := by omega
          have ki : (k : Int) < xs.length := by omega
          clear hcell
          generalize xs.getD k Ent.zero = d at *
          obtain ⟨x0, x1, x2, x3, x4, x5⟩ := hx
          by_cases h16 : d.k = 16
          · have n16 : (d.k != 16) = false := by simp [h16]
            by_cases hvt : d.v = tk
            · have nv : (d.v != tk) = false := by simp [hvt]
              have HY : Hid (∀ y, y ∈ ofL d.j (xs.drop k) → y ∈ O) := fun y hy => HFk.out y hlt h16 hvt hy
              clear h16 hvt
              go_wp2_with fail
              have bX := hB.alloc hzr (.cells #[.int .i64 d.t, .int .i64 d.k, .int .i64 d.n, .int .i64 d.j, .int .i64 d.c, .int .i64 d.v] 37)
              have y3 : (wr.alloc (.cells #[.int .i64 d.t, .int .i64 d.k, .int .i64 d.n, .int .i64 d.j, .int .i64 d.c, .int .i64 d.v] 37)).cell? ⟨wr.heap.size, 3, none⟩ = some (.int .i64 d.j) := by simp [go_sem]
              have hn : wr.heap.size < (wr.alloc (.cells #[.int .i64 d.t, .int .i64 d.k, .int .i64 d.n, .int .i64 d.j, .int .i64 d.c, .int .i64 d.v] 37)).heap.size := by simp
              have hzX := bX.size
              have hDR : Ents w w.heap.size (.slice (some ⟨b, o + k * 6, none⟩) (xs.length - k) (c - k)) (xs.drop k) := by
                have := ents_drop HV.out hk
                rw [if_neg (by omega)] at this
                simpa [add_none] using this
              have HDR := Lib.hid (hDR.keep (c4.trans (bX.mono c4.size)))
              have hdl : (xs.drop k).length ≤ 65536 := by rw [List.length_drop]; omega
              have hdo : ∀ x ∈ xs.drop k, okE x := fun x hx => HK.out x (List.mem_of_mem_drop hx)
              have HDO := Lib.hid hdo
              clear hDR x0 x1 x2 x3 x4 x5 hB hzr hbr n16 nv hdo
              generalize (wr.alloc (.cells #[.int .i64 d.t, .int .i64 d.k, .int .i64 d.n, .int .i64 d.j, .int .i64 d.c, .int .i64 d.v] 37)) = W0 at *
              generalize wr.heap.size = n at *
              have hW : Below W0.heap.size W0 W0.drew := Below.drew (Below.refl _ _)
              have hck : ¬ c = k := by omega
              refine wp_region_held_drew (S := fun w' => w'.cell? ⟨n, 3, none⟩ = some (.int .i64 d.j)) (by kernel_rfl) y3 (fun hHeld => ?_)
              generalize W0.drew = Wd at *
              (refine wpAnyH_take (i := 0) (v := ?_) rfl (by kernel_rfl) (by kernel_rfl) (by kernel_rfl) (fun _ _ _ h => h) (Or.inl ⟨by kernel_rfl, fun w0 hSw => ?_⟩) hHeld ?_; rotate_left; (focus ((try dsimp only at hSw); simp only [List.getElem_toArray, List.getElem_cons_zero]; (first | (go_simp; done) | (go_simp; with_reducible rfl)))); (try simp only [List.getElem_toArray, List.getElem_cons_zero, Act.put, List.setIfInBounds_toArray, List.set_cons_zero, List.set_cons_succ]))
              (refine wpAnyH_take (i := 1) (v := ?_) rfl (by kernel_rfl) (by kernel_rfl) (by kernel_rfl) (fun _ _ _ h => h) (Or.inl ⟨by kernel_rfl, fun w0 hSw => ?_⟩) hHeld ?_; rotate_left; (focus ((try dsimp only at hSw); simp only [List.getElem_toArray, List.getElem_cons_zero, List.getElem_cons_succ]; (first | (go_simp; done) | (go_simp; with_reducible rfl)))); (try simp only [List.getElem_toArray, List.getElem_cons_zero, List.getElem_cons_succ, Act.put, List.setIfInBounds_toArray, List.set_cons_zero, List.set_cons_succ]))
              (refine wpAnyH_take (i := 2) (v := .slice (some ⟨b, o + k * 6, none⟩) (xs.length - k) (c - k)) rfl (by kernel_rfl) (by kernel_rfl) (by kernel_rfl) (fun _ _ _ h => h) (Or.inl ⟨by kernel_rfl, fun w0 hSw => ?_⟩) hHeld ?_; (focus (simp only [List.getElem_toArray, List.getElem_cons_zero, List.getElem_cons_succ]; (first | (go_simp; done) | (go_simp; with_reducible rfl) | (simp [*, go_sem]; done)))); (try simp only [List.getElem_toArray, List.getElem_cons_zero, List.getElem_cons_succ, Act.put, List.setIfInBounds_toArray, List.set_cons_zero, List.set_cons_succ]))
              (refine wpAnyH_take (i := 3) (v := ?_) rfl (by kernel_rfl) (by kernel_rfl) (by kernel_rfl) (fun _ _ _ h => h) (Or.inl ⟨by kernel_rfl, fun w0 hSw => ?_⟩) hHeld ?_; rotate_left; (focus ((try dsimp only at hSw); simp only [List.getElem_toArray, List.getElem_cons_zero, List.getElem_cons_succ]; (first | (go_simp; done) | (go_simp; with_reducible rfl)))); (try simp only [List.getElem_toArray, List.getElem_cons_zero, List.getElem_cons_succ, Act.put, List.setIfInBounds_toArray, List.set_cons_zero, List.set_cons_succ]))
              (refine wpAnyH_take (i := 4) (v := ?_) rfl (by kernel_rfl) (by kernel_rfl) (by kernel_rfl) (fun _ _ _ h => h) (Or.inl ⟨by kernel_rfl, fun w0 hSw => ?_⟩) hHeld ?_; rotate_left; (focus ((try dsimp only at hSw); simp only [List.getElem_toArray, List.getElem_cons_zero, List.getElem_cons_succ]; (first | (go_simp; done) | (go_simp; with_reducible rfl)))); (try simp only [List.getElem_toArray, List.getElem_cons_zero, List.getElem_cons_succ, Act.put, List.setIfInBounds_toArray, List.set_cons_zero, List.set_cons_succ]))
              (refine wpAnyH_take (i := 7) (v := ?_) rfl (by kernel_rfl) (by kernel_rfl) (by kernel_rfl) (fun _ _ _ h => h) (Or.inl ⟨by kernel_rfl, fun w0 hSw => ?_⟩) hHeld ?_; rotate_left; (focus ((try dsimp only at hSw); simp only [List.getElem_toArray, List.getElem_cons_zero, List.getElem_cons_succ]; (first | (go_simp; done) | (go_simp; with_reducible rfl)))); (try simp only [List.getElem_toArray, List.getElem_cons_zero, List.getElem_cons_succ, Act.put, List.setIfInBounds_toArray, List.set_cons_zero, List.set_cons_succ]))
              refine wpAnyH_ready (rs := [5]) (by kernel_rfl) (by simp) ?_
              refine (AllReadyH.cons rfl (fun K hK => ?_) AllReadyH.nil)
              simp only [List.getElem_toArray, List.getElem_cons_zero, List.getElem_cons_succ]
              go_simp
              refine (of_any _ (xs.drop k) d.j _ (HDR.out.keep hW) HDO.out HJ.out hdl).mono ?_
              rintro e w5 ⟨u5, rfl, hu5, hb5⟩
              have hS5 := bt (W0 := W0) hW hb5
              obtain ⟨A5, k5, rfl, hlc5, hc5⟩ := hu5.slc
              go_wp2_with fail
              refine hK.out _ _ ((hS5.cell (p := ⟨n, 3, none⟩) hn).trans y3) (fun hHeld => ?_)
              clear hK K
              (try simp only [List.getElem_toArray, List.getElem_cons_zero, List.getElem_cons_succ, Act.put, List.setIfInBounds_toArray, List.set_cons_zero, List.set_cons_succ])
              (refine wpAnyH_take (i := 6) (v := ?_) rfl (by kernel_rfl) (by kernel_rfl) (by kernel_rfl) (fun _ _ _ h => h) (Or.inl ⟨by kernel_rfl, fun w0 hSw => ?_⟩) hHeld ?_; rotate_left; (focus ((try dsimp only at hSw); simp only [List.getElem_toArray, List.getElem_cons_zero, List.getElem_cons_succ]; (first | (go_simp; done) | (go_simp; with_reducible rfl)))); (try simp only [List.getElem_toArray, List.getElem_cons_zero, List.getElem_cons_succ, Act.put, List.setIfInBounds_toArray, List.set_cons_zero, List.set_cons_succ]))
              refine wpAnyH_done (by kernel_rfl) ?_ _
              go_wp2_with fail
              have c5 : Below w4.heap.size w4 w5 := bX.trans (hS5.mono hzX)
              clear hHeld hb5 hS5 hW y3 hn hzX hdl
              generalize ofL d.j (xs.drop k) = Y at *
              obtain ⟨Ay, cy, ey, _, _, hAy⟩ := hu5
              injection ey with e1 e2 e3
              subst e1
              subst e3
              have HAY := Lib.hid hAy
              clear hAy e2
              go_loopw [74] (fun i wx => ∃ j : Nat, j ≤ Y.length ∧ i = .int .i64 j ∧ Below w5.heap.size w5 wx) (fun i _ => Y.length - (intOf i).toNat)
              case atStart => exact ⟨0, by omega, rfl, Below.refl _ _⟩
              case round =>
                obtain ⟨j, hj, rfl, hB2⟩ := hrel
                have hz2 := hB2.size
                by_cases hlt2 : j < Y.length
                · obtain ⟨b', o', rfl, hb', hcell'⟩ := HAY.out (by omega)
                  have hy := (hcell' j hlt2).below hB2 hb'
                  have HM := Lib.hid (HY.out (Y.getD j Ent.zero) (by simp [List.getD, hlt2]))
                  have hbr' := Nat.lt_of_lt_of_le hb' hz2
                  have kj : (j : Int) < Y.length := by omega
                  clear hcell'
                  generalize Y.getD j Ent.zero = y at *
                  obtain ⟨y0, y1, y2, y3, y4, y5⟩ := hy
                  go_wp2_with fail
                  refine (contains_any _ O y _ (HO4.out.keep (c5.trans ((hB2.alloc hz2 _).mono c5.size)))).mono ?_
                  rw [decide_eq_true HM.out]
                  rintro e w6 ⟨rfl, hb6⟩
                  have hb7 := (hB2.alloc hz2 (.cells #[.int .i64 y.t, .int .i64 y.k, .int .i64 y.n, .int .i64 y.j, .int .i64 y.c, .int .i64 y.v] 37)).trans (hb6.mono (by simp; omega))
                  clear hb6
                  go_wp2_with fail
                  go_roundw
                  case rel => exact ⟨j + 1, by omega, by go_num, hb7⟩
                  case measure => simp [intOf]; omega
                · obtain rfl : j = Y.length := by omega
                  go_wp2_with fail
                  go_roundw
                  case rel => exact ⟨k + 1, by omega, by go_num, c5.trans (hB2.mono c5.size)⟩
                  case measure => simp [intOf]; omega
            · have nv : (d.v != tk) = true := by simpa using hvt
              clear h16 hvt
              go_wp2_with fail
              go_roundw
              case rel => exact ⟨k + 1, by omega, by go_num, hB.alloc hzr _⟩
              case measure => simp [intOf]; omega
          · have n16 : (d.k != 16) = true := by simpa using h16
            clear h16
            go_wp2_with fail
            go_roundw
            case rel => exact ⟨k + 1, by omega, by go_num, hB.alloc hzr _⟩
            case measure => simp [intOf]; omega
        · obtain rfl : k = xs.length := by omega
          go_wp2_with fail
          go_loopw [86] (fun i wx => ∃ k : Nat, k ≤ xs.length ∧ i = .int .i64 k ∧ Below w4.heap.size w4 wx) (fun i _ => xs.length - (intOf i).toNat)
          case atStart => exact ⟨0, by omega, rfl, hB⟩
          case round =>
            clear hB hzr
            obtain ⟨k, hk, rfl, hB⟩ := hrel
            have hzr := hB.size
            by_cases hlt : k < xs.length
            · obtain ⟨b, o, rfl, hb, hcell⟩ := HA.out (by omega)
              have hx := (hcell k hlt).below hB hb
              have HWk := Lib.hid (HW.out k hlt)
              have hbr : b < wr.heap.size := by omega
              have ki : (k : Int) < xs.length := by omega
              clear hcell
              generalize xs.getD k Ent.zero = d at *
              obtain ⟨x0, x1, x2, x3, x4, x5⟩ := hx
              by_cases hjt : d.j = tk
              · have nj : (d.j == tk) = true := by simp [hjt]
                have HM := Lib.hid (HWk.out hjt)
                have bX := hB.alloc hzr (.cells #[.int .i64 d.t, .int .i64 d.k, .int .i64 d.n, .int .i64 d.j, .int .i64 d.c, .int .i64 d.v] 37)
                clear hjt
                go_wp2_with fail
                refine (contains_any _ O d _ (HO4.out.keep bX)).mono ?_
                rw [decide_eq_true HM.out]
                rintro e w6 ⟨rfl, hb6⟩
                have hb7 := bX.trans (hb6.mono bX.size)
                clear hb6
                go_wp2_with fail
                go_roundw
                case rel => exact ⟨k + 1, by omega, by go_num, hb7⟩
                case measure => simp [intOf]; omega
              · have nj : (d.j == tk) = false := by simpa using hjt
                clear hjt
                go_wp2_with fail
                go_roundw
                case rel => exact ⟨k + 1, by omega, by go_num, hB.alloc hzr _⟩
                case measure => simp [intOf]; omega
            · obtain rfl : k = xs.length := by omega
              go_wp2_with fail
              refine (awake_any _ (hG4.below hB)).mono ?_
              rintro e w7 ⟨rfl, b7⟩
              go_wp2_with fail
              go_ret
              exact ⟨rfl, c4.trans ((hB.trans (b7.mono hB.size)).mono c4.size)⟩
end Go.Proofs.YtekpnphfdoplfaaDoor

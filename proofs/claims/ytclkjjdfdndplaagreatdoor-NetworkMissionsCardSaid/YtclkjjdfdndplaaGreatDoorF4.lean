/- Plans: Check and the reference's. -/
import Derived.Test.YtclkjjdfdndplaaGreatDoorF3
namespace Go.Proofs.YtclkjjdfdndplaaGreatDoor
open Go.RowKit
def quE : List Int → Int
  | [] => 0
  | q :: t => if q < 0 ∨ 1073741824 < q then 2 else quE t
def consE (n : Int) (pre : List Con) : List Con → Int
  | [] => 0
  | c :: t => if conE c ≠ 0 then conE c else if n ≤ c.a ∨ n ≤ c.b then 2 else if pre.any (overB c) = true then 14 else consE n (pre ++ [c]) t
/-- why a plan is not valid -/
def planE (qs : List Int) (cs : List Con) : Int := if qs.length < 1 ∨ 16 < qs.length ∨ 64 < cs.length then 4 else if quE qs ≠ 0 then 2 else consE qs.length [] cs
theorem drop_int (l : List Int) (k : Nat) (h : k < l.length) : l.drop k = l.getD k 0 :: l.drop (k + 1) := by
  rw [List.drop_eq_getElem_cons h]; simp [List.getD, h]
theorem take_con (l : List Con) (k : Nat) (h : k < l.length) : l.take (k + 1) = l.take k ++ [l.getD k Con.zero] := by
  rw [List.take_succ_eq_append_getElem h]; simp [List.getD, h]
theorem quE_step (qs : List Int) (k : Nat) (h : k < qs.length) : quE (qs.drop k) = if qs.getD k 0 < 0 ∨ 1073741824 < qs.getD k 0 then 2 else quE (qs.drop (k + 1)) := by
  rw [drop_int qs k h, quE]
theorem quE_two : ∀ qs : List Int, quE qs = 0 ∨ quE qs = 2
  | [] => .inl rfl
  | q :: t => by rw [quE]; split; exact .inr rfl; exact quE_two t
theorem consE_step (n : Int) (cs : List Con) (k : Nat) (h : k < cs.length) : consE n (cs.take k) (cs.drop k) =
    if conE (cs.getD k Con.zero) ≠ 0 then conE (cs.getD k Con.zero) else if n ≤ (cs.getD k Con.zero).a ∨ n ≤ (cs.getD k Con.zero).b then 2 else if (cs.take k).any (overB (cs.getD k Con.zero)) = true then 14 else consE n (cs.take (k + 1)) (cs.drop (k + 1)) := by
  rw [drop_con cs k h, consE, take_con cs k h]
theorem Cons.take {w : World} {B : Nat} {A : Option Addr} {c : Nat} {cs : List Con} (h : Cons w B (.slice A cs.length c) cs) (k : Nat) (hk : k ≤ cs.length) : Cons w B (.slice A k c) (cs.take k) := by
  obtain ⟨A', c', e, h1, h2, h3⟩ := h
  simp only [Value.slice.injEq, true_and] at e
  obtain ⟨rfl, rfl⟩ := e
  have hl : (cs.take k).length = k := by rw [List.length_take]; omega
  refine ⟨A, c, by rw [hl], by omega, h2, fun hp => ?_⟩
  obtain ⟨b, o, e1, h4, h5⟩ := h3 (by omega)
  refine ⟨b, o, e1, h4, fun j hj => ?_⟩
  have e : (cs.take k).getD j Con.zero = cs.getD j Con.zero := by simp [List.getD, show j < k by omega]
  rw [e]
  exact h5 j (by omega)
set_option maxHeartbeats 4000000 in
theorem pcheck_any (qv cv : Value) (qs : List Int) (cs : List Con) (w : World) (hq : Ints w w.heap.size qv qs) (hc : Cons w w.heap.size cv cs) : Calls Tryz.prog 23 #[.agg #[qv, cv]] w fun e w' => e = .returned (.int .i64 (planE qs cs)) ∧ Below w.heap.size w w' := by
  have hc0 := hc
  obtain ⟨A1, c1, rfl, hc1, hm1, hA1⟩ := hq
  obtain ⟨A2, c2, rfl, hc2, hm2, hA2⟩ := hc
  unfold maxLen at hm1 hm2
  have HA1 := Lib.hid hA1
  have HA2 := Lib.hid hA2
  have HC := Lib.hid hc0
  clear hA1 hA2 hc0
  by_cases hL : qs.length < 1 ∨ 16 < qs.length ∨ 64 < cs.length
  · have HE : Hid (planE qs cs = 4) := by show _ = _; rw [planE, if_pos hL]
    by_cases g1 : qs.length < 1
    · clear hL
      go_enter Tryz.func23, Tryz.ntmps23
      go_wp2_with fail
      go_ret
      exact ⟨by rw [HE.out]; rfl, by (repeat' (first | (with_reducible exact Below.refl _ _) | (with_reducible refine Below.alloc ?_ ?_ _) | (with_reducible refine Below.drew ?_) | (with_reducible refine below_drewN ?_ _) | (with_reducible refine Below.setCell ?_ ?_ _) | (with_reducible refine Below.trans ?_ (Below.mono (by assumption) ?_)) | (with_reducible exact Nat.le_refl _) | omega | (simp; omega) | (simp; done)))⟩
    · have g1' : 1 ≤ qs.length := by omega
      have g1i : (1 : Int) ≤ qs.length := by omega
      by_cases g2 : 16 < qs.length
      · clear hL
        have g2i : (16 : Int) < qs.length := by omega
        go_enter Tryz.func23, Tryz.ntmps23
        go_wp2_with fail
        go_ret
        exact ⟨by rw [HE.out]; rfl, by (repeat' (first | (with_reducible exact Below.refl _ _) | (with_reducible refine Below.alloc ?_ ?_ _) | (with_reducible refine Below.drew ?_) | (with_reducible refine below_drewN ?_ _) | (with_reducible refine Below.setCell ?_ ?_ _) | (with_reducible refine Below.trans ?_ (Below.mono (by assumption) ?_)) | (with_reducible exact Nat.le_refl _) | omega | (simp; omega) | (simp; done)))⟩
      · have g3 : 64 < cs.length := by omega
        have g2i : ¬ (16 : Int) < qs.length := by omega
        have g3i : (64 : Int) < cs.length := by omega
        clear hL
        go_enter Tryz.func23, Tryz.ntmps23
        go_wp2_with fail
        go_ret
        exact ⟨by rw [HE.out]; rfl, by (repeat' (first | (with_reducible exact Below.refl _ _) | (with_reducible refine Below.alloc ?_ ?_ _) | (with_reducible refine Below.drew ?_) | (with_reducible refine below_drewN ?_ _) | (with_reducible refine Below.setCell ?_ ?_ _) | (with_reducible refine Below.trans ?_ (Below.mono (by assumption) ?_)) | (with_reducible exact Nat.le_refl _) | omega | (simp; omega) | (simp; done)))⟩
  · have HP : Hid (planE qs cs = if quE qs ≠ 0 then 2 else consE qs.length [] cs) := by show _ = _; rw [planE, if_neg hL]
    have g1 : 1 ≤ qs.length := by omega
    have g2 : qs.length ≤ 16 := by omega
    have g3 : cs.length ≤ 64 := by omega
    have g1i : (1 : Int) ≤ qs.length := by omega
    have g2i : ¬ (16 : Int) < qs.length := by omega
    have g3i : ¬ (64 : Int) < cs.length := by omega
    clear hL
    obtain ⟨b1, o1, rfl, hb1, hcell1⟩ := HA1.out (by omega)
    have HCE := Lib.hid hcell1
    clear hcell1 HA1
    go_enter Tryz.func23, Tryz.ntmps23
    go_wp2_with fail
    go_loop [27] (fun i => ∃ k : Nat, k ≤ qs.length ∧ i = .int .i64 k ∧ Hid (quE (qs.drop k) = quE qs)) (fun i => qs.length - (intOf i).toNat)
    case atStart => exact ⟨0, by omega, rfl, rfl⟩
    case round =>
      obtain ⟨k, hk, rfl, hr⟩ := hrel
      by_cases hlt : k < qs.length
      · have hx := HCE.out k hlt
        have y1 := fun (o : Obj) => (World.cell?_alloc_lt w o ⟨b1, o1 + k, none⟩ (show b1 < w.heap.size from hb1)).trans hx
        have HST := Lib.hid (quE_step qs k hlt)
        generalize qs.getD k 0 = q at *
        by_cases hn : q < 0
        · have HT : Hid (planE qs cs = 2) := by show _ = _; rw [HP.out, if_pos (by rw [← hr.out, HST.out, if_pos (.inl hn)]; decide)]
          go_wp2_with fail
          go_ret
          exact ⟨by rw [HT.out]; rfl, by (repeat' (first | (with_reducible exact Below.refl _ _) | (with_reducible refine Below.alloc ?_ ?_ _) | (with_reducible refine Below.drew ?_) | (with_reducible refine below_drewN ?_ _) | (with_reducible refine Below.setCell ?_ ?_ _) | (with_reducible refine Below.trans ?_ (Below.mono (by assumption) ?_)) | (with_reducible exact Nat.le_refl _) | omega | (simp; omega) | (simp; done)))⟩
        · by_cases hn2 : 1073741824 < q
          · have HT : Hid (planE qs cs = 2) := by show _ = _; rw [HP.out, if_pos (by rw [← hr.out, HST.out, if_pos (.inr hn2)]; decide)]
            go_wp2_with fail
            go_ret
            exact ⟨by rw [HT.out]; rfl, by (repeat' (first | (with_reducible exact Below.refl _ _) | (with_reducible refine Below.alloc ?_ ?_ _) | (with_reducible refine Below.drew ?_) | (with_reducible refine below_drewN ?_ _) | (with_reducible refine Below.setCell ?_ ?_ _) | (with_reducible refine Below.trans ?_ (Below.mono (by assumption) ?_)) | (with_reducible exact Nat.le_refl _) | omega | (simp; omega) | (simp; done)))⟩
          · have HT : Hid (quE (qs.drop (k + 1)) = quE qs) := by show _ = _; rw [← hr.out, HST.out, if_neg (by omega)]
            go_wp2_with fail
            go_round
            case rel => exact ⟨k + 1, by omega, by go_num, HT⟩
            case measure => simp [intOf]; omega
      · have HQ : Hid (planE qs cs = consE qs.length [] cs) := by show _ = _; rw [HP.out, if_neg (by rw [← hr.out, List.drop_of_length_le (by omega)]; simp [quE])]
        clear hr HP
        go_wp2_with fail
        go_loopw [41] (fun i wr => ∃ m : Nat, m ≤ cs.length ∧ i = .int .i64 m ∧ Hid (consE qs.length (cs.take m) (cs.drop m) = consE qs.length [] cs) ∧ Below (w.heap.size + 1) (w.alloc (.cells #[.slice (some ⟨b1, o1, none⟩) qs.length c1, .slice A2 cs.length c2] 25)) wr) (fun i _ => cs.length - (intOf i).toNat)
        case atStart => exact ⟨0, by omega, rfl, rfl, Below.refl _ _⟩
        case round =>
          obtain ⟨m, hm, rfl, hr, hWr⟩ := hrel
          have hzr : w.heap.size + 1 ≤ wr.heap.size := Nat.le_trans (by simp) hWr.size
          have hBr : Below w.heap.size w wr := ((Below.refl _ w).alloc (Nat.le_refl _) _).trans (hWr.mono (by omega))
          have p1 : wr.cell? ⟨w.heap.size, 1, none⟩ = some (.slice A2 cs.length c2) := (hWr.cell (p := ⟨w.heap.size, 1, none⟩) (by show w.heap.size < _; omega)).trans (by simp [go_sem])
          by_cases hlm : m < cs.length
          · obtain ⟨b2, o2, rfl, hb2, hcell2⟩ := HA2.out (by omega)
            have hx := (hcell2 m hlm).below hBr hb2
            have HST := Lib.hid (consE_step qs.length cs m hlm)
            clear hcell2
            generalize cs.getD m Con.zero = d at *
            have HX := Lib.hid hx
            obtain ⟨x0, x1, x2, x3, x4, x5, x6⟩ := hx
            by_cases hE : conE d = 0
            · have HE := Lib.hid hE
              by_cases hN : (qs.length : Int) ≤ d.a ∨ (qs.length : Int) ≤ d.b
              · have HT : Hid (planE qs cs = 2) := by show _ = _; rw [HQ.out, ← hr.out, HST.out, if_neg (by simp [hE]), if_pos hN]
                clear hE
                by_cases hN1 : (qs.length : Int) ≤ d.a
                · clear hN
                  go_wp2_with fail
                  refine (ccheck_any d _).mono ?_
                  rw [HE.out]
                  rintro e w3 ⟨rfl, hb3⟩
                  have hB3 := bt' ((hBr.alloc (by omega) (.cells #[.int .i64 d.a, .int .i64 d.b, .int .i64 d.s, .int .i64 d.e, .int .i64 d.r, .int .i64 d.g, .int .i64 d.l] 61))) hb3 (by simp; omega)
                  have y0 := (hb3.cell (p := ⟨wr.heap.size, 0, none⟩) (by simp)).trans (show (wr.alloc (.cells #[.int .i64 d.a, .int .i64 d.b, .int .i64 d.s, .int .i64 d.e, .int .i64 d.r, .int .i64 d.g, .int .i64 d.l] 61)).cell? ⟨wr.heap.size, 0, none⟩ = some (.int .i64 d.a) by simp [go_sem])
                  clear hb3
                  go_wp2_with fail
                  go_ret
                  exact ⟨by rw [HT.out]; rfl, hB3⟩
                · have hN2 : (qs.length : Int) ≤ d.b := by omega
                  clear hN
                  go_wp2_with fail
                  refine (ccheck_any d _).mono ?_
                  rw [HE.out]
                  rintro e w3 ⟨rfl, hb3⟩
                  have hB3 := bt' ((hBr.alloc (by omega) (.cells #[.int .i64 d.a, .int .i64 d.b, .int .i64 d.s, .int .i64 d.e, .int .i64 d.r, .int .i64 d.g, .int .i64 d.l] 61))) hb3 (by simp; omega)
                  have y0 := (hb3.cell (p := ⟨wr.heap.size, 0, none⟩) (by simp)).trans (show (wr.alloc (.cells #[.int .i64 d.a, .int .i64 d.b, .int .i64 d.s, .int .i64 d.e, .int .i64 d.r, .int .i64 d.g, .int .i64 d.l] 61)).cell? ⟨wr.heap.size, 0, none⟩ = some (.int .i64 d.a) by simp [go_sem])
                  have y1 := (hb3.cell (p := ⟨wr.heap.size, 1, none⟩) (by simp)).trans (show (wr.alloc (.cells #[.int .i64 d.a, .int .i64 d.b, .int .i64 d.s, .int .i64 d.e, .int .i64 d.r, .int .i64 d.g, .int .i64 d.l] 61)).cell? ⟨wr.heap.size, 1, none⟩ = some (.int .i64 d.b) by simp [go_sem])
                  clear hb3
                  go_wp2_with fail
                  go_ret
                  exact ⟨by rw [HT.out]; rfl, hB3⟩
              · have hN1 : ¬ (qs.length : Int) ≤ d.a := by omega
                have hN2 : ¬ (qs.length : Int) ≤ d.b := by omega
                have HNN := Lib.hid hN
                clear hN
                have hm1 : (0 : Int) ≤ m := by omega
                have hm2 : (m : Int) ≤ c2 := by omega
                have hm3 : m ≤ c2 := by omega
                cases hO : (cs.take m).any (overB d)
                all_goals
                  have HO := Lib.hid hO
                  clear hO
                · have HT : Hid (consE qs.length (cs.take (m + 1)) (cs.drop (m + 1)) = consE qs.length [] cs) := by show _ = _; rw [← hr.out, HST.out, if_neg (by simp [hE]), if_neg HNN.out, HO.out]; rfl
                  clear hE
                  go_wp2_with fail
                  refine (ccheck_any d _).mono ?_
                  rw [HE.out]
                  rintro e w3 ⟨rfl, hb3⟩
                  have hW3 := bt' ((hWr.alloc (by omega) (.cells #[.int .i64 d.a, .int .i64 d.b, .int .i64 d.s, .int .i64 d.e, .int .i64 d.r, .int .i64 d.g, .int .i64 d.l] 61))) hb3 (by simp; omega)
                  have hB3 := bt' ((hBr.alloc (by omega) (.cells #[.int .i64 d.a, .int .i64 d.b, .int .i64 d.s, .int .i64 d.e, .int .i64 d.r, .int .i64 d.g, .int .i64 d.l] 61))) hb3 (by simp; omega)
                  have y0 := (hb3.cell (p := ⟨wr.heap.size, 0, none⟩) (by simp)).trans (show (wr.alloc (.cells #[.int .i64 d.a, .int .i64 d.b, .int .i64 d.s, .int .i64 d.e, .int .i64 d.r, .int .i64 d.g, .int .i64 d.l] 61)).cell? ⟨wr.heap.size, 0, none⟩ = some (.int .i64 d.a) by simp [go_sem])
                  have y1 := (hb3.cell (p := ⟨wr.heap.size, 1, none⟩) (by simp)).trans (show (wr.alloc (.cells #[.int .i64 d.a, .int .i64 d.b, .int .i64 d.s, .int .i64 d.e, .int .i64 d.r, .int .i64 d.g, .int .i64 d.l] 61)).cell? ⟨wr.heap.size, 1, none⟩ = some (.int .i64 d.b) by simp [go_sem])
                  have hz3 : wr.heap.size + 1 ≤ w3.heap.size := Nat.le_trans (by simp) hb3.size
                  have hAt : ConAt w3 wr.heap.size 0 d := ConAt.below (w := wr.alloc (.cells #[.int .i64 d.a, .int .i64 d.b, .int .i64 d.s, .int .i64 d.e, .int .i64 d.r, .int .i64 d.g, .int .i64 d.l] 61)) (B := wr.heap.size + 1) (by simp [ConAt, go_sem]) (hb3.mono (by simp)) (by omega)
                  have p3 := (hW3.cell (p := ⟨w.heap.size, 1, none⟩) (by show w.heap.size < _; omega)).trans (show (w.alloc (.cells #[.slice (some ⟨b1, o1, none⟩) qs.length c1, .slice (some ⟨b2, o2, none⟩) cs.length c2] 25)).cell? ⟨w.heap.size, 1, none⟩ = some (.slice (some ⟨b2, o2, none⟩) cs.length c2) by simp [go_sem])
                  clear hb3
                  go_wp2_with fail
                  refine (ck_contains _ (cs.take m) wr.heap.size (overB d) _ ?_ ?_).mono ?_
                  · exact ((HC.out.below hB3).take m (by omega)).more (by omega)
                  · exact fun c W hW => ck_closure d c wr.heap.size W (by have := hW.size; omega) (hAt.below hW (by omega))
                  rw [HO.out]
                  rintro e w4 ⟨rfl, hb4⟩
                  have hW4 := bt' hW3 hb4 (by omega)
                  clear hb4
                  go_wp2_with fail
                  go_roundw
                  case rel => exact ⟨m + 1, by omega, by go_num, HT, hW4⟩
                  case measure => simp [intOf]; omega
                · have HT : Hid (planE qs cs = 14) := by show _ = _; rw [HQ.out, ← hr.out, HST.out, if_neg (by simp [hE]), if_neg HNN.out, HO.out]; rfl
                  clear hE
                  go_wp2_with fail
                  refine (ccheck_any d _).mono ?_
                  rw [HE.out]
                  rintro e w3 ⟨rfl, hb3⟩
                  have hW3 := bt' ((hWr.alloc (by omega) (.cells #[.int .i64 d.a, .int .i64 d.b, .int .i64 d.s, .int .i64 d.e, .int .i64 d.r, .int .i64 d.g, .int .i64 d.l] 61))) hb3 (by simp; omega)
                  have hB3 := bt' ((hBr.alloc (by omega) (.cells #[.int .i64 d.a, .int .i64 d.b, .int .i64 d.s, .int .i64 d.e, .int .i64 d.r, .int .i64 d.g, .int .i64 d.l] 61))) hb3 (by simp; omega)
                  have y0 := (hb3.cell (p := ⟨wr.heap.size, 0, none⟩) (by simp)).trans (show (wr.alloc (.cells #[.int .i64 d.a, .int .i64 d.b, .int .i64 d.s, .int .i64 d.e, .int .i64 d.r, .int .i64 d.g, .int .i64 d.l] 61)).cell? ⟨wr.heap.size, 0, none⟩ = some (.int .i64 d.a) by simp [go_sem])
                  have y1 := (hb3.cell (p := ⟨wr.heap.size, 1, none⟩) (by simp)).trans (show (wr.alloc (.cells #[.int .i64 d.a, .int .i64 d.b, .int .i64 d.s, .int .i64 d.e, .int .i64 d.r, .int .i64 d.g, .int .i64 d.l] 61)).cell? ⟨wr.heap.size, 1, none⟩ = some (.int .i64 d.b) by simp [go_sem])
                  have hz3 : wr.heap.size + 1 ≤ w3.heap.size := Nat.le_trans (by simp) hb3.size
                  have hAt : ConAt w3 wr.heap.size 0 d := ConAt.below (w := wr.alloc (.cells #[.int .i64 d.a, .int .i64 d.b, .int .i64 d.s, .int .i64 d.e, .int .i64 d.r, .int .i64 d.g, .int .i64 d.l] 61)) (B := wr.heap.size + 1) (by simp [ConAt, go_sem]) (hb3.mono (by simp)) (by omega)
                  have p3 := (hW3.cell (p := ⟨w.heap.size, 1, none⟩) (by show w.heap.size < _; omega)).trans (show (w.alloc (.cells #[.slice (some ⟨b1, o1, none⟩) qs.length c1, .slice (some ⟨b2, o2, none⟩) cs.length c2] 25)).cell? ⟨w.heap.size, 1, none⟩ = some (.slice (some ⟨b2, o2, none⟩) cs.length c2) by simp [go_sem])
                  clear hb3
                  go_wp2_with fail
                  refine (ck_contains _ (cs.take m) wr.heap.size (overB d) _ ?_ ?_).mono ?_
                  · exact ((HC.out.below hB3).take m (by omega)).more (by omega)
                  · exact fun c W hW => ck_closure d c wr.heap.size W (by have := hW.size; omega) (hAt.below hW (by omega))
                  rw [HO.out]
                  rintro e w4 ⟨rfl, hb4⟩
                  have hB4 := bt' hB3 hb4 (by omega)
                  clear hb4
                  go_wp2_with fail
                  go_ret
                  exact ⟨by rw [HT.out]; rfl, hB4⟩
            · have HT : Hid (planE qs cs = conE d) := by show _ = _; rw [HQ.out, ← hr.out, HST.out, if_pos hE]
              have hEb : (conE d != 0) = true := by simpa using hE
              clear hE
              go_wp2_with fail
              refine (ccheck_any d _).mono ?_
              rintro e w3 ⟨rfl, hb3⟩
              have hB3 := bt' ((hBr.alloc (by omega) (.cells #[.int .i64 d.a, .int .i64 d.b, .int .i64 d.s, .int .i64 d.e, .int .i64 d.r, .int .i64 d.g, .int .i64 d.l] 61))) hb3 (by simp; omega)
              clear hb3
              go_wp2_with fail
              go_ret
              exact ⟨by rw [HT.out]; rfl, hB3⟩
          · have HT : Hid (planE qs cs = 0) := by show _ = _; rw [HQ.out, ← hr.out, List.drop_of_length_le (by omega)]; rfl
            go_wp2_with fail
            go_ret
            exact ⟨by rw [HT.out]; rfl, hBr⟩
end Go.Proofs.YtclkjjdfdndplaaGreatDoor

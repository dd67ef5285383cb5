/- metrics.Merge on valid metrics. -/
import Derived.Test.YtpcbccpobhdokaaGreatDoorA5
import Derived.Test.YtpcbccpobhdokaaGreatDoorP1
set_option linter.unusedSimpArgs false
set_option linter.unusedVariables false
set_option linter.all false
namespace Go.Proofs.YtpcbccpobhdokaaGreatDoor
open Go.RowKit
theorem merge_post_bad {a b : List Met} {w w' : World} {e : Int} (h : mergeE a b = e) (he : e ≠ 0) (hb : Below w.heap.size w w') : MergePost a b w (.returned (.tuple #[.slice none 0 0, .int .i64 e])) w' :=
  ⟨_, by rw [h], by rw [mergeL, if_neg (by rw [h]; exact he)]; exact mets_nil _ _, hb⟩
set_option maxRecDepth 100000 in
set_option maxHeartbeats 8000000 in
theorem merge_ok (a b : List Met) (V U : Value) (w : World) (ha : Mets w w.heap.size V a) (hb : Mets w w.heap.size U b) (h1 : chkE a = 0) (h2 : chkE b = 0) : Calls Tryz.prog 8 #[V, U] w (MergePost a b w) := by
  have hla := chk_len h1
  have hlb := chk_len h2
  have HAS := Lib.hid (chk_asc h1)
  have HBS := Lib.hid (chk_asc h2)
  have HV := Lib.hid (show (∀ x ∈ a, ratE x.a x.b = 0) ∧ (∀ x ∈ b, ratE x.a x.b = 0) from ⟨fun x hx => (chk_all h1 x hx).2.2.2, fun x hx => (chk_all h2 x hx).2.2.2⟩)
  have HA := Lib.hid (check_any a V w ha)
  have HB := Lib.hid (fun (W : World) (h : Mets W W.heap.size U b) => check_any b U W h)
  rw [h1] at HA
  rw [h2] at HB
  have HE := Lib.hid (show mergeE a b = (match mrg a b with | none => 5 | some l => if l.length > 1000 then 4 else 0) by rw [mergeE, if_neg (by simp [h1, h2])]; cases mrg a b <;> rfl)
  have HMA := Lib.hid ha
  have HMB := Lib.hid hb
  obtain ⟨A, ca, rfl, _, _, _⟩ := ha
  obtain ⟨A', cb, rfl, _, _, _⟩ := hb
  clear h1 h2
  go_enter Tryz.func8, Tryz.ntmps8
  go_wp2_with fail
  refine HA.out.mono ?_
  rintro e w1 ⟨rfl, hb1⟩
  have HBC := Lib.hid (HB.out w1 (HMB.out.base hb1 hb1.size))
  go_wp2_with fail
  refine HBC.out.mono ?_
  rintro e w2 ⟨rfl, hb2⟩
  have D2 := Lib.hid (hb1.trans (hb2.mono hb1.size))
  clear hb1 hb2 HBC HA HB
  have D3 := Lib.hid ((D2.out).alloc D2.out.size (.cells #[.slice A a.length ca, .slice A' b.length cb] 22))
  have HCO := Lib.hid (concat_any a b A A' ca cb w2.heap.size 2 (w2.alloc (.cells #[.slice A a.length ca, .slice A' b.length cb] 22)) (cell_of_row _ _ 0 _ _ _ (heap_alloc_last _ _)) (cell_of_row _ _ 1 _ _ _ (heap_alloc_last _ _)) (HMA.out.base D3.out D3.out.size) (HMB.out.base D3.out D3.out.size) (by omega) (by omega))
  go_wp2_with fail
  refine HCO.out.mono ?_
  rintro e w3 ⟨v, rfl, ho, hb3⟩
  have D4 := Lib.hid (D3.out.trans (hb3.mono D3.out.size))
  have HS := Lib.hid (sortM_any _ v (a ++ b) w3 ho (by simp; omega) hb3.size)
  clear ho HCO
  go_wp2_with fail
  refine HS.out.mono ?_
  rintro e w4 ⟨rfl, S, hp, hso, hS, hb4⟩
  have D5 := Lib.hid (D4.out.trans ((hb4.mono D3.out.size)))
  have HCB := Lib.hid (comb_mrg S.length S a b rfl HAS.out HBS.out hp hso)
  have HVS := Lib.hid (show ∀ x ∈ S, ratE x.a x.b = 0 from fun x hx => by
    rcases List.mem_append.1 (hp.subset hx) with h | h
    · exact HV.out.1 x h
    · exact HV.out.2 x h)
  have hSl : S.length ≤ 2000 := by have := hp.length_eq; rw [List.length_append] at this; omega
  clear hp hso hb4 hb3 HS HAS HBS HV HMA HMB D2 D3 D4
  obtain ⟨AS, cS, rfl, _, _, h3⟩ := hS
  have H3 := Lib.hid h3
  clear h3
  go_wp2_with fail
  go_loopw [29, 7] (fun s29 s7 wr => ∃ (k : Nat) (acc : List Met), k ≤ S.length ∧ acc.length ≤ k ∧ s29 = .int .i64 k ∧ Hid (wr.ownsRow w4.heap.size 37 4 s7 acc.length (metCells acc)) ∧ Hid (Below w4.heap.size w4 wr) ∧ Hid (contM acc (S.drop k) = mrg a b ∧ ∀ x ∈ acc, ratE x.a x.b = 0)) (fun s29 _ _ => S.length - (intOf s29).toNat)
  case atStart => exact ⟨0, [], Nat.zero_le _, Nat.le_refl _, rfl, ⟨rfl, .inl ⟨rfl, rfl⟩⟩, Below.refl _ _, HCB.out, fun x hx => absurd hx (by simp)⟩
  case round =>
    obtain ⟨k, acc, hk, hacc, rfl, HO, HBq, HC⟩ := hrel
    rename World => wq
    obtain ⟨A7, c7, rfl⟩ := own_slice HO.out
    by_cases hkt : k < S.length
    · obtain ⟨B, o, rfl, hBl, hc⟩ := H3.out (by omega)
      have hx := hc k hkt
      obtain ⟨x, hxe⟩ : ∃ x, S.getD k mz = x := ⟨_, rfl⟩
      have hdr : S.drop k = x :: S.drop (k + 1) := by rw [drop_get S k hkt, hxe]
      have HR := Lib.hid (show ratE x.a x.b = 0 from HVS.out x (by rw [← hxe]; simp [List.getD, hkt]))
      rw [hxe] at hx
      obtain ⟨g0, g1, g2, g3⟩ := hx
      have ec : ∀ q, wq.cell? ⟨B, q, none⟩ = w4.cell? ⟨B, q, none⟩ := fun q => HBq.out.cell (p := ⟨B, q, none⟩) hBl
      have c0 := (ec _).trans g0
      have c1 := (ec _).trans g1
      have c2 := (ec _).trans g2
      have c3 := (ec _).trans g3
      have HC2 := Lib.hid (show contM acc (x :: S.drop (k + 1)) = mrg a b from by rw [← hdr]; exact HC.out.1)
      have HC3 := Lib.hid HC.out.2
      have hkz : (k : Int) < (S.length : Int) := by omega
      clear hc hxe hdr g0 g1 g2 g3 ec HC
      go_upto_region 9 with fail
      clear c0 c1 c2 c3
      have b0 : (wq.alloc (.cells #[.string x.n, .int .i64 x.i, .int .i64 x.a, .int .i64 x.b] 37)).cell? ⟨wq.heap.size, 0, none⟩ = some (.string x.n) := cell_of_row _ _ 0 _ _ _ (heap_alloc_last _ _)
      have b1 : (wq.alloc (.cells #[.string x.n, .int .i64 x.i, .int .i64 x.a, .int .i64 x.b] 37)).cell? ⟨wq.heap.size, 1, none⟩ = some (.int .i64 x.i) := cell_of_row _ _ 1 _ _ _ (heap_alloc_last _ _)
      have b2 : (wq.alloc (.cells #[.string x.n, .int .i64 x.i, .int .i64 x.a, .int .i64 x.b] 37)).cell? ⟨wq.heap.size, 2, none⟩ = some (.int .i64 x.a) := cell_of_row _ _ 2 _ _ _ (heap_alloc_last _ _)
      have b3 : (wq.alloc (.cells #[.string x.n, .int .i64 x.i, .int .i64 x.a, .int .i64 x.b] 37)).cell? ⟨wq.heap.size, 3, none⟩ = some (.int .i64 x.b) := cell_of_row _ _ 3 _ _ _ (heap_alloc_last _ _)
      have HOW : Hid ((wq.alloc (.cells #[.string x.n, .int .i64 x.i, .int .i64 x.a, .int .i64 x.b] 37)).ownsRow w4.heap.size 37 4 (.slice A7 acc.length c7) acc.length (metCells acc)) := HO.out.alloc _
      have HBW : Hid (Below w4.heap.size w4 (wq.alloc (.cells #[.string x.n, .int .i64 x.i, .int .i64 x.a, .int .i64 x.b] 37))) := HBq.out.alloc HBq.out.size _
      have hlt : wq.heap.size < (wq.alloc (.cells #[.string x.n, .int .i64 x.i, .int .i64 x.a, .int .i64 x.b] 37)).heap.size := by simp
      generalize wq.alloc (.cells #[.string x.n, .int .i64 x.i, .int .i64 x.a, .int .i64 x.b] 37) = W at *
      clear HO HBq
      by_cases h0 : acc = []
      · have hal : acc.length = 0 := by rw [h0]; rfl
        have HN := Lib.hid (show contM (acc ++ [x]) (S.drop (k + 1)) = mrg a b ∧ ∀ y ∈ acc ++ [x], ratE y.a y.b = 0 from by
          refine ⟨?_, fun y hy => ?_⟩
          · rw [← HC2.out, h0, contM_first]; rfl
          · rw [h0] at hy
            obtain rfl : y = x := by simpa using hy
            exact HR.out)
        have hz0 : (acc.length : Int) = 0 := by omega
        clear HC2 HC3 h0 hal
        go_upto_region 10 with fail
        refine wp_region_held_drew (S := fun _ => True) (by kernel_rfl) trivial (fun hHeld => ?_)
        (refine wpAnyH_take (i := 0) (v := ?_) rfl (by kernel_rfl) (by kernel_rfl) (by kernel_rfl) (fun _ _ _ h => h) (Or.inl ⟨by kernel_rfl, fun w0 hSw => ?_⟩) hHeld ?_; rotate_left; (focus ((try dsimp only at hSw); simp only [List.getElem_toArray, List.getElem_cons_zero, List.getElem_cons_succ]; (first | (go_simp; done) | (go_simp; with_reducible rfl)))); (try simp only [List.getElem_toArray, List.getElem_cons_zero, List.getElem_cons_succ, Act.put, List.setIfInBounds_toArray, List.set_cons_zero, List.set_cons_succ]))
        (refine wpAnyH_take (i := 1) (v := ?_) rfl (by kernel_rfl) (by kernel_rfl) (by kernel_rfl) (fun _ _ _ h => h) (Or.inl ⟨by kernel_rfl, fun w0 hSw => ?_⟩) hHeld ?_; rotate_left; (focus ((try dsimp only at hSw); simp only [List.getElem_toArray, List.getElem_cons_zero, List.getElem_cons_succ]; (first | (go_simp; done) | (go_simp; with_reducible rfl)))); (try simp only [List.getElem_toArray, List.getElem_cons_zero, List.getElem_cons_succ, Act.put, List.setIfInBounds_toArray, List.set_cons_zero, List.set_cons_succ]))
        (refine wpAnyH_take (i := 2) (v := ?_) rfl (by kernel_rfl) (by kernel_rfl) (by kernel_rfl) (fun _ _ _ h => h) (Or.inl ⟨by kernel_rfl, fun w0 hSw => ?_⟩) hHeld ?_; rotate_left; (focus ((try dsimp only at hSw); simp only [List.getElem_toArray, List.getElem_cons_zero, List.getElem_cons_succ]; (first | (go_simp; done) | (go_simp; with_reducible rfl)))); (try simp only [List.getElem_toArray, List.getElem_cons_zero, List.getElem_cons_succ, Act.put, List.setIfInBounds_toArray, List.set_cons_zero, List.set_cons_succ]))
        (refine wpAnyH_take (i := 3) rfl (by kernel_rfl) (by kernel_rfl) (by kernel_rfl) (fun _ _ _ h => h) (Or.inr ⟨by kernel_rfl, rfl⟩) hHeld ?_; (try simp only [List.getElem_toArray, List.getElem_cons_zero, List.getElem_cons_succ, Act.put, List.setIfInBounds_toArray, List.set_cons_zero, List.set_cons_succ]))
        (refine wpAnyH_take (i := 4) rfl (by kernel_rfl) (by kernel_rfl) (by kernel_rfl) (fun _ _ _ h => h) (Or.inr ⟨by kernel_rfl, rfl⟩) hHeld ?_; (try simp only [List.getElem_toArray, List.getElem_cons_zero, List.getElem_cons_succ, Act.put, List.setIfInBounds_toArray, List.set_cons_zero, List.set_cons_succ]))
        (refine wpAnyH_take (i := 5) rfl (by kernel_rfl) (by kernel_rfl) (by kernel_rfl) (fun _ _ _ h => h) (Or.inr ⟨by kernel_rfl, rfl⟩) hHeld ?_; (try simp only [List.getElem_toArray, List.getElem_cons_zero, List.getElem_cons_succ, Act.put, List.setIfInBounds_toArray, List.set_cons_zero, List.set_cons_succ]))
        (refine wpAnyH_take (i := 6) rfl (by kernel_rfl) (by kernel_rfl) (by kernel_rfl) (fun _ _ _ h => h) (Or.inr ⟨by kernel_rfl, rfl⟩) hHeld ?_; (try simp only [List.getElem_toArray, List.getElem_cons_zero, List.getElem_cons_succ, Act.put, List.setIfInBounds_toArray, List.set_cons_zero, List.set_cons_succ]))
        (refine wpAnyH_take (i := 7) rfl (by kernel_rfl) (by kernel_rfl) (by kernel_rfl) (fun _ _ _ h => h) (Or.inr ⟨by kernel_rfl, rfl⟩) hHeld ?_; (try simp only [List.getElem_toArray, List.getElem_cons_zero, List.getElem_cons_succ, Act.put, List.setIfInBounds_toArray, List.set_cons_zero, List.set_cons_succ]))
        (refine wpAnyH_take (i := 8) rfl (by kernel_rfl) (by kernel_rfl) (by kernel_rfl) (fun _ _ _ h => h) (Or.inr ⟨by kernel_rfl, rfl⟩) hHeld ?_; (try simp only [List.getElem_toArray, List.getElem_cons_zero, List.getElem_cons_succ, Act.put, List.setIfInBounds_toArray, List.set_cons_zero, List.set_cons_succ]))
        (refine wpAnyH_take (i := 9) rfl (by kernel_rfl) (by kernel_rfl) (by kernel_rfl) (fun _ _ _ h => h) (Or.inr ⟨by kernel_rfl, rfl⟩) hHeld ?_; (try simp only [List.getElem_toArray, List.getElem_cons_zero, List.getElem_cons_succ, Act.put, List.setIfInBounds_toArray, List.set_cons_zero, List.set_cons_succ]))
        (refine wpAnyH_take (i := 10) rfl (by kernel_rfl) (by kernel_rfl) (by kernel_rfl) (fun _ _ _ h => h) (Or.inr ⟨by kernel_rfl, rfl⟩) hHeld ?_; (try simp only [List.getElem_toArray, List.getElem_cons_zero, List.getElem_cons_succ, Act.put, List.setIfInBounds_toArray, List.set_cons_zero, List.set_cons_succ]))
        (refine wpAnyH_take (i := 11) (v := ?_) rfl (by kernel_rfl) (by kernel_rfl) (by kernel_rfl) (fun _ _ _ h => h) (Or.inl ⟨by kernel_rfl, fun w0 hSw => ?_⟩) hHeld ?_; rotate_left; (focus ((try dsimp only at hSw); simp only [List.getElem_toArray, List.getElem_cons_zero, List.getElem_cons_succ]; (first | (go_simp; done) | (go_simp; with_reducible rfl)))); (try simp only [List.getElem_toArray, List.getElem_cons_zero, List.getElem_cons_succ, Act.put, List.setIfInBounds_toArray, List.set_cons_zero, List.set_cons_succ]))
        refine wpAnyH_done (by kernel_rfl) ?_ _
        have HOD : Hid (W.drew.ownsRow w4.heap.size 37 4 (.slice A7 acc.length c7) acc.length (metCells acc)) := HOW.out
        have HBD := Lib.hid HBW.out.drew
        have b0' : W.drew.cell? ⟨wq.heap.size, 0, none⟩ = some (.string x.n) := b0
        have b1' : W.drew.cell? ⟨wq.heap.size, 1, none⟩ = some (.int .i64 x.i) := b1
        have b2' : W.drew.cell? ⟨wq.heap.size, 2, none⟩ = some (.int .i64 x.a) := b2
        have b3' : W.drew.cell? ⟨wq.heap.size, 3, none⟩ = some (.int .i64 x.b) := b3
        have hWz : w4.heap.size ≤ W.drew.heap.size := HBD.out.size
        generalize W.drew = W1 at *
        clear b0 b1 b2 b3 hHeld HOW HBW hlt
        go_wp2_with (at_builtin; refine app_met (W1) rfl (.tmp 47) (.tmp 49) rfl w4.heap.size _ acc x ?q1_1 ?q1_2 HOD.out (by omega) hWz ?_)
        case q1_1 => rfl
        case q1_2 => rfl
        intro g6 c6 w6 ho6 hg6 hb6 _
        have HO6 : Hid (w6.ownsRow w4.heap.size 37 4 (.slice (some ⟨g6, 0, none⟩) (acc.length + 1) c6) (acc.length + 1) (metCells (acc ++ [x]))) := ho6
        have HB6 := Lib.hid ((HBD.out).trans hb6)
        clear ho6 hg6 hb6
        go_wp2_with fail
        go_roundw
        case rel => exact ⟨k + 1, acc ++ [x], by omega, by simp; omega, by go_num, (by show World.ownsRow _ _ _ _ _ (acc ++ [x]).length _; rw [List.length_append]; exact HO6.out), HB6.out, HN.out⟩
        case measure => simp [intOf]; omega
      · obtain ⟨g, rfl, hgb, hgW, hfz, hcl⟩ := own_last HOW.out (List.length_pos_iff.2 h0)
        obtain ⟨m, p, pre, hm, HPA, hyp⟩ : ∃ (m : Nat) (p : Met) (pre : List Met), acc.length = m + 1 ∧ Hid (acc = pre ++ [p] ∧ pre.length = m) ∧ MetAt W g (m * 4) p := by
          rcases List.eq_nil_or_concat acc with h | ⟨pre, p, h⟩
          · exact absurd h h0
          · rw [List.concat_eq_append] at h
            refine ⟨pre.length, p, pre, by rw [h]; simp, ⟨h, rfl⟩, ?_⟩
            have := hcl pre.length (by rw [h]; simp)
            rwa [show acc.getD pre.length mz = p by rw [h]; simp [List.getD], Nat.zero_add] at this
        have HRP := Lib.hid (show ratE p.a p.b = 0 from HC3.out p (by rw [HPA.out.1]; simp))
        have n0 : ((acc.length : Int) == 0) = false := by simp; exact h0
        have n1 : ¬ (acc.length : Int) = 0 := by omega
        have hwr : IntKind.i64.wrap ((acc.length : Int) - 1) = (m : Int) := by rw [show (acc.length : Int) - 1 = (m : Int) by omega, IntKind.wrap_i64]; omega
        have hwm : IntKind.i64.wrap (m : Int) = (m : Int) := by rw [IntKind.wrap_i64]; omega
        have hml : (0 : Int) ≤ (m : Int) ∧ (m : Int) < (acc.length : Int) := by omega
        have hcm := fun W => compare_any p.n x.n p.i x.i p.a x.a p.b x.b W
        have HCF := Lib.hid (show cmpM p.n x.n p.i x.i = cfM p x from rfl)
        have HM := Lib.hid hm
        obtain ⟨y0, y1, y2, y3⟩ := hyp
        clear hm hcl h0
        generalize cmpM p.n x.n p.i x.i = cm at *
        go_upto_region 10 with fail
        refine wp_region_held_drew (S := fun w' => w'.cell? ⟨g, m * 4, none⟩ = some (.string p.n) ∧ w'.cell? ⟨g, m * 4 + 1, none⟩ = some (.int .i64 p.i) ∧ w'.cell? ⟨g, m * 4 + 2, none⟩ = some (.int .i64 p.a) ∧ w'.cell? ⟨g, m * 4 + 3, none⟩ = some (.int .i64 p.b) ∧ w'.cell? ⟨wq.heap.size, 0, none⟩ = some (.string x.n) ∧ w'.cell? ⟨wq.heap.size, 1, none⟩ = some (.int .i64 x.i) ∧ w'.cell? ⟨wq.heap.size, 2, none⟩ = some (.int .i64 x.a) ∧ w'.cell? ⟨wq.heap.size, 3, none⟩ = some (.int .i64 x.b)) (by kernel_rfl) ⟨y0, y1, y2, y3, b0, b1, b2, b3⟩ (fun hHeld => ?_)
        (refine wpAnyH_take (i := 0) (v := ?_) rfl (by kernel_rfl) (by kernel_rfl) (by kernel_rfl) (fun _ _ _ h => h) (Or.inl ⟨by kernel_rfl, fun w0 hSw => ?_⟩) hHeld ?_; rotate_left; (focus ((try dsimp only at hSw); simp only [List.getElem_toArray, List.getElem_cons_zero, List.getElem_cons_succ]; (first | (go_simp; done) | (go_simp; with_reducible rfl)))); (try simp only [List.getElem_toArray, List.getElem_cons_zero, List.getElem_cons_succ, Act.put, List.setIfInBounds_toArray, List.set_cons_zero, List.set_cons_succ]))
        (refine wpAnyH_take (i := 1) (v := ?_) rfl (by kernel_rfl) (by kernel_rfl) (by kernel_rfl) (fun _ _ _ h => h) (Or.inl ⟨by kernel_rfl, fun w0 hSw => ?_⟩) hHeld ?_; rotate_left; (focus ((try dsimp only at hSw); simp only [List.getElem_toArray, List.getElem_cons_zero, List.getElem_cons_succ]; (first | (go_simp; done) | (go_simp; with_reducible rfl)))); (try simp only [List.getElem_toArray, List.getElem_cons_zero, List.getElem_cons_succ, Act.put, List.setIfInBounds_toArray, List.set_cons_zero, List.set_cons_succ]))
        (refine wpAnyH_take (i := 2) (v := ?_) rfl (by kernel_rfl) (by kernel_rfl) (by kernel_rfl) (fun _ _ _ h => h) (Or.inl ⟨by kernel_rfl, fun w0 hSw => ?_⟩) hHeld ?_; rotate_left; (focus ((try dsimp only at hSw); simp only [List.getElem_toArray, List.getElem_cons_zero, List.getElem_cons_succ]; (first | (go_simp; done) | (go_simp; with_reducible rfl)))); (try simp only [List.getElem_toArray, List.getElem_cons_zero, List.getElem_cons_succ, Act.put, List.setIfInBounds_toArray, List.set_cons_zero, List.set_cons_succ]))
        (refine wpAnyH_take (i := 3) (v := ?_) rfl (by kernel_rfl) (by kernel_rfl) (by kernel_rfl) (fun _ _ _ h => h) (Or.inl ⟨by kernel_rfl, fun w0 hSw => ?_⟩) hHeld ?_; rotate_left; (focus ((try dsimp only at hSw); simp only [List.getElem_toArray, List.getElem_cons_zero, List.getElem_cons_succ]; (first | (go_simp; done) | (go_simp; with_reducible rfl)))); (try simp only [List.getElem_toArray, List.getElem_cons_zero, List.getElem_cons_succ, Act.put, List.setIfInBounds_toArray, List.set_cons_zero, List.set_cons_succ]))
        (refine wpAnyH_take (i := 4) (v := ?_) rfl (by kernel_rfl) (by kernel_rfl) (by kernel_rfl) (fun _ _ _ h => h) (Or.inl ⟨by kernel_rfl, fun w0 hSw => ?_⟩) hHeld ?_; rotate_left; (focus ((try dsimp only at hSw); simp only [List.getElem_toArray, List.getElem_cons_zero, List.getElem_cons_succ]; (first | (go_simp; done) | (go_simp; with_reducible rfl)))); (try simp only [List.getElem_toArray, List.getElem_cons_zero, List.getElem_cons_succ, Act.put, List.setIfInBounds_toArray, List.set_cons_zero, List.set_cons_succ]))
        (refine wpAnyH_take (i := 5) (v := ?_) rfl (by kernel_rfl) (by kernel_rfl) (by kernel_rfl) (fun _ _ _ h => h) (Or.inl ⟨by kernel_rfl, fun w0 hSw => ?_⟩) hHeld ?_; rotate_left; (focus ((try dsimp only at hSw); simp only [List.getElem_toArray, List.getElem_cons_zero, List.getElem_cons_succ]; (first | (go_simp; done) | (go_simp; with_reducible rfl)))); (try simp only [List.getElem_toArray, List.getElem_cons_zero, List.getElem_cons_succ, Act.put, List.setIfInBounds_toArray, List.set_cons_zero, List.set_cons_succ]))
        (refine wpAnyH_take (i := 6) (v := ?_) rfl (by kernel_rfl) (by kernel_rfl) (by kernel_rfl) (fun _ _ _ h => h) (Or.inl ⟨by kernel_rfl, fun w0 hSw => ?_⟩) hHeld ?_; rotate_left; (focus ((try dsimp only at hSw); simp only [List.getElem_toArray, List.getElem_cons_zero, List.getElem_cons_succ]; (first | (go_simp; done) | (go_simp; with_reducible rfl)))); (try simp only [List.getElem_toArray, List.getElem_cons_zero, List.getElem_cons_succ, Act.put, List.setIfInBounds_toArray, List.set_cons_zero, List.set_cons_succ]))
        (refine wpAnyH_take (i := 7) (v := ?_) rfl (by kernel_rfl) (by kernel_rfl) (by kernel_rfl) (fun _ _ _ h => h) (Or.inl ⟨by kernel_rfl, fun w0 hSw => ?_⟩) hHeld ?_; rotate_left; (focus ((try dsimp only at hSw); simp only [List.getElem_toArray, List.getElem_cons_zero, List.getElem_cons_succ]; (first | (go_simp; done) | (go_simp; with_reducible rfl)))); (try simp only [List.getElem_toArray, List.getElem_cons_zero, List.getElem_cons_succ, Act.put, List.setIfInBounds_toArray, List.set_cons_zero, List.set_cons_succ]))
        (refine wpAnyH_take (i := 8) (v := ?_) rfl (by kernel_rfl) (by kernel_rfl) (by kernel_rfl) (fun _ _ _ h => h) (Or.inl ⟨by kernel_rfl, fun w0 hSw => ?_⟩) hHeld ?_; rotate_left; (focus ((try dsimp only at hSw); simp only [List.getElem_toArray, List.getElem_cons_zero, List.getElem_cons_succ]; (first | (go_simp; done) | (go_simp; with_reducible rfl)))); (try simp only [List.getElem_toArray, List.getElem_cons_zero, List.getElem_cons_succ, Act.put, List.setIfInBounds_toArray, List.set_cons_zero, List.set_cons_succ]))
        refine wpAnyH_ready (rs := [9]) (by kernel_rfl) (by simp) ?_
        refine AllReadyH.cons rfl (fun K hK => ?_) AllReadyH.nil
        simp only [List.getElem_toArray, List.getElem_cons_zero, List.getElem_cons_succ]
        go_simp
        refine (hcm _).mono ?_
        rintro e w5 ⟨rfl, hgr⟩
        have hb5 := hgr.below
        have k0 := (hb5.cell (p := ⟨g, m * 4, none⟩) hgW).trans y0
        have k1 := (hb5.cell (p := ⟨g, m * 4 + 1, none⟩) hgW).trans y1
        have k2 := (hb5.cell (p := ⟨g, m * 4 + 2, none⟩) hgW).trans y2
        have k3 := (hb5.cell (p := ⟨g, m * 4 + 3, none⟩) hgW).trans y3
        have l0 := (hb5.cell (p := ⟨wq.heap.size, 0, none⟩) hlt).trans b0
        have l1 := (hb5.cell (p := ⟨wq.heap.size, 1, none⟩) hlt).trans b1
        have l2 := (hb5.cell (p := ⟨wq.heap.size, 2, none⟩) hlt).trans b2
        have l3 := (hb5.cell (p := ⟨wq.heap.size, 3, none⟩) hlt).trans b3
        have HO5 : Hid (w5.ownsRow w4.heap.size 37 4 (.slice (some ⟨g, 0, none⟩) acc.length c7) acc.length (metCells acc)) := own_below (w := W.drew) HOW.out hb5
        have HB5 := Lib.hid (HBW.out.drew.trans (hb5.mono HBW.out.size))
        have fz5 : ∀ o, w5.frozen? ⟨g, o, none⟩ = false := fun o => (hb5.frozen (p := ⟨g, o, none⟩) hgW).trans (hfz o)
        have hgW5 : g < w5.heap.size := Nat.lt_of_lt_of_le hgW hb5.size
        have hlt5 : wq.heap.size < w5.heap.size := Nat.lt_of_lt_of_le hlt hb5.size
        have hWz : w4.heap.size ≤ w5.heap.size := HB5.out.size
        refine hK.out _ _ ⟨k0, k1, k2, k3, l0, l1, l2, l3⟩ (fun hHeld => ?_)
        clear hK K hcm hgr hb5 y0 y1 y2 y3 b0 b1 b2 b3 HOW HBW hlt hgW
        (try simp only [List.getElem_toArray, List.getElem_cons_zero, List.getElem_cons_succ, Act.put, List.setIfInBounds_toArray, List.set_cons_zero, List.set_cons_succ])
        by_cases hc : cm = 0
        · have hcb : (cm != 0) = false := by simp [hc]
          (refine wpAnyH_take (i := 10) (v := ?_) rfl (by kernel_rfl) (by kernel_rfl) (by kernel_rfl) (fun _ _ _ h => h) (Or.inl ⟨by kernel_rfl, fun w0 hSw => ?_⟩) hHeld ?_; rotate_left; (focus ((try dsimp only at hSw); simp only [List.getElem_toArray, List.getElem_cons_zero, List.getElem_cons_succ]; (first | (go_simp; done) | (go_simp; with_reducible rfl)))); (try simp only [List.getElem_toArray, List.getElem_cons_zero, List.getElem_cons_succ, Act.put, List.setIfInBounds_toArray, List.set_cons_zero, List.set_cons_succ]))
          (refine wpAnyH_take (i := 11) (v := ?_) rfl (by kernel_rfl) (by kernel_rfl) (by kernel_rfl) (fun _ _ _ h => h) (Or.inl ⟨by kernel_rfl, fun w0 hSw => ?_⟩) hHeld ?_; rotate_left; (focus ((try dsimp only at hSw); simp only [List.getElem_toArray, List.getElem_cons_zero, List.getElem_cons_succ]; (first | (go_simp; done) | (go_simp; with_reducible rfl)))); (try simp only [List.getElem_toArray, List.getElem_cons_zero, List.getElem_cons_succ, Act.put, List.setIfInBounds_toArray, List.set_cons_zero, List.set_cons_succ]))
          refine wpAnyH_done (by kernel_rfl) ?_ _
          clear hHeld
          have hcf : cfM p x = 0 := by rw [← HCF.out]; exact hc
          obtain ⟨vx, vy, ee, hres, HRES⟩ : ∃ (vx vy ee : Int), resR (addR p.a p.b x.a x.b) = .tuple #[.agg #[.int .i64 vx, .int .i64 vy], .int .i64 ee] ∧ Hid ((ee = 0 ∧ addR p.a p.b x.a x.b = some (vx, vy)) ∨ (ee = 5 ∧ addR p.a p.b x.a x.b = none)) := by
            cases hR : addR p.a p.b x.a x.b with
            | none => exact ⟨0, 0, 5, rfl, .inr ⟨rfl, rfl⟩⟩
            | some r => exact ⟨r.1, r.2, 0, rfl, .inl ⟨rfl, rfl⟩⟩
          have HAD := Lib.hid (fun (W : World) => add_any p.a p.b x.a x.b HRP.out HR.out W)
          rw [hres] at HAD
          have HCFZ := Lib.hid hcf
          clear hres hcf hc hcb
          go_upto_region 12 with fail
          refine wp_region_held_drew (S := fun w' => w'.cell? ⟨g, m * 4 + 2, none⟩ = some (.int .i64 p.a) ∧ w'.cell? ⟨g, m * 4 + 2 + 1, none⟩ = some (.int .i64 p.b) ∧ w'.cell? ⟨wq.heap.size, 2, none⟩ = some (.int .i64 x.a) ∧ w'.cell? ⟨wq.heap.size, 2 + 1, none⟩ = some (.int .i64 x.b)) (by kernel_rfl) ⟨k2, k3, l2, l3⟩ (fun hHeld => ?_)
          (refine wpAnyH_take (i := 0) (v := ?_) rfl (by kernel_rfl) (by kernel_rfl) (by kernel_rfl) (fun _ _ _ h => h) (Or.inl ⟨by kernel_rfl, fun w0 hSw => ?_⟩) hHeld ?_; rotate_left; (focus ((try dsimp only at hSw); simp only [List.getElem_toArray, List.getElem_cons_zero, List.getElem_cons_succ]; (first | (go_simp; done) | (go_simp; with_reducible rfl)))); (try simp only [List.getElem_toArray, List.getElem_cons_zero, List.getElem_cons_succ, Act.put, List.setIfInBounds_toArray, List.set_cons_zero, List.set_cons_succ]))
          (refine wpAnyH_take (i := 1) (v := ?_) rfl (by kernel_rfl) (by kernel_rfl) (by kernel_rfl) (fun _ _ _ h => h) (Or.inl ⟨by kernel_rfl, fun w0 hSw => ?_⟩) hHeld ?_; rotate_left; (focus ((try dsimp only at hSw); simp only [List.getElem_toArray, List.getElem_cons_zero, List.getElem_cons_succ]; (first | (go_simp; done) | (go_simp; with_reducible rfl)))); (try simp only [List.getElem_toArray, List.getElem_cons_zero, List.getElem_cons_succ, Act.put, List.setIfInBounds_toArray, List.set_cons_zero, List.set_cons_succ]))
          (refine wpAnyH_take (i := 2) (v := ?_) rfl (by kernel_rfl) (by kernel_rfl) (by kernel_rfl) (fun _ _ _ h => h) (Or.inl ⟨by kernel_rfl, fun w0 hSw => ?_⟩) hHeld ?_; rotate_left; (focus ((try dsimp only at hSw); simp only [List.getElem_toArray, List.getElem_cons_zero, List.getElem_cons_succ]; (first | (go_simp; done) | (go_simp; with_reducible rfl)))); (try simp only [List.getElem_toArray, List.getElem_cons_zero, List.getElem_cons_succ, Act.put, List.setIfInBounds_toArray, List.set_cons_zero, List.set_cons_succ]))
          (refine wpAnyH_take (i := 3) (v := ?_) rfl (by kernel_rfl) (by kernel_rfl) (by kernel_rfl) (fun _ _ _ h => h) (Or.inl ⟨by kernel_rfl, fun w0 hSw => ?_⟩) hHeld ?_; rotate_left; (focus ((try dsimp only at hSw); simp only [List.getElem_toArray, List.getElem_cons_zero, List.getElem_cons_succ]; (first | (go_simp; done) | (go_simp; with_reducible rfl)))); (try simp only [List.getElem_toArray, List.getElem_cons_zero, List.getElem_cons_succ, Act.put, List.setIfInBounds_toArray, List.set_cons_zero, List.set_cons_succ]))
          (refine wpAnyH_take (i := 4) (v := ?_) rfl (by kernel_rfl) (by kernel_rfl) (by kernel_rfl) (fun _ _ _ h => h) (Or.inl ⟨by kernel_rfl, fun w0 hSw => ?_⟩) hHeld ?_; rotate_left; (focus ((try dsimp only at hSw); simp only [List.getElem_toArray, List.getElem_cons_zero, List.getElem_cons_succ]; (first | (go_simp; done) | (go_simp; with_reducible rfl)))); (try simp only [List.getElem_toArray, List.getElem_cons_zero, List.getElem_cons_succ, Act.put, List.setIfInBounds_toArray, List.set_cons_zero, List.set_cons_succ]))
          (refine wpAnyH_take (i := 5) (v := ?_) rfl (by kernel_rfl) (by kernel_rfl) (by kernel_rfl) (fun _ _ _ h => h) (Or.inl ⟨by kernel_rfl, fun w0 hSw => ?_⟩) hHeld ?_; rotate_left; (focus ((try dsimp only at hSw); simp only [List.getElem_toArray, List.getElem_cons_zero, List.getElem_cons_succ]; (first | (go_simp; done) | (go_simp; with_reducible rfl)))); (try simp only [List.getElem_toArray, List.getElem_cons_zero, List.getElem_cons_succ, Act.put, List.setIfInBounds_toArray, List.set_cons_zero, List.set_cons_succ]))
          (refine wpAnyH_take (i := 6) (v := ?_) rfl (by kernel_rfl) (by kernel_rfl) (by kernel_rfl) (fun _ _ _ h => h) (Or.inl ⟨by kernel_rfl, fun w0 hSw => ?_⟩) hHeld ?_; rotate_left; (focus ((try dsimp only at hSw); simp only [List.getElem_toArray, List.getElem_cons_zero, List.getElem_cons_succ]; (first | (go_simp; done) | (go_simp; with_reducible rfl)))); (try simp only [List.getElem_toArray, List.getElem_cons_zero, List.getElem_cons_succ, Act.put, List.setIfInBounds_toArray, List.set_cons_zero, List.set_cons_succ]))
          (refine wpAnyH_take (i := 7) (v := ?_) rfl (by kernel_rfl) (by kernel_rfl) (by kernel_rfl) (fun _ _ _ h => h) (Or.inl ⟨by kernel_rfl, fun w0 hSw => ?_⟩) hHeld ?_; rotate_left; (focus ((try dsimp only at hSw); simp only [List.getElem_toArray, List.getElem_cons_zero, List.getElem_cons_succ]; (first | (go_simp; done) | (go_simp; with_reducible rfl)))); (try simp only [List.getElem_toArray, List.getElem_cons_zero, List.getElem_cons_succ, Act.put, List.setIfInBounds_toArray, List.set_cons_zero, List.set_cons_succ]))
          refine wpAnyH_ready (rs := [8, 12]) (by kernel_rfl) (by simp) ?_
          refine AllReadyH.cons rfl (fun K hK => ?_) (AllReadyH.cons rfl (fun K hK => ?_) AllReadyH.nil)
          · simp only [List.getElem_toArray, List.getElem_cons_zero, List.getElem_cons_succ]
            go_simp
            refine (HAD.out _).mono ?_
            rintro e w6 ⟨rfl, hb6⟩
            have p2 := (hb6.cell (p := ⟨g, m * 4 + 2, none⟩) hgW5).trans k2
            have p3 := (hb6.cell (p := ⟨g, m * 4 + 2 + 1, none⟩) hgW5).trans k3
            have q2 := (hb6.cell (p := ⟨wq.heap.size, 2, none⟩) hlt5).trans l2
            have q3 := (hb6.cell (p := ⟨wq.heap.size, 2 + 1, none⟩) hlt5).trans l3
            have hb6' : Below w5.heap.size w5 w6 := (Below.refl _ w5).drew.trans hb6
            refine hK.out _ _ ⟨p2, p3, q2, q3⟩ (fun hHeld => ?_)
            clear hK K
            (try simp only [List.getElem_toArray, List.getElem_cons_zero, List.getElem_cons_succ, Act.put, List.setIfInBounds_toArray, List.set_cons_zero, List.set_cons_succ])
            (refine wpAnyH_take (i := 9) (v := ?_) rfl (by kernel_rfl) (by kernel_rfl) (by kernel_rfl) (fun _ _ _ h => h) (Or.inl ⟨by kernel_rfl, fun w0 hSw => ?_⟩) hHeld ?_; rotate_left; (focus ((try dsimp only at hSw); simp only [List.getElem_toArray, List.getElem_cons_zero, List.getElem_cons_succ]; (first | (go_simp; done) | (go_simp; with_reducible rfl)))); (try simp only [List.getElem_toArray, List.getElem_cons_zero, List.getElem_cons_succ, Act.put, List.setIfInBounds_toArray, List.set_cons_zero, List.set_cons_succ]))
            (refine wpAnyH_take (i := 10) (v := ?_) rfl (by kernel_rfl) (by kernel_rfl) (by kernel_rfl) (fun _ _ _ h => h) (Or.inl ⟨by kernel_rfl, fun w0 hSw => ?_⟩) hHeld ?_; rotate_left; (focus ((try dsimp only at hSw); simp only [List.getElem_toArray, List.getElem_cons_zero, List.getElem_cons_succ]; (first | (go_simp; done) | (go_simp; with_reducible rfl)))); (try simp only [List.getElem_toArray, List.getElem_cons_zero, List.getElem_cons_succ, Act.put, List.setIfInBounds_toArray, List.set_cons_zero, List.set_cons_succ]))
            (refine wpAnyH_take (i := 11) (v := ?_) rfl (by kernel_rfl) (by kernel_rfl) (by kernel_rfl) (fun _ _ _ h => h) (Or.inl ⟨by kernel_rfl, fun w0 hSw => ?_⟩) hHeld ?_; rotate_left; (focus ((try dsimp only at hSw); simp only [List.getElem_toArray, List.getElem_cons_zero, List.getElem_cons_succ]; (first | (go_simp; done) | (go_simp; with_reducible rfl)))); (try simp only [List.getElem_toArray, List.getElem_cons_zero, List.getElem_cons_succ, Act.put, List.setIfInBounds_toArray, List.set_cons_zero, List.set_cons_succ]))
            refine wpAnyH_ready (rs := [12]) (by kernel_rfl) (by simp) ?_
            refine AllReadyH.cons rfl (fun K hK => ?_) AllReadyH.nil
            simp only [List.getElem_toArray, List.getElem_cons_zero, List.getElem_cons_succ]
            go_simp
            refine hK.out _ _ ⟨cal p2, cal p3, cal q2, cal q3⟩ (fun hHeld => ?_)
            clear hK K
            (try simp only [List.getElem_toArray, List.getElem_cons_zero, List.getElem_cons_succ, Act.put, List.setIfInBounds_toArray, List.set_cons_zero, List.set_cons_succ])
            refine wpAnyH_ready (rs := [13]) (by kernel_rfl) (by simp) ?_
            refine AllReadyH.cons rfl (fun K hK => ?_) AllReadyH.nil
            simp only [List.getElem_toArray, List.getElem_cons_zero, List.getElem_cons_succ]
            go_simp
            refine hK.out _ _ ⟨cal p2, cal p3, cal q2, cal q3⟩ (fun hHeld => ?_)
            clear hK K
            (try simp only [List.getElem_toArray, List.getElem_cons_zero, List.getElem_cons_succ, Act.put, List.setIfInBounds_toArray, List.set_cons_zero, List.set_cons_succ])
            (refine wpAnyH_take (i := 14) (v := ?_) rfl (by kernel_rfl) (by kernel_rfl) (by kernel_rfl) (fun _ _ _ h => h) (Or.inl ⟨by kernel_rfl, fun w0 hSw => ?_⟩) hHeld ?_; rotate_left; (focus ((try dsimp only at hSw); simp only [List.getElem_toArray, List.getElem_cons_zero, List.getElem_cons_succ]; (first | (go_simp; done) | (go_simp; with_reducible rfl)))); (try simp only [List.getElem_toArray, List.getElem_cons_zero, List.getElem_cons_succ, Act.put, List.setIfInBounds_toArray, List.set_cons_zero, List.set_cons_succ]))
            refine wpAnyH_done (by kernel_rfl) ?_ _
            clear hHeld
            have d0 : (w6.alloc (.cells #[.int .i64 vx, .int .i64 vy] 30)).cell? ⟨w6.heap.size, 0, none⟩ = some (.int .i64 vx) := cell_of_row _ _ 0 _ _ _ (heap_alloc_last _ _)
            have d1 : (w6.alloc (.cells #[.int .i64 vx, .int .i64 vy] 30)).cell? ⟨w6.heap.size, 1, none⟩ = some (.int .i64 vy) := cell_of_row _ _ 1 _ _ _ (heap_alloc_last _ _)
            have p2f : (w6.alloc (.cells #[.int .i64 vx, .int .i64 vy] 30)).cell? ⟨g, m * 4 + 2, none⟩ = some (.int .i64 p.a) := cal p2
            have p3f : (w6.alloc (.cells #[.int .i64 vx, .int .i64 vy] 30)).cell? ⟨g, m * 4 + 2 + 1, none⟩ = some (.int .i64 p.b) := cal p3
            have hb6a : Below w5.heap.size w5 (w6.alloc (.cells #[.int .i64 vx, .int .i64 vy] 30)) := hb6'.alloc hb6'.size _
            have HOF : Hid ((w6.alloc (.cells #[.int .i64 vx, .int .i64 vy] 30)).ownsRow w4.heap.size 37 4 (.slice (some ⟨g, 0, none⟩) acc.length c7) acc.length (metCells acc)) := own_below HO5.out hb6a
            have HBF : Hid (Below w4.heap.size w4 (w6.alloc (.cells #[.int .i64 vx, .int .i64 vy] 30))) := HB5.out.trans (hb6a.mono hWz)
            have fzf : ∀ o, (w6.alloc (.cells #[.int .i64 vx, .int .i64 vy] 30)).frozen? ⟨g, o, none⟩ = false := fun o => (hb6a.frozen (p := ⟨g, o, none⟩) hgW5).trans (fz5 o)
            have hzf : w5.heap.size ≤ (w6.alloc (.cells #[.int .i64 vx, .int .i64 vy] 30)).heap.size := hb6a.size
            clear p2 p3 q2 q3 hb6 hb6' hb6a HO5 HB5 k0 k1 k2 k3 l0 l1 l2 l3 fz5 hWz
            generalize hWf : w6.alloc (.cells #[.int .i64 vx, .int .i64 vy] 30) = wf at *
            clear hWf
            have hgf : g < wf.heap.size := Nat.lt_of_lt_of_le hgW5 hzf
            rcases HRES.out with ⟨rfl, hR⟩ | ⟨rfl, hR⟩
            · have HZ := Lib.hid (show addM p x = some (⟨p.n, p.i, vx, vy⟩ : Met) by unfold addM; rw [hR]; rfl)
              have HN := Lib.hid (show contM (pre ++ [(⟨p.n, p.i, vx, vy⟩ : Met)]) (S.drop (k + 1)) = mrg a b ∧ ∀ y ∈ pre ++ [(⟨p.n, p.i, vx, vy⟩ : Met)], ratE y.a y.b = 0 from by
                refine ⟨?_, fun y hy => ?_⟩
                · rw [← HC2.out, HPA.out.1, contM_add pre p x _ _ HCFZ.out HZ.out]
                · rcases List.mem_append.1 hy with h | h
                  · exact HC3.out y (by rw [HPA.out.1]; exact List.mem_append_left _ h)
                  · obtain rfl := List.mem_singleton.1 h
                    exact addR_ok HRP.out HR.out hR)
              have HOZ := Lib.hid (own_put_two (vx := vx) (vy := vy) HPA.out.2 HPA.out.1 HOF.out)
              have HBZ := Lib.hid ((HBF.out.setCell (p := ⟨g, m * 4 + 2, none⟩) hgb (.int .i64 vx)).setCell (p := ⟨g, m * 4 + 2 + 1, none⟩) hgb (.int .i64 vy))
              have HLN := Lib.hid (show (pre ++ [(⟨p.n, p.i, vx, vy⟩ : Met)]).length = acc.length by rw [HPA.out.1]; simp)
              have z0 := fzf (m * 4 + 2)
              have z1 := fzf (m * 4 + 2 + 1)
              clear hR HC2 HC3 HPA HCFZ HRP HR HRES fzf
              go_wp2_with fail
              go_roundw
              case rel => exact ⟨k + 1, pre ++ [(⟨p.n, p.i, vx, vy⟩ : Met)], by omega, by rw [HLN.out]; omega, by go_num, HOZ.out, HBZ.out, HN.out⟩
              case measure => simp [intOf]; omega
            · have HML := Lib.hid (show mergeE a b = 5 by
                rw [HE.out, ← HC2.out, HPA.out.1, contM_bad pre p x _ HCFZ.out (by unfold addM; rw [hR]; rfl)])
              clear hR
              go_wp2_with fail
              refine bodyPost_ret (by (simp [results, Tryz.results8, go_sem, *]; try rfl)) rfl ?_
              exact merge_post_bad HML.out (by decide) (D5.out.trans (HBF.out.mono D5.out.size))
          · simp only [List.getElem_toArray, List.getElem_cons_zero, List.getElem_cons_succ]
            go_simp
            refine hK.out _ _ ⟨cal (w := w5.drew) k2, cal (w := w5.drew) k3, cal (w := w5.drew) l2, cal (w := w5.drew) l3⟩ (fun hHeld => ?_)
            clear hK K
            (try simp only [List.getElem_toArray, List.getElem_cons_zero, List.getElem_cons_succ, Act.put, List.setIfInBounds_toArray, List.set_cons_zero, List.set_cons_succ])
            refine wpAnyH_ready (rs := [8]) (by kernel_rfl) (by simp) ?_
            refine AllReadyH.cons rfl (fun K hK => ?_) AllReadyH.nil
            simp only [List.getElem_toArray, List.getElem_cons_zero, List.getElem_cons_succ]
            go_simp
            refine (HAD.out _).mono ?_
            rintro e w6 ⟨rfl, hb6⟩
            have hb6' : Below w5.heap.size w5 w6 := ((Below.refl _ w5).drew.alloc (Nat.le_refl _) _).trans (hb6.mono (by show w5.heap.size ≤ _; simp))
            have p2 := (hb6'.cell (p := ⟨g, m * 4 + 2, none⟩) hgW5).trans k2
            have p3 := (hb6'.cell (p := ⟨g, m * 4 + 2 + 1, none⟩) hgW5).trans k3
            have q2 := (hb6'.cell (p := ⟨wq.heap.size, 2, none⟩) hlt5).trans l2
            have q3 := (hb6'.cell (p := ⟨wq.heap.size, 2 + 1, none⟩) hlt5).trans l3
            have e0 : w6.cell? ⟨w5.heap.size, 0, none⟩ = some (.int .i64 0) := (hb6.cell (p := ⟨w5.heap.size, 0, none⟩) (by simp)).trans (c_box w5.drew 0).1
            have e1 : w6.cell? ⟨w5.heap.size, 1, none⟩ = some (.int .i64 0) := (hb6.cell (p := ⟨w5.heap.size, 1, none⟩) (by simp)).trans (c_box w5.drew 0).2
            have ez0 : w6.frozen? ⟨w5.heap.size, 0, none⟩ = false := (hb6.frozen (p := ⟨w5.heap.size, 0, none⟩) (by simp)).trans (f_box w5.drew 0)
            have ez1 : w6.frozen? ⟨w5.heap.size, 1, none⟩ = false := (hb6.frozen (p := ⟨w5.heap.size, 1, none⟩) (by simp)).trans (f_box w5.drew 1)
            refine hK.out _ _ ⟨p2, p3, q2, q3⟩ (fun hHeld => ?_)
            clear hK K
            (try simp only [List.getElem_toArray, List.getElem_cons_zero, List.getElem_cons_succ, Act.put, List.setIfInBounds_toArray, List.set_cons_zero, List.set_cons_succ])
            (refine wpAnyH_take (i := 9) (v := ?_) rfl (by kernel_rfl) (by kernel_rfl) (by kernel_rfl) (fun _ _ _ h => h) (Or.inl ⟨by kernel_rfl, fun w0 hSw => ?_⟩) hHeld ?_; rotate_left; (focus ((try dsimp only at hSw); simp only [List.getElem_toArray, List.getElem_cons_zero, List.getElem_cons_succ]; (first | (go_simp; done) | (go_simp; with_reducible rfl)))); (try simp only [List.getElem_toArray, List.getElem_cons_zero, List.getElem_cons_succ, Act.put, List.setIfInBounds_toArray, List.set_cons_zero, List.set_cons_succ]))
            (refine wpAnyH_take (i := 10) (v := ?_) rfl (by kernel_rfl) (by kernel_rfl) (by kernel_rfl) (fun _ _ _ h => h) (Or.inl ⟨by kernel_rfl, fun w0 hSw => ?_⟩) hHeld ?_; rotate_left; (focus ((try dsimp only at hSw); simp only [List.getElem_toArray, List.getElem_cons_zero, List.getElem_cons_succ]; (first | (go_simp; done) | (go_simp; with_reducible rfl)))); (try simp only [List.getElem_toArray, List.getElem_cons_zero, List.getElem_cons_succ, Act.put, List.setIfInBounds_toArray, List.set_cons_zero, List.set_cons_succ]))
            (refine wpAnyH_take (i := 11) (v := ?_) rfl (by kernel_rfl) (by kernel_rfl) (by kernel_rfl) (fun _ _ _ h => h) (Or.inl ⟨by kernel_rfl, fun w0 hSw => ?_⟩) hHeld ?_; rotate_left; (focus ((try dsimp only at hSw); simp only [List.getElem_toArray, List.getElem_cons_zero, List.getElem_cons_succ]; (first | (go_simp; done) | (go_simp; with_reducible rfl)))); (try simp only [List.getElem_toArray, List.getElem_cons_zero, List.getElem_cons_succ, Act.put, List.setIfInBounds_toArray, List.set_cons_zero, List.set_cons_succ]))
            refine wpAnyH_ready (rs := [13]) (by kernel_rfl) (by simp) ?_
            refine AllReadyH.cons rfl (fun K hK => ?_) AllReadyH.nil
            simp only [List.getElem_toArray, List.getElem_cons_zero, List.getElem_cons_succ]
            go_simp
            have p2f : ((w6.setCell ⟨w5.heap.size, 0, none⟩ (.int .i64 vx)).setCell ⟨w5.heap.size, 1, none⟩ (.int .i64 vy)).cell? ⟨g, m * 4 + 2, none⟩ = some (.int .i64 p.a) := two_other (by omega) p2 _ _
            have p3f : ((w6.setCell ⟨w5.heap.size, 0, none⟩ (.int .i64 vx)).setCell ⟨w5.heap.size, 1, none⟩ (.int .i64 vy)).cell? ⟨g, m * 4 + 2 + 1, none⟩ = some (.int .i64 p.b) := two_other (by omega) p3 _ _
            have hqn : wq.heap.size ≠ w5.heap.size := by omega
            refine hK.out _ _ ⟨p2f, p3f, two_other hqn q2 _ _, two_other hqn q3 _ _⟩ (fun hHeld => ?_)
            clear hK K
            (try simp only [List.getElem_toArray, List.getElem_cons_zero, List.getElem_cons_succ, Act.put, List.setIfInBounds_toArray, List.set_cons_zero, List.set_cons_succ])
            (refine wpAnyH_take (i := 14) (v := ?_) rfl (by kernel_rfl) (by kernel_rfl) (by kernel_rfl) (fun _ _ _ h => h) (Or.inl ⟨by kernel_rfl, fun w0 hSw => ?_⟩) hHeld ?_; rotate_left; (focus ((try dsimp only at hSw); simp only [List.getElem_toArray, List.getElem_cons_zero, List.getElem_cons_succ]; (first | (go_simp; done) | (go_simp; with_reducible rfl)))); (try simp only [List.getElem_toArray, List.getElem_cons_zero, List.getElem_cons_succ, Act.put, List.setIfInBounds_toArray, List.set_cons_zero, List.set_cons_succ]))
            refine wpAnyH_done (by kernel_rfl) ?_ _
            clear hHeld
            obtain ⟨d0, d1⟩ := two_cells e0 e1 (.int .i64 vx) (.int .i64 vy)
            have hb6a : Below w5.heap.size w5 ((w6.setCell ⟨w5.heap.size, 0, none⟩ (.int .i64 vx)).setCell ⟨w5.heap.size, 1, none⟩ (.int .i64 vy)) := below_two hb6' (Nat.le_refl _) _ _
            have HOF : Hid (((w6.setCell ⟨w5.heap.size, 0, none⟩ (.int .i64 vx)).setCell ⟨w5.heap.size, 1, none⟩ (.int .i64 vy)).ownsRow w4.heap.size 37 4 (.slice (some ⟨g, 0, none⟩) acc.length c7) acc.length (metCells acc)) := own_below HO5.out hb6a
            have HBF : Hid (Below w4.heap.size w4 ((w6.setCell ⟨w5.heap.size, 0, none⟩ (.int .i64 vx)).setCell ⟨w5.heap.size, 1, none⟩ (.int .i64 vy))) := HB5.out.trans (hb6a.mono hWz)
            have fzf : ∀ o, ((w6.setCell ⟨w5.heap.size, 0, none⟩ (.int .i64 vx)).setCell ⟨w5.heap.size, 1, none⟩ (.int .i64 vy)).frozen? ⟨g, o, none⟩ = false := fun o => (hb6a.frozen (p := ⟨g, o, none⟩) hgW5).trans (fz5 o)
            have hzf : w5.heap.size ≤ ((w6.setCell ⟨w5.heap.size, 0, none⟩ (.int .i64 vx)).setCell ⟨w5.heap.size, 1, none⟩ (.int .i64 vy)).heap.size := hb6a.size
            clear p2 p3 q2 q3 hb6 hb6' hb6a HO5 HB5 k0 k1 k2 k3 l0 l1 l2 l3 fz5 hWz e0 e1 ez0 ez1 hqn
            generalize hWf : (w6.setCell ⟨w5.heap.size, 0, none⟩ (.int .i64 vx)).setCell ⟨w5.heap.size, 1, none⟩ (.int .i64 vy) = wf at *
            clear hWf
            have hgf : g < wf.heap.size := Nat.lt_of_lt_of_le hgW5 hzf
            rcases HRES.out with ⟨rfl, hR⟩ | ⟨rfl, hR⟩
            · have HZ := Lib.hid (show addM p x = some (⟨p.n, p.i, vx, vy⟩ : Met) by unfold addM; rw [hR]; rfl)
              have HN := Lib.hid (show contM (pre ++ [(⟨p.n, p.i, vx, vy⟩ : Met)]) (S.drop (k + 1)) = mrg a b ∧ ∀ y ∈ pre ++ [(⟨p.n, p.i, vx, vy⟩ : Met)], ratE y.a y.b = 0 from by
                refine ⟨?_, fun y hy => ?_⟩
                · rw [← HC2.out, HPA.out.1, contM_add pre p x _ _ HCFZ.out HZ.out]
                · rcases List.mem_append.1 hy with h | h
                  · exact HC3.out y (by rw [HPA.out.1]; exact List.mem_append_left _ h)
                  · obtain rfl := List.mem_singleton.1 h
                    exact addR_ok HRP.out HR.out hR)
              have HOZ := Lib.hid (own_put_two (vx := vx) (vy := vy) HPA.out.2 HPA.out.1 HOF.out)
              have HBZ := Lib.hid ((HBF.out.setCell (p := ⟨g, m * 4 + 2, none⟩) hgb (.int .i64 vx)).setCell (p := ⟨g, m * 4 + 2 + 1, none⟩) hgb (.int .i64 vy))
              have HLN := Lib.hid (show (pre ++ [(⟨p.n, p.i, vx, vy⟩ : Met)]).length = acc.length by rw [HPA.out.1]; simp)
              have z0 := fzf (m * 4 + 2)
              have z1 := fzf (m * 4 + 2 + 1)
              clear hR HC2 HC3 HPA HCFZ HRP HR HRES fzf
              go_wp2_with fail
              go_roundw
              case rel => exact ⟨k + 1, pre ++ [(⟨p.n, p.i, vx, vy⟩ : Met)], by omega, by rw [HLN.out]; omega, by go_num, HOZ.out, HBZ.out, HN.out⟩
              case measure => simp [intOf]; omega
            · have HML := Lib.hid (show mergeE a b = 5 by
                rw [HE.out, ← HC2.out, HPA.out.1, contM_bad pre p x _ HCFZ.out (by unfold addM; rw [hR]; rfl)])
              clear hR
              go_wp2_with fail
              refine bodyPost_ret (by (simp [results, Tryz.results8, go_sem, *]; try rfl)) rfl ?_
              exact merge_post_bad HML.out (by decide) (D5.out.trans (HBF.out.mono D5.out.size))
        · have hcb : (cm != 0) = true := by simp; exact hc
          have HN := Lib.hid (show contM (acc ++ [x]) (S.drop (k + 1)) = mrg a b ∧ ∀ y ∈ acc ++ [x], ratE y.a y.b = 0 from by
            refine ⟨?_, fun y hy => ?_⟩
            · rw [← HC2.out, HPA.out.1, contM_next pre p x _ (by rw [← HCF.out]; exact hc)]
            · rcases List.mem_append.1 hy with h | h
              · exact HC3.out y h
              · obtain rfl : y = x := by simpa using h
                exact HR.out)
          (refine wpAnyH_take (i := 10) (v := ?_) rfl (by kernel_rfl) (by kernel_rfl) (by kernel_rfl) (fun _ _ _ h => h) (Or.inl ⟨by kernel_rfl, fun w0 hSw => ?_⟩) hHeld ?_; rotate_left; (focus ((try dsimp only at hSw); simp only [List.getElem_toArray, List.getElem_cons_zero, List.getElem_cons_succ]; (first | (go_simp; done) | (go_simp; with_reducible rfl)))); (try simp only [List.getElem_toArray, List.getElem_cons_zero, List.getElem_cons_succ, Act.put, List.setIfInBounds_toArray, List.set_cons_zero, List.set_cons_succ]))
          (refine wpAnyH_take (i := 11) (v := ?_) rfl (by kernel_rfl) (by kernel_rfl) (by kernel_rfl) (fun _ _ _ h => h) (Or.inl ⟨by kernel_rfl, fun w0 hSw => ?_⟩) hHeld ?_; rotate_left; (focus ((try dsimp only at hSw); simp only [List.getElem_toArray, List.getElem_cons_zero, List.getElem_cons_succ]; (first | (go_simp; done) | (go_simp; with_reducible rfl)))); (try simp only [List.getElem_toArray, List.getElem_cons_zero, List.getElem_cons_succ, Act.put, List.setIfInBounds_toArray, List.set_cons_zero, List.set_cons_succ]))
          refine wpAnyH_done (by kernel_rfl) ?_ _
          clear hHeld hfz fz5 HRP HPA HC2 HC3 k0 k1 k2 k3 hcb hc
          go_wp2_with (at_builtin; refine app_met (w5) rfl (.tmp 47) (.tmp 49) rfl w4.heap.size _ acc x ?q2_1 ?q2_2 HO5.out (by omega) hWz ?_)
          case q2_1 => rfl
          case q2_2 => rfl
          intro g6 c6 w6 ho6 hg6 hb6 _
          have HO6 : Hid (w6.ownsRow w4.heap.size 37 4 (.slice (some ⟨g6, 0, none⟩) (acc.length + 1) c6) (acc.length + 1) (metCells (acc ++ [x]))) := ho6
          have HB6 := Lib.hid ((HB5.out).trans hb6)
          clear ho6 hg6 hb6
          go_wp2_with fail
          go_roundw
          case rel => exact ⟨k + 1, acc ++ [x], by omega, by simp; omega, by go_num, (by show World.ownsRow _ _ _ _ _ (acc ++ [x]).length _; rw [List.length_append]; exact HO6.out), HB6.out, HN.out⟩
          case measure => simp [intOf]; omega
    · have hke : k = S.length := by omega
      have HCC := Lib.hid (show mrg a b = some acc by have h := HC.out.1; rw [hke, List.drop_length, contM_end] at h; exact h.symm)
      have hkz : ¬ (k : Int) < (S.length : Int) := by omega
      clear hke
      by_cases hlim : (acc.length : Int) > 1000
      · have hml : mergeE a b = 4 := by rw [HE.out, HCC.out]; exact if_pos (by omega)
        have HML := Lib.hid hml
        clear hml
        go_wp2_with fail
        refine bodyPost_ret (by (simp [results, Tryz.results8, go_sem, *]; try rfl)) rfl ?_
        exact merge_post_bad HML.out (by decide) (D5.out.trans (HBq.out.mono D5.out.size))
      · have hml : mergeE a b = 0 := by rw [HE.out, HCC.out]; exact if_neg (by omega)
        have HML := Lib.hid hml
        clear hml
        go_wp2_with fail
        refine bodyPost_ret (by (simp [results, Tryz.results8, go_sem, *]; try rfl)) rfl ?_
        refine ⟨_, by rw [HML.out], ?_, D5.out.trans (HBq.out.mono D5.out.size)⟩
        rw [mergeL, HML.out, HCC.out]
        exact mets_of_own HO.out
theorem merge_any (a b : List Met) (V U : Value) (w : World) (ha : Mets w w.heap.size V a) (hb : Mets w w.heap.size U b) : Calls Tryz.prog 8 #[V, U] w (MergePost a b w) := by
  by_cases h1 : chkE a = 0
  · by_cases h2 : chkE b = 0
    · exact merge_ok a b V U w ha hb h1 h2
    · exact merge_bad a b V U w ha hb (.inr h2)
  · exact merge_bad a b V U w ha hb (.inl h1)
end Go.Proofs.YtpcbccpobhdokaaGreatDoor

/- The reference's Print of metrics (11). -/
import Derived.Test.YtpcbccpobhdokaaGreatDoorB6
import Derived.Test.YtpcbccpobhdokaaGreatDoorB4
import Derived.Test.YtpcbccpobhdokaaGreatDoorE6
set_option linter.unusedSimpArgs false
set_option linter.unusedVariables false
set_option linter.all false
namespace Go.Proofs.YtpcbccpobhdokaaGreatDoor
open Go.RowKit
theorem fin_str (L : List UInt8) (x a b c d e : ByteArray) : (ByteArray.mk L.toArray ++ x ++ a ++ b ++ c ++ d ++ e) = ⟨(L ++ (x ++ a ++ b ++ c ++ d ++ e).data.toList).toArray⟩ := by
  rw [← ByteArray.mk_append_mk, ← mk_data]
  simp only [ByteArray.append_assoc]
theorem rprint_bad (l : List Met) (V : Value) (w : World) (h : Mets w w.heap.size V l) (hE : chkE l ≠ 0) : Calls Tryz.prog 11 #[V] w fun e w' => e = .returned (.tuple #[.string ⟨#[]⟩, .int .i64 1]) ∧ Below w.heap.size w w' := by
  have hck := fun W (hW : Mets W W.heap.size V l) => rcheckM_any l V W hW
  have hE2 : (chkE l != 0) = true := by simpa using hE
  generalize chkE l = ce at *
  go_enter Tryz.func11, Tryz.ntmps11
  go_wp2_with (go_at_call 15; refine (hck _ h).mono ?_; rintro e w1 ⟨rfl, hb1⟩; clear hck)
  refine bodyPost_ret (by (simp [results, Tryz.results11, go_sem, *]; try rfl)) rfl ?_
  exact ⟨rfl, hb1⟩
set_option maxRecDepth 100000 in
set_option maxHeartbeats 4000000 in
theorem rprint_ok (l : List Met) (V : Value) (w : World) (h : Mets w w.heap.size V l) (hE : chkE l = 0) : Calls Tryz.prog 11 #[V] w fun e w' => e = .returned (.tuple #[.string ⟨(catL l).toArray⟩, .int .i64 0]) ∧ Below w.heap.size w w' := by
  have hck := fun W (hW : Mets W W.heap.size V l) => rcheckM_any l V W hW
  rw [hE] at hck
  have HM := Lib.hid (fun k hk => metE_ok (chk_get (k := k) hE hk))
  have hlen := chk_len hE
  have HA := Lib.hid (show catK l l.length = catL l by rw [catK, List.take_length])
  have HS := Lib.hid (catK_succ l)
  clear hE
  have hv0 := h
  obtain ⟨A, c, rfl, h1, h2, h3⟩ := h
  have H3 := Lib.hid h3
  clear h3
  unfold maxLen at h2
  go_enter Tryz.func11, Tryz.ntmps11
  go_wp2_with (go_at_call 15; refine (hck _ hv0).mono ?_; rintro e w1 ⟨rfl, hb1⟩; clear hck)
  clear hv0
  go_loopw [4, 5] (fun s i wr => ∃ k : Nat, k ≤ l.length ∧ i = .int .i64 k ∧ s = .string ⟨(catK l k).toArray⟩ ∧ Below w.heap.size w wr ∧ (catK l k).length ≤ 91 * k) (fun _ i _ => l.length - (intOf i).toNat)
  case atStart => exact ⟨0, Nat.zero_le _, rfl, by simp [catK, catL], hb1, by simp [catK, catL]⟩
  case round =>
    obtain ⟨k, hk, rfl, rfl, br, hle⟩ := hrel
    rename World => wq
    have hzr := br.size
    by_cases hkt : k < l.length
    · obtain ⟨B, o, rfl, hBl, hc⟩ := H3.out (by omega)
      have hx := hc k hkt
      have hm := HM.out k hkt
      have hst := HS.out k hkt
      generalize hxe : l.getD k mz = x at *
      clear hxe
      obtain ⟨g0, g1, g2, g3⟩ := hx
      have ec : ∀ q, wq.cell? ⟨B, q, none⟩ = w.cell? ⟨B, q, none⟩ := fun q => br.cell (p := ⟨B, q, none⟩) hBl
      have c0 := (ec _).trans g0
      have c1 := (ec _).trans g1
      have c2 := (ec _).trans g2
      have c3 := (ec _).trans g3
      obtain ⟨s1, s2, s3, s4⟩ := hm.bounds
      have hpr := fun W => rp04_any x.a x.b hm.2.2.2 W
      obtain ⟨I, hI⟩ : ∃ I : Nat, x.i = (I : Int) := ⟨x.i.toNat, by have := hm.2.1; omega⟩
      have hit := fun W => decimal_any I (by have := hm.2.2.1; omega) W
      rw [← hI] at hit
      have hlb : lineL x = (x.n ++ ⟨#[32]⟩ ++ itoaS x.i ++ ⟨#[32]⟩ ++ ratS x.a x.b ++ ⟨#[10]⟩).data.toList := rfl
      have hfin := fin_str (catK l k) x.n ⟨#[32]⟩ (itoaS x.i) ⟨#[32]⟩ (ratS x.a x.b) ⟨#[10]⟩
      rw [← hlb, ← hst] at hfin
      have hlen2 : (catK l (k + 1)).length ≤ 91 * (k + 1) := by rw [hst, List.length_append]; omega
      have hsz : (ByteArray.mk (catK l k).toArray).size ≤ 91 * k := by rw [mk_size]; exact hle
      generalize ByteArray.mk (catK l k).toArray = s at *
      obtain ⟨s', hs'⟩ : ∃ s', ByteArray.mk (catK l (k + 1)).toArray = s' := ⟨_, rfl⟩
      rw [hs'] at hfin
      have HSE := Lib.hid hs'
      clear hs'
      generalize itoaS x.i = ti at *
      generalize ratS x.a x.b = tr at *
      have e1 : (⟨#[32]⟩ : ByteArray).size = 1 := rfl
      have e2 : (⟨#[10]⟩ : ByteArray).size = 1 := rfl
      have q0 : ¬ 9223372036854775807 < s.size + x.n.size := by omega
      have q1 : ¬ 9223372036854775807 < s.size + x.n.size + 1 := by omega
      have q2 : ¬ 9223372036854775807 < s.size + x.n.size + 1 + ti.size := by omega
      have q3 : ¬ 9223372036854775807 < s.size + x.n.size + 1 + ti.size + 1 := by omega
      have q4 : ¬ 9223372036854775807 < s.size + x.n.size + 1 + ti.size + 1 + tr.size := by omega
      have q5 : ¬ 9223372036854775807 < s.size + x.n.size + 1 + ti.size + 1 + tr.size + 1 := by omega
      have hkz : (k : Int) < (l.length : Int) := by omega
      have HPR := Lib.hid hpr
      have HIT := Lib.hid hit
      have HF := Lib.hid hfin
      clear hc g0 g1 g2 g3 ec hm hpr hit hlb hst s1 s2 s3 hfin hI
      go_upto_region 7 with fail
      go_wp2_with (go_at_call 32; refine (HPR.out _).mono ?_; rintro e w3 ⟨rfl, hb3⟩)
      have hB3 := br.trans (hb3.mono hzr)
      have hl3 : B < w3.heap.size := by have := hb3.size; omega
      have d0 := (hb3.cell (p := ⟨B, o + k * 4, none⟩) (by show B < _; omega)).trans c0
      have d1 := (hb3.cell (p := ⟨B, o + k * 4 + 1, none⟩) (by show B < _; omega)).trans c1
      clear c0 c1 c2 c3 hb3 HPR
      refine wp_region_held_drew (S := fun w' => w'.cell? ⟨B, o + k * 4, none⟩ = some (.string x.n) ∧ w'.cell? ⟨B, o + k * 4 + 1, none⟩ = some (.int .i64 x.i)) (by kernel_rfl) ⟨d0, d1⟩ (fun hHeld => ?_)
      have hBd : Below w.heap.size w w3.drew := hB3.drew
      have f0 : w3.drew.cell? ⟨B, o + k * 4, none⟩ = some (.string x.n) := d0
      have f1 : w3.drew.cell? ⟨B, o + k * 4 + 1, none⟩ = some (.int .i64 x.i) := d1
      have hld : B < w3.drew.heap.size := hl3
      generalize w3.drew = wd at *
      clear d0 d1
      (refine wpAnyH_take (i := 0) (v := ?_) rfl (by kernel_rfl) (by kernel_rfl) (by kernel_rfl) (fun _ _ _ h => h) (Or.inl ⟨by kernel_rfl, fun w0 hSw => ?_⟩) hHeld ?_; rotate_left; (focus ((try dsimp only at hSw); simp only [List.getElem_toArray, List.getElem_cons_zero, List.getElem_cons_succ]; (first | (go_simp; done) | (go_simp; with_reducible rfl)))); (try simp only [List.getElem_toArray, List.getElem_cons_zero, List.getElem_cons_succ, Act.put, List.setIfInBounds_toArray, List.set_cons_zero, List.set_cons_succ]))
      (refine wpAnyH_take (i := 1) (v := ?_) rfl (by kernel_rfl) (by kernel_rfl) (by kernel_rfl) (fun _ _ _ h => h) (Or.inl ⟨by kernel_rfl, fun w0 hSw => ?_⟩) hHeld ?_; rotate_left; (focus ((try dsimp only at hSw); simp only [List.getElem_toArray, List.getElem_cons_zero, List.getElem_cons_succ]; (first | (go_simp; done) | (go_simp; with_reducible rfl)))); (try simp only [List.getElem_toArray, List.getElem_cons_zero, List.getElem_cons_succ, Act.put, List.setIfInBounds_toArray, List.set_cons_zero, List.set_cons_succ]))
      (refine wpAnyH_take (i := 2) (v := ?_) rfl (by kernel_rfl) (by kernel_rfl) (by kernel_rfl) (fun _ _ _ h => h) (Or.inl ⟨by kernel_rfl, fun w0 hSw => ?_⟩) hHeld ?_; rotate_left; (focus ((try dsimp only at hSw); simp only [List.getElem_toArray, List.getElem_cons_zero, List.getElem_cons_succ]; (first | (go_simp; done) | (go_simp; with_reducible rfl)))); (try simp only [List.getElem_toArray, List.getElem_cons_zero, List.getElem_cons_succ, Act.put, List.setIfInBounds_toArray, List.set_cons_zero, List.set_cons_succ]))
      (refine wpAnyH_take (i := 3) (v := ?_) rfl (by kernel_rfl) (by kernel_rfl) (by kernel_rfl) (fun _ _ _ h => h) (Or.inl ⟨by kernel_rfl, fun w0 hSw => ?_⟩) hHeld ?_; rotate_left; (focus ((try dsimp only at hSw); simp only [List.getElem_toArray, List.getElem_cons_zero, List.getElem_cons_succ]; (first | (go_simp; done) | (go_simp; with_reducible rfl)))); (try simp only [List.getElem_toArray, List.getElem_cons_zero, List.getElem_cons_succ, Act.put, List.setIfInBounds_toArray, List.set_cons_zero, List.set_cons_succ]))
      (refine wpAnyH_take (i := 4) (v := ?_) rfl (by kernel_rfl) (by kernel_rfl) (by kernel_rfl) (fun _ _ _ h => h) (Or.inl ⟨by kernel_rfl, fun w0 hSw => ?_⟩) hHeld ?_; rotate_left; (focus ((try dsimp only at hSw); simp only [List.getElem_toArray, List.getElem_cons_zero, List.getElem_cons_succ]; (first | (go_simp; done) | (go_simp; with_reducible rfl)))); (try simp only [List.getElem_toArray, List.getElem_cons_zero, List.getElem_cons_succ, Act.put, List.setIfInBounds_toArray, List.set_cons_zero, List.set_cons_succ]))
      (refine wpAnyH_take (i := 5) (v := ?_) rfl (by kernel_rfl) (by kernel_rfl) (by kernel_rfl) (fun _ _ _ h => h) (Or.inl ⟨by kernel_rfl, fun w0 hSw => ?_⟩) hHeld ?_; rotate_left; (focus ((try dsimp only at hSw); simp only [List.getElem_toArray, List.getElem_cons_zero, List.getElem_cons_succ]; (first | (go_simp; done) | (go_simp; with_reducible rfl)))); (try simp only [List.getElem_toArray, List.getElem_cons_zero, List.getElem_cons_succ, Act.put, List.setIfInBounds_toArray, List.set_cons_zero, List.set_cons_succ]))
      (refine wpAnyH_take (i := 6) (v := ?_) rfl (by kernel_rfl) (by kernel_rfl) (by kernel_rfl) (fun _ _ _ h => h) (Or.inl ⟨by kernel_rfl, fun w0 hSw => ?_⟩) hHeld ?_; rotate_left; (focus ((try dsimp only at hSw); simp only [List.getElem_toArray, List.getElem_cons_zero, List.getElem_cons_succ]; (first | (go_simp; done) | (go_simp; with_reducible rfl)))); (try simp only [List.getElem_toArray, List.getElem_cons_zero, List.getElem_cons_succ, Act.put, List.setIfInBounds_toArray, List.set_cons_zero, List.set_cons_succ]))
      (refine wpAnyH_take (i := 7) (v := ?_) rfl (by kernel_rfl) (by kernel_rfl) (by kernel_rfl) (fun _ _ _ h => h) (Or.inl ⟨by kernel_rfl, fun w0 hSw => ?_⟩) hHeld ?_; rotate_left; (focus ((try dsimp only at hSw); simp only [List.getElem_toArray, List.getElem_cons_zero, List.getElem_cons_succ]; (first | (go_simp; done) | (go_simp; with_reducible rfl)))); (try simp only [List.getElem_toArray, List.getElem_cons_zero, List.getElem_cons_succ, Act.put, List.setIfInBounds_toArray, List.set_cons_zero, List.set_cons_succ]))
      (refine wpAnyH_take (i := 8) (v := ?_) rfl (by kernel_rfl) (by kernel_rfl) (by kernel_rfl) (fun _ _ _ h => h) (Or.inl ⟨by kernel_rfl, fun w0 hSw => ?_⟩) hHeld ?_; rotate_left; (focus ((try dsimp only at hSw); simp only [List.getElem_toArray, List.getElem_cons_zero, List.getElem_cons_succ]; (first | (go_simp; done) | (go_simp; with_reducible rfl)))); (try simp only [List.getElem_toArray, List.getElem_cons_zero, List.getElem_cons_succ, Act.put, List.setIfInBounds_toArray, List.set_cons_zero, List.set_cons_succ]))
      (refine wpAnyH_take (i := 9) (v := ?_) rfl (by kernel_rfl) (by kernel_rfl) (by kernel_rfl) (fun _ _ _ h => h) (Or.inl ⟨by kernel_rfl, fun w0 hSw => ?_⟩) hHeld ?_; rotate_left; (focus ((try dsimp only at hSw); simp only [List.getElem_toArray, List.getElem_cons_zero, List.getElem_cons_succ]; (first | (go_simp; done) | (go_simp; with_reducible rfl)))); (try simp only [List.getElem_toArray, List.getElem_cons_zero, List.getElem_cons_succ, Act.put, List.setIfInBounds_toArray, List.set_cons_zero, List.set_cons_succ]))
      (refine wpAnyH_take (i := 10) (v := ?_) rfl (by kernel_rfl) (by kernel_rfl) (by kernel_rfl) (fun _ _ _ h => h) (Or.inl ⟨by kernel_rfl, fun w0 hSw => ?_⟩) hHeld ?_; rotate_left; (focus ((try dsimp only at hSw); simp only [List.getElem_toArray, List.getElem_cons_zero, List.getElem_cons_succ]; (first | (go_simp; done) | (go_simp; with_reducible rfl)))); (try simp only [List.getElem_toArray, List.getElem_cons_zero, List.getElem_cons_succ, Act.put, List.setIfInBounds_toArray, List.set_cons_zero, List.set_cons_succ]))
      (refine wpAnyH_take (i := 11) (v := ?_) rfl (by kernel_rfl) (by kernel_rfl) (by kernel_rfl) (fun _ _ _ h => h) (Or.inl ⟨by kernel_rfl, fun w0 hSw => ?_⟩) hHeld ?_; rotate_left; (focus ((try dsimp only at hSw); simp only [List.getElem_toArray, List.getElem_cons_zero, List.getElem_cons_succ]; (first | (go_simp; done) | (go_simp; with_reducible rfl)))); (try simp only [List.getElem_toArray, List.getElem_cons_zero, List.getElem_cons_succ, Act.put, List.setIfInBounds_toArray, List.set_cons_zero, List.set_cons_succ]))
      (refine wpAnyH_take (i := 12) (v := ?_) rfl (by kernel_rfl) (by kernel_rfl) (by kernel_rfl) (fun _ _ _ h => h) (Or.inl ⟨by kernel_rfl, fun w0 hSw => ?_⟩) hHeld ?_; rotate_left; (focus ((try dsimp only at hSw); simp only [List.getElem_toArray, List.getElem_cons_zero, List.getElem_cons_succ]; (first | (go_simp; done) | (go_simp; with_reducible rfl)))); (try simp only [List.getElem_toArray, List.getElem_cons_zero, List.getElem_cons_succ, Act.put, List.setIfInBounds_toArray, List.set_cons_zero, List.set_cons_succ]))
      (refine wpAnyH_take (i := 16) (v := ?_) rfl (by kernel_rfl) (by kernel_rfl) (by kernel_rfl) (fun _ _ _ h => h) (Or.inl ⟨by kernel_rfl, fun w0 hSw => ?_⟩) hHeld ?_; rotate_left; (focus ((try dsimp only at hSw); simp only [List.getElem_toArray, List.getElem_cons_zero, List.getElem_cons_succ]; (first | (go_simp; done) | (go_simp; with_reducible rfl)))); (try simp only [List.getElem_toArray, List.getElem_cons_zero, List.getElem_cons_succ, Act.put, List.setIfInBounds_toArray, List.set_cons_zero, List.set_cons_succ]))
      refine wpAnyH_ready (rs := [13]) (by kernel_rfl) (by simp) ?_
      refine AllReadyH.cons rfl (fun K hK => ?_) AllReadyH.nil
      simp only [List.getElem_toArray, List.getElem_cons_zero, List.getElem_cons_succ]
      go_simp
      refine (HIT.out _).mono ?_
      rintro e w4 ⟨rfl, hb4⟩
      have hB4 := hBd.trans (hb4.mono hBd.size)
      have k0 := (hb4.cell (p := ⟨B, o + k * 4, none⟩) hld).trans f0
      have k1 := (hb4.cell (p := ⟨B, o + k * 4 + 1, none⟩) hld).trans f1
      refine hK.out _ _ ⟨k0, k1⟩ (fun hH2 => ?_)
      clear hK K hHeld
      have hHeld := hH2
      clear hH2
      (try simp only [List.getElem_toArray, List.getElem_cons_zero, List.getElem_cons_succ, Act.put, List.setIfInBounds_toArray, List.set_cons_zero, List.set_cons_succ])
      (refine wpAnyH_take (i := 14) (v := ?_) rfl (by kernel_rfl) (by kernel_rfl) (by kernel_rfl) (fun _ _ _ h => h) (Or.inl ⟨by kernel_rfl, fun w0 hSw => ?_⟩) hHeld ?_; rotate_left; (focus ((try dsimp only at hSw); simp only [List.getElem_toArray, List.getElem_cons_zero, List.getElem_cons_succ]; (first | (go_simp; done) | (go_simp; with_reducible rfl)))); (try simp only [List.getElem_toArray, List.getElem_cons_zero, List.getElem_cons_succ, Act.put, List.setIfInBounds_toArray, List.set_cons_zero, List.set_cons_succ]))
      (refine wpAnyH_take (i := 15) (v := ?_) rfl (by kernel_rfl) (by kernel_rfl) (by kernel_rfl) (fun _ _ _ h => h) (Or.inl ⟨by kernel_rfl, fun w0 hSw => ?_⟩) hHeld ?_; rotate_left; (focus ((try dsimp only at hSw); simp only [List.getElem_toArray, List.getElem_cons_zero, List.getElem_cons_succ]; (first | (go_simp; done) | (go_simp; with_reducible rfl)))); (try simp only [List.getElem_toArray, List.getElem_cons_zero, List.getElem_cons_succ, Act.put, List.setIfInBounds_toArray, List.set_cons_zero, List.set_cons_succ]))
      (refine wpAnyH_take (i := 17) (v := ?_) rfl (by kernel_rfl) (by kernel_rfl) (by kernel_rfl) (fun _ _ _ h => h) (Or.inl ⟨by kernel_rfl, fun w0 hSw => ?_⟩) hHeld ?_; rotate_left; (focus ((try dsimp only at hSw); simp only [List.getElem_toArray, List.getElem_cons_zero, List.getElem_cons_succ]; (first | (go_simp; done) | (go_simp; with_reducible rfl)))); (try simp only [List.getElem_toArray, List.getElem_cons_zero, List.getElem_cons_succ, Act.put, List.setIfInBounds_toArray, List.set_cons_zero, List.set_cons_succ]))
      (refine wpAnyH_take (i := 18) (v := ?_) rfl (by kernel_rfl) (by kernel_rfl) (by kernel_rfl) (fun _ _ _ h => h) (Or.inl ⟨by kernel_rfl, fun w0 hSw => ?_⟩) hHeld ?_; rotate_left; (focus ((try dsimp only at hSw); simp only [List.getElem_toArray, List.getElem_cons_zero, List.getElem_cons_succ]; (first | (go_simp; done) | (go_simp; with_reducible rfl)))); (try simp only [List.getElem_toArray, List.getElem_cons_zero, List.getElem_cons_succ, Act.put, List.setIfInBounds_toArray, List.set_cons_zero, List.set_cons_succ]))
      (refine wpAnyH_take (i := 19) (v := ?_) rfl (by kernel_rfl) (by kernel_rfl) (by kernel_rfl) (fun _ _ _ h => h) (Or.inl ⟨by kernel_rfl, fun w0 hSw => ?_⟩) hHeld ?_; rotate_left; (focus ((try dsimp only at hSw); simp only [List.getElem_toArray, List.getElem_cons_zero, List.getElem_cons_succ]; (first | (go_simp; done) | (go_simp; with_reducible rfl)))); (try simp only [List.getElem_toArray, List.getElem_cons_zero, List.getElem_cons_succ, Act.put, List.setIfInBounds_toArray, List.set_cons_zero, List.set_cons_succ]))
      refine wpAnyH_done (by kernel_rfl) ?_ _
      clear q0 q1 q2 q3 q4 q5 f0 f1 k0 k1
      go_wp2_with fail
      go_roundw
      case rel => exact ⟨k + 1, by omega, by go_num, by rw [HF.out, HSE.out], hB4, hlen2⟩
      case measure => simp [intOf]; omega
    · obtain rfl : k = l.length := by omega
      rw [HA.out] at hle ⊢
      go_wp2_with fail
      refine bodyPost_ret (by (simp [results, Tryz.results11, go_sem, *]; try rfl)) rfl ?_
      exact ⟨rfl, br⟩
theorem rprintM_any (l : List Met) (V : Value) (w : World) (h : Mets w w.heap.size V l) : Calls Tryz.prog 11 #[V] w fun e w' => e = .returned (.tuple #[.string (if chkE l = 0 then ⟨(catL l).toArray⟩ else ⟨#[]⟩), .int .i64 (if chkE l = 0 then 0 else 1)]) ∧ Below w.heap.size w w' := by
  by_cases hE : chkE l = 0
  · rw [if_pos hE, if_pos hE]; exact rprint_ok l V w h hE
  · rw [if_neg hE, if_neg hE]; exact rprint_bad l V w h hE
end Go.Proofs.YtpcbccpobhdokaaGreatDoor

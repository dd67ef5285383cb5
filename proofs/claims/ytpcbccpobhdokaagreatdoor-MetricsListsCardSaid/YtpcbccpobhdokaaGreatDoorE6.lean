/- metrics.Print. -/
import Derived.Test.YtpcbccpobhdokaaGreatDoorE3
set_option linter.unusedSimpArgs false
set_option linter.unusedVariables false
set_option linter.all false
namespace Go.Proofs.YtpcbccpobhdokaaGreatDoor
open Go.RowKit
theorem chkL_get {l : List Met} (h : chkL none l = 0) : ∀ k, k ≤ l.length → chkL (prevM l k) (l.drop k) = 0 ∧ ∀ j, j < k → metE (prevM l j) (l.getD j mz) = 0
  | 0, _ => ⟨h, fun _ hj => absurd hj (Nat.not_lt_zero _)⟩
  | k + 1, hk => by
    obtain ⟨h1, h2⟩ := chkL_get h k (by omega)
    rw [chkL_drop (by omega)] at h1
    by_cases he : metE (prevM l k) (l.getD k mz) = 0
    · rw [if_pos he] at h1
      refine ⟨by rw [prevM, if_neg (Nat.succ_ne_zero k)]; exact h1, fun j hj => ?_⟩
      by_cases e : j = k
      · rw [e]; exact he
      · exact h2 j (by omega)
    · rw [if_neg he] at h1; exact absurd h1 he
theorem chk_get {l : List Met} (h : chkE l = 0) {k : Nat} (hk : k < l.length) : metE (prevM l k) (l.getD k mz) = 0 := by
  unfold chkE at h
  split at h
  · cases h
  · exact (chkL_get h l.length (Nat.le_refl _)).2 k hk
theorem chk_len {l : List Met} (h : chkE l = 0) : l.length ≤ 1000 := by
  unfold chkE at h
  split at h
  · cases h
  · omega
def MOk (x : Met) : Prop := nameB x.n = true ∧ 0 ≤ x.i ∧ x.i ≤ 1152921504606846976 ∧ ratE x.a x.b = 0
theorem metE_ok {p : Option Met} {x : Met} (h : metE p x = 0) : MOk x := by
  unfold metE at h
  split at h
  · cases h
  · rename_i h1
    split at h
    · cases h
    · rename_i h2
      split at h
      · rename_i h3; exact absurd h h3
      · rename_i h3
        exact ⟨by simpa using h1, by omega, by omega, by simpa using h3⟩
theorem MOk.size {x : Met} (h : MOk x) : x.n.size ≤ 24 := by
  have := h.1
  simp [nameB] at this
  exact this.1.2
def lineB (x : Met) : ByteArray := x.n ++ ⟨#[32]⟩ ++ itoaS x.i ++ ⟨#[32]⟩ ++ ratS x.a x.b ++ ⟨#[10]⟩
def lineL (x : Met) : List UInt8 := (lineB x).data.toList
def catL (l : List Met) : List UInt8 := l.flatMap lineL
def catK (l : List Met) (k : Nat) : List UInt8 := catL (l.take k)
theorem catK_succ (l : List Met) (k : Nat) (hk : k < l.length) : catK l (k + 1) = catK l k ++ lineL (l.getD k mz) := by
  unfold catK catL
  rw [List.take_succ_eq_append_getElem hk, List.flatMap_append]
  simp [List.getD, hk]
theorem ratS_size {a b : Int} (h : ratE a b = 0) : (ratS a b).size ≤ 43 := by
  obtain ⟨h1, h2, h3, h4, _⟩ := ratE_ok h
  have s1 := itoaS_size (n := a) (by omega) (by omega)
  have s2 := itoaS_size (n := b) (by omega) (by omega)
  have e1 : (⟨#[47]⟩ : ByteArray).size = 1 := rfl
  unfold ratS
  split
  · omega
  · rw [ByteArray.size_append, ByteArray.size_append]; omega
theorem MOk.bounds {x : Met} (h : MOk x) : x.n.size ≤ 24 ∧ (itoaS x.i).size ≤ 21 ∧ (ratS x.a x.b).size ≤ 43 ∧ (lineL x).length ≤ 91 := by
  have h1 := h.size
  have h2 := itoaS_size (n := x.i) (by have := h.2.1; omega) (by have := h.2.2.1; omega)
  have h3 := ratS_size h.2.2.2
  refine ⟨h1, h2, h3, ?_⟩
  have : (lineL x).length = (lineB x).size := Array.length_toList
  have e1 : (⟨#[32]⟩ : ByteArray).size = 1 := rfl
  have e2 : (⟨#[10]⟩ : ByteArray).size = 1 := rfl
  rw [this, lineB]
  simp only [ByteArray.size_append]
  omega
theorem mk_data (s : ByteArray) : s = ⟨s.data.toList.toArray⟩ := by cases s; simp
set_option maxRecDepth 100000 in
set_option maxHeartbeats 4000000 in
theorem print_ok (l : List Met) (V : Value) (w : World) (h : Mets w w.heap.size V l) (hG : GOk w) (hE : chkE l = 0) : Calls Tryz.prog 10 #[V] w fun e w' => e = .returned (.tuple #[.string ⟨(catL l).toArray⟩, .int .i64 0]) ∧ Below w.heap.size w w' := by
  have hck := fun W (hW : Mets W W.heap.size V l) => check_any l V W hW
  rw [hE] at hck
  have HM := Lib.hid (fun k hk => metE_ok (chk_get (k := k) hE hk))
  have hlen := chk_len hE
  have HA := Lib.hid (show catK l l.length = catL l by rw [catK, List.take_length])
  have HS := Lib.hid (catK_succ l)
  have HG := Lib.hid (fun (W : World) (hb : Below w.heap.size w W) => hG.below hb)
  clear hE hG
  have hv0 := h
  obtain ⟨A, c, rfl, h1, h2, h3⟩ := h
  have H3 := Lib.hid h3
  clear h3
  unfold maxLen at h2
  go_enter Tryz.func10, Tryz.ntmps10
  go_wp2_with (go_at_call 14; refine (hck _ hv0).mono ?_; rintro e w1 ⟨rfl, hb1⟩; clear hck)
  have b2 := hb1.alloc hb1.size (.cells #[.pointer none, .slice none 0 0] 74)
  have l2 := Bl.new w1
  have hnw : w.heap.size ≤ w1.heap.size := hb1.size
  clear hb1 hv0
  generalize (w1.alloc (.cells #[.pointer none, .slice none 0 0] 74)) = w2 at *
  generalize w1.heap.size = n1 at *
  go_loopw [14] (fun i wr => ∃ k : Nat, k ≤ l.length ∧ i = .int .i64 k ∧ Below w.heap.size w wr ∧ Bl wr n1 (catK l k) ∧ (catK l k).length ≤ 91 * k) (fun i _ => l.length - (intOf i).toNat)
  case atStart => exact ⟨0, Nat.zero_le _, rfl, b2, by simpa [catK, catL] using l2, by simp [catK, catL]⟩
  case round =>
    obtain ⟨k, hk, rfl, br, lr, hle⟩ := hrel
    rename World => wq
    have hzr := br.size
    by_cases hkt : k < l.length
    · obtain ⟨B, o, rfl, hBl, hc⟩ := H3.out (by omega)
      have hx := hc k hkt
      have hm := HM.out k hkt
      have hst := HS.out k hkt
      generalize hxe : l.getD k mz = x at *
      clear hxe
      obtain ⟨g0, g1, g2, g3⟩ := hx
      have ec : ∀ q, wq.cell? ⟨B, q, none⟩ = w.cell? ⟨B, q, none⟩ := fun q => br.cell (p := ⟨B, q, none⟩) hBl
      have c0 := (ec _).trans g0
      have c1 := (ec _).trans g1
      have c2 := (ec _).trans g2
      have c3 := (ec _).trans g3
      obtain ⟨s1, s2, s3, s4⟩ := hm.bounds
      have hpr := fun W hW => rprint_any x.a x.b hm.2.2.2 W hW
      have hit := fun W hW => itoa_any x.i (by have := hm.2.1; omega) (by have := hm.2.2.1; omega) W hW
      have hlb : lineL x = (x.n ++ ⟨#[32]⟩ ++ itoaS x.i ++ ⟨#[32]⟩ ++ ratS x.a x.b ++ ⟨#[10]⟩).data.toList := rfl
      generalize itoaS x.i = ti at *
      generalize ratS x.a x.b = tr at *
      have e1 : (⟨#[32]⟩ : ByteArray).size = 1 := rfl
      have e2 : (⟨#[10]⟩ : ByteArray).size = 1 := rfl
      have q1 : ¬ 9223372036854775807 < x.n.size + 1 := by omega
      have q2 : ¬ 9223372036854775807 < x.n.size + 1 + ti.size := by omega
      have q3 : ¬ 9223372036854775807 < x.n.size + 1 + ti.size + 1 := by omega
      have q4 : ¬ 9223372036854775807 < x.n.size + 1 + ti.size + 1 + tr.size := by omega
      have q5 : ¬ 9223372036854775807 < x.n.size + 1 + ti.size + 1 + tr.size + 1 := by omega
      have HPR := Lib.hid hpr
      have HIT := Lib.hid hit
      have HLB := Lib.hid hlb
      have HST := Lib.hid hst
      clear hc g0 g1 g2 g3 ec hm hpr hit hlb hst s1 s2 s3
      go_upto_region 7 with fail
      clear c0 c1 c2 c3
      have bd : (wq.alloc (.cells #[.string x.n, .int .i64 x.i, .int .i64 x.a, .int .i64 x.b] 37)).heap[wq.heap.size]? = some (.cells #[.string x.n, .int .i64 x.i, .int .i64 x.a, .int .i64 x.b] 37 (0, 0)) := heap_alloc_last _ _
      have hne : wq.heap.size ≠ n1 := by
        have := lr.2
        rcases lr.2 with q | q <;> (have := q.lt; omega)
      have b0 : (wq.alloc (.cells #[.string x.n, .int .i64 x.i, .int .i64 x.a, .int .i64 x.b] 37)).cell? ⟨wq.heap.size, 0, none⟩ = some (.string x.n) := cell_of_row _ _ 0 _ _ _ (heap_alloc_last _ _)
      have b1 : (wq.alloc (.cells #[.string x.n, .int .i64 x.i, .int .i64 x.a, .int .i64 x.b] 37)).cell? ⟨wq.heap.size, 1, none⟩ = some (.int .i64 x.i) := cell_of_row _ _ 1 _ _ _ (heap_alloc_last _ _)
      have bb2 : (wq.alloc (.cells #[.string x.n, .int .i64 x.i, .int .i64 x.a, .int .i64 x.b] 37)).cell? ⟨wq.heap.size, 2, none⟩ = some (.int .i64 x.a) := cell_of_row _ _ 2 _ _ _ (heap_alloc_last _ _)
      have b3 : (wq.alloc (.cells #[.string x.n, .int .i64 x.i, .int .i64 x.a, .int .i64 x.b] 37)).cell? ⟨wq.heap.size, 3, none⟩ = some (.int .i64 x.b) := cell_of_row _ _ 3 _ _ _ (heap_alloc_last _ _)
      have hB0 : Below w.heap.size w (wq.alloc (.cells #[.string x.n, .int .i64 x.i, .int .i64 x.a, .int .i64 x.b] 37)) := br.alloc hzr _
      have l0 := lr.below ((Below.refl _ wq).alloc (Nat.le_refl _) (.cells #[.string x.n, .int .i64 x.i, .int .i64 x.a, .int .i64 x.b] 37))
      have hlt : wq.heap.size < (wq.alloc (.cells #[.string x.n, .int .i64 x.i, .int .i64 x.a, .int .i64 x.b] 37)).heap.size := by simp
      generalize wq.alloc (.cells #[.string x.n, .int .i64 x.i, .int .i64 x.a, .int .i64 x.b] 37) = W at *
      clear br lr
      go_wp2_with (go_at_call 28; refine (HPR.out _ (HG.out _ hB0)).mono ?_; rintro e w3 ⟨rfl, hb3⟩; have hB3 := hB0.trans (hb3.mono hB0.size); have l3 := l0.below hb3; have dd := (hb3.block wq.heap.size hlt).trans bd; have d0 := (hb3.cell (p := ⟨wq.heap.size, 0, none⟩) hlt).trans b0; have d1 := (hb3.cell (p := ⟨wq.heap.size, 1, none⟩) hlt).trans b1; have hl3 : wq.heap.size < w3.heap.size := Nat.lt_of_lt_of_le hlt hb3.size)
      clear bd b0 b1 bb2 b3 hB0 l0 hb3 HPR
      refine wp_region_held_drew (S := fun w' => w'.heap[wq.heap.size]? = some (.cells #[.string x.n, .int .i64 x.i, .int .i64 x.a, .int .i64 x.b] 37 (0, 0)) ∧ w'.cell? ⟨wq.heap.size, 0, none⟩ = some (.string x.n) ∧ w'.cell? ⟨wq.heap.size, 1, none⟩ = some (.int .i64 x.i)) (by kernel_rfl) ⟨dd, d0, d1⟩ (fun hHeld => ?_)
      (refine wpAnyH_take (i := 0) (v := ?_) rfl (by kernel_rfl) (by kernel_rfl) (by kernel_rfl) (fun _ _ _ h => h) (Or.inl ⟨by kernel_rfl, fun w0 hSw => ?_⟩) hHeld ?_; rotate_left; (focus ((try dsimp only at hSw); simp only [List.getElem_toArray, List.getElem_cons_zero, List.getElem_cons_succ]; (first | (go_simp; done) | (go_simp; with_reducible rfl)))); (try simp only [List.getElem_toArray, List.getElem_cons_zero, List.getElem_cons_succ, Act.put, List.setIfInBounds_toArray, List.set_cons_zero, List.set_cons_succ]))
      (refine wpAnyH_take (i := 1) (v := ?_) rfl (by kernel_rfl) (by kernel_rfl) (by kernel_rfl) (fun _ _ _ h => h) (Or.inl ⟨by kernel_rfl, fun w0 hSw => ?_⟩) hHeld ?_; rotate_left; (focus ((try dsimp only at hSw); simp only [List.getElem_toArray, List.getElem_cons_zero, List.getElem_cons_succ]; (first | (go_simp; done) | (go_simp; with_reducible rfl)))); (try simp only [List.getElem_toArray, List.getElem_cons_zero, List.getElem_cons_succ, Act.put, List.setIfInBounds_toArray, List.set_cons_zero, List.set_cons_succ]))
      (refine wpAnyH_take (i := 2) (v := ?_) rfl (by kernel_rfl) (by kernel_rfl) (by kernel_rfl) (fun _ _ _ h => h) (Or.inl ⟨by kernel_rfl, fun w0 hSw => ?_⟩) hHeld ?_; rotate_left; (focus ((try dsimp only at hSw); simp only [List.getElem_toArray, List.getElem_cons_zero, List.getElem_cons_succ]; (first | (go_simp; done) | (go_simp; with_reducible rfl)))); (try simp only [List.getElem_toArray, List.getElem_cons_zero, List.getElem_cons_succ, Act.put, List.setIfInBounds_toArray, List.set_cons_zero, List.set_cons_succ]))
      (refine wpAnyH_take (i := 3) (v := ?_) rfl (by kernel_rfl) (by kernel_rfl) (by kernel_rfl) (fun _ _ _ h => h) (Or.inl ⟨by kernel_rfl, fun w0 hSw => ?_⟩) hHeld ?_; rotate_left; (focus ((try dsimp only at hSw); simp only [List.getElem_toArray, List.getElem_cons_zero, List.getElem_cons_succ]; (first | (go_simp; done) | (go_simp; with_reducible rfl)))); (try simp only [List.getElem_toArray, List.getElem_cons_zero, List.getElem_cons_succ, Act.put, List.setIfInBounds_toArray, List.set_cons_zero, List.set_cons_succ]))
      (refine wpAnyH_take (i := 4) (v := ?_) rfl (by kernel_rfl) (by kernel_rfl) (by kernel_rfl) (fun _ _ _ h => h) (Or.inl ⟨by kernel_rfl, fun w0 hSw => ?_⟩) hHeld ?_; rotate_left; (focus ((try dsimp only at hSw); simp only [List.getElem_toArray, List.getElem_cons_zero, List.getElem_cons_succ]; (first | (go_simp; done) | (go_simp; with_reducible rfl)))); (try simp only [List.getElem_toArray, List.getElem_cons_zero, List.getElem_cons_succ, Act.put, List.setIfInBounds_toArray, List.set_cons_zero, List.set_cons_succ]))
      (refine wpAnyH_take (i := 8) (v := ?_) rfl (by kernel_rfl) (by kernel_rfl) (by kernel_rfl) (fun _ _ _ h => h) (Or.inl ⟨by kernel_rfl, fun w0 hSw => ?_⟩) hHeld ?_; rotate_left; (focus ((try dsimp only at hSw); simp only [List.getElem_toArray, List.getElem_cons_zero, List.getElem_cons_succ]; (first | (go_simp; done) | (go_simp; with_reducible rfl)))); (try simp only [List.getElem_toArray, List.getElem_cons_zero, List.getElem_cons_succ, Act.put, List.setIfInBounds_toArray, List.set_cons_zero, List.set_cons_succ]))
      refine wpAnyH_ready (rs := [5]) (by kernel_rfl) (by simp) ?_
      refine AllReadyH.cons rfl (fun K hK => ?_) AllReadyH.nil
      simp only [List.getElem_toArray, List.getElem_cons_zero, List.getElem_cons_succ]
      go_simp
      refine (HIT.out _ (HG.out _ hB3.drew)).mono ?_
      rintro e w4 ⟨rfl, hb4⟩
      have hB4 := hB3.drew.trans (hb4.mono hB3.size)
      have l4 := (l3.below ((Below.refl _ w3).drew)).below hb4
      have ff := (hb4.block wq.heap.size hl3).trans dd
      have f0 := (hb4.cell (p := ⟨wq.heap.size, 0, none⟩) hl3).trans d0
      have f1 := (hb4.cell (p := ⟨wq.heap.size, 1, none⟩) hl3).trans d1
      refine hK.out _ _ ⟨ff, f0, f1⟩ (fun hHeld => ?_)
      clear hK K
      (try simp only [List.getElem_toArray, List.getElem_cons_zero, List.getElem_cons_succ, Act.put, List.setIfInBounds_toArray, List.set_cons_zero, List.set_cons_succ])
      (refine wpAnyH_take (i := 6) (v := ?_) rfl (by kernel_rfl) (by kernel_rfl) (by kernel_rfl) (fun _ _ _ h => h) (Or.inl ⟨by kernel_rfl, fun w0 hSw => ?_⟩) hHeld ?_; rotate_left; (focus ((try dsimp only at hSw); simp only [List.getElem_toArray, List.getElem_cons_zero, List.getElem_cons_succ]; (first | (go_simp; done) | (go_simp; with_reducible rfl)))); (try simp only [List.getElem_toArray, List.getElem_cons_zero, List.getElem_cons_succ, Act.put, List.setIfInBounds_toArray, List.set_cons_zero, List.set_cons_succ]))
      (refine wpAnyH_take (i := 7) (v := ?_) rfl (by kernel_rfl) (by kernel_rfl) (by kernel_rfl) (fun _ _ _ h => h) (Or.inl ⟨by kernel_rfl, fun w0 hSw => ?_⟩) hHeld ?_; rotate_left; (focus ((try dsimp only at hSw); simp only [List.getElem_toArray, List.getElem_cons_zero, List.getElem_cons_succ]; (first | (go_simp; done) | (go_simp; with_reducible rfl)))); (try simp only [List.getElem_toArray, List.getElem_cons_zero, List.getElem_cons_succ, Act.put, List.setIfInBounds_toArray, List.set_cons_zero, List.set_cons_succ]))
      (refine wpAnyH_take (i := 9) (v := ?_) rfl (by kernel_rfl) (by kernel_rfl) (by kernel_rfl) (fun _ _ _ h => h) (Or.inl ⟨by kernel_rfl, fun w0 hSw => ?_⟩) hHeld ?_; rotate_left; (focus ((try dsimp only at hSw); simp only [List.getElem_toArray, List.getElem_cons_zero, List.getElem_cons_succ]; (first | (go_simp; done) | (go_simp; with_reducible rfl)))); (try simp only [List.getElem_toArray, List.getElem_cons_zero, List.getElem_cons_succ, Act.put, List.setIfInBounds_toArray, List.set_cons_zero, List.set_cons_succ]))
      (refine wpAnyH_take (i := 10) (v := ?_) rfl (by kernel_rfl) (by kernel_rfl) (by kernel_rfl) (fun _ _ _ h => h) (Or.inl ⟨by kernel_rfl, fun w0 hSw => ?_⟩) hHeld ?_; rotate_left; (focus ((try dsimp only at hSw); simp only [List.getElem_toArray, List.getElem_cons_zero, List.getElem_cons_succ]; (first | (go_simp; done) | (go_simp; with_reducible rfl)))); (try simp only [List.getElem_toArray, List.getElem_cons_zero, List.getElem_cons_succ, Act.put, List.setIfInBounds_toArray, List.set_cons_zero, List.set_cons_succ]))
      refine wpAnyH_ready (rs := [11]) (by kernel_rfl) (by simp) ?_
      refine AllReadyH.cons rfl (fun K hK => ?_) AllReadyH.nil
      simp only [List.getElem_toArray, List.getElem_cons_zero, List.getElem_cons_succ]
      go_simp
      refine (write_any n1 _ (lineL x) _ (by rw [HLB.out]) w4 l4 (by omega)).mono ?_
      rintro e w5 ⟨⟨y, rfl⟩, l5, hb5, hs5⟩
      have hB5 := hB4.trans (hb5.mono hnw)
      rw [← HST.out] at l5
      have HL := Lib.hid (show (catK l (k + 1)).length ≤ 91 * (k + 1) by rw [HST.out, List.length_append]; omega)
      have hz := hs5 wq.heap.size _ _ _ (by decide) hne ff
      refine hK.out _ _ ⟨hz, cell_of_row _ _ 0 _ _ _ hz, cell_of_row _ _ 1 _ _ _ hz⟩ (fun hHeld => ?_)
      clear hK K
      (try simp only [List.getElem_toArray, List.getElem_cons_zero, List.getElem_cons_succ, Act.put, List.setIfInBounds_toArray, List.set_cons_zero, List.set_cons_succ])
      refine wpAnyH_done (by kernel_rfl) ?_ _
      clear hz ff dd
      clear q1 q2 q3 q4 q5 HST HLB hB4 l4 f0 f1 hB3 l3 d0 d1
      go_wp2_with fail
      go_roundw
      case rel => exact ⟨k + 1, by omega, by go_num, hB5, l5, HL.out⟩
      case measure => simp [intOf]; omega
    · obtain rfl : k = l.length := by omega
      rw [HA.out] at lr hle
      have hnr := lr.1
      go_wp2_with (go_at_call 31; refine (Tryz.Builder_String_any n1 n1 _ wq lr.2 hnr).mono ?_; rintro e w6 ⟨rfl, hb6⟩)
      have b6 := br.trans (hb6.mono hnw)
      refine bodyPost_ret (by (simp [results, Tryz.results10, go_sem, *]; try rfl)) rfl ?_
      exact ⟨rfl, b6⟩
theorem print_bad (l : List Met) (V : Value) (w : World) (h : Mets w w.heap.size V l) (hE : chkE l ≠ 0) : Calls Tryz.prog 10 #[V] w fun e w' => e = .returned (.tuple #[.string ⟨#[]⟩, .int .i64 1]) ∧ Below w.heap.size w w' := by
  have hck := fun W (hW : Mets W W.heap.size V l) => check_any l V W hW
  have hE2 : (chkE l != 0) = true := by simpa using hE
  generalize chkE l = ce at *
  go_enter Tryz.func10, Tryz.ntmps10
  go_wp2_with (go_at_call 14; refine (hck _ h).mono ?_; rintro e w1 ⟨rfl, hb1⟩; clear hck)
  refine bodyPost_ret (by (simp [results, Tryz.results10, go_sem, *]; try rfl)) rfl ?_
  exact ⟨rfl, hb1⟩
end Go.Proofs.YtpcbccpobhdokaaGreatDoor

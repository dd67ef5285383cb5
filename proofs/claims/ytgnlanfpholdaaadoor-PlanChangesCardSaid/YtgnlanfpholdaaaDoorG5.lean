/- The closures of PlanDisjoint and of Find; Find and the reference's. -/
import Derived.Test.YtgnlanfpholdaaaDoorF7
namespace Go.Proofs.YtgnlanfpholdaaaDoor
open Go.RowKit
set_option maxHeartbeats 1000000 in
theorem pd_index (v : Value) (cs : List Con) (pb : Nat) (p : Con → Bool) (w : World) (hv : Cons w w.heap.size v cs) (hcl : ∀ (c : Con) (W : World), Below w.heap.size w W → Calls Tryd.prog 27 #[.agg #[.int .i64 c.a, .int .i64 c.b, .int .i64 c.s, .int .i64 c.e, .int .i64 c.r, .int .i64 c.g, .int .i64 c.l], .pointer (some ⟨pb, 0, none⟩)] W fun e W' => e = .returned (.bool (p c)) ∧ Below W.heap.size W W') :
    Calls Tryd.prog 49 #[v, .func (.func 27) #[] #[.pointer (some ⟨pb, 0, none⟩)]] w fun e w' => e = .returned (.int .i64 (findI p cs 0)) ∧ Below w.heap.size w w' := by
  have HCL := Lib.hid hcl
  clear hcl
  obtain ⟨A, c, rfl, hc, hm, hA⟩ := hv
  unfold maxLen at hm
  have HA := Lib.hid hA
  clear hA
  go_enter Tryd.func49, Tryd.ntmps49
  go_wp2_with fail
  go_loopw [8] (fun i wr => ∃ k : Nat, k ≤ cs.length ∧ i = .int .i64 k ∧ Hid (findI p (cs.drop k) k = findI p cs 0) ∧ Below w.heap.size w wr) (fun i _ => cs.length - (intOf i).toNat)
  case atStart => exact ⟨0, by omega, rfl, rfl, Below.refl _ _⟩
  case round =>
    obtain ⟨k, hk, rfl, hr, hB⟩ := hrel
    have hzr := hB.size
    by_cases hlt : k < cs.length
    · obtain ⟨b, o, rfl, hb, hcell⟩ := HA.out (by omega)
      have hx := (hcell k hlt).below hB hb
      have HST := Lib.hid (findI_step p cs k hlt)
      clear hcell
      generalize cs.getD k Con.zero = d at *
      obtain ⟨x0, x1, x2, x3, x4, x5, x6⟩ := hx
      cases hq : p d
      · have HT : Hid (findI p (cs.drop (k + 1)) (k + 1) = findI p cs 0) := by show _ = _; rw [← hr.out, HST.out, hq]; rfl
        have HQ := Lib.hid hq
        clear hq
        go_wp2_with fail
        refine (HCL.out d _ hB).mono ?_
        rw [HQ.out]
        rintro e w1 ⟨rfl, hb1⟩
        have hB1 := bt' hB hb1 hzr
        clear hb1
        go_wp2_with fail
        go_roundw
        case rel => exact ⟨k + 1, by omega, by go_num, HT, hB1⟩
        case measure => simp [intOf]; omega
      · have HT : Hid (findI p cs 0 = k) := by show _ = _; rw [← hr.out, HST.out, hq]; rfl
        have HQ := Lib.hid hq
        clear hq
        go_wp2_with fail
        refine (HCL.out d _ hB).mono ?_
        rw [HQ.out]
        rintro e w1 ⟨rfl, hb1⟩
        have hB1 := bt' hB hb1 hzr
        clear hb1
        go_wp2_with fail
        go_ret
        exact ⟨by rw [HT.out]; rfl, hB1⟩
    · have HT : Hid (findI p cs 0 = -1) := by show _ = _; rw [← hr.out, List.drop_of_length_le (by omega)]; rfl
      go_wp2_with fail
      go_ret
      exact ⟨by rw [HT.out]; rfl, hB⟩
theorem pd_contains (v : Value) (cs : List Con) (pb : Nat) (p : Con → Bool) (w : World) (hv : Cons w w.heap.size v cs) (hcl : ∀ (c : Con) (W : World), Below w.heap.size w W → Calls Tryd.prog 27 #[.agg #[.int .i64 c.a, .int .i64 c.b, .int .i64 c.s, .int .i64 c.e, .int .i64 c.r, .int .i64 c.g, .int .i64 c.l], .pointer (some ⟨pb, 0, none⟩)] W fun e W' => e = .returned (.bool (p c)) ∧ Below W.heap.size W W') :
    Calls Tryd.prog 26 #[v, .func (.func 27) #[] #[.pointer (some ⟨pb, 0, none⟩)]] w fun e w' => e = .returned (.bool (cs.any p)) ∧ Below w.heap.size w w' := by
  have HCL := Lib.hid (pd_index v cs pb p w hv hcl)
  have H := Lib.hid (findI_any p cs 0)
  clear hcl
  go_enter Tryd.func26, Tryd.ntmps26
  go_wp2_with fail
  refine HCL.out.mono ?_
  rintro e w1 ⟨rfl, hb1⟩
  go_wp2_with fail
  go_ret
  exact ⟨by rw [← H.out]; rfl, hb1⟩
theorem pd_closure (c d : Con) (pb : Nat) (W : World) (hlt : pb < W.heap.size) (hc : ConAt W pb 0 c) : Calls Tryd.prog 27 #[.agg #[.int .i64 d.a, .int .i64 d.b, .int .i64 d.s, .int .i64 d.e, .int .i64 d.r, .int .i64 d.g, .int .i64 d.l], .pointer (some ⟨pb, 0, none⟩)] W fun e W' => e = .returned (.bool (overB c d)) ∧ Below W.heap.size W W' := by
  obtain ⟨x0, x1, x2, x3, x4, x5, x6⟩ := hc
  simp only [Nat.zero_add] at x0 x1 x2 x3 x4 x5 x6
  go_enter Tryd.func27, Tryd.ntmps27
  go_wp2_with fail
  refine (over_any c d _).mono ?_
  rintro e w1 ⟨rfl, hb1⟩
  go_wp2_with fail
  go_ret
  exact ⟨rfl, ((Below.refl _ W).alloc (Nat.le_refl _) _).trans (hb1.mono (by simp))⟩
set_option maxHeartbeats 1000000 in
theorem fd_index (v : Value) (cs : List Con) (pb : Nat) (p : Con → Bool) (w : World) (hv : Cons w w.heap.size v cs) (hcl : ∀ (c : Con) (W : World), Below w.heap.size w W → Calls Tryd.prog 60 #[.agg #[.int .i64 c.a, .int .i64 c.b, .int .i64 c.s, .int .i64 c.e, .int .i64 c.r, .int .i64 c.g, .int .i64 c.l], .pointer (some ⟨pb, 0, none⟩)] W fun e W' => e = .returned (.bool (p c)) ∧ Below W.heap.size W W') :
    Calls Tryd.prog 49 #[v, .func (.func 60) #[] #[.pointer (some ⟨pb, 0, none⟩)]] w fun e w' => e = .returned (.int .i64 (findI p cs 0)) ∧ Below w.heap.size w w' := by
  have HCL := Lib.hid hcl
  clear hcl
  obtain ⟨A, c, rfl, hc, hm, hA⟩ := hv
  unfold maxLen at hm
  have HA := Lib.hid hA
  clear hA
  go_enter Tryd.func49, Tryd.ntmps49
  go_wp2_with fail
  go_loopw [8] (fun i wr => ∃ k : Nat, k ≤ cs.length ∧ i = .int .i64 k ∧ Hid (findI p (cs.drop k) k = findI p cs 0) ∧ Below w.heap.size w wr) (fun i _ => cs.length - (intOf i).toNat)
  case atStart => exact ⟨0, by omega, rfl, rfl, Below.refl _ _⟩
  case round =>
    obtain ⟨k, hk, rfl, hr, hB⟩ := hrel
    have hzr := hB.size
    by_cases hlt : k < cs.length
    · obtain ⟨b, o, rfl, hb, hcell⟩ := HA.out (by omega)
      have hx := (hcell k hlt).below hB hb
      have HST := Lib.hid (findI_step p cs k hlt)
      clear hcell
      generalize cs.getD k Con.zero = d at *
      obtain ⟨x0, x1, x2, x3, x4, x5, x6⟩ := hx
      cases hq : p d
      · have HT : Hid (findI p (cs.drop (k + 1)) (k + 1) = findI p cs 0) := by show _ = _; rw [← hr.out, HST.out, hq]; rfl
        have HQ := Lib.hid hq
        clear hq
        go_wp2_with fail
        refine (HCL.out d _ hB).mono ?_
        rw [HQ.out]
        rintro e w1 ⟨rfl, hb1⟩
        have hB1 := bt' hB hb1 hzr
        clear hb1
        go_wp2_with fail
        go_roundw
        case rel => exact ⟨k + 1, by omega, by go_num, HT, hB1⟩
        case measure => simp [intOf]; omega
      · have HT : Hid (findI p cs 0 = k) := by show _ = _; rw [← hr.out, HST.out, hq]; rfl
        have HQ := Lib.hid hq
        clear hq
        go_wp2_with fail
        refine (HCL.out d _ hB).mono ?_
        rw [HQ.out]
        rintro e w1 ⟨rfl, hb1⟩
        have hB1 := bt' hB hb1 hzr
        clear hb1
        go_wp2_with fail
        go_ret
        exact ⟨by rw [HT.out]; rfl, hB1⟩
    · have HT : Hid (findI p cs 0 = -1) := by show _ = _; rw [← hr.out, List.drop_of_length_le (by omega)]; rfl
      go_wp2_with fail
      go_ret
      exact ⟨by rw [HT.out]; rfl, hB⟩
theorem fd_contains (v : Value) (cs : List Con) (pb : Nat) (p : Con → Bool) (w : World) (hv : Cons w w.heap.size v cs) (hcl : ∀ (c : Con) (W : World), Below w.heap.size w W → Calls Tryd.prog 60 #[.agg #[.int .i64 c.a, .int .i64 c.b, .int .i64 c.s, .int .i64 c.e, .int .i64 c.r, .int .i64 c.g, .int .i64 c.l], .pointer (some ⟨pb, 0, none⟩)] W fun e W' => e = .returned (.bool (p c)) ∧ Below W.heap.size W W') :
    Calls Tryd.prog 26 #[v, .func (.func 60) #[] #[.pointer (some ⟨pb, 0, none⟩)]] w fun e w' => e = .returned (.bool (cs.any p)) ∧ Below w.heap.size w w' := by
  have HCL := Lib.hid (fd_index v cs pb p w hv hcl)
  have H := Lib.hid (findI_any p cs 0)
  clear hcl
  go_enter Tryd.func26, Tryd.ntmps26
  go_wp2_with fail
  refine HCL.out.mono ?_
  rintro e w1 ⟨rfl, hb1⟩
  go_wp2_with fail
  go_ret
  exact ⟨by rw [← H.out]; rfl, hb1⟩
/-- the same nodes and the same start -/
def likeB (c d : Con) : Bool := (d.a == c.a) && ((d.b == c.b) && (d.s == c.s))
set_option maxHeartbeats 1000000 in
theorem fd_closure (c d : Con) (pb : Nat) (W : World) (hlt : pb < W.heap.size) (hc : ConAt W pb 0 c) : Calls Tryd.prog 60 #[.agg #[.int .i64 d.a, .int .i64 d.b, .int .i64 d.s, .int .i64 d.e, .int .i64 d.r, .int .i64 d.g, .int .i64 d.l], .pointer (some ⟨pb, 0, none⟩)] W fun e W' => e = .returned (.bool (likeB c d)) ∧ Below W.heap.size W W' := by
  obtain ⟨x0, x1, x2, _, _, _, _⟩ := hc
  simp only [Nat.zero_add] at x1 x2
  cases h1 : (d.a == c.a)
  · have HR : Hid (likeB c d = false) := by show _ = _; simp only [likeB, h1]; rfl
    go_enter Tryd.func60, Tryd.ntmps60
    go_wp2_with fail
    go_ret
    exact ⟨by rw [HR.out]; rfl, by (repeat' (first | (with_reducible exact Below.refl _ _) | (with_reducible refine Below.alloc ?_ ?_ _) | (with_reducible refine Below.drew ?_) | (with_reducible refine below_drewN ?_ _) | (with_reducible refine Below.setCell ?_ ?_ _) | (with_reducible refine Below.trans ?_ (Below.mono (by assumption) ?_)) | (with_reducible exact Nat.le_refl _) | omega | (simp; omega) | (simp; done)))⟩
  · cases h2 : (d.b == c.b)
    · have HR : Hid (likeB c d = false) := by show _ = _; simp only [likeB, h1, h2]; rfl
      go_enter Tryd.func60, Tryd.ntmps60
      go_wp2_with fail
      go_ret
      exact ⟨by rw [HR.out]; rfl, by (repeat' (first | (with_reducible exact Below.refl _ _) | (with_reducible refine Below.alloc ?_ ?_ _) | (with_reducible refine Below.drew ?_) | (with_reducible refine below_drewN ?_ _) | (with_reducible refine Below.setCell ?_ ?_ _) | (with_reducible refine Below.trans ?_ (Below.mono (by assumption) ?_)) | (with_reducible exact Nat.le_refl _) | omega | (simp; omega) | (simp; done)))⟩
    · cases h3 : (d.s == c.s)
      · have HR : Hid (likeB c d = false) := by show _ = _; simp only [likeB, h1, h2, h3]; rfl
        go_enter Tryd.func60, Tryd.ntmps60
        go_wp2_with fail
        go_ret
        exact ⟨by rw [HR.out]; rfl, by (repeat' (first | (with_reducible exact Below.refl _ _) | (with_reducible refine Below.alloc ?_ ?_ _) | (with_reducible refine Below.drew ?_) | (with_reducible refine below_drewN ?_ _) | (with_reducible refine Below.setCell ?_ ?_ _) | (with_reducible refine Below.trans ?_ (Below.mono (by assumption) ?_)) | (with_reducible exact Nat.le_refl _) | omega | (simp; omega) | (simp; done)))⟩
      · have HR : Hid (likeB c d = true) := by show _ = _; simp only [likeB, h1, h2, h3]; rfl
        go_enter Tryd.func60, Tryd.ntmps60
        go_wp2_with fail
        go_ret
        exact ⟨by rw [HR.out]; rfl, by (repeat' (first | (with_reducible exact Below.refl _ _) | (with_reducible refine Below.alloc ?_ ?_ _) | (with_reducible refine Below.drew ?_) | (with_reducible refine below_drewN ?_ _) | (with_reducible refine Below.setCell ?_ ?_ _) | (with_reducible refine Below.trans ?_ (Below.mono (by assumption) ?_)) | (with_reducible exact Nat.le_refl _) | omega | (simp; omega) | (simp; done)))⟩
theorem findI_ge (p : Con → Bool) : ∀ (l : List Con) (k : Nat), findI p l k = -1 ∨ ((k : Int) ≤ findI p l k ∧ findI p l k < k + l.length)
  | [], k => .inl rfl
  | c :: t, k => by
    unfold findI; split
    · right; simp; omega
    · rcases findI_ge p t (k + 1) with h | h
      · exact .inl h
      · right; simp at h ⊢; omega
def FindPost (cs : List Con) (c : Con) (w : World) (e : Ending) (w' : World) : Prop := e = .returned (.tuple #[.int .i64 (max (findI (likeB c) cs 0) 0), .bool (decide (0 ≤ findI (likeB c) cs 0))]) ∧ Below w.heap.size w w'
set_option maxHeartbeats 1000000 in
theorem find_any (qv cv : Value) (qs : List Int) (cs : List Con) (c : Con) (w : World) (hq : Ints w w.heap.size qv qs) (hc : Cons w w.heap.size cv cs) : Calls Tryd.prog 34 #[.agg #[qv, cv], .agg #[.int .i64 c.a, .int .i64 c.b, .int .i64 c.s, .int .i64 c.e, .int .i64 c.r, .int .i64 c.g, .int .i64 c.l]] w (FindPost cs c w) := by
  have hc0 := hc
  obtain ⟨A1, c1, rfl, hc1, hm1, _⟩ := hq
  obtain ⟨A2, c2, rfl, hc2, hm2, _⟩ := hc
  unfold maxLen at hm1 hm2
  have hr := findI_ge (likeB c) cs 0
  go_enter Tryd.func34, Tryd.ntmps34
  go_wp2_with fail
  refine (fd_index _ cs (w.heap.size + 1) (likeB c) _ ((hc0.below (by (repeat' (first | (with_reducible exact Below.refl _ _) | (with_reducible refine Below.alloc ?_ ?_ _) | (with_reducible refine Below.drew ?_) | (with_reducible refine below_drewN ?_ _) | (with_reducible refine Below.setCell ?_ ?_ _) | (with_reducible refine Below.trans ?_ (Below.mono (by assumption) ?_)) | (with_reducible exact Nat.le_refl _) | omega | (simp; omega) | (simp; done))))).more (by (first | omega | (simp; done) | (simp; omega)))) (fun d W hW => fd_closure c d (w.heap.size + 1) W (Nat.lt_of_lt_of_le (by simp) hW.size) (ConAt.below (by refine ⟨?_, ?_, ?_, ?_, ?_, ?_, ?_⟩ <;> simp [go_sem]) hW (by simp)))).mono ?_
  rintro e w1 ⟨rfl, hb1⟩
  unfold FindPost
  generalize hf : findI (likeB c) cs 0 = f at *
  have HF := Lib.hid hf
  clear hf
  go_wp2_with fail
  refine bodyPost_ret (v := .tuple #[.int .i64 (max f 0), .bool (decide (0 ≤ f))]) (by simp [results, Tryd.results34, go_sem]) rfl ⟨by rw [HF.out], by (repeat' (first | (with_reducible exact Below.refl _ _) | (with_reducible refine Below.alloc ?_ ?_ _) | (with_reducible refine Below.drew ?_) | (with_reducible refine below_drewN ?_ _) | (with_reducible refine Below.setCell ?_ ?_ _) | (with_reducible refine Below.trans ?_ (Below.mono (by assumption) ?_)) | (with_reducible exact Nat.le_refl _) | omega | (simp; omega) | (simp; done)))⟩
set_option maxHeartbeats 2000000 in
theorem rfind_any (qv cv : Value) (qs : List Int) (cs : List Con) (c : Con) (w : World) (hq : Ints w w.heap.size qv qs) (hc : Cons w w.heap.size cv cs) : Calls Tryd.prog 35 #[.agg #[qv, cv], .agg #[.int .i64 c.a, .int .i64 c.b, .int .i64 c.s, .int .i64 c.e, .int .i64 c.r, .int .i64 c.g, .int .i64 c.l]] w (FindPost cs c w) := by
  obtain ⟨A1, c1, rfl, hc1, hm1, _⟩ := hq
  obtain ⟨A2, c2, rfl, hc2, hm2, hA2⟩ := hc
  unfold maxLen at hm1 hm2
  have HA2 := Lib.hid hA2
  clear hA2
  unfold FindPost
  go_enter Tryd.func35, Tryd.ntmps35
  go_wp2_with fail
  go_loopw [6] (fun i wr => ∃ k : Nat, k ≤ cs.length ∧ i = .int .i64 k ∧ Hid (findI (likeB c) (cs.drop k) k = findI (likeB c) cs 0) ∧ Below (w.heap.size + 1 + 1) ((w.alloc (.cells #[.slice A1 qs.length c1, .slice A2 cs.length c2] 25)).alloc (.cells #[.int .i64 c.a, .int .i64 c.b, .int .i64 c.s, .int .i64 c.e, .int .i64 c.r, .int .i64 c.g, .int .i64 c.l] 40)) wr) (fun i _ => cs.length - (intOf i).toNat)
  case atStart => exact ⟨0, by omega, rfl, rfl, Below.refl _ _⟩
  case round =>
    obtain ⟨k, hk, rfl, hr, hWr⟩ := hrel
    have hzr : w.heap.size + 1 + 1 ≤ wr.heap.size := Nat.le_trans (by simp) hWr.size
    have hBr : Below w.heap.size w wr := (((Below.refl _ w).alloc (Nat.le_refl _) _).alloc (by simp) _).trans (hWr.mono (by omega))
    have q1 : wr.cell? ⟨w.heap.size, 1, none⟩ = some (.slice A2 cs.length c2) := (hWr.cell (p := ⟨w.heap.size, 1, none⟩) (by show w.heap.size < _; omega)).trans (by simp [go_sem])
    have y0 : wr.cell? ⟨w.heap.size + 1, 0, none⟩ = some (.int .i64 c.a) := (hWr.cell (p := ⟨w.heap.size + 1, 0, none⟩) (by show w.heap.size + 1 < _; omega)).trans (by simp [go_sem])
    have y1 : wr.cell? ⟨w.heap.size + 1, 1, none⟩ = some (.int .i64 c.b) := (hWr.cell (p := ⟨w.heap.size + 1, 1, none⟩) (by show w.heap.size + 1 < _; omega)).trans (by simp [go_sem])
    have y2 : wr.cell? ⟨w.heap.size + 1, 2, none⟩ = some (.int .i64 c.s) := (hWr.cell (p := ⟨w.heap.size + 1, 2, none⟩) (by show w.heap.size + 1 < _; omega)).trans (by simp [go_sem])
    have hl0 : w.heap.size < wr.heap.size := by omega
    have hl1 : w.heap.size + 1 < wr.heap.size := by omega
    by_cases hlt : k < cs.length
    · obtain ⟨b, o, rfl, hb, hcell⟩ := HA2.out (by omega)
      have hx := (hcell k hlt).below hBr hb
      have HST := Lib.hid (findI_step (likeB c) cs k hlt)
      clear hcell
      generalize cs.getD k Con.zero = d at *
      obtain ⟨x0, x1, x2, x3, x4, x5, x6⟩ := hx
      cases h1 : (d.a == c.a)
      · have hL : likeB c d = false := by simp only [likeB, h1]; rfl
        have HT : Hid (findI (likeB c) (cs.drop (k + 1)) (k + 1) = findI (likeB c) cs 0) := by show _ = _; rw [← hr.out, HST.out, hL]; rfl
        clear hL
        go_wp2_with fail
        go_roundw
        case rel => exact ⟨k + 1, by omega, by go_num, HT, by (repeat' (first | (with_reducible exact Below.refl _ _) | (with_reducible refine Below.alloc ?_ ?_ _) | (with_reducible refine Below.drew ?_) | (with_reducible refine below_drewN ?_ _) | (with_reducible refine Below.setCell ?_ ?_ _) | (with_reducible refine Below.trans ?_ (Below.mono (by assumption) ?_)) | (with_reducible exact Nat.le_refl _) | omega | (simp; omega) | (simp; done)))⟩
        case measure => simp [intOf]; omega
      · cases h2 : (d.b == c.b)
        · have hL : likeB c d = false := by simp only [likeB, h1, h2]; rfl
          have HT : Hid (findI (likeB c) (cs.drop (k + 1)) (k + 1) = findI (likeB c) cs 0) := by show _ = _; rw [← hr.out, HST.out, hL]; rfl
          clear hL
          go_wp2_with fail
          go_roundw
          case rel => exact ⟨k + 1, by omega, by go_num, HT, by (repeat' (first | (with_reducible exact Below.refl _ _) | (with_reducible refine Below.alloc ?_ ?_ _) | (with_reducible refine Below.drew ?_) | (with_reducible refine below_drewN ?_ _) | (with_reducible refine Below.setCell ?_ ?_ _) | (with_reducible refine Below.trans ?_ (Below.mono (by assumption) ?_)) | (with_reducible exact Nat.le_refl _) | omega | (simp; omega) | (simp; done)))⟩
          case measure => simp [intOf]; omega
        · cases h3 : (d.s == c.s)
          · have hL : likeB c d = false := by simp only [likeB, h1, h2, h3]; rfl
            have HT : Hid (findI (likeB c) (cs.drop (k + 1)) (k + 1) = findI (likeB c) cs 0) := by show _ = _; rw [← hr.out, HST.out, hL]; rfl
            clear hL
            go_wp2_with fail
            go_roundw
            case rel => exact ⟨k + 1, by omega, by go_num, HT, by (repeat' (first | (with_reducible exact Below.refl _ _) | (with_reducible refine Below.alloc ?_ ?_ _) | (with_reducible refine Below.drew ?_) | (with_reducible refine below_drewN ?_ _) | (with_reducible refine Below.setCell ?_ ?_ _) | (with_reducible refine Below.trans ?_ (Below.mono (by assumption) ?_)) | (with_reducible exact Nat.le_refl _) | omega | (simp; omega) | (simp; done)))⟩
            case measure => simp [intOf]; omega
          · have hL : likeB c d = true := by simp only [likeB, h1, h2, h3]; rfl
            have HT : Hid (findI (likeB c) cs 0 = k) := by show _ = _; rw [← hr.out, HST.out, hL]; rfl
            clear hL
            go_wp2_with fail
            refine bodyPost_ret (v := .tuple #[.int .i64 k, .bool true]) (by simp [results, Tryd.results35, go_sem]) rfl ⟨?_, by (repeat' (first | (with_reducible exact Below.refl _ _) | (with_reducible refine Below.alloc ?_ ?_ _) | (with_reducible refine Below.drew ?_) | (with_reducible refine below_drewN ?_ _) | (with_reducible refine Below.setCell ?_ ?_ _) | (with_reducible refine Below.trans ?_ (Below.mono (by assumption) ?_)) | (with_reducible exact Nat.le_refl _) | omega | (simp; omega) | (simp; done)))⟩
            rw [HT.out, show max (k : Int) 0 = k by omega, show decide ((0 : Int) ≤ k) = true by simp]
    · have HT : Hid (findI (likeB c) cs 0 = -1) := by show _ = _; rw [← hr.out, List.drop_of_length_le (by omega)]; rfl
      go_wp2_with fail
      refine bodyPost_ret (v := .tuple #[.int .i64 0, .bool false]) (by simp [results, Tryd.results35, go_sem]) rfl ⟨?_, by (repeat' (first | (with_reducible exact Below.refl _ _) | (with_reducible refine Below.alloc ?_ ?_ _) | (with_reducible refine Below.drew ?_) | (with_reducible refine below_drewN ?_ _) | (with_reducible refine Below.setCell ?_ ?_ _) | (with_reducible refine Below.trans ?_ (Below.mono (by assumption) ?_)) | (with_reducible exact Nat.le_refl _) | omega | (simp; omega) | (simp; done)))⟩
      rw [HT.out]
      rfl
end Go.Proofs.YtgnlanfpholdaaaDoor

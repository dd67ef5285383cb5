/- The reference Overlap; IndexFunc and ContainsFunc over contacts. -/
import Derived.Test.YtclkjjdfdndplaaGreatDoorF2
namespace Go.Proofs.YtclkjjdfdndplaaGreatDoor
open Go.RowKit
set_option maxHeartbeats 1000000 in
theorem rover_any (c d : Con) (w : World) : Calls Tryz.prog 47 #[.agg #[.int .i64 c.a, .int .i64 c.b, .int .i64 c.s, .int .i64 c.e, .int .i64 c.r, .int .i64 c.g, .int .i64 c.l], .agg #[.int .i64 d.a, .int .i64 d.b, .int .i64 d.s, .int .i64 d.e, .int .i64 d.r, .int .i64 d.g, .int .i64 d.l]] w fun e w' => e = .returned (.bool (overB c d)) ∧ Below w.heap.size w w' := by
  by_cases h0 : conE c = 0
  · by_cases h1 : conE d = 0
    · by_cases h2 : c.a = d.a
      · by_cases h3 : c.b = d.b
        · by_cases h4 : c.s < d.e
          · by_cases h5 : d.s < c.e
            · have HT : Hid (overB c d = true) := by show _ = _; unfold overB; exact decide_eq_true ⟨h0, h1, h2, h3, h4, h5⟩
              have H0 := Lib.hid h0
              have H1 := Lib.hid h1
              have q2 : (c.a == d.a) = true := by simpa using h2
              have q3 : (c.b == d.b) = true := by simpa using h3
              clear h0 h1 h2 h3
              go_enter Tryz.func47, Tryz.ntmps47
              go_wp2_with fail
              refine (rccheck_any c _).mono ?_
              rw [H0.out]
              (rintro e w1 ⟨rfl, hb⟩; have hz : w.heap.size + 1 + 1 ≤ w1.heap.size := (Nat.le_trans (by (first | omega | (simp; done) | (simp; omega))) hb.size); have hk := bc (B := w.heap.size + 1 + 1) hb (by (first | omega | (simp; done) | (simp; omega))); have hf := bf (B := w.heap.size + 1 + 1) hb (by (first | omega | (simp; done) | (simp; omega))); have hy : w.heap.size < w1.heap.size ∧ w.heap.size + 1 < w1.heap.size := (by omega))
              go_wp2_with fail
              refine (rccheck_any d _).mono ?_
              rw [H1.out]
              rintro e w2 ⟨rfl, hb2⟩
              have hk2 := bc (B := w.heap.size + 1 + 1) hb2 (by omega)
              have hz2 := hb2.size
              go_wp2_with fail
              go_ret
              exact ⟨by rw [HT.out]; first | rfl | exact ret_bool (by simp; omega), by (repeat' (first | (with_reducible exact Below.refl _ _) | (with_reducible refine Below.alloc ?_ ?_ _) | (with_reducible refine Below.drew ?_) | (with_reducible refine below_drewN ?_ _) | (with_reducible refine Below.setCell ?_ ?_ _) | (with_reducible refine Below.trans ?_ (Below.mono (by assumption) ?_)) | (with_reducible exact Nat.le_refl _) | omega | (simp; omega) | (simp; done)))⟩
            · have HT : Hid (overB c d = false) := by show _ = _; unfold overB; exact decide_eq_false (fun h => h5 h.2.2.2.2.2)
              have H0 := Lib.hid h0
              have H1 := Lib.hid h1
              have q2 : (c.a == d.a) = true := by simpa using h2
              have q3 : (c.b == d.b) = true := by simpa using h3
              clear h0 h1 h2 h3
              go_enter Tryz.func47, Tryz.ntmps47
              go_wp2_with fail
              refine (rccheck_any c _).mono ?_
              rw [H0.out]
              (rintro e w1 ⟨rfl, hb⟩; have hz : w.heap.size + 1 + 1 ≤ w1.heap.size := (Nat.le_trans (by (first | omega | (simp; done) | (simp; omega))) hb.size); have hk := bc (B := w.heap.size + 1 + 1) hb (by (first | omega | (simp; done) | (simp; omega))); have hf := bf (B := w.heap.size + 1 + 1) hb (by (first | omega | (simp; done) | (simp; omega))); have hy : w.heap.size < w1.heap.size ∧ w.heap.size + 1 < w1.heap.size := (by omega))
              go_wp2_with fail
              refine (rccheck_any d _).mono ?_
              rw [H1.out]
              rintro e w2 ⟨rfl, hb2⟩
              have hk2 := bc (B := w.heap.size + 1 + 1) hb2 (by omega)
              have hz2 := hb2.size
              go_wp2_with fail
              go_ret
              exact ⟨by rw [HT.out]; first | rfl | exact ret_bool (by simp; omega), by (repeat' (first | (with_reducible exact Below.refl _ _) | (with_reducible refine Below.alloc ?_ ?_ _) | (with_reducible refine Below.drew ?_) | (with_reducible refine below_drewN ?_ _) | (with_reducible refine Below.setCell ?_ ?_ _) | (with_reducible refine Below.trans ?_ (Below.mono (by assumption) ?_)) | (with_reducible exact Nat.le_refl _) | omega | (simp; omega) | (simp; done)))⟩
          · have HT : Hid (overB c d = false) := by show _ = _; unfold overB; exact decide_eq_false (fun h => h4 h.2.2.2.2.1)
            have H0 := Lib.hid h0
            have H1 := Lib.hid h1
            have q2 : (c.a == d.a) = true := by simpa using h2
            have q3 : (c.b == d.b) = true := by simpa using h3
            clear h0 h1 h2 h3
            go_enter Tryz.func47, Tryz.ntmps47
            go_wp2_with fail
            refine (rccheck_any c _).mono ?_
            rw [H0.out]
            (rintro e w1 ⟨rfl, hb⟩; have hz : w.heap.size + 1 + 1 ≤ w1.heap.size := (Nat.le_trans (by (first | omega | (simp; done) | (simp; omega))) hb.size); have hk := bc (B := w.heap.size + 1 + 1) hb (by (first | omega | (simp; done) | (simp; omega))); have hf := bf (B := w.heap.size + 1 + 1) hb (by (first | omega | (simp; done) | (simp; omega))); have hy : w.heap.size < w1.heap.size ∧ w.heap.size + 1 < w1.heap.size := (by omega))
            go_wp2_with fail
            refine (rccheck_any d _).mono ?_
            rw [H1.out]
            rintro e w2 ⟨rfl, hb2⟩
            have hk2 := bc (B := w.heap.size + 1 + 1) hb2 (by omega)
            have hz2 := hb2.size
            go_wp2_with fail
            go_ret
            exact ⟨by rw [HT.out]; first | rfl | exact ret_bool (by simp; omega), by (repeat' (first | (with_reducible exact Below.refl _ _) | (with_reducible refine Below.alloc ?_ ?_ _) | (with_reducible refine Below.drew ?_) | (with_reducible refine below_drewN ?_ _) | (with_reducible refine Below.setCell ?_ ?_ _) | (with_reducible refine Below.trans ?_ (Below.mono (by assumption) ?_)) | (with_reducible exact Nat.le_refl _) | omega | (simp; omega) | (simp; done)))⟩
        · have HT : Hid (overB c d = false) := by show _ = _; unfold overB; exact decide_eq_false (fun h => h3 h.2.2.2.1)
          have H0 := Lib.hid h0
          have H1 := Lib.hid h1
          have q2 : (c.a == d.a) = true := by simpa using h2
          have q3 : (c.b == d.b) = false := by simpa using h3
          clear h0 h1 h2 h3
          go_enter Tryz.func47, Tryz.ntmps47
          go_wp2_with fail
          refine (rccheck_any c _).mono ?_
          rw [H0.out]
          (rintro e w1 ⟨rfl, hb⟩; have hz : w.heap.size + 1 + 1 ≤ w1.heap.size := (Nat.le_trans (by (first | omega | (simp; done) | (simp; omega))) hb.size); have hk := bc (B := w.heap.size + 1 + 1) hb (by (first | omega | (simp; done) | (simp; omega))); have hf := bf (B := w.heap.size + 1 + 1) hb (by (first | omega | (simp; done) | (simp; omega))); have hy : w.heap.size < w1.heap.size ∧ w.heap.size + 1 < w1.heap.size := (by omega))
          go_wp2_with fail
          refine (rccheck_any d _).mono ?_
          rw [H1.out]
          rintro e w2 ⟨rfl, hb2⟩
          have hk2 := bc (B := w.heap.size + 1 + 1) hb2 (by omega)
          have hz2 := hb2.size
          go_wp2_with fail
          go_ret
          exact ⟨by rw [HT.out]; first | rfl | exact ret_bool (by simp; omega), by (repeat' (first | (with_reducible exact Below.refl _ _) | (with_reducible refine Below.alloc ?_ ?_ _) | (with_reducible refine Below.drew ?_) | (with_reducible refine below_drewN ?_ _) | (with_reducible refine Below.setCell ?_ ?_ _) | (with_reducible refine Below.trans ?_ (Below.mono (by assumption) ?_)) | (with_reducible exact Nat.le_refl _) | omega | (simp; omega) | (simp; done)))⟩
      · have HT : Hid (overB c d = false) := by show _ = _; unfold overB; exact decide_eq_false (fun h => h2 h.2.2.1)
        have H0 := Lib.hid h0
        have H1 := Lib.hid h1
        have q2 : (c.a == d.a) = false := by simpa using h2
        clear h0 h1 h2
        go_enter Tryz.func47, Tryz.ntmps47
        go_wp2_with fail
        refine (rccheck_any c _).mono ?_
        rw [H0.out]
        (rintro e w1 ⟨rfl, hb⟩; have hz : w.heap.size + 1 + 1 ≤ w1.heap.size := (Nat.le_trans (by (first | omega | (simp; done) | (simp; omega))) hb.size); have hk := bc (B := w.heap.size + 1 + 1) hb (by (first | omega | (simp; done) | (simp; omega))); have hf := bf (B := w.heap.size + 1 + 1) hb (by (first | omega | (simp; done) | (simp; omega))); have hy : w.heap.size < w1.heap.size ∧ w.heap.size + 1 < w1.heap.size := (by omega))
        go_wp2_with fail
        refine (rccheck_any d _).mono ?_
        rw [H1.out]
        rintro e w2 ⟨rfl, hb2⟩
        have hk2 := bc (B := w.heap.size + 1 + 1) hb2 (by omega)
        have hz2 := hb2.size
        go_wp2_with fail
        go_ret
        exact ⟨by rw [HT.out]; first | rfl | exact ret_bool (by simp; omega), by (repeat' (first | (with_reducible exact Below.refl _ _) | (with_reducible refine Below.alloc ?_ ?_ _) | (with_reducible refine Below.drew ?_) | (with_reducible refine below_drewN ?_ _) | (with_reducible refine Below.setCell ?_ ?_ _) | (with_reducible refine Below.trans ?_ (Below.mono (by assumption) ?_)) | (with_reducible exact Nat.le_refl _) | omega | (simp; omega) | (simp; done)))⟩
    · have HT : Hid (overB c d = false) := by show _ = _; unfold overB; exact decide_eq_false (fun h => h1 h.2.1)
      have H0 := Lib.hid h0
      have q1 : (conE d == 0) = false := by simpa using h1
      clear h0 h1
      go_enter Tryz.func47, Tryz.ntmps47
      go_wp2_with fail
      refine (rccheck_any c _).mono ?_
      rw [H0.out]
      (rintro e w1 ⟨rfl, hb⟩; have hz : w.heap.size + 1 + 1 ≤ w1.heap.size := (Nat.le_trans (by (first | omega | (simp; done) | (simp; omega))) hb.size); have hk := bc (B := w.heap.size + 1 + 1) hb (by (first | omega | (simp; done) | (simp; omega))); have hf := bf (B := w.heap.size + 1 + 1) hb (by (first | omega | (simp; done) | (simp; omega))); have hy : w.heap.size < w1.heap.size ∧ w.heap.size + 1 < w1.heap.size := (by omega))
      go_wp2_with fail
      refine (rccheck_any d _).mono ?_
      rintro e w2 ⟨rfl, hb2⟩
      have hk2 := bc (B := w.heap.size + 1 + 1) hb2 (by omega)
      have hz2 := hb2.size
      go_wp2_with fail
      go_ret
      exact ⟨by rw [HT.out]; first | rfl | exact ret_bool (by simp; omega), by (repeat' (first | (with_reducible exact Below.refl _ _) | (with_reducible refine Below.alloc ?_ ?_ _) | (with_reducible refine Below.drew ?_) | (with_reducible refine below_drewN ?_ _) | (with_reducible refine Below.setCell ?_ ?_ _) | (with_reducible refine Below.trans ?_ (Below.mono (by assumption) ?_)) | (with_reducible exact Nat.le_refl _) | omega | (simp; omega) | (simp; done)))⟩
  · have HT : Hid (overB c d = false) := by show _ = _; unfold overB; exact decide_eq_false (fun h => h0 h.1)
    have q0 : (conE c == 0) = false := by simpa using h0
    clear h0
    go_enter Tryz.func47, Tryz.ntmps47
    go_wp2_with fail
    refine (rccheck_any c _).mono ?_
    (rintro e w1 ⟨rfl, hb⟩; have hz : w.heap.size + 1 + 1 ≤ w1.heap.size := (Nat.le_trans (by (first | omega | (simp; done) | (simp; omega))) hb.size); have hk := bc (B := w.heap.size + 1 + 1) hb (by (first | omega | (simp; done) | (simp; omega))); have hf := bf (B := w.heap.size + 1 + 1) hb (by (first | omega | (simp; done) | (simp; omega))); have hy : w.heap.size < w1.heap.size ∧ w.heap.size + 1 < w1.heap.size := (by omega))
    go_wp2_with fail
    go_ret
    exact ⟨by rw [HT.out]; first | rfl | exact ret_bool (by simp; omega), by (repeat' (first | (with_reducible exact Below.refl _ _) | (with_reducible refine Below.alloc ?_ ?_ _) | (with_reducible refine Below.drew ?_) | (with_reducible refine below_drewN ?_ _) | (with_reducible refine Below.setCell ?_ ?_ _) | (with_reducible refine Below.trans ?_ (Below.mono (by assumption) ?_)) | (with_reducible exact Nat.le_refl _) | omega | (simp; omega) | (simp; done)))⟩
/-- the first place of a list where a condition holds, from k on -/
def findI (p : Con → Bool) : List Con → Nat → Int
  | [], _ => -1
  | a :: t, k => if p a = true then (k : Int) else findI p t (k + 1)
theorem drop_con (l : List Con) (k : Nat) (h : k < l.length) : l.drop k = l.getD k Con.zero :: l.drop (k + 1) := by
  rw [List.drop_eq_getElem_cons h]; simp [List.getD, h]
theorem findI_step (p : Con → Bool) (l : List Con) (k : Nat) (h : k < l.length) : findI p (l.drop k) k = if p (l.getD k Con.zero) = true then (k : Int) else findI p (l.drop (k + 1)) (k + 1) := by
  rw [drop_con l k h, findI]
theorem findI_any (p : Con → Bool) : ∀ (l : List Con) (k : Nat), decide (0 ≤ findI p l k) = l.any p
  | [], k => by simp [findI]
  | a :: t, k => by
    rw [findI, List.any_cons]
    cases h : p a
    · simp [findI_any p t (k + 1)]
    · simp
set_option maxHeartbeats 1000000 in
theorem ck_index (v : Value) (cs : List Con) (pb : Nat) (p : Con → Bool) (w : World) (hv : Cons w w.heap.size v cs) (hcl : ∀ (c : Con) (W : World), Below w.heap.size w W → Calls Tryz.prog 40 #[.agg #[.int .i64 c.a, .int .i64 c.b, .int .i64 c.s, .int .i64 c.e, .int .i64 c.r, .int .i64 c.g, .int .i64 c.l], .pointer (some ⟨pb, 0, none⟩)] W fun e W' => e = .returned (.bool (p c)) ∧ Below W.heap.size W W') :
    Calls Tryz.prog 74 #[v, .func (.func 40) #[] #[.pointer (some ⟨pb, 0, none⟩)]] w fun e w' => e = .returned (.int .i64 (findI p cs 0)) ∧ Below w.heap.size w w' := by
  have HCL := Lib.hid hcl
  clear hcl
  obtain ⟨A, c, rfl, hc, hm, hA⟩ := hv
  unfold maxLen at hm
  have HA := Lib.hid hA
  clear hA
  go_enter Tryz.func74, Tryz.ntmps74
  go_wp2_with fail
  go_loopw [8] (fun i wr => ∃ k : Nat, k ≤ cs.length ∧ i = .int .i64 k ∧ Hid (findI p (cs.drop k) k = findI p cs 0) ∧ Below w.heap.size w wr) (fun i _ => cs.length - (intOf i).toNat)
  case atStart => exact ⟨0, by omega, rfl, rfl, Below.refl _ _⟩
  case round =>
    obtain ⟨k, hk, rfl, hr, hB⟩ := hrel
    have hzr := hB.size
    by_cases hlt : k < cs.length
    · obtain ⟨b, o, rfl, hb, hcell⟩ := HA.out (by omega)
      have hx := (hcell k hlt).below hB hb
      have HST := Lib.hid (findI_step p cs k hlt)
      clear hcell
      generalize cs.getD k Con.zero = d at *
      obtain ⟨x0, x1, x2, x3, x4, x5, x6⟩ := hx
      cases hq : p d
      · have HT : Hid (findI p (cs.drop (k + 1)) (k + 1) = findI p cs 0) := by show _ = _; rw [← hr.out, HST.out, hq]; rfl
        have HQ := Lib.hid hq
        clear hq
        go_wp2_with fail
        refine (HCL.out d _ hB).mono ?_
        rw [HQ.out]
        rintro e w1 ⟨rfl, hb1⟩
        have hB1 := bt' hB hb1 hzr
        clear hb1
        go_wp2_with fail
        go_roundw
        case rel => exact ⟨k + 1, by omega, by go_num, HT, hB1⟩
        case measure => simp [intOf]; omega
      · have HT : Hid (findI p cs 0 = k) := by show _ = _; rw [← hr.out, HST.out, hq]; rfl
        have HQ := Lib.hid hq
        clear hq
        go_wp2_with fail
        refine (HCL.out d _ hB).mono ?_
        rw [HQ.out]
        rintro e w1 ⟨rfl, hb1⟩
        have hB1 := bt' hB hb1 hzr
        clear hb1
        go_wp2_with fail
        go_ret
        exact ⟨by rw [HT.out]; rfl, hB1⟩
    · have HT : Hid (findI p cs 0 = -1) := by show _ = _; rw [← hr.out, List.drop_of_length_le (by omega)]; rfl
      go_wp2_with fail
      go_ret
      exact ⟨by rw [HT.out]; rfl, hB⟩
theorem ck_contains (v : Value) (cs : List Con) (pb : Nat) (p : Con → Bool) (w : World) (hv : Cons w w.heap.size v cs) (hcl : ∀ (c : Con) (W : World), Below w.heap.size w W → Calls Tryz.prog 40 #[.agg #[.int .i64 c.a, .int .i64 c.b, .int .i64 c.s, .int .i64 c.e, .int .i64 c.r, .int .i64 c.g, .int .i64 c.l], .pointer (some ⟨pb, 0, none⟩)] W fun e W' => e = .returned (.bool (p c)) ∧ Below W.heap.size W W') :
    Calls Tryz.prog 39 #[v, .func (.func 40) #[] #[.pointer (some ⟨pb, 0, none⟩)]] w fun e w' => e = .returned (.bool (cs.any p)) ∧ Below w.heap.size w w' := by
  have HCL := Lib.hid (ck_index v cs pb p w hv hcl)
  have H := Lib.hid (findI_any p cs 0)
  clear hcl
  go_enter Tryz.func39, Tryz.ntmps39
  go_wp2_with fail
  refine HCL.out.mono ?_
  rintro e w1 ⟨rfl, hb1⟩
  go_wp2_with fail
  go_ret
  exact ⟨by rw [← H.out]; rfl, hb1⟩
theorem ck_closure (c d : Con) (pb : Nat) (W : World) (hlt : pb < W.heap.size) (hc : ConAt W pb 0 c) : Calls Tryz.prog 40 #[.agg #[.int .i64 d.a, .int .i64 d.b, .int .i64 d.s, .int .i64 d.e, .int .i64 d.r, .int .i64 d.g, .int .i64 d.l], .pointer (some ⟨pb, 0, none⟩)] W fun e W' => e = .returned (.bool (overB c d)) ∧ Below W.heap.size W W' := by
  obtain ⟨x0, x1, x2, x3, x4, x5, x6⟩ := hc
  simp only [Nat.zero_add] at x0 x1 x2 x3 x4 x5 x6
  go_enter Tryz.func40, Tryz.ntmps40
  go_wp2_with fail
  refine (over_any c d _).mono ?_
  rintro e w1 ⟨rfl, hb1⟩
  go_wp2_with fail
  go_ret
  exact ⟨rfl, ((Below.refl _ W).alloc (Nat.le_refl _) _).trans (hb1.mono (by simp))⟩
end Go.Proofs.YtclkjjdfdndplaaGreatDoor

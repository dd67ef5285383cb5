/- Bundles: the parts of Check. -/
import Derived.Test.YtclkjjdfdndplaaGreatDoorF4
namespace Go.Proofs.YtclkjjdfdndplaaGreatDoor
open Go.RowKit
/-- an extension block -/
structure Blk where
  k : Int
  f : Int
  d : ByteArray
deriving DecidableEq, Inhabited
def Blk.zero : Blk := ⟨0, 0, ⟨#[]⟩⟩
/-- a bundle -/
structure Bun where
  s : Int
  c : Int
  q : Int
  o : Int
  t : Int
  dk : Int
  dn : Int
  lf : Int
  pr : Int
  fl : Int
  bl : List Blk
  py : ByteArray
deriving DecidableEq, Inhabited
def Bun.zero : Bun := ⟨0, 0, 0, 0, 0, 0, 0, 0, 0, 0, [], ⟨#[]⟩⟩

theorem within2_any (n lo hi : Int) (w : World) : Calls Tryz.prog 77 #[.int .i64 n, .int .i64 lo, .int .i64 hi] w fun e w' => e = .returned (.bool (inB lo hi n)) ∧ w = w' := by
  have H : Hid (∀ b : Bool, decide (lo ≤ n) = b → inB lo hi n = (b && decide (n ≤ hi))) := fun b hb => by rw [← hb]; rfl
  cases h : decide (lo ≤ n)
  · have h2 : ¬ lo ≤ n := by simpa using h
    have HT := Lib.hid (H.out false h)
    clear h
    go_enter Tryz.func77, Tryz.ntmps77
    go_wp2
    go_ret
    exact ⟨by rw [HT.out]; rfl, rfl⟩
  · have h2 : lo ≤ n := by simpa using h
    have HT := Lib.hid (H.out true h)
    clear h
    cases h3 : decide (n ≤ hi)
    · have h4 : ¬ n ≤ hi := by simpa using h3
      have HT2 : Hid (inB lo hi n = false) := by show _ = _; rw [HT.out, h3]; rfl
      clear h3
      go_enter Tryz.func77, Tryz.ntmps77
      go_wp2
      go_ret
      exact ⟨by rw [HT2.out]; rfl, rfl⟩
    · have h4 : n ≤ hi := by simpa using h3
      have HT2 : Hid (inB lo hi n = true) := by show _ = _; rw [HT.out, h3]; rfl
      clear h3
      go_enter Tryz.func77, Tryz.ntmps77
      go_wp2
      go_ret
      exact ⟨by rw [HT2.out]; rfl, rfl⟩

/-- why an id is not valid -/
def idE (s c q o t : Int) : Int := if ¬ ((inB 0 15 s && inB 0 1099511627776 c && inB 0 1099511627776 q) = true) then 2 else if o = 0 ∧ t = 0 then 0 else if ¬ ((inB 1 4096 t && inB 0 (t - 1) o) = true) then 2 else 0

set_option maxHeartbeats 4000000 in
theorem id_any (s c q o t : Int) (w : World) : Calls Tryz.prog 75 #[.agg #[.int .i64 s, .int .i64 c, .int .i64 q, .int .i64 o, .int .i64 t]] w fun e w' => e = .returned (.int .i64 (idE s c q o t)) ∧ Below w.heap.size w w' := by
  cases h0 : inB 0 15 s
  · have HE : Hid (idE s c q o t = 2) := by show _ = _; simp [idE, h0]
    have H0 := Lib.hid h0
    clear h0
    go_enter Tryz.func75, Tryz.ntmps75
    go_wp2_with fail
    (refine (within2_any _ _ _ _).mono ?_; rw [H0.out]; rintro e w1 ⟨rfl, rfl⟩)
    go_wp2_with fail
    go_ret
    exact ⟨by rw [HE.out]; rfl, by (repeat' (first | (with_reducible exact Below.refl _ _) | (with_reducible refine Below.alloc ?_ ?_ _) | (with_reducible refine Below.drew ?_) | (with_reducible refine below_drewN ?_ _) | (with_reducible refine Below.setCell ?_ ?_ _) | (with_reducible refine Below.trans ?_ (Below.mono (by assumption) ?_)) | (with_reducible exact Nat.le_refl _) | omega | (simp; omega) | (simp; done)))⟩
  · skip
    cases h1 : inB 0 1099511627776 c
    · have HE : Hid (idE s c q o t = 2) := by show _ = _; simp [idE, h0, h1]
      have H0 := Lib.hid h0
      have H1 := Lib.hid h1
      clear h0 h1
      go_enter Tryz.func75, Tryz.ntmps75
      go_wp2_with fail
      (refine (within2_any _ _ _ _).mono ?_; rw [H0.out]; rintro e w1 ⟨rfl, rfl⟩)
      go_wp2_with fail
      (refine (within2_any _ _ _ _).mono ?_; rw [H1.out]; rintro e w1 ⟨rfl, rfl⟩)
      go_wp2_with fail
      go_ret
      exact ⟨by rw [HE.out]; rfl, by (repeat' (first | (with_reducible exact Below.refl _ _) | (with_reducible refine Below.alloc ?_ ?_ _) | (with_reducible refine Below.drew ?_) | (with_reducible refine below_drewN ?_ _) | (with_reducible refine Below.setCell ?_ ?_ _) | (with_reducible refine Below.trans ?_ (Below.mono (by assumption) ?_)) | (with_reducible exact Nat.le_refl _) | omega | (simp; omega) | (simp; done)))⟩
    · skip
      cases h2 : inB 0 1099511627776 q
      · have HE : Hid (idE s c q o t = 2) := by show _ = _; simp [idE, h0, h1, h2]
        have H0 := Lib.hid h0
        have H1 := Lib.hid h1
        have H2 := Lib.hid h2
        clear h0 h1 h2
        go_enter Tryz.func75, Tryz.ntmps75
        go_wp2_with fail
        (refine (within2_any _ _ _ _).mono ?_; rw [H0.out]; rintro e w1 ⟨rfl, rfl⟩)
        go_wp2_with fail
        (refine (within2_any _ _ _ _).mono ?_; rw [H1.out]; rintro e w1 ⟨rfl, rfl⟩)
        go_wp2_with fail
        (refine (within2_any _ _ _ _).mono ?_; rw [H2.out]; rintro e w1 ⟨rfl, rfl⟩)
        go_wp2_with fail
        go_ret
        exact ⟨by rw [HE.out]; rfl, by (repeat' (first | (with_reducible exact Below.refl _ _) | (with_reducible refine Below.alloc ?_ ?_ _) | (with_reducible refine Below.drew ?_) | (with_reducible refine below_drewN ?_ _) | (with_reducible refine Below.setCell ?_ ?_ _) | (with_reducible refine Below.trans ?_ (Below.mono (by assumption) ?_)) | (with_reducible exact Nat.le_refl _) | omega | (simp; omega) | (simp; done)))⟩
      · skip
        by_cases h3 : o = 0
        · by_cases h4 : t = 0
          · have HE : Hid (idE s c q o t = 0) := by show _ = _; simp [idE, h0, h1, h2, h3, h4]
            have q3 : (o == 0) = true := by simpa using h3
            have q4 : (t == 0) = true := by simpa using h4
            clear h3 h4
            have H0 := Lib.hid h0
            have H1 := Lib.hid h1
            have H2 := Lib.hid h2
            clear h0 h1 h2
            go_enter Tryz.func75, Tryz.ntmps75
            go_wp2_with fail
            (refine (within2_any _ _ _ _).mono ?_; rw [H0.out]; rintro e w1 ⟨rfl, rfl⟩)
            go_wp2_with fail
            (refine (within2_any _ _ _ _).mono ?_; rw [H1.out]; rintro e w1 ⟨rfl, rfl⟩)
            go_wp2_with fail
            (refine (within2_any _ _ _ _).mono ?_; rw [H2.out]; rintro e w1 ⟨rfl, rfl⟩)
            go_wp2_with fail
            go_ret
            exact ⟨by rw [HE.out]; rfl, by (repeat' (first | (with_reducible exact Below.refl _ _) | (with_reducible refine Below.alloc ?_ ?_ _) | (with_reducible refine Below.drew ?_) | (with_reducible refine below_drewN ?_ _) | (with_reducible refine Below.setCell ?_ ?_ _) | (with_reducible refine Below.trans ?_ (Below.mono (by assumption) ?_)) | (with_reducible exact Nat.le_refl _) | omega | (simp; omega) | (simp; done)))⟩
          · skip
            cases h5 : inB 1 4096 t
            · have HE : Hid (idE s c q o t = 2) := by show _ = _; simp [idE, h0, h1, h2, h3, h4, h5]
              have q3 : (o == 0) = true := by simpa using h3
              have q4 : (t == 0) = false := by simpa using h4
              clear h3 h4
              have H0 := Lib.hid h0
              have H1 := Lib.hid h1
              have H2 := Lib.hid h2
              have H5 := Lib.hid h5
              clear h0 h1 h2 h5
              go_enter Tryz.func75, Tryz.ntmps75
              go_wp2_with fail
              (refine (within2_any _ _ _ _).mono ?_; rw [H0.out]; rintro e w1 ⟨rfl, rfl⟩)
              go_wp2_with fail
              (refine (within2_any _ _ _ _).mono ?_; rw [H1.out]; rintro e w1 ⟨rfl, rfl⟩)
              go_wp2_with fail
              (refine (within2_any _ _ _ _).mono ?_; rw [H2.out]; rintro e w1 ⟨rfl, rfl⟩)
              go_wp2_with fail
              (refine (within2_any _ _ _ _).mono ?_; rw [H5.out]; rintro e w1 ⟨rfl, rfl⟩)
              go_wp2_with fail
              go_ret
              exact ⟨by rw [HE.out]; rfl, by (repeat' (first | (with_reducible exact Below.refl _ _) | (with_reducible refine Below.alloc ?_ ?_ _) | (with_reducible refine Below.drew ?_) | (with_reducible refine below_drewN ?_ _) | (with_reducible refine Below.setCell ?_ ?_ _) | (with_reducible refine Below.trans ?_ (Below.mono (by assumption) ?_)) | (with_reducible exact Nat.le_refl _) | omega | (simp; omega) | (simp; done)))⟩
            · have hb := inB_iff.1 h5
              obtain ⟨hb1, hb2⟩ := hb
              cases h6 : inB 0 (t - 1) o
              · have HE : Hid (idE s c q o t = 2) := by show _ = _; simp [idE, h0, h1, h2, h3, h4, h5, (h3 ▸ h6 : inB 0 (t - 1) 0 = false)]
                have q3 : (o == 0) = true := by simpa using h3
                have q4 : (t == 0) = false := by simpa using h4
                clear h3 h4
                have H0 := Lib.hid h0
                have H1 := Lib.hid h1
                have H2 := Lib.hid h2
                have H5 := Lib.hid h5
                have H6 := Lib.hid h6
                clear h0 h1 h2 h5 h6
                go_enter Tryz.func75, Tryz.ntmps75
                go_wp2_with fail
                (refine (within2_any _ _ _ _).mono ?_; rw [H0.out]; rintro e w1 ⟨rfl, rfl⟩)
                go_wp2_with fail
                (refine (within2_any _ _ _ _).mono ?_; rw [H1.out]; rintro e w1 ⟨rfl, rfl⟩)
                go_wp2_with fail
                (refine (within2_any _ _ _ _).mono ?_; rw [H2.out]; rintro e w1 ⟨rfl, rfl⟩)
                go_wp2_with fail
                (refine (within2_any _ _ _ _).mono ?_; rw [H5.out]; rintro e w1 ⟨rfl, rfl⟩)
                go_wp2_with fail
                (refine (within2_any _ _ _ _).mono ?_; rw [H6.out]; rintro e w1 ⟨rfl, rfl⟩)
                go_wp2_with fail
                go_ret
                exact ⟨by rw [HE.out]; rfl, by (repeat' (first | (with_reducible exact Below.refl _ _) | (with_reducible refine Below.alloc ?_ ?_ _) | (with_reducible refine Below.drew ?_) | (with_reducible refine below_drewN ?_ _) | (with_reducible refine Below.setCell ?_ ?_ _) | (with_reducible refine Below.trans ?_ (Below.mono (by assumption) ?_)) | (with_reducible exact Nat.le_refl _) | omega | (simp; omega) | (simp; done)))⟩
              · have HE : Hid (idE s c q o t = 0) := by show _ = _; simp [idE, h0, h1, h2, h3, h4, h5, (h3 ▸ h6 : inB 0 (t - 1) 0 = true)]
                have q3 : (o == 0) = true := by simpa using h3
                have q4 : (t == 0) = false := by simpa using h4
                clear h3 h4
                have H0 := Lib.hid h0
                have H1 := Lib.hid h1
                have H2 := Lib.hid h2
                have H5 := Lib.hid h5
                have H6 := Lib.hid h6
                clear h0 h1 h2 h5 h6
                go_enter Tryz.func75, Tryz.ntmps75
                go_wp2_with fail
                (refine (within2_any _ _ _ _).mono ?_; rw [H0.out]; rintro e w1 ⟨rfl, rfl⟩)
                go_wp2_with fail
                (refine (within2_any _ _ _ _).mono ?_; rw [H1.out]; rintro e w1 ⟨rfl, rfl⟩)
                go_wp2_with fail
                (refine (within2_any _ _ _ _).mono ?_; rw [H2.out]; rintro e w1 ⟨rfl, rfl⟩)
                go_wp2_with fail
                (refine (within2_any _ _ _ _).mono ?_; rw [H5.out]; rintro e w1 ⟨rfl, rfl⟩)
                go_wp2_with fail
                (refine (within2_any _ _ _ _).mono ?_; rw [H6.out]; rintro e w1 ⟨rfl, rfl⟩)
                go_wp2_with fail
                go_ret
                exact ⟨by rw [HE.out]; rfl, by (repeat' (first | (with_reducible exact Below.refl _ _) | (with_reducible refine Below.alloc ?_ ?_ _) | (with_reducible refine Below.drew ?_) | (with_reducible refine below_drewN ?_ _) | (with_reducible refine Below.setCell ?_ ?_ _) | (with_reducible refine Below.trans ?_ (Below.mono (by assumption) ?_)) | (with_reducible exact Nat.le_refl _) | omega | (simp; omega) | (simp; done)))⟩
        · skip
          cases h5 : inB 1 4096 t
          · have HE : Hid (idE s c q o t = 2) := by show _ = _; simp [idE, h0, h1, h2, h3, h5]
            have q3 : (o == 0) = false := by simpa using h3
            clear h3
            have H0 := Lib.hid h0
            have H1 := Lib.hid h1
            have H2 := Lib.hid h2
            have H5 := Lib.hid h5
            clear h0 h1 h2 h5
            go_enter Tryz.func75, Tryz.ntmps75
            go_wp2_with fail
            (refine (within2_any _ _ _ _).mono ?_; rw [H0.out]; rintro e w1 ⟨rfl, rfl⟩)
            go_wp2_with fail
            (refine (within2_any _ _ _ _).mono ?_; rw [H1.out]; rintro e w1 ⟨rfl, rfl⟩)
            go_wp2_with fail
            (refine (within2_any _ _ _ _).mono ?_; rw [H2.out]; rintro e w1 ⟨rfl, rfl⟩)
            go_wp2_with fail
            (refine (within2_any _ _ _ _).mono ?_; rw [H5.out]; rintro e w1 ⟨rfl, rfl⟩)
            go_wp2_with fail
            go_ret
            exact ⟨by rw [HE.out]; rfl, by (repeat' (first | (with_reducible exact Below.refl _ _) | (with_reducible refine Below.alloc ?_ ?_ _) | (with_reducible refine Below.drew ?_) | (with_reducible refine below_drewN ?_ _) | (with_reducible refine Below.setCell ?_ ?_ _) | (with_reducible refine Below.trans ?_ (Below.mono (by assumption) ?_)) | (with_reducible exact Nat.le_refl _) | omega | (simp; omega) | (simp; done)))⟩
          · have hb := inB_iff.1 h5
            obtain ⟨hb1, hb2⟩ := hb
            cases h6 : inB 0 (t - 1) o
            · have HE : Hid (idE s c q o t = 2) := by show _ = _; simp [idE, h0, h1, h2, h3, h5, h6]
              have q3 : (o == 0) = false := by simpa using h3
              clear h3
              have H0 := Lib.hid h0
              have H1 := Lib.hid h1
              have H2 := Lib.hid h2
              have H5 := Lib.hid h5
              have H6 := Lib.hid h6
              clear h0 h1 h2 h5 h6
              go_enter Tryz.func75, Tryz.ntmps75
              go_wp2_with fail
              (refine (within2_any _ _ _ _).mono ?_; rw [H0.out]; rintro e w1 ⟨rfl, rfl⟩)
              go_wp2_with fail
              (refine (within2_any _ _ _ _).mono ?_; rw [H1.out]; rintro e w1 ⟨rfl, rfl⟩)
              go_wp2_with fail
              (refine (within2_any _ _ _ _).mono ?_; rw [H2.out]; rintro e w1 ⟨rfl, rfl⟩)
              go_wp2_with fail
              (refine (within2_any _ _ _ _).mono ?_; rw [H5.out]; rintro e w1 ⟨rfl, rfl⟩)
              go_wp2_with fail
              (refine (within2_any _ _ _ _).mono ?_; rw [H6.out]; rintro e w1 ⟨rfl, rfl⟩)
              go_wp2_with fail
              go_ret
              exact ⟨by rw [HE.out]; rfl, by (repeat' (first | (with_reducible exact Below.refl _ _) | (with_reducible refine Below.alloc ?_ ?_ _) | (with_reducible refine Below.drew ?_) | (with_reducible refine below_drewN ?_ _) | (with_reducible refine Below.setCell ?_ ?_ _) | (with_reducible refine Below.trans ?_ (Below.mono (by assumption) ?_)) | (with_reducible exact Nat.le_refl _) | omega | (simp; omega) | (simp; done)))⟩
            · have HE : Hid (idE s c q o t = 0) := by show _ = _; simp [idE, h0, h1, h2, h3, h5, h6]
              have q3 : (o == 0) = false := by simpa using h3
              clear h3
              have H0 := Lib.hid h0
              have H1 := Lib.hid h1
              have H2 := Lib.hid h2
              have H5 := Lib.hid h5
              have H6 := Lib.hid h6
              clear h0 h1 h2 h5 h6
              go_enter Tryz.func75, Tryz.ntmps75
              go_wp2_with fail
              (refine (within2_any _ _ _ _).mono ?_; rw [H0.out]; rintro e w1 ⟨rfl, rfl⟩)
              go_wp2_with fail
              (refine (within2_any _ _ _ _).mono ?_; rw [H1.out]; rintro e w1 ⟨rfl, rfl⟩)
              go_wp2_with fail
              (refine (within2_any _ _ _ _).mono ?_; rw [H2.out]; rintro e w1 ⟨rfl, rfl⟩)
              go_wp2_with fail
              (refine (within2_any _ _ _ _).mono ?_; rw [H5.out]; rintro e w1 ⟨rfl, rfl⟩)
              go_wp2_with fail
              (refine (within2_any _ _ _ _).mono ?_; rw [H6.out]; rintro e w1 ⟨rfl, rfl⟩)
              go_wp2_with fail
              go_ret
              exact ⟨by rw [HE.out]; rfl, by (repeat' (first | (with_reducible exact Below.refl _ _) | (with_reducible refine Below.alloc ?_ ?_ _) | (with_reducible refine Below.drew ?_) | (with_reducible refine below_drewN ?_ _) | (with_reducible refine Below.setCell ?_ ?_ _) | (with_reducible refine Below.trans ?_ (Below.mono (by assumption) ?_)) | (with_reducible exact Nat.le_refl _) | omega | (simp; omega) | (simp; done)))⟩
theorem idE_ok {s c q o t : Int} (h : idE s c q o t = 0) : 0 ≤ s ∧ s ≤ 15 ∧ 0 ≤ c ∧ c ≤ 1099511627776 ∧ 0 ≤ q ∧ q ≤ 1099511627776 ∧ 0 ≤ o ∧ 0 ≤ t ∧ t ≤ 4096 ∧ o ≤ t ∧ (t = 0 → o = 0) := by
  unfold idE at h
  split at h
  · cases h
  rename_i h1
  simp only [Classical.not_not, Bool.and_eq_true, inB_iff] at h1
  split at h
  · rename_i h2; omega
  · split at h
    · cases h
    rename_i h3
    simp only [Classical.not_not, Bool.and_eq_true, inB_iff] at h3
    omega
/-- why an endpoint is not valid -/
def epE (k n : Int) : Int := if k = 1 then (if n < 0 ∨ 16 ≤ n then 2 else 0) else if k = 2 then (if n < 0 ∨ 8 ≤ n then 2 else 0) else 8
set_option maxHeartbeats 1000000 in
theorem ep_any (k n : Int) (w : World) : Calls Tryz.prog 76 #[.agg #[.int .i64 k, .int .i64 n]] w fun e w' => e = .returned (.int .i64 (epE k n)) ∧ Below w.heap.size w w' := by
  by_cases h1 : k = 1
  · have HE : Hid (epE k n = if n < 0 ∨ 16 ≤ n then 2 else 0) := by show _ = _; simp [epE, h1]
    have q1 : (k == 1) = true := by simpa using h1
    clear h1
    go_enter Tryz.func76, Tryz.ntmps76
    go_wp2_with fail
    all_goals
      go_ret
      refine ⟨?_, by (repeat' (first | (with_reducible exact Below.refl _ _) | (with_reducible refine Below.alloc ?_ ?_ _) | (with_reducible refine Below.drew ?_) | (with_reducible refine below_drewN ?_ _) | (with_reducible refine Below.setCell ?_ ?_ _) | (with_reducible refine Below.trans ?_ (Below.mono (by assumption) ?_)) | (with_reducible exact Nat.le_refl _) | omega | (simp; omega) | (simp; done)))⟩
      rw [HE.out]
      first | (rw [if_pos (by omega)]; rfl) | (rw [if_neg (by omega)]; rfl)
  · by_cases h2 : k = 2
    · have HE : Hid (epE k n = if n < 0 ∨ 8 ≤ n then 2 else 0) := by show _ = _; simp [epE, h2]
      have q1 : (k == 1) = false := by simpa using h1
      have q2 : (k == 2) = true := by simpa using h2
      clear h1 h2
      go_enter Tryz.func76, Tryz.ntmps76
      go_wp2_with fail
      all_goals
        go_ret
        refine ⟨?_, by (repeat' (first | (with_reducible exact Below.refl _ _) | (with_reducible refine Below.alloc ?_ ?_ _) | (with_reducible refine Below.drew ?_) | (with_reducible refine below_drewN ?_ _) | (with_reducible refine Below.setCell ?_ ?_ _) | (with_reducible refine Below.trans ?_ (Below.mono (by assumption) ?_)) | (with_reducible exact Nat.le_refl _) | omega | (simp; omega) | (simp; done)))⟩
        rw [HE.out]
        first | (rw [if_pos (by omega)]; rfl) | (rw [if_neg (by omega)]; rfl)
    · have HE : Hid (epE k n = 8) := by show _ = _; simp [epE, h1, h2]
      have q1 : (k == 1) = false := by simpa using h1
      have q2 : (k == 2) = false := by simpa using h2
      clear h1 h2
      go_enter Tryz.func76, Tryz.ntmps76
      go_wp2_with fail
      go_ret
      exact ⟨by rw [HE.out]; rfl, by (repeat' (first | (with_reducible exact Below.refl _ _) | (with_reducible refine Below.alloc ?_ ?_ _) | (with_reducible refine Below.drew ?_) | (with_reducible refine below_drewN ?_ _) | (with_reducible refine Below.setCell ?_ ?_ _) | (with_reducible refine Below.trans ?_ (Below.mono (by assumption) ?_)) | (with_reducible exact Nat.le_refl _) | omega | (simp; omega) | (simp; done)))⟩
/-- why the flags of a bundle are not valid -/
def flE (t fl : Int) : Int := if inB 0 127 fl = false then 1 else if bits BinOp.and IntKind.i64 fl 4 ≠ 0 ∧ bits BinOp.and IntKind.i64 fl 64 ≠ 0 then 1 else if 0 < t ∧ bits BinOp.and IntKind.i64 fl 2 ≠ 0 then 1 else 0
set_option maxHeartbeats 2000000 in
theorem fl_any (s c q o t dk dn lf pr fl : Int) (V : Value) (py : ByteArray) (w : World) : Calls Tryz.prog 78 #[.agg #[.int .i64 s, .int .i64 c, .int .i64 q, .int .i64 o, .int .i64 t, .int .i64 dk, .int .i64 dn, .int .i64 lf, .int .i64 pr, .int .i64 fl, V, .string py]] w fun e w' => e = .returned (.int .i64 (flE t fl)) ∧ Below w.heap.size w w' := by
  cases h0 : inB 0 127 fl
  · have HE : Hid (flE t fl = 1) := by show _ = _; simp [flE, h0]
    have H0 := Lib.hid h0
    clear h0
    go_enter Tryz.func78, Tryz.ntmps78
    go_wp2_with fail
    (refine (within2_any _ _ _ _).mono ?_; rw [H0.out]; rintro e w1 ⟨rfl, rfl⟩)
    go_wp2_with fail
    go_ret
    exact ⟨by rw [HE.out]; rfl, by (repeat' (first | (with_reducible exact Below.refl _ _) | (with_reducible refine Below.alloc ?_ ?_ _) | (with_reducible refine Below.drew ?_) | (with_reducible refine below_drewN ?_ _) | (with_reducible refine Below.setCell ?_ ?_ _) | (with_reducible refine Below.trans ?_ (Below.mono (by assumption) ?_)) | (with_reducible exact Nat.le_refl _) | omega | (simp; omega) | (simp; done)))⟩
  · have HE : Hid (flE t fl = if bits BinOp.and IntKind.i64 fl 4 ≠ 0 ∧ bits BinOp.and IntKind.i64 fl 64 ≠ 0 then 1 else if 0 < t ∧ bits BinOp.and IntKind.i64 fl 2 ≠ 0 then 1 else 0) := by show _ = _; simp [flE, h0]
    obtain ⟨hb1, hb2⟩ := inB_iff.1 h0
    have H0 := Lib.hid h0
    clear h0
    generalize hF4 : flE t fl = R at *
    clear hF4
    rcases Classical.em (bits BinOp.and IntKind.i64 fl 4 = 0) with h4 | h4
    all_goals rcases Classical.em (bits BinOp.and IntKind.i64 fl 64 = 0) with h64 | h64
    all_goals rcases Classical.em (bits BinOp.and IntKind.i64 fl 2 = 0) with h2 | h2
    all_goals by_cases ht : 0 < t
    all_goals
      have HR : Hid (R = if bits BinOp.and IntKind.i64 fl 4 ≠ 0 ∧ bits BinOp.and IntKind.i64 fl 64 ≠ 0 then 1 else if 0 < t ∧ bits BinOp.and IntKind.i64 fl 2 ≠ 0 then 1 else 0) := HE.out
      simp only [h4, h64, h2, ht, ne_eq, not_true_eq_false, not_false_eq_true, and_self, and_true, and_false, if_true, if_false] at HR
      have q2 : (bits BinOp.and IntKind.i64 fl 2 != 0) = decide (bits BinOp.and IntKind.i64 fl 2 ≠ 0) := by rw [Bool.eq_iff_iff]; simp
      have q64 : (bits BinOp.and IntKind.i64 fl 64 != 0) = decide (bits BinOp.and IntKind.i64 fl 64 ≠ 0) := by rw [Bool.eq_iff_iff]; simp
      simp only [h2, h64, ne_eq, not_true_eq_false, not_false_eq_true, decide_true, decide_false] at q2 q64
      go_enter Tryz.func78, Tryz.ntmps78
      go_wp2_with fail
      (refine (within2_any _ _ _ _).mono ?_; rw [H0.out]; rintro e w1 ⟨rfl, rfl⟩)
      go_wp2_with fail
      go_ret
      exact ⟨by rw [HR.out]; rfl, by (repeat' (first | (with_reducible exact Below.refl _ _) | (with_reducible refine Below.alloc ?_ ?_ _) | (with_reducible refine Below.drew ?_) | (with_reducible refine below_drewN ?_ _) | (with_reducible refine Below.setCell ?_ ?_ _) | (with_reducible refine Below.trans ?_ (Below.mono (by assumption) ?_)) | (with_reducible exact Nat.le_refl _) | omega | (simp; omega) | (simp; done)))⟩
/-- why a block is not valid -/
def blE (x : Blk) : Int := if x.k < 1 ∨ 255 < x.k then 8 else if x.f < 0 ∨ 15 < x.f then 2 else if 1024 < x.d.size then 4 else 0
set_option maxHeartbeats 2000000 in
theorem bl_any (x : Blk) (w : World) : Calls Tryz.prog 108 #[.agg #[.int .i64 x.k, .int .i64 x.f, .string x.d]] w fun e w' => e = .returned (.int .i64 (blE x)) ∧ Below w.heap.size w w' := by
  obtain ⟨k, f, d⟩ := x
  have HE : Hid (∀ r : Int, (if k < 1 ∨ 255 < k then 8 else if f < 0 ∨ 15 < f then 2 else if 1024 < d.size then 4 else 0 : Int) = r → blE ⟨k, f, d⟩ = r) := fun r h => h
  by_cases h1 : k < 1
  · go_enter Tryz.func108, Tryz.ntmps108
    go_wp2_with fail
    go_ret
    exact ⟨by rw [HE.out 8 (by simp [h1])]; rfl, by (repeat' (first | (with_reducible exact Below.refl _ _) | (with_reducible refine Below.alloc ?_ ?_ _) | (with_reducible refine Below.drew ?_) | (with_reducible refine below_drewN ?_ _) | (with_reducible refine Below.setCell ?_ ?_ _) | (with_reducible refine Below.trans ?_ (Below.mono (by assumption) ?_)) | (with_reducible exact Nat.le_refl _) | omega | (simp; omega) | (simp; done)))⟩
  · by_cases h2 : 255 < k
    · go_enter Tryz.func108, Tryz.ntmps108
      go_wp2_with fail
      go_ret
      exact ⟨by rw [HE.out 8 (by simp [h2])]; rfl, by (repeat' (first | (with_reducible exact Below.refl _ _) | (with_reducible refine Below.alloc ?_ ?_ _) | (with_reducible refine Below.drew ?_) | (with_reducible refine below_drewN ?_ _) | (with_reducible refine Below.setCell ?_ ?_ _) | (with_reducible refine Below.trans ?_ (Below.mono (by assumption) ?_)) | (with_reducible exact Nat.le_refl _) | omega | (simp; omega) | (simp; done)))⟩
    · have H1 : Hid (¬ (k < 1 ∨ 255 < k)) := by show ¬ _; omega
      by_cases h3 : f < 0
      · go_enter Tryz.func108, Tryz.ntmps108
        go_wp2_with fail
        go_ret
        exact ⟨by rw [HE.out 2 (by rw [if_neg H1.out]; simp [h3])]; rfl, by (repeat' (first | (with_reducible exact Below.refl _ _) | (with_reducible refine Below.alloc ?_ ?_ _) | (with_reducible refine Below.drew ?_) | (with_reducible refine below_drewN ?_ _) | (with_reducible refine Below.setCell ?_ ?_ _) | (with_reducible refine Below.trans ?_ (Below.mono (by assumption) ?_)) | (with_reducible exact Nat.le_refl _) | omega | (simp; omega) | (simp; done)))⟩
      · by_cases h4 : 15 < f
        · go_enter Tryz.func108, Tryz.ntmps108
          go_wp2_with fail
          go_ret
          exact ⟨by rw [HE.out 2 (by rw [if_neg H1.out]; simp [h4])]; rfl, by (repeat' (first | (with_reducible exact Below.refl _ _) | (with_reducible refine Below.alloc ?_ ?_ _) | (with_reducible refine Below.drew ?_) | (with_reducible refine below_drewN ?_ _) | (with_reducible refine Below.setCell ?_ ?_ _) | (with_reducible refine Below.trans ?_ (Below.mono (by assumption) ?_)) | (with_reducible exact Nat.le_refl _) | omega | (simp; omega) | (simp; done)))⟩
        · have H2 : Hid (¬ (f < 0 ∨ 15 < f)) := by show ¬ _; omega
          by_cases h5 : 1024 < d.size
          · have h5i : (1024 : Int) < d.size := by omega
            go_enter Tryz.func108, Tryz.ntmps108
            go_wp2_with fail
            go_ret
            exact ⟨by rw [HE.out 4 (by rw [if_neg H1.out, if_neg H2.out, if_pos h5])]; rfl, by (repeat' (first | (with_reducible exact Below.refl _ _) | (with_reducible refine Below.alloc ?_ ?_ _) | (with_reducible refine Below.drew ?_) | (with_reducible refine below_drewN ?_ _) | (with_reducible refine Below.setCell ?_ ?_ _) | (with_reducible refine Below.trans ?_ (Below.mono (by assumption) ?_)) | (with_reducible exact Nat.le_refl _) | omega | (simp; omega) | (simp; done)))⟩
          · have h5i : ¬ (1024 : Int) < d.size := by omega
            go_enter Tryz.func108, Tryz.ntmps108
            go_wp2_with fail
            go_ret
            exact ⟨by rw [HE.out 0 (by rw [if_neg H1.out, if_neg H2.out, if_neg h5])]; rfl, by (repeat' (first | (with_reducible exact Below.refl _ _) | (with_reducible refine Below.alloc ?_ ?_ _) | (with_reducible refine Below.drew ?_) | (with_reducible refine below_drewN ?_ _) | (with_reducible refine Below.setCell ?_ ?_ _) | (with_reducible refine Below.trans ?_ (Below.mono (by assumption) ?_)) | (with_reducible exact Nat.le_refl _) | omega | (simp; omega) | (simp; done)))⟩
/-- why a payload of n bytes is not valid -/
def pyE (n : Nat) (o t : Int) : Int := if 4096 < n then 4 else if 0 < t ∧ inB 1 (t - o) n = false then 10 else 0
set_option maxHeartbeats 2000000 in
theorem py_any (s c q o t dk dn lf pr fl : Int) (V : Value) (py : ByteArray) (w : World) (hb1 : 0 ≤ o) (hb2 : o ≤ t) (hb3 : t ≤ 4096) : Calls Tryz.prog 80 #[.agg #[.int .i64 s, .int .i64 c, .int .i64 q, .int .i64 o, .int .i64 t, .int .i64 dk, .int .i64 dn, .int .i64 lf, .int .i64 pr, .int .i64 fl, V, .string py]] w fun e w' => e = .returned (.int .i64 (pyE py.size o t)) ∧ Below w.heap.size w w' := by
  by_cases h1 : 4096 < py.size
  · have HE : Hid (pyE py.size o t = 4) := if_pos h1
    have h1i : (4096 : Int) < py.size := by omega
    go_enter Tryz.func80, Tryz.ntmps80
    go_wp2_with fail
    go_ret
    exact ⟨by rw [HE.out]; rfl, by (repeat' (first | (with_reducible exact Below.refl _ _) | (with_reducible refine Below.alloc ?_ ?_ _) | (with_reducible refine Below.drew ?_) | (with_reducible refine below_drewN ?_ _) | (with_reducible refine Below.setCell ?_ ?_ _) | (with_reducible refine Below.trans ?_ (Below.mono (by assumption) ?_)) | (with_reducible exact Nat.le_refl _) | omega | (simp; omega) | (simp; done)))⟩
  · have HE : Hid (pyE py.size o t = if 0 < t ∧ inB 1 (t - o) py.size = false then 10 else 0) := if_neg h1
    have h1i : ¬ (4096 : Int) < py.size := by omega
    by_cases h2 : 0 < t
    · cases h3 : inB 1 (t - o) py.size
      · have HR : Hid (pyE py.size o t = 10) := HE.out.trans (if_pos ⟨h2, h3⟩)
        have H3 := Lib.hid h3
        clear h3 HE
        go_enter Tryz.func80, Tryz.ntmps80
        go_wp2_with fail
        (refine (within2_any _ _ _ _).mono ?_; rw [H3.out]; rintro e w1 ⟨rfl, rfl⟩)
        go_wp2_with fail
        go_ret
        exact ⟨by rw [HR.out]; rfl, by (repeat' (first | (with_reducible exact Below.refl _ _) | (with_reducible refine Below.alloc ?_ ?_ _) | (with_reducible refine Below.drew ?_) | (with_reducible refine below_drewN ?_ _) | (with_reducible refine Below.setCell ?_ ?_ _) | (with_reducible refine Below.trans ?_ (Below.mono (by assumption) ?_)) | (with_reducible exact Nat.le_refl _) | omega | (simp; omega) | (simp; done)))⟩
      · have HR : Hid (pyE py.size o t = 0) := HE.out.trans (if_neg (by simp [h3]))
        have H3 := Lib.hid h3
        clear h3 HE
        go_enter Tryz.func80, Tryz.ntmps80
        go_wp2_with fail
        (refine (within2_any _ _ _ _).mono ?_; rw [H3.out]; rintro e w1 ⟨rfl, rfl⟩)
        go_wp2_with fail
        go_ret
        exact ⟨by rw [HR.out]; rfl, by (repeat' (first | (with_reducible exact Below.refl _ _) | (with_reducible refine Below.alloc ?_ ?_ _) | (with_reducible refine Below.drew ?_) | (with_reducible refine below_drewN ?_ _) | (with_reducible refine Below.setCell ?_ ?_ _) | (with_reducible refine Below.trans ?_ (Below.mono (by assumption) ?_)) | (with_reducible exact Nat.le_refl _) | omega | (simp; omega) | (simp; done)))⟩
    · have HR : Hid (pyE py.size o t = 0) := HE.out.trans (if_neg (by simp [h2]))
      go_enter Tryz.func80, Tryz.ntmps80
      go_wp2_with fail
      go_ret
      exact ⟨by rw [HR.out]; rfl, by (repeat' (first | (with_reducible exact Below.refl _ _) | (with_reducible refine Below.alloc ?_ ?_ _) | (with_reducible refine Below.drew ?_) | (with_reducible refine below_drewN ?_ _) | (with_reducible refine Below.setCell ?_ ?_ _) | (with_reducible refine Below.trans ?_ (Below.mono (by assumption) ?_)) | (with_reducible exact Nat.le_refl _) | omega | (simp; omega) | (simp; done)))⟩
end Go.Proofs.YtclkjjdfdndplaaGreatDoor

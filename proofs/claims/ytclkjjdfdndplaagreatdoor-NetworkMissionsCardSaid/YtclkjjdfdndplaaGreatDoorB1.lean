/- The reference's bundles: number (109), id (82), endpoints (83), has (110), flags (84), block (111). -/
import Derived.Test.YtclkjjdfdndplaaGreatDoorA1
namespace Go.Proofs.YtclkjjdfdndplaaGreatDoor
open Go.RowKit
theorem rnum_any (n : Int) (w : World) : Calls Tryz.prog 109 #[.int .i64 n] w fun e w' => e = .returned (.bool (inB 0 1099511627776 n)) ∧ w' = w := by
  by_cases h1 : 0 ≤ n
  · by_cases h2 : n ≤ 1099511627776
    · have HE : Hid (inB 0 1099511627776 n = true) := inB_iff.2 ⟨h1, h2⟩
      go_enter Tryz.func109, Tryz.ntmps109
      go_wp2_with fail
      go_ret
      exact ⟨by rw [HE.out]; rfl, rfl⟩
    · have HE : Hid (inB 0 1099511627776 n = false) := inB_not.2 (fun h => h2 h.2)
      go_enter Tryz.func109, Tryz.ntmps109
      go_wp2_with fail
      go_ret
      exact ⟨by rw [HE.out]; rfl, rfl⟩
  · have HE : Hid (inB 0 1099511627776 n = false) := inB_not.2 (fun h => h1 h.1)
    go_enter Tryz.func109, Tryz.ntmps109
    go_wp2_with fail
    go_ret
    exact ⟨by rw [HE.out]; rfl, rfl⟩
theorem idE_iff {s c q o t : Int} : idE s c q o t = 0 ↔ ((0 ≤ s ∧ s ≤ 15) ∧ inB 0 1099511627776 c = true ∧ inB 0 1099511627776 q = true ∧ ((t = 0 ∧ o = 0) ∨ (1 ≤ t ∧ t ≤ 4096 ∧ 0 ≤ o ∧ o < t))) := by
  unfold idE
  simp only [Bool.and_eq_true, inB_iff]
  split
  · constructor
    · intro h; cases h
    · intro h; omega
  · split
    · constructor <;> intro h <;> omega
    · split
      · constructor
        · intro h; cases h
        · intro h; omega
      · constructor <;> intro h <;> omega
set_option maxHeartbeats 4000000 in
theorem rid_any (s c q o t : Int) (w : World) : Calls Tryz.prog 82 #[.agg #[.int .i64 s, .int .i64 c, .int .i64 q, .int .i64 o, .int .i64 t]] w fun e w' => e = .returned (.bool (decide (idE s c q o t = 0))) ∧ Below w.heap.size w w' := by
  by_cases h1 : s < 0
  · skip
    have HE : Hid (decide (idE s c q o t = 0) = false) := decide_eq_false (by rw [idE_iff]; omega)
    go_enter Tryz.func82, Tryz.ntmps82
    go_wp2_with fail
    go_ret
    exact ⟨by rw [HE.out]; rfl, by (repeat' (first | (with_reducible exact Below.refl _ _) | (with_reducible refine Below.alloc ?_ ?_ _) | (with_reducible refine Below.drew ?_) | (with_reducible refine below_drewN ?_ _) | (with_reducible refine Below.setCell ?_ ?_ _) | (with_reducible refine Below.trans ?_ (Below.mono (by assumption) ?_)) | (with_reducible exact Nat.le_refl _) | omega | (simp; omega) | (simp; done)))⟩
  by_cases h2 : 16 ≤ s
  · skip
    have HE : Hid (decide (idE s c q o t = 0) = false) := decide_eq_false (by rw [idE_iff]; omega)
    go_enter Tryz.func82, Tryz.ntmps82
    go_wp2_with fail
    go_ret
    exact ⟨by rw [HE.out]; rfl, by (repeat' (first | (with_reducible exact Below.refl _ _) | (with_reducible refine Below.alloc ?_ ?_ _) | (with_reducible refine Below.drew ?_) | (with_reducible refine below_drewN ?_ _) | (with_reducible refine Below.setCell ?_ ?_ _) | (with_reducible refine Below.trans ?_ (Below.mono (by assumption) ?_)) | (with_reducible exact Nat.le_refl _) | omega | (simp; omega) | (simp; done)))⟩
  cases h3 : inB 0 1099511627776 c
  · have H3 := Lib.hid h3
    have HE : Hid (decide (idE s c q o t = 0) = false) := decide_eq_false (by rw [idE_iff]; rw [h3]; simp)
    go_enter Tryz.func82, Tryz.ntmps82
    go_wp2_with fail
    refine (rnum_any c _).mono ?_
    rw [H3.out]
    rintro e w1 ⟨rfl, rfl⟩
    go_wp2_with fail
    go_ret
    exact ⟨by rw [HE.out]; rfl, by (repeat' (first | (with_reducible exact Below.refl _ _) | (with_reducible refine Below.alloc ?_ ?_ _) | (with_reducible refine Below.drew ?_) | (with_reducible refine below_drewN ?_ _) | (with_reducible refine Below.setCell ?_ ?_ _) | (with_reducible refine Below.trans ?_ (Below.mono (by assumption) ?_)) | (with_reducible exact Nat.le_refl _) | omega | (simp; omega) | (simp; done)))⟩
  have H3 := Lib.hid h3
  cases h4 : inB 0 1099511627776 q
  · have H4 := Lib.hid h4
    have HE : Hid (decide (idE s c q o t = 0) = false) := decide_eq_false (by rw [idE_iff]; rw [h4]; simp)
    go_enter Tryz.func82, Tryz.ntmps82
    go_wp2_with fail
    refine (rnum_any c _).mono ?_
    rw [H3.out]
    rintro e w1 ⟨rfl, rfl⟩
    go_wp2_with fail
    refine (rnum_any q _).mono ?_
    rw [H4.out]
    rintro e w1 ⟨rfl, rfl⟩
    go_wp2_with fail
    go_ret
    exact ⟨by rw [HE.out]; rfl, by (repeat' (first | (with_reducible exact Below.refl _ _) | (with_reducible refine Below.alloc ?_ ?_ _) | (with_reducible refine Below.drew ?_) | (with_reducible refine below_drewN ?_ _) | (with_reducible refine Below.setCell ?_ ?_ _) | (with_reducible refine Below.trans ?_ (Below.mono (by assumption) ?_)) | (with_reducible exact Nat.le_refl _) | omega | (simp; omega) | (simp; done)))⟩
  have H4 := Lib.hid h4
  have h3' := inB_iff.1 h3
  have h4' := inB_iff.1 h4
  have HI : Hid (idE s c q o t = 0 ↔ ((t = 0 ∧ o = 0) ∨ (1 ≤ t ∧ t ≤ 4096 ∧ 0 ≤ o ∧ o < t))) := by show _ ↔ _; rw [idE_iff, h3, h4]; simp; omega
  clear h3 h4 h3' h4'
  by_cases h5 : t = 0
  · have q5 : (t == 0) = true := by simpa using h5
    by_cases h6 : o = 0
    · have q6 : (o == 0) = true := by simpa using h6
      have HE : Hid (decide (idE s c q o t = 0) = true) := decide_eq_true (HI.out.2 (by omega))
      clear h5 h6
      go_enter Tryz.func82, Tryz.ntmps82
      go_wp2_with fail
      refine (rnum_any c _).mono ?_
      rw [H3.out]
      rintro e w1 ⟨rfl, rfl⟩
      go_wp2_with fail
      refine (rnum_any q _).mono ?_
      rw [H4.out]
      rintro e w1 ⟨rfl, rfl⟩
      go_wp2_with fail
      go_ret
      exact ⟨by rw [HE.out]; rfl, by (repeat' (first | (with_reducible exact Below.refl _ _) | (with_reducible refine Below.alloc ?_ ?_ _) | (with_reducible refine Below.drew ?_) | (with_reducible refine below_drewN ?_ _) | (with_reducible refine Below.setCell ?_ ?_ _) | (with_reducible refine Below.trans ?_ (Below.mono (by assumption) ?_)) | (with_reducible exact Nat.le_refl _) | omega | (simp; omega) | (simp; done)))⟩
    · have q6 : (o == 0) = false := by simpa using h6
      have HE : Hid (decide (idE s c q o t = 0) = false) := decide_eq_false (fun h => by have := HI.out.1 h; omega)
      clear h5 h6
      go_enter Tryz.func82, Tryz.ntmps82
      go_wp2_with fail
      refine (rnum_any c _).mono ?_
      rw [H3.out]
      rintro e w1 ⟨rfl, rfl⟩
      go_wp2_with fail
      refine (rnum_any q _).mono ?_
      rw [H4.out]
      rintro e w1 ⟨rfl, rfl⟩
      go_wp2_with fail
      go_ret
      exact ⟨by rw [HE.out]; rfl, by (repeat' (first | (with_reducible exact Below.refl _ _) | (with_reducible refine Below.alloc ?_ ?_ _) | (with_reducible refine Below.drew ?_) | (with_reducible refine below_drewN ?_ _) | (with_reducible refine Below.setCell ?_ ?_ _) | (with_reducible refine Below.trans ?_ (Below.mono (by assumption) ?_)) | (with_reducible exact Nat.le_refl _) | omega | (simp; omega) | (simp; done)))⟩
  · have q5 : (t == 0) = false := by simpa using h5
    by_cases h7 : 1 ≤ t
    · by_cases h8 : t ≤ 4096
      · by_cases h9 : 0 ≤ o
        · have HE : Hid (decide (idE s c q o t = 0) = decide (o < t)) := by show _ = _; rw [decide_eq_decide, HI.out]; omega
          clear h5
          go_enter Tryz.func82, Tryz.ntmps82
          go_wp2_with fail
          refine (rnum_any c _).mono ?_
          rw [H3.out]
          rintro e w1 ⟨rfl, rfl⟩
          go_wp2_with fail
          refine (rnum_any q _).mono ?_
          rw [H4.out]
          rintro e w1 ⟨rfl, rfl⟩
          go_wp2_with fail
          go_ret
          exact ⟨by rw [HE.out]; rfl, by (repeat' (first | (with_reducible exact Below.refl _ _) | (with_reducible refine Below.alloc ?_ ?_ _) | (with_reducible refine Below.drew ?_) | (with_reducible refine below_drewN ?_ _) | (with_reducible refine Below.setCell ?_ ?_ _) | (with_reducible refine Below.trans ?_ (Below.mono (by assumption) ?_)) | (with_reducible exact Nat.le_refl _) | omega | (simp; omega) | (simp; done)))⟩
        · have HE : Hid (decide (idE s c q o t = 0) = false) := decide_eq_false (fun h => by have := HI.out.1 h; omega)
          clear h5
          go_enter Tryz.func82, Tryz.ntmps82
          go_wp2_with fail
          refine (rnum_any c _).mono ?_
          rw [H3.out]
          rintro e w1 ⟨rfl, rfl⟩
          go_wp2_with fail
          refine (rnum_any q _).mono ?_
          rw [H4.out]
          rintro e w1 ⟨rfl, rfl⟩
          go_wp2_with fail
          go_ret
          exact ⟨by rw [HE.out]; rfl, by (repeat' (first | (with_reducible exact Below.refl _ _) | (with_reducible refine Below.alloc ?_ ?_ _) | (with_reducible refine Below.drew ?_) | (with_reducible refine below_drewN ?_ _) | (with_reducible refine Below.setCell ?_ ?_ _) | (with_reducible refine Below.trans ?_ (Below.mono (by assumption) ?_)) | (with_reducible exact Nat.le_refl _) | omega | (simp; omega) | (simp; done)))⟩
      · have HE : Hid (decide (idE s c q o t = 0) = false) := decide_eq_false (fun h => by have := HI.out.1 h; omega)
        clear h5
        go_enter Tryz.func82, Tryz.ntmps82
        go_wp2_with fail
        refine (rnum_any c _).mono ?_
        rw [H3.out]
        rintro e w1 ⟨rfl, rfl⟩
        go_wp2_with fail
        refine (rnum_any q _).mono ?_
        rw [H4.out]
        rintro e w1 ⟨rfl, rfl⟩
        go_wp2_with fail
        go_ret
        exact ⟨by rw [HE.out]; rfl, by (repeat' (first | (with_reducible exact Below.refl _ _) | (with_reducible refine Below.alloc ?_ ?_ _) | (with_reducible refine Below.drew ?_) | (with_reducible refine below_drewN ?_ _) | (with_reducible refine Below.setCell ?_ ?_ _) | (with_reducible refine Below.trans ?_ (Below.mono (by assumption) ?_)) | (with_reducible exact Nat.le_refl _) | omega | (simp; omega) | (simp; done)))⟩
    · have HE : Hid (decide (idE s c q o t = 0) = false) := decide_eq_false (fun h => by have := HI.out.1 h; omega)
      clear h5
      go_enter Tryz.func82, Tryz.ntmps82
      go_wp2_with fail
      refine (rnum_any c _).mono ?_
      rw [H3.out]
      rintro e w1 ⟨rfl, rfl⟩
      go_wp2_with fail
      refine (rnum_any q _).mono ?_
      rw [H4.out]
      rintro e w1 ⟨rfl, rfl⟩
      go_wp2_with fail
      go_ret
      exact ⟨by rw [HE.out]; rfl, by (repeat' (first | (with_reducible exact Below.refl _ _) | (with_reducible refine Below.alloc ?_ ?_ _) | (with_reducible refine Below.drew ?_) | (with_reducible refine below_drewN ?_ _) | (with_reducible refine Below.setCell ?_ ?_ _) | (with_reducible refine Below.trans ?_ (Below.mono (by assumption) ?_)) | (with_reducible exact Nat.le_refl _) | omega | (simp; omega) | (simp; done)))⟩
set_option maxHeartbeats 4000000 in
theorem rep_any (k n : Int) (w : World) : Calls Tryz.prog 83 #[.agg #[.int .i64 k, .int .i64 n]] w fun e w' => e = .returned (.int .i64 (epE k n)) ∧ Below w.heap.size w w' := by
  by_cases h1 : k = 1
  · subst h1
    by_cases h2 : n < 0
    · have HE : Hid (epE 1 n = 2) := by show _ = _; simp [epE, h2]
      go_enter Tryz.func83, Tryz.ntmps83
      go_wp2_with fail
      go_ret
      exact ⟨by rw [HE.out]; rfl, by (repeat' (first | (with_reducible exact Below.refl _ _) | (with_reducible refine Below.alloc ?_ ?_ _) | (with_reducible refine Below.drew ?_) | (with_reducible refine below_drewN ?_ _) | (with_reducible refine Below.setCell ?_ ?_ _) | (with_reducible refine Below.trans ?_ (Below.mono (by assumption) ?_)) | (with_reducible exact Nat.le_refl _) | omega | (simp; omega) | (simp; done)))⟩
    · by_cases h3 : 16 ≤ n
      · have HE : Hid (epE 1 n = 2) := by show _ = _; simp [epE, h3]
        go_enter Tryz.func83, Tryz.ntmps83
        go_wp2_with fail
        go_ret
        exact ⟨by rw [HE.out]; rfl, by (repeat' (first | (with_reducible exact Below.refl _ _) | (with_reducible refine Below.alloc ?_ ?_ _) | (with_reducible refine Below.drew ?_) | (with_reducible refine below_drewN ?_ _) | (with_reducible refine Below.setCell ?_ ?_ _) | (with_reducible refine Below.trans ?_ (Below.mono (by assumption) ?_)) | (with_reducible exact Nat.le_refl _) | omega | (simp; omega) | (simp; done)))⟩
      · have HE : Hid (epE 1 n = 0) := by show _ = _; rw [epE, if_pos rfl, if_neg (by omega)]
        go_enter Tryz.func83, Tryz.ntmps83
        go_wp2_with fail
        go_ret
        exact ⟨by rw [HE.out]; rfl, by (repeat' (first | (with_reducible exact Below.refl _ _) | (with_reducible refine Below.alloc ?_ ?_ _) | (with_reducible refine Below.drew ?_) | (with_reducible refine below_drewN ?_ _) | (with_reducible refine Below.setCell ?_ ?_ _) | (with_reducible refine Below.trans ?_ (Below.mono (by assumption) ?_)) | (with_reducible exact Nat.le_refl _) | omega | (simp; omega) | (simp; done)))⟩
  · by_cases h1' : k = 2
    · subst h1'
      clear h1
      by_cases h2 : n < 0
      · have HE : Hid (epE 2 n = 2) := by show _ = _; simp [epE, h2]
        go_enter Tryz.func83, Tryz.ntmps83
        go_wp2_with fail
        go_ret
        exact ⟨by rw [HE.out]; rfl, by (repeat' (first | (with_reducible exact Below.refl _ _) | (with_reducible refine Below.alloc ?_ ?_ _) | (with_reducible refine Below.drew ?_) | (with_reducible refine below_drewN ?_ _) | (with_reducible refine Below.setCell ?_ ?_ _) | (with_reducible refine Below.trans ?_ (Below.mono (by assumption) ?_)) | (with_reducible exact Nat.le_refl _) | omega | (simp; omega) | (simp; done)))⟩
      · by_cases h3 : 8 ≤ n
        · have HE : Hid (epE 2 n = 2) := by show _ = _; simp [epE, h3]
          go_enter Tryz.func83, Tryz.ntmps83
          go_wp2_with fail
          go_ret
          exact ⟨by rw [HE.out]; rfl, by (repeat' (first | (with_reducible exact Below.refl _ _) | (with_reducible refine Below.alloc ?_ ?_ _) | (with_reducible refine Below.drew ?_) | (with_reducible refine below_drewN ?_ _) | (with_reducible refine Below.setCell ?_ ?_ _) | (with_reducible refine Below.trans ?_ (Below.mono (by assumption) ?_)) | (with_reducible exact Nat.le_refl _) | omega | (simp; omega) | (simp; done)))⟩
        · have HE : Hid (epE 2 n = 0) := by show _ = _; rw [epE, if_neg (by decide), if_pos rfl, if_neg (by omega)]
          go_enter Tryz.func83, Tryz.ntmps83
          go_wp2_with fail
          go_ret
          exact ⟨by rw [HE.out]; rfl, by (repeat' (first | (with_reducible exact Below.refl _ _) | (with_reducible refine Below.alloc ?_ ?_ _) | (with_reducible refine Below.drew ?_) | (with_reducible refine below_drewN ?_ _) | (with_reducible refine Below.setCell ?_ ?_ _) | (with_reducible refine Below.trans ?_ (Below.mono (by assumption) ?_)) | (with_reducible exact Nat.le_refl _) | omega | (simp; omega) | (simp; done)))⟩
    · have HE : Hid (epE k n = 8) := by show _ = _; simp [epE, h1, h1']
      have q1 : (k != 1) = true := by simpa using h1
      have q2 : (k != 2) = true := by simpa using h1'
      clear h1 h1'
      go_enter Tryz.func83, Tryz.ntmps83
      go_wp2_with fail
      go_ret
      exact ⟨by rw [HE.out]; rfl, by (repeat' (first | (with_reducible exact Below.refl _ _) | (with_reducible refine Below.alloc ?_ ?_ _) | (with_reducible refine Below.drew ?_) | (with_reducible refine below_drewN ?_ _) | (with_reducible refine Below.setCell ?_ ?_ _) | (with_reducible refine Below.trans ?_ (Below.mono (by assumption) ?_)) | (with_reducible exact Nat.le_refl _) | omega | (simp; omega) | (simp; done)))⟩
theorem rhas2_any (fl g : Int) (h0 : 0 ≤ fl) (h1 : fl ≤ 127) (g0 : 0 < g) (g1 : g ≤ 64) (w : World) : Calls Tryz.prog 110 #[.int .i64 fl, .int .i64 g] w fun e w' => e = .returned (.bool (fl / g % 2 == 1)) ∧ w' = w := by
  have hd0 : 0 ≤ fl / g := Int.ediv_nonneg h0 (by omega)
  have hd1 : fl / g ≤ 127 := by have := Int.ediv_le_self g h0; omega
  have t1 : Int.tdiv fl g = fl / g := Int.tdiv_eq_ediv_of_nonneg h0
  have t2 : Int.tmod (fl / g) 2 = fl / g % 2 := Int.tmod_eq_emod_of_nonneg hd0
  have i1 : IntKind.i64.wrap (fl / g) = fl / g := wrap_s hd0 (by omega)
  have i2 : IntKind.i64.wrap (fl / g % 2) = fl / g % 2 := wrap_s (by omega) (by omega)
  have g2 : ¬ g = 0 := by omega
  go_enter Tryz.func110, Tryz.ntmps110
  go_wp2_with fail
  go_ret
  exact ⟨rfl, rfl⟩
theorem has_bits : ∀ n : Nat, n < 128 → (bits BinOp.and IntKind.i64 (n : Int) 4 ≠ 0 ↔ (n : Int) / 4 % 2 = 1) ∧ (bits BinOp.and IntKind.i64 (n : Int) 64 ≠ 0 ↔ (n : Int) / 64 % 2 = 1) ∧ (bits BinOp.and IntKind.i64 (n : Int) 2 ≠ 0 ↔ (n : Int) / 2 % 2 = 1) := by
  decide +kernel
theorem has_bits' {fl : Int} (h0 : 0 ≤ fl) (h1 : fl ≤ 127) : (bits BinOp.and IntKind.i64 fl 4 ≠ 0 ↔ fl / 4 % 2 = 1) ∧ (bits BinOp.and IntKind.i64 fl 64 ≠ 0 ↔ fl / 64 % 2 = 1) ∧ (bits BinOp.and IntKind.i64 fl 2 ≠ 0 ↔ fl / 2 % 2 = 1) := by
  obtain ⟨n, rfl⟩ : ∃ n : Nat, fl = n := ⟨fl.toNat, by omega⟩
  exact has_bits n (by omega)
theorem flE_iff {t fl : Int} (ht : 0 ≤ t) (h0 : 0 ≤ fl) (h1 : fl ≤ 127) : flE t fl = 0 ↔ (¬ (fl / 4 % 2 = 1 ∧ fl / 64 % 2 = 1) ∧ (t = 0 ∨ ¬ fl / 2 % 2 = 1)) := by
  obtain ⟨b4, b64, b2⟩ := has_bits' h0 h1
  unfold flE
  rw [if_neg (by rw [inB_iff.2 ⟨h0, h1⟩]; simp)]
  by_cases a : bits BinOp.and IntKind.i64 fl 4 ≠ 0 ∧ bits BinOp.and IntKind.i64 fl 64 ≠ 0
  · rw [if_pos a]
    constructor
    · intro h; cases h
    · intro h; exact absurd ⟨b4.1 a.1, b64.1 a.2⟩ h.1
  · rw [if_neg a]
    have a' : ¬ (fl / 4 % 2 = 1 ∧ fl / 64 % 2 = 1) := fun h => a ⟨b4.2 h.1, b64.2 h.2⟩
    by_cases c : 0 < t ∧ bits BinOp.and IntKind.i64 fl 2 ≠ 0
    · rw [if_pos c]
      constructor
      · intro h; cases h
      · intro h
        rcases h.2 with h2 | h2
        · omega
        · exact absurd (b2.1 c.2) h2
    · rw [if_neg c]
      constructor
      · intro _
        refine ⟨a', ?_⟩
        by_cases ht0 : t = 0
        · exact .inl ht0
        · exact .inr fun h => c ⟨by omega, b2.2 h⟩
      · intro _; rfl
set_option maxHeartbeats 4000000 in
theorem rfl_any (s c q o t dk dn lf pr fl : Int) (V : Value) (hV : ∃ A n c, V = .slice A n c) (py : ByteArray) (ht : 0 ≤ t) (w : World) : Calls Tryz.prog 84 #[.agg #[.int .i64 s, .int .i64 c, .int .i64 q, .int .i64 o, .int .i64 t, .int .i64 dk, .int .i64 dn, .int .i64 lf, .int .i64 pr, .int .i64 fl, V, .string py]] w fun e w' => e = .returned (.bool (decide (flE t fl = 0))) ∧ Below w.heap.size w w' := by
  obtain ⟨AV, nV, cV, rfl⟩ := hV
  by_cases h0 : 0 ≤ fl
  rotate_left
  · have g0 : fl < 0 := by omega
    have HE : Hid (decide (flE t fl = 0) = false) := decide_eq_false (by unfold flE; rw [if_pos (inB_not.2 (fun h => h0 h.1))]; decide)
    go_enter Tryz.func84, Tryz.ntmps84
    go_wp2_with fail
    go_ret
    exact ⟨by rw [HE.out]; rfl, by (repeat' (first | (with_reducible exact Below.refl _ _) | (with_reducible refine Below.alloc ?_ ?_ _) | (with_reducible refine Below.drew ?_) | (with_reducible refine below_drewN ?_ _) | (with_reducible refine Below.setCell ?_ ?_ _) | (with_reducible refine Below.trans ?_ (Below.mono (by assumption) ?_)) | (with_reducible exact Nat.le_refl _) | omega | (simp; omega) | (simp; done)))⟩
  have g0 : ¬ fl < 0 := by omega
  by_cases h1 : fl ≤ 127
  rotate_left
  · have g1 : 127 < fl := by omega
    have HE : Hid (decide (flE t fl = 0) = false) := decide_eq_false (by unfold flE; rw [if_pos (inB_not.2 (fun h => h1 h.2))]; decide)
    go_enter Tryz.func84, Tryz.ntmps84
    go_wp2_with fail
    go_ret
    exact ⟨by rw [HE.out]; rfl, by (repeat' (first | (with_reducible exact Below.refl _ _) | (with_reducible refine Below.alloc ?_ ?_ _) | (with_reducible refine Below.drew ?_) | (with_reducible refine below_drewN ?_ _) | (with_reducible refine Below.setCell ?_ ?_ _) | (with_reducible refine Below.trans ?_ (Below.mono (by assumption) ?_)) | (with_reducible exact Nat.le_refl _) | omega | (simp; omega) | (simp; done)))⟩
  have g1 : ¬ 127 < fl := by omega
  have HI := Lib.hid (flE_iff ht h0 h1)
  cases a4 : (fl / 4 % 2 == 1)
  · have A4 := Lib.hid a4
    have b4 : ¬ fl / 4 % 2 = 1 := by simpa using a4
    clear a4
    by_cases h5 : t = 0
    · have q5 : (t == 0) = true := by simpa using h5
      have HE : Hid (decide (flE t fl = 0) = true) := decide_eq_true (HI.out.2 ⟨fun h => b4 h.1, .inl h5⟩)
      clear h5 b4
      go_enter Tryz.func84, Tryz.ntmps84
      go_wp2_with fail
      refine (rhas2_any fl 4 h0 h1 (by decide) (by decide) _).mono ?_
      rw [A4.out]
      rintro e w1 ⟨rfl, rfl⟩
      go_wp2_with fail
      go_ret
      exact ⟨by rw [HE.out]; rfl, by (repeat' (first | (with_reducible exact Below.refl _ _) | (with_reducible refine Below.alloc ?_ ?_ _) | (with_reducible refine Below.drew ?_) | (with_reducible refine below_drewN ?_ _) | (with_reducible refine Below.setCell ?_ ?_ _) | (with_reducible refine Below.trans ?_ (Below.mono (by assumption) ?_)) | (with_reducible exact Nat.le_refl _) | omega | (simp; omega) | (simp; done)))⟩
    · have q5 : (t == 0) = false := by simpa using h5
      cases a2 : (fl / 2 % 2 == 1)
      · have A2 := Lib.hid a2
        have HE : Hid (decide (flE t fl = 0) = true) := decide_eq_true (HI.out.2 ⟨fun h => b4 h.1, .inr (by simpa using a2)⟩)
        clear h5 b4 a2
        go_enter Tryz.func84, Tryz.ntmps84
        go_wp2_with fail
        refine (rhas2_any fl 4 h0 h1 (by decide) (by decide) _).mono ?_
        rw [A4.out]
        rintro e w1 ⟨rfl, rfl⟩
        go_wp2_with fail
        refine (rhas2_any fl 2 h0 h1 (by decide) (by decide) _).mono ?_
        rw [A2.out]
        rintro e w1 ⟨rfl, rfl⟩
        go_wp2_with fail
        go_ret
        exact ⟨by rw [HE.out]; rfl, by (repeat' (first | (with_reducible exact Below.refl _ _) | (with_reducible refine Below.alloc ?_ ?_ _) | (with_reducible refine Below.drew ?_) | (with_reducible refine below_drewN ?_ _) | (with_reducible refine Below.setCell ?_ ?_ _) | (with_reducible refine Below.trans ?_ (Below.mono (by assumption) ?_)) | (with_reducible exact Nat.le_refl _) | omega | (simp; omega) | (simp; done)))⟩
      · have A2 := Lib.hid a2
        have HE : Hid (decide (flE t fl = 0) = false) := decide_eq_false (fun h => ((HI.out.1 h).2.resolve_left h5) (by simpa using a2))
        clear h5 b4 a2
        go_enter Tryz.func84, Tryz.ntmps84
        go_wp2_with fail
        refine (rhas2_any fl 4 h0 h1 (by decide) (by decide) _).mono ?_
        rw [A4.out]
        rintro e w1 ⟨rfl, rfl⟩
        go_wp2_with fail
        refine (rhas2_any fl 2 h0 h1 (by decide) (by decide) _).mono ?_
        rw [A2.out]
        rintro e w1 ⟨rfl, rfl⟩
        go_wp2_with fail
        go_ret
        exact ⟨by rw [HE.out]; rfl, by (repeat' (first | (with_reducible exact Below.refl _ _) | (with_reducible refine Below.alloc ?_ ?_ _) | (with_reducible refine Below.drew ?_) | (with_reducible refine below_drewN ?_ _) | (with_reducible refine Below.setCell ?_ ?_ _) | (with_reducible refine Below.trans ?_ (Below.mono (by assumption) ?_)) | (with_reducible exact Nat.le_refl _) | omega | (simp; omega) | (simp; done)))⟩
  · have A4 := Lib.hid a4
    have b4 : fl / 4 % 2 = 1 := by simpa using a4
    clear a4
    cases a6 : (fl / 64 % 2 == 1)
    rotate_left
    · have A6 := Lib.hid a6
      have HE : Hid (decide (flE t fl = 0) = false) := decide_eq_false (fun h => (HI.out.1 h).1 ⟨b4, by simpa using a6⟩)
      clear b4 a6
      go_enter Tryz.func84, Tryz.ntmps84
      go_wp2_with fail
      refine (rhas2_any fl 4 h0 h1 (by decide) (by decide) _).mono ?_
      rw [A4.out]
      rintro e w1 ⟨rfl, rfl⟩
      go_wp2_with fail
      refine (rhas2_any fl 64 h0 h1 (by decide) (by decide) _).mono ?_
      rw [A6.out]
      rintro e w1 ⟨rfl, rfl⟩
      go_wp2_with fail
      go_ret
      exact ⟨by rw [HE.out]; rfl, by (repeat' (first | (with_reducible exact Below.refl _ _) | (with_reducible refine Below.alloc ?_ ?_ _) | (with_reducible refine Below.drew ?_) | (with_reducible refine below_drewN ?_ _) | (with_reducible refine Below.setCell ?_ ?_ _) | (with_reducible refine Below.trans ?_ (Below.mono (by assumption) ?_)) | (with_reducible exact Nat.le_refl _) | omega | (simp; omega) | (simp; done)))⟩
    have A6 := Lib.hid a6
    have b6 : ¬ fl / 64 % 2 = 1 := by simpa using a6
    clear a6
    by_cases h5 : t = 0
    · have q5 : (t == 0) = true := by simpa using h5
      have HE : Hid (decide (flE t fl = 0) = true) := decide_eq_true (HI.out.2 ⟨fun h => b6 h.2, .inl h5⟩)
      clear h5 b4 b6
      go_enter Tryz.func84, Tryz.ntmps84
      go_wp2_with fail
      refine (rhas2_any fl 4 h0 h1 (by decide) (by decide) _).mono ?_
      rw [A4.out]
      rintro e w1 ⟨rfl, rfl⟩
      go_wp2_with fail
      refine (rhas2_any fl 64 h0 h1 (by decide) (by decide) _).mono ?_
      rw [A6.out]
      rintro e w1 ⟨rfl, rfl⟩
      go_wp2_with fail
      go_ret
      exact ⟨by rw [HE.out]; rfl, by (repeat' (first | (with_reducible exact Below.refl _ _) | (with_reducible refine Below.alloc ?_ ?_ _) | (with_reducible refine Below.drew ?_) | (with_reducible refine below_drewN ?_ _) | (with_reducible refine Below.setCell ?_ ?_ _) | (with_reducible refine Below.trans ?_ (Below.mono (by assumption) ?_)) | (with_reducible exact Nat.le_refl _) | omega | (simp; omega) | (simp; done)))⟩
    · have q5 : (t == 0) = false := by simpa using h5
      cases a2 : (fl / 2 % 2 == 1)
      · have A2 := Lib.hid a2
        have HE : Hid (decide (flE t fl = 0) = true) := decide_eq_true (HI.out.2 ⟨fun h => b6 h.2, .inr (by simpa using a2)⟩)
        clear h5 b4 b6 a2
        go_enter Tryz.func84, Tryz.ntmps84
        go_wp2_with fail
        refine (rhas2_any fl 4 h0 h1 (by decide) (by decide) _).mono ?_
        rw [A4.out]
        rintro e w1 ⟨rfl, rfl⟩
        go_wp2_with fail
        refine (rhas2_any fl 64 h0 h1 (by decide) (by decide) _).mono ?_
        rw [A6.out]
        rintro e w1 ⟨rfl, rfl⟩
        go_wp2_with fail
        refine (rhas2_any fl 2 h0 h1 (by decide) (by decide) _).mono ?_
        rw [A2.out]
        rintro e w1 ⟨rfl, rfl⟩
        go_wp2_with fail
        go_ret
        exact ⟨by rw [HE.out]; rfl, by (repeat' (first | (with_reducible exact Below.refl _ _) | (with_reducible refine Below.alloc ?_ ?_ _) | (with_reducible refine Below.drew ?_) | (with_reducible refine below_drewN ?_ _) | (with_reducible refine Below.setCell ?_ ?_ _) | (with_reducible refine Below.trans ?_ (Below.mono (by assumption) ?_)) | (with_reducible exact Nat.le_refl _) | omega | (simp; omega) | (simp; done)))⟩
      · have A2 := Lib.hid a2
        have HE : Hid (decide (flE t fl = 0) = false) := decide_eq_false (fun h => ((HI.out.1 h).2.resolve_left h5) (by simpa using a2))
        clear h5 b4 b6 a2
        go_enter Tryz.func84, Tryz.ntmps84
        go_wp2_with fail
        refine (rhas2_any fl 4 h0 h1 (by decide) (by decide) _).mono ?_
        rw [A4.out]
        rintro e w1 ⟨rfl, rfl⟩
        go_wp2_with fail
        refine (rhas2_any fl 64 h0 h1 (by decide) (by decide) _).mono ?_
        rw [A6.out]
        rintro e w1 ⟨rfl, rfl⟩
        go_wp2_with fail
        refine (rhas2_any fl 2 h0 h1 (by decide) (by decide) _).mono ?_
        rw [A2.out]
        rintro e w1 ⟨rfl, rfl⟩
        go_wp2_with fail
        go_ret
        exact ⟨by rw [HE.out]; rfl, by (repeat' (first | (with_reducible exact Below.refl _ _) | (with_reducible refine Below.alloc ?_ ?_ _) | (with_reducible refine Below.drew ?_) | (with_reducible refine below_drewN ?_ _) | (with_reducible refine Below.setCell ?_ ?_ _) | (with_reducible refine Below.trans ?_ (Below.mono (by assumption) ?_)) | (with_reducible exact Nat.le_refl _) | omega | (simp; omega) | (simp; done)))⟩
set_option maxHeartbeats 4000000 in
theorem rbl_any (x : Blk) (w : World) : Calls Tryz.prog 111 #[.agg #[.int .i64 x.k, .int .i64 x.f, .string x.d]] w fun e w' => e = .returned (.int .i64 (blE x)) ∧ Below w.heap.size w w' := by
  obtain ⟨k, f, d⟩ := x
  dsimp only
  by_cases h1 : k < 1
  · have HE : Hid (blE ⟨k, f, d⟩ = 8) := if_pos (.inl h1)
    go_enter Tryz.func111, Tryz.ntmps111
    go_wp2_with fail
    go_ret
    exact ⟨by rw [HE.out]; rfl, by (repeat' (first | (with_reducible exact Below.refl _ _) | (with_reducible refine Below.alloc ?_ ?_ _) | (with_reducible refine Below.drew ?_) | (with_reducible refine below_drewN ?_ _) | (with_reducible refine Below.setCell ?_ ?_ _) | (with_reducible refine Below.trans ?_ (Below.mono (by assumption) ?_)) | (with_reducible exact Nat.le_refl _) | omega | (simp; omega) | (simp; done)))⟩
  by_cases h2 : 255 < k
  · have HE : Hid (blE ⟨k, f, d⟩ = 8) := if_pos (.inr h2)
    go_enter Tryz.func111, Tryz.ntmps111
    go_wp2_with fail
    go_ret
    exact ⟨by rw [HE.out]; rfl, by (repeat' (first | (with_reducible exact Below.refl _ _) | (with_reducible refine Below.alloc ?_ ?_ _) | (with_reducible refine Below.drew ?_) | (with_reducible refine below_drewN ?_ _) | (with_reducible refine Below.setCell ?_ ?_ _) | (with_reducible refine Below.trans ?_ (Below.mono (by assumption) ?_)) | (with_reducible exact Nat.le_refl _) | omega | (simp; omega) | (simp; done)))⟩
  by_cases h3 : f < 0
  · have HE : Hid (blE ⟨k, f, d⟩ = 2) := by show _ = _; unfold blE; dsimp only; rw [if_neg (by omega), if_pos (.inl h3)]
    go_enter Tryz.func111, Tryz.ntmps111
    go_wp2_with fail
    go_ret
    exact ⟨by rw [HE.out]; rfl, by (repeat' (first | (with_reducible exact Below.refl _ _) | (with_reducible refine Below.alloc ?_ ?_ _) | (with_reducible refine Below.drew ?_) | (with_reducible refine below_drewN ?_ _) | (with_reducible refine Below.setCell ?_ ?_ _) | (with_reducible refine Below.trans ?_ (Below.mono (by assumption) ?_)) | (with_reducible exact Nat.le_refl _) | omega | (simp; omega) | (simp; done)))⟩
  by_cases h4 : 15 < f
  · have HE : Hid (blE ⟨k, f, d⟩ = 2) := by show _ = _; unfold blE; dsimp only; rw [if_neg (by omega), if_pos (.inr h4)]
    go_enter Tryz.func111, Tryz.ntmps111
    go_wp2_with fail
    go_ret
    exact ⟨by rw [HE.out]; rfl, by (repeat' (first | (with_reducible exact Below.refl _ _) | (with_reducible refine Below.alloc ?_ ?_ _) | (with_reducible refine Below.drew ?_) | (with_reducible refine below_drewN ?_ _) | (with_reducible refine Below.setCell ?_ ?_ _) | (with_reducible refine Below.trans ?_ (Below.mono (by assumption) ?_)) | (with_reducible exact Nat.le_refl _) | omega | (simp; omega) | (simp; done)))⟩
  by_cases h5 : 1024 < d.size
  · have HE : Hid (blE ⟨k, f, d⟩ = 4) := by show _ = _; unfold blE; dsimp only; rw [if_neg (by omega), if_neg (by omega), if_pos h5]
    have h5i : (1024 : Int) < d.size := by omega
    clear h5
    go_enter Tryz.func111, Tryz.ntmps111
    go_wp2_with fail
    go_ret
    exact ⟨by rw [HE.out]; rfl, by (repeat' (first | (with_reducible exact Below.refl _ _) | (with_reducible refine Below.alloc ?_ ?_ _) | (with_reducible refine Below.drew ?_) | (with_reducible refine below_drewN ?_ _) | (with_reducible refine Below.setCell ?_ ?_ _) | (with_reducible refine Below.trans ?_ (Below.mono (by assumption) ?_)) | (with_reducible exact Nat.le_refl _) | omega | (simp; omega) | (simp; done)))⟩
  have HE : Hid (blE ⟨k, f, d⟩ = 0) := by show _ = _; unfold blE; dsimp only; rw [if_neg (by omega), if_neg (by omega), if_neg h5]
  have h5i : ¬ (1024 : Int) < d.size := by omega
  clear h5
  go_enter Tryz.func111, Tryz.ntmps111
  go_wp2_with fail
  go_ret
  exact ⟨by rw [HE.out]; rfl, by (repeat' (first | (with_reducible exact Below.refl _ _) | (with_reducible refine Below.alloc ?_ ?_ _) | (with_reducible refine Below.drew ?_) | (with_reducible refine below_drewN ?_ _) | (with_reducible refine Below.setCell ?_ ?_ _) | (with_reducible refine Below.trans ?_ (Below.mono (by assumption) ?_)) | (with_reducible exact Nat.le_refl _) | omega | (simp; omega) | (simp; done)))⟩
end Go.Proofs.YtclkjjdfdndplaaGreatDoor

/- Contacts: within, Check, Overlap, and the reference's. -/
import Derived.Test.YtclkjjdfdndplaaGreatDoorProg
import Derived.WalkKit
import Derived.WalkSpells
import Derived.WalkLawsBesides
import Derived.Handy
import Derived.IntWalk
import Derived.Deep.QuietTactic
import Derived.BigQuiet
import Derived.Deep.RegionHeld3
import Derived.Deep.DeepCutAuto
import Derived.Deep.AppendLies
import Derived.Maps.AppendAt
import Derived.Laws.OwnMore
import Derived.OwnWalk
import Derived.Lib.Hide
namespace Go.Proofs.YtclkjjdfdndplaaGreatDoor
open Go.RowKit
theorem below_drewN {B : Nat} {a w : World} (h : Below B a w) (n : Nat) : Below B a (w.drewN n) := ⟨h.os, h.tape, h.output, h.size, h.block⟩
theorem bc {B : Nat} {W w1 : World} (hb : Below W.heap.size W w1) (h : B ≤ W.heap.size) : ∀ b o, b < B → w1.cell? ⟨b, o, none⟩ = W.cell? ⟨b, o, none⟩ :=
  fun b o hlt => hb.cell (p := ⟨b, o, none⟩) (show b < W.heap.size by omega)
theorem bf {B : Nat} {W w1 : World} (hb : Below W.heap.size W w1) (h : B ≤ W.heap.size) : ∀ b o, b < B → w1.frozen? ⟨b, o, none⟩ = W.frozen? ⟨b, o, none⟩ :=
  fun b o hlt => hb.frozen (p := ⟨b, o, none⟩) (show b < W.heap.size by omega)
theorem bm {W0 w' : World} {B : Nat} (h : Below W0.heap.size W0 w') (hb : B ≤ W0.heap.size) : Below B W0 w' := h.mono hb
theorem bt {W0 w1 w2 : World} (h : Below W0.heap.size W0 w1) (k : Below w1.heap.size w1 w2) : Below W0.heap.size W0 w2 := h.trans (k.mono h.size)
theorem bt' {B : Nat} {W0 w1 w2 : World} (h : Below B W0 w1) (k : Below w1.heap.size w1 w2) (hB : B ≤ w1.heap.size) : Below B W0 w2 := h.trans (k.mono hB)
/-- a contact -/
structure Con where
  a : Int
  b : Int
  s : Int
  e : Int
  r : Int
  g : Int
  l : Int
deriving DecidableEq, Inhabited
def Con.zero : Con := ⟨0, 0, 0, 0, 0, 0, 0⟩
def inB (lo hi n : Int) : Bool := decide (lo ≤ n) && decide (n ≤ hi)
theorem inB_iff {lo hi n : Int} : inB lo hi n = true ↔ lo ≤ n ∧ n ≤ hi := by simp [inB]
theorem inB_not {lo hi n : Int} : inB lo hi n = false ↔ ¬ (lo ≤ n ∧ n ≤ hi) := by simp [inB]
/-- why a contact is not valid -/
def conE (c : Con) : Int := if ¬ ((inB 0 15 c.a && inB 0 15 c.b && inB 1 1000 c.r && inB 1 1048576 c.g && inB 0 16 c.l) = true) then 2 else if c.a = c.b then 1 else if c.s < 0 ∨ c.e ≤ c.s ∨ 1099511627776 - 2 * c.g < c.e then 2 else 0
theorem conE_ok {c : Con} (h : conE c = 0) : 0 ≤ c.a ∧ c.a ≤ 15 ∧ 0 ≤ c.b ∧ c.b ≤ 15 ∧ 1 ≤ c.r ∧ c.r ≤ 1000 ∧ 1 ≤ c.g ∧ c.g ≤ 1048576 ∧ 0 ≤ c.l ∧ c.l ≤ 16 ∧ c.a ≠ c.b ∧ 0 ≤ c.s ∧ c.s < c.e ∧ c.e ≤ 1099511627776 - 2 * c.g := by
  unfold conE at h
  split at h
  · cases h
  rename_i h1
  split at h
  · cases h
  split at h
  · cases h
  simp only [Classical.not_not, Bool.and_eq_true, inB_iff] at h1
  omega
theorem within_any (n lo hi : Int) (w : World) : Calls Tryz.prog 73 #[.int .i64 n, .int .i64 lo, .int .i64 hi] w fun e w' => e = .returned (.bool (inB lo hi n)) ∧ w = w' := by
  have H : Hid (∀ b : Bool, decide (lo ≤ n) = b → inB lo hi n = (b && decide (n ≤ hi))) := fun b hb => by rw [← hb]; rfl
  cases h : decide (lo ≤ n)
  · have h2 : ¬ lo ≤ n := by simpa using h
    have HT := Lib.hid (H.out false h)
    clear h
    go_enter Tryz.func73, Tryz.ntmps73
    go_wp2
    go_ret
    exact ⟨by rw [HT.out]; rfl, rfl⟩
  · have h2 : lo ≤ n := by simpa using h
    have HT := Lib.hid (H.out true h)
    clear h
    cases h3 : decide (n ≤ hi)
    · have h4 : ¬ n ≤ hi := by simpa using h3
      have HT2 : Hid (inB lo hi n = false) := by show _ = _; rw [HT.out, h3]; rfl
      clear h3
      go_enter Tryz.func73, Tryz.ntmps73
      go_wp2
      go_ret
      exact ⟨by rw [HT2.out]; rfl, rfl⟩
    · have h4 : n ≤ hi := by simpa using h3
      have HT2 : Hid (inB lo hi n = true) := by show _ = _; rw [HT.out, h3]; rfl
      clear h3
      go_enter Tryz.func73, Tryz.ntmps73
      go_wp2
      go_ret
      exact ⟨by rw [HT2.out]; rfl, rfl⟩
set_option maxHeartbeats 8000000 in
theorem ccheck_any (c : Con) (w : World) : Calls Tryz.prog 38 #[.agg #[.int .i64 c.a, .int .i64 c.b, .int .i64 c.s, .int .i64 c.e, .int .i64 c.r, .int .i64 c.g, .int .i64 c.l]] w fun e w' => e = .returned (.int .i64 (conE c)) ∧ Below w.heap.size w w' := by
  cases h0 : inB 0 15 c.a
  · have HE : Hid (conE c = 2) := by show _ = _; simp [conE, h0]
    have H0 := Lib.hid h0
    clear h0
    go_enter Tryz.func38, Tryz.ntmps38
    go_wp2_with fail
    refine (within_any _ _ _ _).mono ?_
    rw [H0.out]
    rintro e w1 ⟨rfl, rfl⟩
    go_wp2_with fail
    go_ret
    exact ⟨by rw [HE.out]; rfl, by (repeat' (first | (with_reducible exact Below.refl _ _) | (with_reducible refine Below.alloc ?_ ?_ _) | (with_reducible refine Below.drew ?_) | (with_reducible refine below_drewN ?_ _) | (with_reducible refine Below.setCell ?_ ?_ _) | (with_reducible refine Below.trans ?_ (Below.mono (by assumption) ?_)) | (with_reducible exact Nat.le_refl _) | omega | (simp; omega) | (simp; done)))⟩
  · cases h1 : inB 0 15 c.b
    · have HE : Hid (conE c = 2) := by show _ = _; simp [conE, h0, h1]
      have H0 := Lib.hid h0
      have H1 := Lib.hid h1
      clear h0 h1
      go_enter Tryz.func38, Tryz.ntmps38
      go_wp2_with fail
      refine (within_any _ _ _ _).mono ?_
      rw [H0.out]
      rintro e w1 ⟨rfl, rfl⟩
      go_wp2_with fail
      refine (within_any _ _ _ _).mono ?_
      rw [H1.out]
      rintro e w1 ⟨rfl, rfl⟩
      go_wp2_with fail
      go_ret
      exact ⟨by rw [HE.out]; rfl, by (repeat' (first | (with_reducible exact Below.refl _ _) | (with_reducible refine Below.alloc ?_ ?_ _) | (with_reducible refine Below.drew ?_) | (with_reducible refine below_drewN ?_ _) | (with_reducible refine Below.setCell ?_ ?_ _) | (with_reducible refine Below.trans ?_ (Below.mono (by assumption) ?_)) | (with_reducible exact Nat.le_refl _) | omega | (simp; omega) | (simp; done)))⟩
    · cases h2 : inB 1 1000 c.r
      · have HE : Hid (conE c = 2) := by show _ = _; simp [conE, h0, h1, h2]
        have H0 := Lib.hid h0
        have H1 := Lib.hid h1
        have H2 := Lib.hid h2
        clear h0 h1 h2
        go_enter Tryz.func38, Tryz.ntmps38
        go_wp2_with fail
        refine (within_any _ _ _ _).mono ?_
        rw [H0.out]
        rintro e w1 ⟨rfl, rfl⟩
        go_wp2_with fail
        refine (within_any _ _ _ _).mono ?_
        rw [H1.out]
        rintro e w1 ⟨rfl, rfl⟩
        go_wp2_with fail
        refine (within_any _ _ _ _).mono ?_
        rw [H2.out]
        rintro e w1 ⟨rfl, rfl⟩
        go_wp2_with fail
        go_ret
        exact ⟨by rw [HE.out]; rfl, by (repeat' (first | (with_reducible exact Below.refl _ _) | (with_reducible refine Below.alloc ?_ ?_ _) | (with_reducible refine Below.drew ?_) | (with_reducible refine below_drewN ?_ _) | (with_reducible refine Below.setCell ?_ ?_ _) | (with_reducible refine Below.trans ?_ (Below.mono (by assumption) ?_)) | (with_reducible exact Nat.le_refl _) | omega | (simp; omega) | (simp; done)))⟩
      · cases h3 : inB 1 1048576 c.g
        · have HE : Hid (conE c = 2) := by show _ = _; simp [conE, h0, h1, h2, h3]
          have H0 := Lib.hid h0
          have H1 := Lib.hid h1
          have H2 := Lib.hid h2
          have H3 := Lib.hid h3
          clear h0 h1 h2 h3
          go_enter Tryz.func38, Tryz.ntmps38
          go_wp2_with fail
          refine (within_any _ _ _ _).mono ?_
          rw [H0.out]
          rintro e w1 ⟨rfl, rfl⟩
          go_wp2_with fail
          refine (within_any _ _ _ _).mono ?_
          rw [H1.out]
          rintro e w1 ⟨rfl, rfl⟩
          go_wp2_with fail
          refine (within_any _ _ _ _).mono ?_
          rw [H2.out]
          rintro e w1 ⟨rfl, rfl⟩
          go_wp2_with fail
          refine (within_any _ _ _ _).mono ?_
          rw [H3.out]
          rintro e w1 ⟨rfl, rfl⟩
          go_wp2_with fail
          go_ret
          exact ⟨by rw [HE.out]; rfl, by (repeat' (first | (with_reducible exact Below.refl _ _) | (with_reducible refine Below.alloc ?_ ?_ _) | (with_reducible refine Below.drew ?_) | (with_reducible refine below_drewN ?_ _) | (with_reducible refine Below.setCell ?_ ?_ _) | (with_reducible refine Below.trans ?_ (Below.mono (by assumption) ?_)) | (with_reducible exact Nat.le_refl _) | omega | (simp; omega) | (simp; done)))⟩
        · cases h4 : inB 0 16 c.l
          · have HE : Hid (conE c = 2) := by show _ = _; simp [conE, h0, h1, h2, h3, h4]
            have H0 := Lib.hid h0
            have H1 := Lib.hid h1
            have H2 := Lib.hid h2
            have H3 := Lib.hid h3
            have H4 := Lib.hid h4
            clear h0 h1 h2 h3 h4
            go_enter Tryz.func38, Tryz.ntmps38
            go_wp2_with fail
            refine (within_any _ _ _ _).mono ?_
            rw [H0.out]
            rintro e w1 ⟨rfl, rfl⟩
            go_wp2_with fail
            refine (within_any _ _ _ _).mono ?_
            rw [H1.out]
            rintro e w1 ⟨rfl, rfl⟩
            go_wp2_with fail
            refine (within_any _ _ _ _).mono ?_
            rw [H2.out]
            rintro e w1 ⟨rfl, rfl⟩
            go_wp2_with fail
            refine (within_any _ _ _ _).mono ?_
            rw [H3.out]
            rintro e w1 ⟨rfl, rfl⟩
            go_wp2_with fail
            refine (within_any _ _ _ _).mono ?_
            rw [H4.out]
            rintro e w1 ⟨rfl, rfl⟩
            go_wp2_with fail
            go_ret
            exact ⟨by rw [HE.out]; rfl, by (repeat' (first | (with_reducible exact Below.refl _ _) | (with_reducible refine Below.alloc ?_ ?_ _) | (with_reducible refine Below.drew ?_) | (with_reducible refine below_drewN ?_ _) | (with_reducible refine Below.setCell ?_ ?_ _) | (with_reducible refine Below.trans ?_ (Below.mono (by assumption) ?_)) | (with_reducible exact Nat.le_refl _) | omega | (simp; omega) | (simp; done)))⟩
          · have t0 := inB_iff.1 h0
            have t1 := inB_iff.1 h1
            have t2 := inB_iff.1 h2
            have t3 := inB_iff.1 h3
            have t4 := inB_iff.1 h4
            obtain ⟨t0a, t0b⟩ := t0
            obtain ⟨t1a, t1b⟩ := t1
            obtain ⟨t2a, t2b⟩ := t2
            obtain ⟨t3a, t3b⟩ := t3
            obtain ⟨t4a, t4b⟩ := t4
            have HX : Hid (conE c = if c.a = c.b then 1 else if c.s < 0 ∨ c.e ≤ c.s ∨ 1099511627776 - 2 * c.g < c.e then 2 else 0) := by show _ = _; simp [conE, h0, h1, h2, h3, h4]
            have H0 := Lib.hid h0
            have H1 := Lib.hid h1
            have H2 := Lib.hid h2
            have H3 := Lib.hid h3
            have H4 := Lib.hid h4
            clear h0 h1 h2 h3 h4
            by_cases q0 : c.a = c.b
            · have HE : Hid (conE c = 1) := by show _ = _; rw [HX.out, if_pos q0]
              have q0b : (c.a == c.b) = true := by simpa using q0
              clear q0
              go_enter Tryz.func38, Tryz.ntmps38
              go_wp2_with fail
              refine (within_any _ _ _ _).mono ?_
              rw [H0.out]
              rintro e w1 ⟨rfl, rfl⟩
              go_wp2_with fail
              refine (within_any _ _ _ _).mono ?_
              rw [H1.out]
              rintro e w1 ⟨rfl, rfl⟩
              go_wp2_with fail
              refine (within_any _ _ _ _).mono ?_
              rw [H2.out]
              rintro e w1 ⟨rfl, rfl⟩
              go_wp2_with fail
              refine (within_any _ _ _ _).mono ?_
              rw [H3.out]
              rintro e w1 ⟨rfl, rfl⟩
              go_wp2_with fail
              refine (within_any _ _ _ _).mono ?_
              rw [H4.out]
              rintro e w1 ⟨rfl, rfl⟩
              go_wp2_with fail
              go_ret
              exact ⟨by rw [HE.out]; rfl, by (repeat' (first | (with_reducible exact Below.refl _ _) | (with_reducible refine Below.alloc ?_ ?_ _) | (with_reducible refine Below.drew ?_) | (with_reducible refine below_drewN ?_ _) | (with_reducible refine Below.setCell ?_ ?_ _) | (with_reducible refine Below.trans ?_ (Below.mono (by assumption) ?_)) | (with_reducible exact Nat.le_refl _) | omega | (simp; omega) | (simp; done)))⟩
            · have NQ : Hid (¬ c.a = c.b) := q0
              have q0b : (c.a == c.b) = false := by simpa using q0
              clear q0
              by_cases q1 : c.s < 0
              · have HE : Hid (conE c = 2) := by show _ = _; rw [HX.out, if_neg NQ.out, if_pos (by omega)]
                go_enter Tryz.func38, Tryz.ntmps38
                go_wp2_with fail
                refine (within_any _ _ _ _).mono ?_
                rw [H0.out]
                rintro e w1 ⟨rfl, rfl⟩
                go_wp2_with fail
                refine (within_any _ _ _ _).mono ?_
                rw [H1.out]
                rintro e w1 ⟨rfl, rfl⟩
                go_wp2_with fail
                refine (within_any _ _ _ _).mono ?_
                rw [H2.out]
                rintro e w1 ⟨rfl, rfl⟩
                go_wp2_with fail
                refine (within_any _ _ _ _).mono ?_
                rw [H3.out]
                rintro e w1 ⟨rfl, rfl⟩
                go_wp2_with fail
                refine (within_any _ _ _ _).mono ?_
                rw [H4.out]
                rintro e w1 ⟨rfl, rfl⟩
                go_wp2_with fail
                go_ret
                exact ⟨by rw [HE.out]; rfl, by (repeat' (first | (with_reducible exact Below.refl _ _) | (with_reducible refine Below.alloc ?_ ?_ _) | (with_reducible refine Below.drew ?_) | (with_reducible refine below_drewN ?_ _) | (with_reducible refine Below.setCell ?_ ?_ _) | (with_reducible refine Below.trans ?_ (Below.mono (by assumption) ?_)) | (with_reducible exact Nat.le_refl _) | omega | (simp; omega) | (simp; done)))⟩
              · by_cases q2 : c.e ≤ c.s
                · have HE : Hid (conE c = 2) := by show _ = _; rw [HX.out, if_neg NQ.out, if_pos (by omega)]
                  go_enter Tryz.func38, Tryz.ntmps38
                  go_wp2_with fail
                  refine (within_any _ _ _ _).mono ?_
                  rw [H0.out]
                  rintro e w1 ⟨rfl, rfl⟩
                  go_wp2_with fail
                  refine (within_any _ _ _ _).mono ?_
                  rw [H1.out]
                  rintro e w1 ⟨rfl, rfl⟩
                  go_wp2_with fail
                  refine (within_any _ _ _ _).mono ?_
                  rw [H2.out]
                  rintro e w1 ⟨rfl, rfl⟩
                  go_wp2_with fail
                  refine (within_any _ _ _ _).mono ?_
                  rw [H3.out]
                  rintro e w1 ⟨rfl, rfl⟩
                  go_wp2_with fail
                  refine (within_any _ _ _ _).mono ?_
                  rw [H4.out]
                  rintro e w1 ⟨rfl, rfl⟩
                  go_wp2_with fail
                  go_ret
                  exact ⟨by rw [HE.out]; rfl, by (repeat' (first | (with_reducible exact Below.refl _ _) | (with_reducible refine Below.alloc ?_ ?_ _) | (with_reducible refine Below.drew ?_) | (with_reducible refine below_drewN ?_ _) | (with_reducible refine Below.setCell ?_ ?_ _) | (with_reducible refine Below.trans ?_ (Below.mono (by assumption) ?_)) | (with_reducible exact Nat.le_refl _) | omega | (simp; omega) | (simp; done)))⟩
                · by_cases q3 : 1099511627776 - 2 * c.g < c.e
                  · have HE : Hid (conE c = 2) := by show _ = _; rw [HX.out, if_neg NQ.out, if_pos (by omega)]
                    go_enter Tryz.func38, Tryz.ntmps38
                    go_wp2_with fail
                    refine (within_any _ _ _ _).mono ?_
                    rw [H0.out]
                    rintro e w1 ⟨rfl, rfl⟩
                    go_wp2_with fail
                    refine (within_any _ _ _ _).mono ?_
                    rw [H1.out]
                    rintro e w1 ⟨rfl, rfl⟩
                    go_wp2_with fail
                    refine (within_any _ _ _ _).mono ?_
                    rw [H2.out]
                    rintro e w1 ⟨rfl, rfl⟩
                    go_wp2_with fail
                    refine (within_any _ _ _ _).mono ?_
                    rw [H3.out]
                    rintro e w1 ⟨rfl, rfl⟩
                    go_wp2_with fail
                    refine (within_any _ _ _ _).mono ?_
                    rw [H4.out]
                    rintro e w1 ⟨rfl, rfl⟩
                    go_wp2_with fail
                    go_ret
                    exact ⟨by rw [HE.out]; rfl, by (repeat' (first | (with_reducible exact Below.refl _ _) | (with_reducible refine Below.alloc ?_ ?_ _) | (with_reducible refine Below.drew ?_) | (with_reducible refine below_drewN ?_ _) | (with_reducible refine Below.setCell ?_ ?_ _) | (with_reducible refine Below.trans ?_ (Below.mono (by assumption) ?_)) | (with_reducible exact Nat.le_refl _) | omega | (simp; omega) | (simp; done)))⟩
                  · have HE : Hid (conE c = 0) := by show _ = _; rw [HX.out, if_neg NQ.out, if_neg (by omega)]
                    go_enter Tryz.func38, Tryz.ntmps38
                    go_wp2_with fail
                    refine (within_any _ _ _ _).mono ?_
                    rw [H0.out]
                    rintro e w1 ⟨rfl, rfl⟩
                    go_wp2_with fail
                    refine (within_any _ _ _ _).mono ?_
                    rw [H1.out]
                    rintro e w1 ⟨rfl, rfl⟩
                    go_wp2_with fail
                    refine (within_any _ _ _ _).mono ?_
                    rw [H2.out]
                    rintro e w1 ⟨rfl, rfl⟩
                    go_wp2_with fail
                    refine (within_any _ _ _ _).mono ?_
                    rw [H3.out]
                    rintro e w1 ⟨rfl, rfl⟩
                    go_wp2_with fail
                    refine (within_any _ _ _ _).mono ?_
                    rw [H4.out]
                    rintro e w1 ⟨rfl, rfl⟩
                    go_wp2_with fail
                    go_ret
                    exact ⟨by rw [HE.out]; rfl, by (repeat' (first | (with_reducible exact Below.refl _ _) | (with_reducible refine Below.alloc ?_ ?_ _) | (with_reducible refine Below.drew ?_) | (with_reducible refine below_drewN ?_ _) | (with_reducible refine Below.setCell ?_ ?_ _) | (with_reducible refine Below.trans ?_ (Below.mono (by assumption) ?_)) | (with_reducible exact Nat.le_refl _) | omega | (simp; omega) | (simp; done)))⟩
set_option maxHeartbeats 8000000 in
theorem rccheck_any (c : Con) (w : World) : Calls Tryz.prog 46 #[.agg #[.int .i64 c.a, .int .i64 c.b, .int .i64 c.s, .int .i64 c.e, .int .i64 c.r, .int .i64 c.g, .int .i64 c.l]] w fun e w' => e = .returned (.int .i64 (conE c)) ∧ Below w.heap.size w w' := by
  cases h0 : inB 0 15 c.a
  · have HE : Hid (conE c = 2) := by show _ = _; simp [conE, h0]
    have f0 := inB_not.1 h0
    clear h0
    by_cases q : c.a < 0
    · clear f0
      go_enter Tryz.func46, Tryz.ntmps46
      go_wp2_with fail
      go_ret
      exact ⟨by rw [HE.out]; rfl, by (repeat' (first | (with_reducible exact Below.refl _ _) | (with_reducible refine Below.alloc ?_ ?_ _) | (with_reducible refine Below.drew ?_) | (with_reducible refine below_drewN ?_ _) | (with_reducible refine Below.setCell ?_ ?_ _) | (with_reducible refine Below.trans ?_ (Below.mono (by assumption) ?_)) | (with_reducible exact Nat.le_refl _) | omega | (simp; omega) | (simp; done)))⟩
    · have q2 : 16 ≤ c.a := by omega
      clear f0
      go_enter Tryz.func46, Tryz.ntmps46
      go_wp2_with fail
      go_ret
      exact ⟨by rw [HE.out]; rfl, by (repeat' (first | (with_reducible exact Below.refl _ _) | (with_reducible refine Below.alloc ?_ ?_ _) | (with_reducible refine Below.drew ?_) | (with_reducible refine below_drewN ?_ _) | (with_reducible refine Below.setCell ?_ ?_ _) | (with_reducible refine Below.trans ?_ (Below.mono (by assumption) ?_)) | (with_reducible exact Nat.le_refl _) | omega | (simp; omega) | (simp; done)))⟩
  · cases h1 : inB 0 15 c.b
    · have HE : Hid (conE c = 2) := by show _ = _; simp [conE, h0, h1]
      have t0 := inB_iff.1 h0
      have f1 := inB_not.1 h1
      obtain ⟨t0a, t0b⟩ := t0
      clear h0 h1
      by_cases q : c.b < 0
      · clear f1
        go_enter Tryz.func46, Tryz.ntmps46
        go_wp2_with fail
        go_ret
        exact ⟨by rw [HE.out]; rfl, by (repeat' (first | (with_reducible exact Below.refl _ _) | (with_reducible refine Below.alloc ?_ ?_ _) | (with_reducible refine Below.drew ?_) | (with_reducible refine below_drewN ?_ _) | (with_reducible refine Below.setCell ?_ ?_ _) | (with_reducible refine Below.trans ?_ (Below.mono (by assumption) ?_)) | (with_reducible exact Nat.le_refl _) | omega | (simp; omega) | (simp; done)))⟩
      · have q2 : 16 ≤ c.b := by omega
        clear f1
        go_enter Tryz.func46, Tryz.ntmps46
        go_wp2_with fail
        go_ret
        exact ⟨by rw [HE.out]; rfl, by (repeat' (first | (with_reducible exact Below.refl _ _) | (with_reducible refine Below.alloc ?_ ?_ _) | (with_reducible refine Below.drew ?_) | (with_reducible refine below_drewN ?_ _) | (with_reducible refine Below.setCell ?_ ?_ _) | (with_reducible refine Below.trans ?_ (Below.mono (by assumption) ?_)) | (with_reducible exact Nat.le_refl _) | omega | (simp; omega) | (simp; done)))⟩
    · cases h2 : inB 1 1000 c.r
      · have HE : Hid (conE c = 2) := by show _ = _; simp [conE, h0, h1, h2]
        have t0 := inB_iff.1 h0
        have t1 := inB_iff.1 h1
        have f2 := inB_not.1 h2
        obtain ⟨t0a, t0b⟩ := t0
        obtain ⟨t1a, t1b⟩ := t1
        clear h0 h1 h2
        by_cases q : c.r < 1
        · clear f2
          go_enter Tryz.func46, Tryz.ntmps46
          go_wp2_with fail
          go_ret
          exact ⟨by rw [HE.out]; rfl, by (repeat' (first | (with_reducible exact Below.refl _ _) | (with_reducible refine Below.alloc ?_ ?_ _) | (with_reducible refine Below.drew ?_) | (with_reducible refine below_drewN ?_ _) | (with_reducible refine Below.setCell ?_ ?_ _) | (with_reducible refine Below.trans ?_ (Below.mono (by assumption) ?_)) | (with_reducible exact Nat.le_refl _) | omega | (simp; omega) | (simp; done)))⟩
        · have q2 : 1000 < c.r := by omega
          clear f2
          go_enter Tryz.func46, Tryz.ntmps46
          go_wp2_with fail
          go_ret
          exact ⟨by rw [HE.out]; rfl, by (repeat' (first | (with_reducible exact Below.refl _ _) | (with_reducible refine Below.alloc ?_ ?_ _) | (with_reducible refine Below.drew ?_) | (with_reducible refine below_drewN ?_ _) | (with_reducible refine Below.setCell ?_ ?_ _) | (with_reducible refine Below.trans ?_ (Below.mono (by assumption) ?_)) | (with_reducible exact Nat.le_refl _) | omega | (simp; omega) | (simp; done)))⟩
      · cases h3 : inB 1 1048576 c.g
        · have HE : Hid (conE c = 2) := by show _ = _; simp [conE, h0, h1, h2, h3]
          have t0 := inB_iff.1 h0
          have t1 := inB_iff.1 h1
          have t2 := inB_iff.1 h2
          have f3 := inB_not.1 h3
          obtain ⟨t0a, t0b⟩ := t0
          obtain ⟨t1a, t1b⟩ := t1
          obtain ⟨t2a, t2b⟩ := t2
          clear h0 h1 h2 h3
          by_cases q : c.g < 1
          · clear f3
            go_enter Tryz.func46, Tryz.ntmps46
            go_wp2_with fail
            go_ret
            exact ⟨by rw [HE.out]; rfl, by (repeat' (first | (with_reducible exact Below.refl _ _) | (with_reducible refine Below.alloc ?_ ?_ _) | (with_reducible refine Below.drew ?_) | (with_reducible refine below_drewN ?_ _) | (with_reducible refine Below.setCell ?_ ?_ _) | (with_reducible refine Below.trans ?_ (Below.mono (by assumption) ?_)) | (with_reducible exact Nat.le_refl _) | omega | (simp; omega) | (simp; done)))⟩
          · have q2 : 1048576 < c.g := by omega
            clear f3
            go_enter Tryz.func46, Tryz.ntmps46
            go_wp2_with fail
            go_ret
            exact ⟨by rw [HE.out]; rfl, by (repeat' (first | (with_reducible exact Below.refl _ _) | (with_reducible refine Below.alloc ?_ ?_ _) | (with_reducible refine Below.drew ?_) | (with_reducible refine below_drewN ?_ _) | (with_reducible refine Below.setCell ?_ ?_ _) | (with_reducible refine Below.trans ?_ (Below.mono (by assumption) ?_)) | (with_reducible exact Nat.le_refl _) | omega | (simp; omega) | (simp; done)))⟩
        · cases h4 : inB 0 16 c.l
          · have HE : Hid (conE c = 2) := by show _ = _; simp [conE, h0, h1, h2, h3, h4]
            have t0 := inB_iff.1 h0
            have t1 := inB_iff.1 h1
            have t2 := inB_iff.1 h2
            have t3 := inB_iff.1 h3
            have f4 := inB_not.1 h4
            obtain ⟨t0a, t0b⟩ := t0
            obtain ⟨t1a, t1b⟩ := t1
            obtain ⟨t2a, t2b⟩ := t2
            obtain ⟨t3a, t3b⟩ := t3
            clear h0 h1 h2 h3 h4
            by_cases q : c.l < 0
            · clear f4
              go_enter Tryz.func46, Tryz.ntmps46
              go_wp2_with fail
              go_ret
              exact ⟨by rw [HE.out]; rfl, by (repeat' (first | (with_reducible exact Below.refl _ _) | (with_reducible refine Below.alloc ?_ ?_ _) | (with_reducible refine Below.drew ?_) | (with_reducible refine below_drewN ?_ _) | (with_reducible refine Below.setCell ?_ ?_ _) | (with_reducible refine Below.trans ?_ (Below.mono (by assumption) ?_)) | (with_reducible exact Nat.le_refl _) | omega | (simp; omega) | (simp; done)))⟩
            · have q2 : 16 < c.l := by omega
              clear f4
              go_enter Tryz.func46, Tryz.ntmps46
              go_wp2_with fail
              go_ret
              exact ⟨by rw [HE.out]; rfl, by (repeat' (first | (with_reducible exact Below.refl _ _) | (with_reducible refine Below.alloc ?_ ?_ _) | (with_reducible refine Below.drew ?_) | (with_reducible refine below_drewN ?_ _) | (with_reducible refine Below.setCell ?_ ?_ _) | (with_reducible refine Below.trans ?_ (Below.mono (by assumption) ?_)) | (with_reducible exact Nat.le_refl _) | omega | (simp; omega) | (simp; done)))⟩
          · have t0 := inB_iff.1 h0
            have t1 := inB_iff.1 h1
            have t2 := inB_iff.1 h2
            have t3 := inB_iff.1 h3
            have t4 := inB_iff.1 h4
            obtain ⟨t0a, t0b⟩ := t0
            obtain ⟨t1a, t1b⟩ := t1
            obtain ⟨t2a, t2b⟩ := t2
            obtain ⟨t3a, t3b⟩ := t3
            obtain ⟨t4a, t4b⟩ := t4
            have HX : Hid (conE c = if c.a = c.b then 1 else if c.s < 0 ∨ c.e ≤ c.s ∨ 1099511627776 - 2 * c.g < c.e then 2 else 0) := by show _ = _; simp [conE, h0, h1, h2, h3, h4]
            have H0 := Lib.hid h0
            have H1 := Lib.hid h1
            have H2 := Lib.hid h2
            have H3 := Lib.hid h3
            have H4 := Lib.hid h4
            clear h0 h1 h2 h3 h4
            by_cases q0 : c.a = c.b
            · have HE : Hid (conE c = 1) := by show _ = _; rw [HX.out, if_pos q0]
              have q0b : (c.a == c.b) = true := by simpa using q0
              clear q0
              go_enter Tryz.func46, Tryz.ntmps46
              go_wp2_with fail
              go_ret
              exact ⟨by rw [HE.out]; rfl, by (repeat' (first | (with_reducible exact Below.refl _ _) | (with_reducible refine Below.alloc ?_ ?_ _) | (with_reducible refine Below.drew ?_) | (with_reducible refine below_drewN ?_ _) | (with_reducible refine Below.setCell ?_ ?_ _) | (with_reducible refine Below.trans ?_ (Below.mono (by assumption) ?_)) | (with_reducible exact Nat.le_refl _) | omega | (simp; omega) | (simp; done)))⟩
            · have NQ : Hid (¬ c.a = c.b) := q0
              have q0b : (c.a == c.b) = false := by simpa using q0
              clear q0
              by_cases q1 : c.s < 0
              · have HE : Hid (conE c = 2) := by show _ = _; rw [HX.out, if_neg NQ.out, if_pos (by omega)]
                go_enter Tryz.func46, Tryz.ntmps46
                go_wp2_with fail
                go_ret
                exact ⟨by rw [HE.out]; rfl, by (repeat' (first | (with_reducible exact Below.refl _ _) | (with_reducible refine Below.alloc ?_ ?_ _) | (with_reducible refine Below.drew ?_) | (with_reducible refine below_drewN ?_ _) | (with_reducible refine Below.setCell ?_ ?_ _) | (with_reducible refine Below.trans ?_ (Below.mono (by assumption) ?_)) | (with_reducible exact Nat.le_refl _) | omega | (simp; omega) | (simp; done)))⟩
              · by_cases q2 : c.e ≤ c.s
                · have HE : Hid (conE c = 2) := by show _ = _; rw [HX.out, if_neg NQ.out, if_pos (by omega)]
                  go_enter Tryz.func46, Tryz.ntmps46
                  go_wp2_with fail
                  go_ret
                  exact ⟨by rw [HE.out]; rfl, by (repeat' (first | (with_reducible exact Below.refl _ _) | (with_reducible refine Below.alloc ?_ ?_ _) | (with_reducible refine Below.drew ?_) | (with_reducible refine below_drewN ?_ _) | (with_reducible refine Below.setCell ?_ ?_ _) | (with_reducible refine Below.trans ?_ (Below.mono (by assumption) ?_)) | (with_reducible exact Nat.le_refl _) | omega | (simp; omega) | (simp; done)))⟩
                · by_cases q3 : 1099511627776 - 2 * c.g < c.e
                  · have HE : Hid (conE c = 2) := by show _ = _; rw [HX.out, if_neg NQ.out, if_pos (by omega)]
                    go_enter Tryz.func46, Tryz.ntmps46
                    go_wp2_with fail
                    go_ret
                    exact ⟨by rw [HE.out]; rfl, by (repeat' (first | (with_reducible exact Below.refl _ _) | (with_reducible refine Below.alloc ?_ ?_ _) | (with_reducible refine Below.drew ?_) | (with_reducible refine below_drewN ?_ _) | (with_reducible refine Below.setCell ?_ ?_ _) | (with_reducible refine Below.trans ?_ (Below.mono (by assumption) ?_)) | (with_reducible exact Nat.le_refl _) | omega | (simp; omega) | (simp; done)))⟩
                  · have HE : Hid (conE c = 0) := by show _ = _; rw [HX.out, if_neg NQ.out, if_neg (by omega)]
                    go_enter Tryz.func46, Tryz.ntmps46
                    go_wp2_with fail
                    go_ret
                    exact ⟨by rw [HE.out]; rfl, by (repeat' (first | (with_reducible exact Below.refl _ _) | (with_reducible refine Below.alloc ?_ ?_ _) | (with_reducible refine Below.drew ?_) | (with_reducible refine below_drewN ?_ _) | (with_reducible refine Below.setCell ?_ ?_ _) | (with_reducible refine Below.trans ?_ (Below.mono (by assumption) ?_)) | (with_reducible exact Nat.le_refl _) | omega | (simp; omega) | (simp; done)))⟩
end Go.Proofs.YtclkjjdfdndplaaGreatDoor

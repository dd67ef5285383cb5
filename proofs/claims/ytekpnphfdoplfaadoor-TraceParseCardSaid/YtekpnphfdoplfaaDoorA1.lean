/- Entries of a log: when they are valid; the reference's leaves. -/
import Derived.Test.YtekpnphfdoplfaaDoorRows
import Derived.WalkKit
import Derived.WalkSpells
import Derived.WalkLawsBesides
import Derived.Handy
import Derived.IntWalk
import Derived.Deep.QuietTactic
import Derived.BigQuiet
import Derived.Deep.RegionHeld3
import Derived.Deep.DeepCutAuto
import Derived.Deep.AppendLies
import Derived.Maps.AppendAt
import Derived.Laws.OwnMore
import Derived.OwnWalk
import Derived.Lib.Hide
import Derived.StillTailTactics
namespace Go.Proofs.YtekpnphfdoplfaaDoor
open Go.RowKit
theorem below_drewN {B : Nat} {a w : World} (h : Below B a w) (n : Nat) : Below B a (w.drewN n) := ⟨h.os, h.tape, h.output, h.size, h.block⟩
theorem bc {B : Nat} {W w1 : World} (hb : Below W.heap.size W w1) (h : B ≤ W.heap.size) : ∀ b o, b < B → w1.cell? ⟨b, o, none⟩ = W.cell? ⟨b, o, none⟩ :=
  fun b o hlt => hb.cell (p := ⟨b, o, none⟩) (show b < W.heap.size by omega)
theorem bf {B : Nat} {W w1 : World} (hb : Below W.heap.size W w1) (h : B ≤ W.heap.size) : ∀ b o, b < B → w1.frozen? ⟨b, o, none⟩ = W.frozen? ⟨b, o, none⟩ :=
  fun b o hlt => hb.frozen (p := ⟨b, o, none⟩) (show b < W.heap.size by omega)
theorem bt {W0 w1 w2 : World} (h : Below W0.heap.size W0 w1) (k : Below w1.heap.size w1 w2) : Below W0.heap.size W0 w2 := h.trans (k.mono h.size)
theorem bt' {B : Nat} {W0 w1 w2 : World} (h : Below B W0 w1) (k : Below w1.heap.size w1 w2) (hB : B ≤ w1.heap.size) : Below B W0 w2 := h.trans (k.mono hB)
theorem ba {W0 w' : World} (h : Below W0.heap.size W0 w') (o : Obj) : Below W0.heap.size W0 (w'.alloc o) := h.alloc h.size o
/-- an entry -/
structure Ent where
  t : Int
  k : Int
  n : Int
  j : Int
  c : Int
  v : Int
deriving DecidableEq, Inhabited
def Ent.zero : Ent := ⟨0, 0, 0, 0, 0, 0⟩
def hasN (k : Int) : Bool := k != 3 && k != 4
def hasJ (k : Int) : Bool := k != 2 && k != 14 && k != 15
def hasC (k : Int) : Bool := decide (5 ≤ k) && decide (k ≤ 11)
def hasV (k : Int) : Bool := decide (k ≤ 3) || k == 9 || k == 14 || k == 15 || k == 16
def fldB (n : Int) (there : Bool) (most : Int) : Bool := if there = true then decide (0 ≤ n) && decide (n ≤ most) else n == -1
/-- why an entry is not valid -/
def entE (x : Ent) : Int := if x.k < 1 ∨ 17 < x.k then 8 else
  if x.t < 0 ∨ 1099511627776 < x.t then 2 else if fldB x.n (hasN x.k) 15 = false then 2 else if fldB x.j (hasJ x.k) 1152921504606846976 = false then 2 else
  if fldB x.c (hasC x.k) 63 = false then 2 else if fldB x.v (hasV x.k) 1152921504606846976 = false then 2 else 0
theorem fldB_lo {n most : Int} {b : Bool} (h : fldB n b most = true) (hm : 0 ≤ most) : -1 ≤ n ∧ n ≤ most := by
  cases b <;> simp [fldB] at h <;> omega
theorem entE_ok {x : Ent} (h : entE x = 0) : 1 ≤ x.k ∧ x.k ≤ 17 ∧ 0 ≤ x.t ∧ x.t ≤ 1099511627776 ∧ fldB x.n (hasN x.k) 15 = true ∧ fldB x.j (hasJ x.k) 1152921504606846976 = true ∧ fldB x.c (hasC x.k) 63 = true ∧ fldB x.v (hasV x.k) 1152921504606846976 = true := by
  unfold entE at h
  split at h
  · cases h
  split at h
  · cases h
  split at h
  · cases h
  split at h
  · cases h
  split at h
  · cases h
  split at h
  · cases h
  rename_i h1 h2 h3 h4 h5 h6
  simp only [Bool.not_eq_false] at h3 h4 h5 h6
  exact ⟨by omega, by omega, by omega, by omega, h3, h4, h5, h6⟩
theorem entE_nonneg (x : Ent) : 0 ≤ entE x := by
  unfold entE; repeat' split
  all_goals decide
theorem rnode_any (k : Int) (b : Bool) (h : hasN k = b) (w : World) : Calls Tryd.prog 63 #[.int .i64 k] w fun e w' => e = .returned (.bool b) ∧ w' = w := by
  subst h
  by_cases h0 : k = 3
  · subst h0
    go_enter Tryd.func63, Tryd.ntmps63
    go_wp2
    go_ret
    exact ⟨rfl, rfl⟩
  · have q0 : (k != 3) = true := by simpa using h0
    have p0 : (k == 3) = false := by simpa using h0
    by_cases h1 : k = 4
    · subst h1
      go_enter Tryd.func63, Tryd.ntmps63
      go_wp2
      go_ret
      exact ⟨rfl, rfl⟩
    · have q1 : (k != 4) = true := by simpa using h1
      have p1 : (k == 4) = false := by simpa using h1
      have HT : Hid (hasN k = true) := by show _ = _; simp [hasN, h0, h1]
      go_enter Tryd.func63, Tryd.ntmps63
      go_wp2
      go_ret
      exact ⟨by rw [HT.out]; rfl, rfl⟩
theorem rticket_any (k : Int) (b : Bool) (h : hasJ k = b) (w : World) : Calls Tryd.prog 64 #[.int .i64 k] w fun e w' => e = .returned (.bool b) ∧ w' = w := by
  subst h
  by_cases h0 : k = 2
  · subst h0
    go_enter Tryd.func64, Tryd.ntmps64
    go_wp2
    go_ret
    exact ⟨rfl, rfl⟩
  · have q0 : (k != 2) = true := by simpa using h0
    have p0 : (k == 2) = false := by simpa using h0
    by_cases h1 : k = 14
    · subst h1
      go_enter Tryd.func64, Tryd.ntmps64
      go_wp2
      go_ret
      exact ⟨rfl, rfl⟩
    · have q1 : (k != 14) = true := by simpa using h1
      have p1 : (k == 14) = false := by simpa using h1
      by_cases h2 : k = 15
      · subst h2
        go_enter Tryd.func64, Tryd.ntmps64
        go_wp2
        go_ret
        exact ⟨rfl, rfl⟩
      · have q2 : (k != 15) = true := by simpa using h2
        have p2 : (k == 15) = false := by simpa using h2
        have HT : Hid (hasJ k = true) := by show _ = _; simp [hasJ, h0, h1, h2]
        go_enter Tryd.func64, Tryd.ntmps64
        go_wp2
        go_ret
        exact ⟨by rw [HT.out]; rfl, rfl⟩
theorem rcontact_any (k : Int) (b : Bool) (h : hasC k = b) (w : World) : Calls Tryd.prog 65 #[.int .i64 k] w fun e w' => e = .returned (.bool b) ∧ w' = w := by
  subst h
  by_cases h0 : 5 ≤ k
  · by_cases h1 : k ≤ 11
    · have HT : Hid (hasC k = true) := by show _ = _; simp [hasC, h0, h1]
      go_enter Tryd.func65, Tryd.ntmps65
      go_wp2
      go_ret
      exact ⟨by rw [HT.out]; rfl, rfl⟩
    · have HT : Hid (hasC k = false) := by show _ = _; simp [hasC, h0]; omega
      go_enter Tryd.func65, Tryd.ntmps65
      go_wp2
      go_ret
      exact ⟨by rw [HT.out]; rfl, rfl⟩
  · have HT : Hid (hasC k = false) := by show _ = _; simp [hasC]; omega
    go_enter Tryd.func65, Tryd.ntmps65
    go_wp2
    go_ret
    exact ⟨by rw [HT.out]; rfl, rfl⟩
theorem rvalue_any (k : Int) (b : Bool) (h : hasV k = b) (w : World) : Calls Tryd.prog 66 #[.int .i64 k] w fun e w' => e = .returned (.bool b) ∧ w' = w := by
  subst h
  by_cases hx : k ≤ 3
  · have HT : Hid (hasV k = true) := by show _ = _; simp [hasV, hx]
    go_enter Tryd.func66, Tryd.ntmps66
    go_wp2
    go_ret
    exact ⟨by rw [HT.out]; rfl, rfl⟩
  · by_cases h0 : k = 9
    · subst h0
      go_enter Tryd.func66, Tryd.ntmps66
      go_wp2
      go_ret
      exact ⟨rfl, rfl⟩
    · have q0 : (k != 9) = true := by simpa using h0
      have p0 : (k == 9) = false := by simpa using h0
      by_cases h1 : k = 14
      · subst h1
        go_enter Tryd.func66, Tryd.ntmps66
        go_wp2
        go_ret
        exact ⟨rfl, rfl⟩
      · have q1 : (k != 14) = true := by simpa using h1
        have p1 : (k == 14) = false := by simpa using h1
        by_cases h2 : k = 15
        · subst h2
          go_enter Tryd.func66, Tryd.ntmps66
          go_wp2
          go_ret
          exact ⟨rfl, rfl⟩
        · have q2 : (k != 15) = true := by simpa using h2
          have p2 : (k == 15) = false := by simpa using h2
          by_cases h3 : k = 16
          · subst h3
            go_enter Tryd.func66, Tryd.ntmps66
            go_wp2
            go_ret
            exact ⟨rfl, rfl⟩
          · have q3 : (k != 16) = true := by simpa using h3
            have p3 : (k == 16) = false := by simpa using h3
            have HT : Hid (hasV k = false) := by show _ = _; simp [hasV, hx, h0, h1, h2, h3]
            go_enter Tryd.func66, Tryd.ntmps66
            go_wp2
            go_ret
            exact ⟨by rw [HT.out]; rfl, rfl⟩
theorem rfield_any (n most : Int) (there b : Bool) (h : fldB n there most = b) (w : World) : Calls Tryd.prog 62 #[.int .i64 n, .bool there, .int .i64 most] w fun e w' => e = .returned (.bool b) ∧ w' = w := by
  subst h
  cases there with
  | false =>
    have HT : Hid (fldB n false most = (n == -1)) := by show _ = _; simp [fldB]
    go_enter Tryd.func62, Tryd.ntmps62
    go_wp2
    all_goals
      go_ret
      exact ⟨by rw [HT.out]; simp_all, rfl⟩
  | true =>
    by_cases h0 : 0 ≤ n
    · by_cases h1 : n ≤ most
      · have HT : Hid (fldB n true most = true) := by show _ = _; simp [fldB, h0, h1]
        go_enter Tryd.func62, Tryd.ntmps62
        go_wp2
        go_ret
        exact ⟨by rw [HT.out]; rfl, rfl⟩
      · have HT : Hid (fldB n true most = false) := by show _ = _; simp [fldB, h0]; omega
        go_enter Tryd.func62, Tryd.ntmps62
        go_wp2
        go_ret
        exact ⟨by rw [HT.out]; rfl, rfl⟩
    · have HT : Hid (fldB n true most = false) := by show _ = _; simp [fldB]; omega
      go_enter Tryd.func62, Tryd.ntmps62
      go_wp2
      go_ret
      exact ⟨by rw [HT.out]; rfl, rfl⟩
set_option maxHeartbeats 8000000 in
theorem rentry_any (x : Ent) (w : World) : Calls Tryd.prog 39 #[.agg #[.int .i64 x.t, .int .i64 x.k, .int .i64 x.n, .int .i64 x.j, .int .i64 x.c, .int .i64 x.v]] w fun e w' => e = .returned (.int .i64 (entE x)) ∧ Below w.heap.size w w' := by
  by_cases hk : x.k < 1
  · have HE : Hid (entE x = 8) := by show _ = _; rw [entE, if_pos (.inl hk)]
    go_enter Tryd.func39, Tryd.ntmps39
    go_wp2_with fail
    go_ret
    exact ⟨by rw [HE.out]; rfl, by (repeat' (first | (with_reducible exact Below.refl _ _) | (with_reducible refine Below.alloc ?_ ?_ _) | (with_reducible refine Below.drew ?_) | (with_reducible refine below_drewN ?_ _) | (with_reducible refine Below.setCell ?_ ?_ _) | (with_reducible refine Below.trans ?_ (Below.mono (by assumption) ?_)) | (with_reducible exact Nat.le_refl _) | omega | (simp; omega) | (simp; done)))⟩
  · by_cases hk2 : 17 < x.k
    · have HE : Hid (entE x = 8) := by show _ = _; rw [entE, if_pos (.inr hk2)]
      go_enter Tryd.func39, Tryd.ntmps39
      go_wp2_with fail
      go_ret
      exact ⟨by rw [HE.out]; rfl, by (repeat' (first | (with_reducible exact Below.refl _ _) | (with_reducible refine Below.alloc ?_ ?_ _) | (with_reducible refine Below.drew ?_) | (with_reducible refine below_drewN ?_ _) | (with_reducible refine Below.setCell ?_ ?_ _) | (with_reducible refine Below.trans ?_ (Below.mono (by assumption) ?_)) | (with_reducible exact Nat.le_refl _) | omega | (simp; omega) | (simp; done)))⟩
    · have HK : Hid (¬ (x.k < 1 ∨ 17 < x.k)) := by show ¬ _; omega
      obtain ⟨tb0, T0⟩ : ∃ b, Hid (hasN x.k = b) := ⟨_, rfl⟩
      obtain ⟨tb1, T1⟩ : ∃ b, Hid (hasJ x.k = b) := ⟨_, rfl⟩
      obtain ⟨tb2, T2⟩ : ∃ b, Hid (hasC x.k = b) := ⟨_, rfl⟩
      obtain ⟨tb3, T3⟩ : ∃ b, Hid (hasV x.k = b) := ⟨_, rfl⟩
      by_cases ht : x.t < 0
      · have d0 : decide (x.t < 0) = true := by simpa using ht
        have HE : Hid (entE x = 2) := by show _ = _; rw [entE, if_neg HK.out, if_pos (.inl ht)]
        go_enter Tryd.func39, Tryd.ntmps39
        go_wp2_with fail
        go_quiet (first
          | (go_at_call 63; exact Calls.quiet_of_same (rnode_any _ _ T0.out _))
          | (go_at_call 64; exact Calls.quiet_of_same (rticket_any _ _ T1.out _))
          | (go_at_call 65; exact Calls.quiet_of_same (rcontact_any _ _ T2.out _))
          | (go_at_call 66; exact Calls.quiet_of_same (rvalue_any _ _ T3.out _))
        )
        go_wp2_with fail
        go_ret
        exact ⟨by rw [HE.out]; rfl, by (repeat' (first | (with_reducible exact Below.refl _ _) | (with_reducible refine Below.alloc ?_ ?_ _) | (with_reducible refine Below.drew ?_) | (with_reducible refine below_drewN ?_ _) | (with_reducible refine Below.setCell ?_ ?_ _) | (with_reducible refine Below.trans ?_ (Below.mono (by assumption) ?_)) | (with_reducible exact Nat.le_refl _) | omega | (simp; omega) | (simp; done)))⟩
      · have d0 : decide (x.t < 0) = false := by simpa using ht
        by_cases ht2 : 1099511627776 < x.t
        · have d1 : decide (1099511627776 < x.t) = true := by simpa using ht2
          have HE : Hid (entE x = 2) := by show _ = _; rw [entE, if_neg HK.out, if_pos (.inr ht2)]
          go_enter Tryd.func39, Tryd.ntmps39
          go_wp2_with fail
          go_quiet (first
            | (go_at_call 63; exact Calls.quiet_of_same (rnode_any _ _ T0.out _))
            | (go_at_call 64; exact Calls.quiet_of_same (rticket_any _ _ T1.out _))
            | (go_at_call 65; exact Calls.quiet_of_same (rcontact_any _ _ T2.out _))
            | (go_at_call 66; exact Calls.quiet_of_same (rvalue_any _ _ T3.out _))
          )
          go_wp2_with fail
          go_ret
          exact ⟨by rw [HE.out]; rfl, by (repeat' (first | (with_reducible exact Below.refl _ _) | (with_reducible refine Below.alloc ?_ ?_ _) | (with_reducible refine Below.drew ?_) | (with_reducible refine below_drewN ?_ _) | (with_reducible refine Below.setCell ?_ ?_ _) | (with_reducible refine Below.trans ?_ (Below.mono (by assumption) ?_)) | (with_reducible exact Nat.le_refl _) | omega | (simp; omega) | (simp; done)))⟩
        · have d1 : decide (1099511627776 < x.t) = false := by simpa using ht2
          have HT0 : Hid (¬ (x.t < 0 ∨ 1099511627776 < x.t)) := by show ¬ _; omega
          cases h0 : fldB x.n tb0 15
          · have H0 : Hid (fldB x.n tb0 15 = false) := h0
            have HE : Hid (entE x = 2) := by show _ = _; simp [entE, HK.out, HT0.out, T0.out, h0]
            clear h0
            go_enter Tryd.func39, Tryd.ntmps39
            go_wp2_with fail
            go_quiet (first
              | (go_at_call 63; exact Calls.quiet_of_same (rnode_any _ _ T0.out _))
              | (go_at_call 64; exact Calls.quiet_of_same (rticket_any _ _ T1.out _))
              | (go_at_call 65; exact Calls.quiet_of_same (rcontact_any _ _ T2.out _))
              | (go_at_call 66; exact Calls.quiet_of_same (rvalue_any _ _ T3.out _))
              | (go_at_call_of 62 (Value.int .i64 x.n); exact Calls.quiet_of_same (rfield_any _ _ _ _ H0.out _)))
            go_wp2_with fail
            go_ret
            exact ⟨by rw [HE.out]; rfl, by (repeat' (first | (with_reducible exact Below.refl _ _) | (with_reducible refine Below.alloc ?_ ?_ _) | (with_reducible refine Below.drew ?_) | (with_reducible refine below_drewN ?_ _) | (with_reducible refine Below.setCell ?_ ?_ _) | (with_reducible refine Below.trans ?_ (Below.mono (by assumption) ?_)) | (with_reducible exact Nat.le_refl _) | omega | (simp; omega) | (simp; done)))⟩
          · have H0 : Hid (fldB x.n tb0 15 = true) := h0
            clear h0
            cases h1 : fldB x.j tb1 1152921504606846976
            · have H1 : Hid (fldB x.j tb1 1152921504606846976 = false) := h1
              have HE : Hid (entE x = 2) := by show _ = _; simp [entE, HK.out, HT0.out, H0.out, T0.out, T1.out, h1]
              clear h1
              go_enter Tryd.func39, Tryd.ntmps39
              go_wp2_with fail
              go_quiet (first
                | (go_at_call 63; exact Calls.quiet_of_same (rnode_any _ _ T0.out _))
                | (go_at_call 64; exact Calls.quiet_of_same (rticket_any _ _ T1.out _))
                | (go_at_call 65; exact Calls.quiet_of_same (rcontact_any _ _ T2.out _))
                | (go_at_call 66; exact Calls.quiet_of_same (rvalue_any _ _ T3.out _))
                | (go_at_call_of 62 (Value.int .i64 x.n); exact Calls.quiet_of_same (rfield_any _ _ _ _ H0.out _))
                | (go_at_call_of 62 (Value.int .i64 x.j); exact Calls.quiet_of_same (rfield_any _ _ _ _ H1.out _)))
              go_wp2_with fail
              go_ret
              exact ⟨by rw [HE.out]; rfl, by (repeat' (first | (with_reducible exact Below.refl _ _) | (with_reducible refine Below.alloc ?_ ?_ _) | (with_reducible refine Below.drew ?_) | (with_reducible refine below_drewN ?_ _) | (with_reducible refine Below.setCell ?_ ?_ _) | (with_reducible refine Below.trans ?_ (Below.mono (by assumption) ?_)) | (with_reducible exact Nat.le_refl _) | omega | (simp; omega) | (simp; done)))⟩
            · have H1 : Hid (fldB x.j tb1 1152921504606846976 = true) := h1
              clear h1
              cases h2 : fldB x.c tb2 63
              · have H2 : Hid (fldB x.c tb2 63 = false) := h2
                have HE : Hid (entE x = 2) := by show _ = _; simp [entE, HK.out, HT0.out, H0.out, H1.out, T0.out, T1.out, T2.out, h2]
                clear h2
                go_enter Tryd.func39, Tryd.ntmps39
                go_wp2_with fail
                go_quiet (first
                  | (go_at_call 63; exact Calls.quiet_of_same (rnode_any _ _ T0.out _))
                  | (go_at_call 64; exact Calls.quiet_of_same (rticket_any _ _ T1.out _))
                  | (go_at_call 65; exact Calls.quiet_of_same (rcontact_any _ _ T2.out _))
                  | (go_at_call 66; exact Calls.quiet_of_same (rvalue_any _ _ T3.out _))
                  | (go_at_call_of 62 (Value.int .i64 x.n); exact Calls.quiet_of_same (rfield_any _ _ _ _ H0.out _))
                  | (go_at_call_of 62 (Value.int .i64 x.j); exact Calls.quiet_of_same (rfield_any _ _ _ _ H1.out _))
                  | (go_at_call_of 62 (Value.int .i64 x.c); exact Calls.quiet_of_same (rfield_any _ _ _ _ H2.out _)))
                go_wp2_with fail
                go_ret
                exact ⟨by rw [HE.out]; rfl, by (repeat' (first | (with_reducible exact Below.refl _ _) | (with_reducible refine Below.alloc ?_ ?_ _) | (with_reducible refine Below.drew ?_) | (with_reducible refine below_drewN ?_ _) | (with_reducible refine Below.setCell ?_ ?_ _) | (with_reducible refine Below.trans ?_ (Below.mono (by assumption) ?_)) | (with_reducible exact Nat.le_refl _) | omega | (simp; omega) | (simp; done)))⟩
              · have H2 : Hid (fldB x.c tb2 63 = true) := h2
                clear h2
                cases h3 : fldB x.v tb3 1152921504606846976
                · have H3 : Hid (fldB x.v tb3 1152921504606846976 = false) := h3
                  have HE : Hid (entE x = 2) := by show _ = _; simp [entE, HK.out, HT0.out, H0.out, H1.out, H2.out, T0.out, T1.out, T2.out, T3.out, h3]
                  clear h3
                  go_enter Tryd.func39, Tryd.ntmps39
                  go_wp2_with fail
                  go_quiet (first
                    | (go_at_call 63; exact Calls.quiet_of_same (rnode_any _ _ T0.out _))
                    | (go_at_call 64; exact Calls.quiet_of_same (rticket_any _ _ T1.out _))
                    | (go_at_call 65; exact Calls.quiet_of_same (rcontact_any _ _ T2.out _))
                    | (go_at_call 66; exact Calls.quiet_of_same (rvalue_any _ _ T3.out _))
                    | (go_at_call_of 62 (Value.int .i64 x.n); exact Calls.quiet_of_same (rfield_any _ _ _ _ H0.out _))
                    | (go_at_call_of 62 (Value.int .i64 x.j); exact Calls.quiet_of_same (rfield_any _ _ _ _ H1.out _))
                    | (go_at_call_of 62 (Value.int .i64 x.c); exact Calls.quiet_of_same (rfield_any _ _ _ _ H2.out _))
                    | (go_at_call_of 62 (Value.int .i64 x.v); exact Calls.quiet_of_same (rfield_any _ _ _ _ H3.out _)))
                  go_wp2_with fail
                  go_ret
                  exact ⟨by rw [HE.out]; rfl, by (repeat' (first | (with_reducible exact Below.refl _ _) | (with_reducible refine Below.alloc ?_ ?_ _) | (with_reducible refine Below.drew ?_) | (with_reducible refine below_drewN ?_ _) | (with_reducible refine Below.setCell ?_ ?_ _) | (with_reducible refine Below.trans ?_ (Below.mono (by assumption) ?_)) | (with_reducible exact Nat.le_refl _) | omega | (simp; omega) | (simp; done)))⟩
                · have H3 : Hid (fldB x.v tb3 1152921504606846976 = true) := h3
                  clear h3
                  have HE : Hid (entE x = 0) := by show _ = _; simp [entE, HK.out, HT0.out, T0.out, T1.out, T2.out, T3.out, H0.out, H1.out, H2.out, H3.out]
                  go_enter Tryd.func39, Tryd.ntmps39
                  go_wp2_with fail
                  go_quiet (first
                    | (go_at_call 63; exact Calls.quiet_of_same (rnode_any _ _ T0.out _))
                    | (go_at_call 64; exact Calls.quiet_of_same (rticket_any _ _ T1.out _))
                    | (go_at_call 65; exact Calls.quiet_of_same (rcontact_any _ _ T2.out _))
                    | (go_at_call 66; exact Calls.quiet_of_same (rvalue_any _ _ T3.out _))
                    | (go_at_call_of 62 (Value.int .i64 x.n); exact Calls.quiet_of_same (rfield_any _ _ _ _ H0.out _))
                    | (go_at_call_of 62 (Value.int .i64 x.j); exact Calls.quiet_of_same (rfield_any _ _ _ _ H1.out _))
                    | (go_at_call_of 62 (Value.int .i64 x.c); exact Calls.quiet_of_same (rfield_any _ _ _ _ H2.out _))
                    | (go_at_call_of 62 (Value.int .i64 x.v); exact Calls.quiet_of_same (rfield_any _ _ _ _ H3.out _)))
                  go_wp2_with fail
                  go_ret
                  exact ⟨by rw [HE.out]; rfl, by (repeat' (first | (with_reducible exact Below.refl _ _) | (with_reducible refine Below.alloc ?_ ?_ _) | (with_reducible refine Below.drew ?_) | (with_reducible refine below_drewN ?_ _) | (with_reducible refine Below.setCell ?_ ?_ _) | (with_reducible refine Below.trans ?_ (Below.mono (by assumption) ?_)) | (with_reducible exact Nat.le_refl _) | omega | (simp; omega) | (simp; done)))⟩
end Go.Proofs.YtekpnphfdoplfaaDoor

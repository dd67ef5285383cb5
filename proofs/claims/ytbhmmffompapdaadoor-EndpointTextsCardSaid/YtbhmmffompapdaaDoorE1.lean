/- Walks over the leaves of package endpoint. -/
import Derived.Test.YtbhmmffompapdaaDoorRows
import Derived.Test.YtbhmmffompapdaaDoorSh
import Derived.WalkKit
import Derived.WalkSpells
import Derived.WalkLawsBesides
import Derived.Handy
import Derived.Deep.QuietTactic
import Derived.BigQuiet
import Derived.Deep.RegionHeld3
import Derived.Deep.DeepCutAuto
import Derived.Lib.Hide
namespace Go.Proofs.YtbhmmffompapdaaDoor
open Go.RowKit

theorem below_drewN {B : Nat} {a w : World} (h : Below B a w) (n : Nat) : Below B a (w.drewN n) := ⟨h.os, h.tape, h.output, h.size, h.block⟩
theorem bc {B : Nat} {W w1 : World} (hb : Below W.heap.size W w1) (h : B ≤ W.heap.size) : ∀ b o, b < B → w1.cell? ⟨b, o, none⟩ = W.cell? ⟨b, o, none⟩ :=
  fun b o hlt => hb.cell (p := ⟨b, o, none⟩) (show b < W.heap.size by omega)
theorem bf {B : Nat} {W w1 : World} (hb : Below W.heap.size W w1) (h : B ≤ W.heap.size) : ∀ b o, b < B → w1.frozen? ⟨b, o, none⟩ = W.frozen? ⟨b, o, none⟩ :=
  fun b o hlt => hb.frozen (p := ⟨b, o, none⟩) (show b < W.heap.size by omega)
/-- why (k, n) is no endpoint -/
def epE (k n : Int) : Int := if ¬ (k = 1 ∨ k = 2) then 8 else if n < 0 ∨ (k = 1 ∧ 16 ≤ n) ∨ (k = 2 ∧ 8 ≤ n) then 2 else 0
/-- the text of an endpoint, as bytes -/
def epText (k n : Int) : List UInt8 := (if k = 1 then [110, 111, 100, 101, 58] else [103, 114, 111, 117, 112, 58]) ++ Lib.decDigits n.toNat
theorem epE_ok {k n : Int} (h : epE k n = 0) : (k = 1 ∨ k = 2) ∧ 0 ≤ n ∧ n < 16 := by
  unfold epE at h; split at h
  · cases h
  split at h
  · cases h
  omega

theorem check_any (k n : Int) (w : World) : Calls Tryd.prog 29 #[.agg #[.int .i64 k, .int .i64 n]] w fun e w' => e = .returned (.int .i64 (epE k n)) ∧ Below w.heap.size w w' := by
  by_cases h1 : k = 1
  · subst h1
    have hE : Hid (epE 1 n = if n < 0 ∨ 16 ≤ n then 2 else 0) := by show _ = _; simp [epE]
    by_cases h2 : n < 0 <;> by_cases h3 : 16 ≤ n
    all_goals first | (exfalso; omega) | skip
    all_goals
      go_enter Tryd.func29, Tryd.ntmps29
      go_wp2
      go_ret
      refine ⟨?_, by (repeat' (first | (with_reducible exact Below.refl _ _) | (with_reducible refine Below.alloc ?_ ?_ _) | (with_reducible refine Below.drew ?_) | (with_reducible refine below_drewN ?_ _) | (with_reducible refine Below.setCell ?_ ?_ _) | (with_reducible refine Below.trans ?_ (Below.mono (by assumption) ?_)) | (with_reducible exact Nat.le_refl _) | omega | (simp; omega) | (simp; done)))⟩
      rw [hE.out]
      first | (rw [if_pos (by omega)]; rfl) | (rw [if_neg (by omega)]; rfl)
  · have g1 : (k == 1) = false := by simpa using h1
    have g1' : (k != 1) = true := by simpa using h1
    by_cases h4 : k = 2
    · subst h4
      have hE : Hid (epE 2 n = if n < 0 ∨ 8 ≤ n then 2 else 0) := by show _ = _; simp [epE]
      clear h1 g1 g1'
      by_cases h2 : n < 0 <;> by_cases h3 : 8 ≤ n
      all_goals first | (exfalso; omega) | skip
      all_goals
        go_enter Tryd.func29, Tryd.ntmps29
        go_wp2
        go_ret
        refine ⟨?_, by (repeat' (first | (with_reducible exact Below.refl _ _) | (with_reducible refine Below.alloc ?_ ?_ _) | (with_reducible refine Below.drew ?_) | (with_reducible refine below_drewN ?_ _) | (with_reducible refine Below.setCell ?_ ?_ _) | (with_reducible refine Below.trans ?_ (Below.mono (by assumption) ?_)) | (with_reducible exact Nat.le_refl _) | omega | (simp; omega) | (simp; done)))⟩
        rw [hE.out]
        first | (rw [if_pos (by omega)]; rfl) | (rw [if_neg (by omega)]; rfl)
    · have g2 : (k == 2) = false := by simpa using h4
      have g2' : (k != 2) = true := by simpa using h4
      have hE : Hid (epE k n = 8) := by show _ = _; unfold epE; rw [if_pos (by omega)]
      clear h1 h4
      go_enter Tryd.func29, Tryd.ntmps29
      go_wp2
      go_ret
      refine ⟨?_, by (repeat' (first | (with_reducible exact Below.refl _ _) | (with_reducible refine Below.alloc ?_ ?_ _) | (with_reducible refine Below.drew ?_) | (with_reducible refine below_drewN ?_ _) | (with_reducible refine Below.setCell ?_ ?_ _) | (with_reducible refine Below.trans ?_ (Below.mono (by assumption) ?_)) | (with_reducible exact Nat.le_refl _) | omega | (simp; omega) | (simp; done)))⟩
      rw [hE.out]; rfl

theorem rcheck_any (k n : Int) (w : World) : Calls Tryd.prog 30 #[.agg #[.int .i64 k, .int .i64 n]] w fun e w' => e = .returned (.int .i64 (epE k n)) ∧ Below w.heap.size w w' := by
  by_cases h1 : k = 1
  · subst h1
    have hE : Hid (epE 1 n = if n < 0 ∨ 16 ≤ n then 2 else 0) := by show _ = _; simp [epE]
    by_cases h2 : n < 0 <;> by_cases h3 : 16 ≤ n
    all_goals first | (exfalso; omega) | skip
    all_goals
      go_enter Tryd.func30, Tryd.ntmps30
      go_wp2
      go_ret
      refine ⟨?_, by (repeat' (first | (with_reducible exact Below.refl _ _) | (with_reducible refine Below.alloc ?_ ?_ _) | (with_reducible refine Below.drew ?_) | (with_reducible refine below_drewN ?_ _) | (with_reducible refine Below.setCell ?_ ?_ _) | (with_reducible refine Below.trans ?_ (Below.mono (by assumption) ?_)) | (with_reducible exact Nat.le_refl _) | omega | (simp; omega) | (simp; done)))⟩
      rw [hE.out]
      first | (rw [if_pos (by omega)]; rfl) | (rw [if_neg (by omega)]; rfl)
  · have g1 : (k == 1) = false := by simpa using h1
    have g1' : (k != 1) = true := by simpa using h1
    by_cases h4 : k = 2
    · subst h4
      have hE : Hid (epE 2 n = if n < 0 ∨ 8 ≤ n then 2 else 0) := by show _ = _; simp [epE]
      clear h1 g1 g1'
      by_cases h2 : n < 0 <;> by_cases h3 : 8 ≤ n
      all_goals first | (exfalso; omega) | skip
      all_goals
        go_enter Tryd.func30, Tryd.ntmps30
        go_wp2
        go_ret
        refine ⟨?_, by (repeat' (first | (with_reducible exact Below.refl _ _) | (with_reducible refine Below.alloc ?_ ?_ _) | (with_reducible refine Below.drew ?_) | (with_reducible refine below_drewN ?_ _) | (with_reducible refine Below.setCell ?_ ?_ _) | (with_reducible refine Below.trans ?_ (Below.mono (by assumption) ?_)) | (with_reducible exact Nat.le_refl _) | omega | (simp; omega) | (simp; done)))⟩
        rw [hE.out]
        first | (rw [if_pos (by omega)]; rfl) | (rw [if_neg (by omega)]; rfl)
    · have g2 : (k == 2) = false := by simpa using h4
      have g2' : (k != 2) = true := by simpa using h4
      have hE : Hid (epE k n = 8) := by show _ = _; unfold epE; rw [if_pos (by omega)]
      clear h1 h4
      go_enter Tryd.func30, Tryd.ntmps30
      go_wp2
      go_ret
      refine ⟨?_, by (repeat' (first | (with_reducible exact Below.refl _ _) | (with_reducible refine Below.alloc ?_ ?_ _) | (with_reducible refine Below.drew ?_) | (with_reducible refine below_drewN ?_ _) | (with_reducible refine Below.setCell ?_ ?_ _) | (with_reducible refine Below.trans ?_ (Below.mono (by assumption) ?_)) | (with_reducible exact Nat.le_refl _) | omega | (simp; omega) | (simp; done)))⟩
      rw [hE.out]; rfl

theorem words_any (w : World) : Calls Tryd.prog 31 #[] w fun e w' => e = .returned (.agg #[.string ⟨#[]⟩, .string ⟨#[110, 111, 100, 101]⟩, .string ⟨#[103, 114, 111, 117, 112]⟩]) ∧ Below w.heap.size w w' := by
  go_enter Tryd.func31, Tryd.ntmps31
  go_wp2_with fail
  refine bodyPost_ret (by (simp [results, Tryd.results31, go_sem, *]; try rfl)) rfl ?_
  exact ⟨rfl, by (repeat' (first | (with_reducible exact Below.refl _ _) | (with_reducible refine Below.alloc ?_ ?_ _) | (with_reducible refine Below.drew ?_) | (with_reducible refine below_drewN ?_ _) | (with_reducible refine Below.setCell ?_ ?_ _) | (with_reducible refine Below.trans ?_ (Below.mono (by assumption) ?_)) | (with_reducible exact Nat.le_refl _) | omega | (simp; omega) | (simp; done)))⟩
theorem isNode_any (n : Int) (w : World) : Calls Tryd.prog 34 #[.int .i64 n] w fun e w' => e = .returned (.bool (decide (0 ≤ n) && decide (n < 16))) ∧ w = w' := by
  by_cases h : 0 ≤ n
  all_goals
    go_enter Tryd.func34, Tryd.ntmps34
    go_wp2
    go_ret
    exact ⟨by simp [*] <;> omega, rfl⟩
end Go.Proofs.YtbhmmffompapdaaDoor

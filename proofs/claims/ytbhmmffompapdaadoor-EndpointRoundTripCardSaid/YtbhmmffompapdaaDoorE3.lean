/- Slices of integers and of such slices in memory, and the first walks over them. -/
import Derived.Test.YtbhmmffompapdaaDoorRows
import Derived.Test.YtbhmmffompapdaaDoorE2
import Derived.WalkKit
import Derived.WalkSpells
import Derived.WalkLawsBesides
import Derived.Handy
import Derived.Deep.QuietTactic
import Derived.BigQuiet
import Derived.Deep.RegionHeld3
import Derived.Deep.DeepCutAuto
import Derived.Lib.Hide
namespace Go.Proofs.YtbhmmffompapdaaDoor
open Go.RowKit
/-- a slice that reads as a list of integers, below block B -/
def Ints (w : World) (B : Nat) (v : Value) (xs : List Int) : Prop :=
  ∃ A c, v = .slice A xs.length c ∧ xs.length ≤ c ∧ c ≤ maxLen ∧ (0 < xs.length → ∃ b o, A = some ⟨b, o, none⟩ ∧ b < B ∧ ∀ j, j < xs.length → w.cell? ⟨b, o + j, none⟩ = some (.int .i64 (xs.getD j 0)))
/-- a slice of such slices -/
def Grps (w : World) (B : Nat) (v : Value) (gs : List (List Int)) : Prop :=
  ∃ A c, v = .slice A gs.length c ∧ gs.length ≤ c ∧ c ≤ maxLen ∧ (0 < gs.length → ∃ b o, A = some ⟨b, o, none⟩ ∧ b < B ∧ ∀ j, j < gs.length → ∃ u, w.cell? ⟨b, o + j, none⟩ = some u ∧ Ints w B u (gs.getD j []))
theorem Ints.below {w w' : World} {B : Nat} {v : Value} {xs : List Int} (h : Ints w B v xs) (hb : Below B w w') : Ints w' B v xs := by
  obtain ⟨A, c, e, h1, h2, h3⟩ := h
  refine ⟨A, c, e, h1, h2, fun hp => ?_⟩
  obtain ⟨b, o, e1, h4, h5⟩ := h3 hp
  exact ⟨b, o, e1, h4, fun j hj => (hb.cell (p := ⟨b, o + j, none⟩) h4).trans (h5 j hj)⟩
theorem Ints.more {w : World} {B B' : Nat} {v : Value} {xs : List Int} (h : Ints w B v xs) (hB : B ≤ B') : Ints w B' v xs := by
  obtain ⟨A, c, e, h1, h2, h3⟩ := h
  refine ⟨A, c, e, h1, h2, fun hp => ?_⟩
  obtain ⟨b, o, e1, h4, h5⟩ := h3 hp
  exact ⟨b, o, e1, by omega, h5⟩
theorem Grps.below {w w' : World} {B : Nat} {v : Value} {gs : List (List Int)} (h : Grps w B v gs) (hb : Below B w w') : Grps w' B v gs := by
  obtain ⟨A, c, e, h1, h2, h3⟩ := h
  refine ⟨A, c, e, h1, h2, fun hp => ?_⟩
  obtain ⟨b, o, e1, h4, h5⟩ := h3 hp
  refine ⟨b, o, e1, h4, fun j hj => ?_⟩
  obtain ⟨u, h6, h7⟩ := h5 j hj
  exact ⟨u, (hb.cell (p := ⟨b, o + j, none⟩) h4).trans h6, h7.below hb⟩
theorem Grps.more {w : World} {B B' : Nat} {v : Value} {gs : List (List Int)} (h : Grps w B v gs) (hB : B ≤ B') : Grps w B' v gs := by
  obtain ⟨A, c, e, h1, h2, h3⟩ := h
  refine ⟨A, c, e, h1, h2, fun hp => ?_⟩
  obtain ⟨b, o, e1, h4, h5⟩ := h3 hp
  refine ⟨b, o, e1, by omega, fun j hj => ?_⟩
  obtain ⟨u, h6, h7⟩ := h5 j hj
  exact ⟨u, h6, h7.more hB⟩
/-- larger than the statements examine -/
def greatB (gs : List (List Int)) : Bool := decide (10 < gs.length) || gs.any fun g => decide (20 < g.length)
theorem any_drop {α : Type} (p : α → Bool) (l : List α) (i : Nat) (d : α) (h : i < l.length) : (l.drop i).any p = (p (l.getD i d) || (l.drop (i + 1)).any p) := by
  rw [List.drop_eq_getElem_cons h, List.any_cons]
  simp [List.getD, h]
set_option maxHeartbeats 400000 in
theorem great_any (v : Value) (gs : List (List Int)) (w : World) (B : Nat) (hg : Grps w B v gs) : Calls Tryd.prog 12 #[v] w fun e w' => e = .returned (.bool (greatB gs)) ∧ w = w' := by
  obtain ⟨A, c, rfl, hc, hm, hA⟩ := hg
  unfold maxLen at hm
  have HA := Lib.hid hA
  clear hA
  by_cases hl : 10 < gs.length
  · have hE : Hid (greatB gs = true) := by show _ = _; simp [greatB, hl]
    go_enter Tryd.func12, Tryd.ntmps12
    go_wp2_with fail
    go_ret
    exact ⟨by rw [hE.out]; rfl, rfl⟩
  · have hE : Hid (greatB gs = gs.any fun g => decide (20 < g.length)) := by show _ = _; simp [greatB, hl]
    go_enter Tryd.func12, Tryd.ntmps12
    go_wp2_with fail
    go_loop [3] (fun x => ∃ i : Nat, i ≤ gs.length ∧ x = .int .i64 i ∧ Hid ((gs.drop i).any (fun g => decide (20 < g.length)) = gs.any fun g => decide (20 < g.length))) (fun x => gs.length - (intOf x).toNat)
    case atStart => exact ⟨0, by omega, rfl, rfl⟩
    case round =>
      obtain ⟨i, hi, rfl, hr⟩ := hrel
      by_cases hlt : i < gs.length
      · obtain ⟨b, o, rfl, hb, hcell⟩ := HA.out (by omega)
        obtain ⟨u, hu, A2, c2, rfl, hc2, hm2, _⟩ := hcell i hlt
        clear hcell
        unfold maxLen at hm2
        have hs := any_drop (fun g : List Int => decide (20 < g.length)) gs i [] hlt
        generalize gs.getD i [] = g at *
        by_cases hq : 20 < g.length
        · have hT : Hid (greatB gs = true) := by show _ = _; rw [hE.out, ← hr.out, hs, decide_eq_true hq, Bool.true_or]
          clear hs
          go_wp2_with fail
          go_ret
          exact ⟨by rw [hT.out]; rfl, rfl⟩
        · have hT : Hid ((gs.drop (i + 1)).any (fun g => decide (20 < g.length)) = gs.any fun g => decide (20 < g.length)) := by show _ = _; rw [← hr.out, hs, decide_eq_false hq, Bool.false_or]
          clear hs
          go_wp2_with fail
          go_round
          case rel => exact ⟨i + 1, by omega, by go_num, hT⟩
          case measure => simp [intOf]; omega
      · have hT : Hid (greatB gs = false) := by show _ = _; rw [hE.out, ← hr.out, List.drop_of_length_le (by omega)]; rfl
        go_wp2_with fail
        go_ret
        exact ⟨by rw [hT.out]; rfl, rfl⟩
end Go.Proofs.YtbhmmffompapdaaDoor

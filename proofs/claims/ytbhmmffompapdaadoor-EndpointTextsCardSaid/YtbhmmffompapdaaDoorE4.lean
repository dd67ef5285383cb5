/- Walks over CheckGroups and the reference CheckGroups. -/
import Derived.Test.YtbhmmffompapdaaDoorRows
import Derived.Test.YtbhmmffompapdaaDoorE3
import Derived.WalkKit
import Derived.WalkSpells
import Derived.WalkLawsBesides
import Derived.Handy
import Derived.Deep.QuietTactic
import Derived.BigQuiet
import Derived.Deep.RegionHeld3
import Derived.Deep.DeepCutAuto
import Derived.Lib.Hide
namespace Go.Proofs.YtbhmmffompapdaaDoor
open Go.RowKit
def lePrev (p : Option Int) (n : Int) : Bool := match p with | some q => decide (n ≤ q) | none => false
/-- why a row of nodes is not one; p is what stands before -/
def rowE (p : Option Int) (l : List Int) : Int := match l with
  | [] => 0
  | n :: t => if n < 0 ∨ 16 ≤ n then 2 else if lePrev p n = true then 9 else rowE (some n) t
theorem rowE_cons (p : Option Int) (n : Int) (t : List Int) : rowE p (n :: t) = if n < 0 ∨ 16 ≤ n then 2 else if lePrev p n = true then 9 else rowE (some n) t := rfl
def grpsE : List (List Int) → Int
  | [] => 0
  | g :: t => if rowE none g ≠ 0 then rowE none g else grpsE t
/-- why groups are not valid -/
def groupsE (gs : List (List Int)) : Int := if 8 < gs.length then 4 else grpsE gs
def prevOf (g : List Int) (k : Nat) : Option Int := if k = 0 then none else some (g.getD (k - 1) 0)
theorem rowE_step (g : List Int) (k : Nat) (h : k < g.length) : rowE (prevOf g k) (g.drop k) =
    if g.getD k 0 < 0 ∨ 16 ≤ g.getD k 0 then 2 else if (0 < k ∧ g.getD k 0 ≤ g.getD (k - 1) 0) then 9 else rowE (prevOf g (k + 1)) (g.drop (k + 1)) := by
  have e : g.drop k = g.getD k 0 :: g.drop (k + 1) := by
    rw [List.drop_eq_getElem_cons h]; simp [List.getD, h]
  rw [e, rowE_cons]
  have e2 : prevOf g (k + 1) = some (g.getD k 0) := by simp [prevOf]
  rw [e2]
  by_cases hk : k = 0
  · subst hk; simp [prevOf, lePrev]
  · have : 0 < k := by omega
    simp [prevOf, lePrev, hk, this]
theorem grpsE_step (gs : List (List Int)) (i : Nat) (h : i < gs.length) : grpsE (gs.drop i) = if rowE none (gs.getD i []) ≠ 0 then rowE none (gs.getD i []) else grpsE (gs.drop (i + 1)) := by
  have e : gs.drop i = gs.getD i [] :: gs.drop (i + 1) := by
    rw [List.drop_eq_getElem_cons h]; simp [List.getD, h]
  rw [e, grpsE]
set_option maxHeartbeats 1000000 in
theorem groups_any (v : Value) (gs : List (List Int)) (w : World) (B : Nat) (hg : Grps w B v gs) : Calls Tryd.prog 20 #[v] w fun e w' => e = .returned (.int .i64 (groupsE gs)) ∧ w = w' := by
  obtain ⟨A, c, rfl, hc, hm, hA⟩ := hg
  unfold maxLen at hm
  have HA := Lib.hid hA
  clear hA
  by_cases hl : 8 < gs.length
  · have hE : Hid (groupsE gs = 4) := by show _ = _; simp [groupsE, hl]
    go_enter Tryd.func20, Tryd.ntmps20
    go_wp2_with fail
    go_ret
    exact ⟨by rw [hE.out]; rfl, rfl⟩
  · have hE : Hid (groupsE gs = grpsE gs) := by show _ = _; simp [groupsE, hl]
    go_enter Tryd.func20, Tryd.ntmps20
    go_wp2_with fail
    go_loop [12] (fun x => ∃ i : Nat, i ≤ gs.length ∧ x = .int .i64 i ∧ Hid (grpsE (gs.drop i) = grpsE gs)) (fun x => gs.length - (intOf x).toNat)
    case atStart => exact ⟨0, by omega, rfl, rfl⟩
    case round =>
      obtain ⟨i, hi, rfl, hr⟩ := hrel
      by_cases hlt : i < gs.length
      · obtain ⟨b, o, rfl, hb, hcell⟩ := HA.out (by omega)
        obtain ⟨u, hu, A2, c2, rfl, hc2, hm2, hA2⟩ := hcell i hlt
        clear hcell
        unfold maxLen at hm2
        have HA2 := Lib.hid hA2
        clear hA2
        have hs := grpsE_step gs i hlt
        generalize gs.getD i [] = g at *
        have HS := Lib.hid hs
        clear hs
        go_wp2_with fail
        go_loop [18] (fun x => ∃ k : Nat, k ≤ g.length ∧ x = .int .i64 k ∧ Hid (rowE (prevOf g k) (g.drop k) = rowE none g)) (fun x => g.length - (intOf x).toNat)
        case atStart => exact ⟨0, by omega, rfl, rfl⟩
        case round =>
          obtain ⟨k, hk, rfl, hr2⟩ := hrel
          by_cases hlt2 : k < g.length
          · obtain ⟨b2, o2, rfl, hb2, hcell2⟩ := HA2.out (by omega)
            have hx := hcell2 k hlt2
            have hst := rowE_step g k hlt2
            have hfin : ∀ r : Int, r ≠ 0 → rowE none g = r → groupsE gs = r := fun r h1 h2 => by
              rw [hE.out, ← hr.out, HS.out, h2, if_pos h1]
            have HFIN := Lib.hid hfin
            clear hfin
            have hnx : 1 ≤ k → w.cell? ⟨b2, o2 + (k - 1), none⟩ = some (.int .i64 (g.getD (k - 1) 0)) := fun h => hcell2 (k - 1) (by omega)
            clear hcell2
            generalize g.getD k 0 = n at *
            generalize g.getD (k - 1) 0 = m at *
            by_cases hn : 0 ≤ n ∧ n < 16
            · obtain ⟨hn1, hn2⟩ := hn
              by_cases hk0 : k < 1
              · have HT : Hid (rowE (prevOf g (k + 1)) (g.drop (k + 1)) = rowE none g) := by show _ = _; rw [← hr2.out, hst, if_neg (by omega), if_neg (by omega)]
                clear hst hnx
                go_wp2_with (first | (go_at_call 34; refine (isNode_any _ _).mono ?_; rintro e w1 ⟨rfl, rfl⟩))
                go_round
                case rel => exact ⟨k + 1, by omega, by go_num, HT⟩
                case measure => simp [intOf]; omega
              · have hnm := hnx (by omega)
                clear hnx
                have hk1 : (1 : Int) ≤ k := by omega
                by_cases hq : n ≤ m
                · have HT : Hid (groupsE gs = 9) := HFIN.out 9 (by omega) (by rw [← hr2.out, hst, if_neg (by omega), if_pos (by omega)])
                  clear hst
                  go_wp2_with (first | (go_at_call 34; refine (isNode_any _ _).mono ?_; rintro e w1 ⟨rfl, rfl⟩))
                  go_ret
                  exact ⟨by rw [HT.out]; rfl, rfl⟩
                · have HT : Hid (rowE (prevOf g (k + 1)) (g.drop (k + 1)) = rowE none g) := by show _ = _; rw [← hr2.out, hst, if_neg (by omega), if_neg (by omega)]
                  clear hst
                  go_wp2_with (first | (go_at_call 34; refine (isNode_any _ _).mono ?_; rintro e w1 ⟨rfl, rfl⟩))
                  go_round
                  case rel => exact ⟨k + 1, by omega, by go_num, HT⟩
                  case measure => simp [intOf]; omega
            · have HT : Hid (groupsE gs = 2) := HFIN.out 2 (by omega) (by rw [← hr2.out, hst, if_pos (by omega)])
              clear hst hnx
              have hn3 : (!(decide (0 ≤ n) && decide (n < 16))) = true := by simp; omega
              go_wp2_with (first | (go_at_call 34; refine (isNode_any _ _).mono ?_; rintro e w1 ⟨rfl, rfl⟩))
              all_goals
                first
                | (exfalso; simp_all; omega)
                | (go_ret; exact ⟨by rw [HT.out]; rfl, rfl⟩)
          · have HT : Hid (grpsE (gs.drop (i + 1)) = grpsE gs) := by
              show _ = _
              have h0 : rowE none g = 0 := by rw [← hr2.out, List.drop_of_length_le (by omega)]; rfl
              rw [← hr.out, HS.out, h0]; rfl
            go_wp2_with fail
            go_round
            case rel => exact ⟨i + 1, by omega, by go_num, HT⟩
            case measure => simp [intOf]; omega
      · have hT : Hid (groupsE gs = 0) := by show _ = _; rw [hE.out, ← hr.out, List.drop_of_length_le (by omega)]; rfl
        go_wp2_with fail
        go_ret
        exact ⟨by rw [hT.out]; rfl, rfl⟩
end Go.Proofs.YtbhmmffompapdaaDoor

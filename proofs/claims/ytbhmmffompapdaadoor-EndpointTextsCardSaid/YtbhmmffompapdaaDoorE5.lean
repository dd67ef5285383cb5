/- Walk over the reference CheckGroups. -/
import Derived.Test.YtbhmmffompapdaaDoorRows
import Derived.Test.YtbhmmffompapdaaDoorE4
import Derived.WalkKit
import Derived.WalkSpells
import Derived.WalkLawsBesides
import Derived.Handy
import Derived.Deep.QuietTactic
import Derived.BigQuiet
import Derived.Deep.RegionHeld3
import Derived.Deep.DeepCutAuto
import Derived.Lib.Hide
namespace Go.Proofs.YtbhmmffompapdaaDoor
open Go.RowKit
set_option maxHeartbeats 1000000 in
theorem rgroups_any (v : Value) (gs : List (List Int)) (w : World) (B : Nat) (hg : Grps w B v gs) : Calls Tryd.prog 21 #[v] w fun e w' => e = .returned (.int .i64 (groupsE gs)) ∧ ∃ q, w' = w.drewN q := by
  obtain ⟨A, c, rfl, hc, hm, hA⟩ := hg
  unfold maxLen at hm
  have HA := Lib.hid hA
  clear hA
  by_cases hl : 8 < gs.length
  · have hE : Hid (groupsE gs = 4) := by show _ = _; simp [groupsE, hl]
    go_enter Tryd.func21, Tryd.ntmps21
    go_wp2_with fail
    go_ret
    exact ⟨by rw [hE.out]; rfl, 0, rfl⟩
  · have hE : Hid (groupsE gs = grpsE gs) := by show _ = _; simp [groupsE, hl]
    go_enter Tryd.func21, Tryd.ntmps21
    go_wp2_with fail
    go_loopw [3] (fun x wr => ∃ i q : Nat, i ≤ gs.length ∧ x = .int .i64 i ∧ Hid (grpsE (gs.drop i) = grpsE gs) ∧ wr = w.drewN q) (fun x _ => gs.length - (intOf x).toNat)
    case atStart => exact ⟨0, 0, by omega, rfl, rfl, rfl⟩
    case round =>
      obtain ⟨i, q, hi, rfl, hr, rfl⟩ := hrel
      by_cases hlt : i < gs.length
      · obtain ⟨b, o, rfl, hb, hcell⟩ := HA.out (by omega)
        obtain ⟨u, hu, A2, c2, rfl, hc2, hm2, hA2⟩ := hcell i hlt
        clear hcell
        unfold maxLen at hm2
        have HA2 := Lib.hid hA2
        clear hA2
        have hs := grpsE_step gs i hlt
        generalize gs.getD i [] = g at *
        have HS := Lib.hid hs
        clear hs
        go_wp2_with fail
        go_loopw [4] (fun x wr => ∃ k q2 : Nat, k ≤ g.length ∧ x = .int .i64 k ∧ Hid (rowE (prevOf g k) (g.drop k) = rowE none g) ∧ wr = w.drewN q2) (fun x _ => g.length - (intOf x).toNat)
        case atStart => exact ⟨0, q, by omega, rfl, rfl, rfl⟩
        case round =>
          obtain ⟨k, q2, hk, rfl, hr2, rfl⟩ := hrel
          by_cases hlt2 : k < g.length
          · obtain ⟨b2, o2, rfl, hb2, hcell2⟩ := HA2.out (by omega)
            have hx := hcell2 k hlt2
            have hst := rowE_step g k hlt2
            have hfin : ∀ r : Int, r ≠ 0 → rowE none g = r → groupsE gs = r := fun r h1 h2 => by
              rw [hE.out, ← hr.out, HS.out, h2, if_pos h1]
            have HFIN := Lib.hid hfin
            clear hfin
            have hnx : 1 ≤ k → w.cell? ⟨b2, o2 + (k - 1), none⟩ = some (.int .i64 (g.getD (k - 1) 0)) := fun h => hcell2 (k - 1) (by omega)
            clear hcell2
            generalize g.getD k 0 = n at *
            generalize g.getD (k - 1) 0 = m at *
            by_cases hn : 0 ≤ n ∧ n < 16
            · obtain ⟨hn1, hn2⟩ := hn
              by_cases hk0 : k < 1
              · have HT : Hid (rowE (prevOf g (k + 1)) (g.drop (k + 1)) = rowE none g) := by show _ = _; rw [← hr2.out, hst, if_neg (by omega), if_neg (by omega)]
                have hd : decide ((0 : Int) < k) = false := by simp; omega
                have hd2 : decide (0 < k) = false := by simp; omega
                clear hst hnx
                go_wp2_with fail
                go_quiet (fail)
                go_wp2_with fail
                go_roundw
                case rel => exact ⟨k + 1, _, by omega, by go_num, HT, rfl⟩
                case measure => simp [intOf]; omega
              · have hnm := hnx (by omega)
                clear hnx
                have hk1 : (1 : Int) ≤ k := by omega
                have hk2 : ((k : Int) - 1).toNat = k - 1 := by omega
                have hk3 : IntKind.i64.wrap ((k : Int) - 1) = (k : Int) - 1 := IntWalk.i64_in _ (by omega)
                have hk4 : (k : Int) - 1 < g.length := by omega
                have hk7 : 0 < k := by omega
                have hk8 : (0 : Int) ≤ (k : Int) - 1 := by omega
                have hk5 : (k : Int) < g.length := by omega
                have hk6 : (i : Int) < gs.length := by omega
                by_cases hq : n ≤ m
                · have HT : Hid (groupsE gs = 9) := HFIN.out 9 (by omega) (by rw [← hr2.out, hst, if_neg (by omega), if_pos (by omega)])
                  clear hst
                  go_wp2_with fail
                  go_quiet (fail)
                  go_wp2_with fail
                  go_ret
                  exact ⟨by rw [HT.out]; rfl, _, World.drewN_drewN _ _ _⟩
                · have HT : Hid (rowE (prevOf g (k + 1)) (g.drop (k + 1)) = rowE none g) := by show _ = _; rw [← hr2.out, hst, if_neg (by omega), if_neg (by omega)]
                  clear hst
                  go_wp2_with fail
                  go_quiet (fail)
                  clear hk2 hk3
                  go_wp2_with fail
                  go_roundw
                  case rel => exact ⟨k + 1, _, by omega, by go_num, HT, rfl⟩
                  case measure => simp [intOf]; omega
            · have HT : Hid (groupsE gs = 2) := HFIN.out 2 (by omega) (by rw [← hr2.out, hst, if_pos (by omega)])
              clear hst hnx
              by_cases hn0 : n < 0
              all_goals
                go_wp2_with fail
                all_goals
                  first
                  | (exfalso; omega)
                  | (go_ret; exact ⟨by rw [HT.out]; rfl, _, rfl⟩)
          · have HT : Hid (grpsE (gs.drop (i + 1)) = grpsE gs) := by
              show _ = _
              have h0 : rowE none g = 0 := by rw [← hr2.out, List.drop_of_length_le (by omega)]; rfl
              rw [← hr.out, HS.out, h0]; rfl
            go_wp2_with fail
            go_roundw
            case rel => exact ⟨i + 1, _, by omega, by go_num, HT, rfl⟩
            case measure => simp [intOf]; omega
      · have hT : Hid (groupsE gs = 0) := by show _ = _; rw [hE.out, ← hr.out, List.drop_of_length_le (by omega)]; rfl
        go_wp2_with fail
        go_ret
        exact ⟨by rw [hT.out]; rfl, _, rfl⟩
end Go.Proofs.YtbhmmffompapdaaDoor

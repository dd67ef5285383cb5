/- Walk over the reference has; slices.Contains by the shelf, for every slice. -/
import Derived.Test.YtbhmmffompapdaaDoorRows
import Derived.Test.YtbhmmffompapdaaDoorE7
import Derived.WalkKit
import Derived.WalkSpells
import Derived.WalkLawsBesides
import Derived.Handy
import Derived.Deep.QuietTactic
import Derived.BigQuiet
import Derived.Deep.RegionHeld3
import Derived.Deep.DeepCutAuto
import Derived.Lib.Hide
namespace Go.Proofs.YtbhmmffompapdaaDoor
open Go.RowKit
/-- x is in xs -/
def hasB (xs : List Int) (x : Int) : Bool := xs.contains x
theorem contains_drop (l : List Int) (i : Nat) (x : Int) (h : i < l.length) : (l.drop i).contains x = (l.getD i 0 == x || (l.drop (i + 1)).contains x) := by
  rw [List.drop_eq_getElem_cons h, List.contains_cons]
  simp [List.getD, h, BEq.comm]
set_option maxHeartbeats 400000 in
theorem has_any (v : Value) (xs : List Int) (x : Int) (w : World) (B : Nat) (hg : Ints w B v xs) : Calls Tryd.prog 38 #[v, .int .i64 x] w fun e w' => e = .returned (.bool (hasB xs x)) ∧ w = w' := by
  obtain ⟨A, c, rfl, hc, hm, hA⟩ := hg
  unfold maxLen at hm
  have HA := Lib.hid hA
  clear hA
  go_enter Tryd.func38, Tryd.ntmps38
  go_wp2_with fail
  go_loop [5] (fun y => ∃ i : Nat, i ≤ xs.length ∧ y = .int .i64 i ∧ Hid ((xs.drop i).contains x = xs.contains x)) (fun y => xs.length - (intOf y).toNat)
  case atStart => exact ⟨0, by omega, rfl, rfl⟩
  case round =>
    obtain ⟨i, hi, rfl, hr⟩ := hrel
    by_cases hlt : i < xs.length
    · obtain ⟨b, o, rfl, hb, hcell⟩ := HA.out (by omega)
      have hx := hcell i hlt
      clear hcell
      have hs := contains_drop xs i x hlt
      generalize xs.getD i 0 = n at *
      by_cases hq : n = x
      · have HT : Hid (hasB xs x = true) := by show xs.contains x = true; rw [← hr.out, hs]; simp [hq]
        have hq2 : (n == x) = true := by simpa using hq
        clear hs hq
        go_wp2_with fail
        go_ret
        exact ⟨by rw [HT.out]; rfl, rfl⟩
      · have hq2 : (n == x) = false := by simpa using hq
        have HT : Hid ((xs.drop (i + 1)).contains x = xs.contains x) := by show _ = _; rw [← hr.out, hs, hq2, Bool.false_or]
        clear hs hq
        go_wp2_with fail
        go_round
        case rel => exact ⟨i + 1, by omega, by go_num, HT⟩
        case measure => simp [intOf]; omega
    · have HT : Hid (hasB xs x = false) := by show xs.contains x = false; rw [← hr.out, List.drop_of_length_le (by omega)]; rfl
      go_wp2_with fail
      go_ret
      exact ⟨by rw [HT.out]; rfl, rfl⟩
theorem cont_any (v : Value) (xs : List Int) (x : Int) (w : World) (B : Nat) (hg : Ints w B v xs) : Calls Tryd.prog 16 #[v, .int .i64 x] w fun e w' => e = .returned (.bool (hasB xs x)) ∧ w' = w := by
  obtain ⟨A, c, rfl, hc, hm, hA⟩ := hg
  unfold maxLen at hm
  by_cases h : 0 < xs.length
  · obtain ⟨b, o, rfl, hb, hcell⟩ := hA h
    have := Tryd.slices_Contains_int b o xs.length c xs x w (Nat.le_refl _) (by omega) hcell
    rwa [List.take_length] at this
  · obtain rfl : xs = [] := by cases xs <;> simp_all
    exact Tryd.slices_Contains_int_empty A c x w
end Go.Proofs.YtbhmmffompapdaaDoor

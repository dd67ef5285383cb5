/- metrics.name: what a name is. -/
import Derived.Test.YtpcbccpobhdokaaGreatDoorC0
import Derived.Shelf.GgClosure.StringsIndexFunc
import Derived.Ground.NamesProg
set_option linter.unusedSimpArgs false
set_option linter.unusedVariables false
set_option linter.all false
namespace Go.Proofs.YtpcbccpobhdokaaGreatDoor
open Go.RowKit Go.Shelf
def Tryz.indexF_ren : Go.Shelf.Ren := ⟨fun | 315 => 99 | n => n, fun | 9 => 9 | 40 => 135 | 4 => 4 | 3 => 3 | 0 => 0 | 21 => 21 | n => n, fun | n => n⟩
theorem Tryz.indexF : Go.Proofs.Lays.n315 Tryz.prog Tryz.indexF_ren := {
  mixed := by kernel_rfl
  f315 := Tryz.func99.trans (congrArg some (by kernel_rfl))
  t0 := Tryz.underlying0
  a0 := Tryz.isAgg0
  z0 := Tryz.sizeOf0
  v0 := Tryz.zeroValue0
  t3 := Tryz.underlying3
  a3 := Tryz.isAgg3
  z3 := Tryz.sizeOf3
  v3 := Tryz.zeroValue3
  t4 := Tryz.underlying4
  a4 := Tryz.isAgg4
  z4 := Tryz.sizeOf4
  v4 := Tryz.zeroValue4
  t9 := Tryz.underlying9
  a9 := Tryz.isAgg9
  z9 := Tryz.sizeOf9
  v9 := Tryz.zeroValue9
  t21 := Tryz.underlying21
  a21 := Tryz.isAgg21
  z21 := Tryz.sizeOf21
  v21 := Tryz.zeroValue21
  t40 := Tryz.underlying135
  a40 := Tryz.isAgg135
  z40 := Tryz.sizeOf135
  v40 := Tryz.zeroValue135 }
def offR (r : Nat) : Bool := decide (r < 97) || decide (122 < r)
theorem off_any (r : Nat) (W : World) : Calls Tryz.prog 67 #[.int .i32 (r : Int)] W fun e w' => e = .returned (.bool (offR r)) ∧ w' = W := by
  unfold offR
  by_cases h1 : (r : Int) < 97
  · have e1 : r < 97 := by omega
    go_enter Tryz.func67, Tryz.ntmps67
    go_wp2_with fail
    refine bodyPost_ret (by (simp [results, Tryz.results67, go_sem, *]; try rfl)) rfl ?_
    exact ⟨by simp [e1], rfl⟩
  · have e1 : ¬ r < 97 := by omega
    by_cases h2 : (r : Int) > 122
    · have e2 : 122 < r := by omega
      go_enter Tryz.func67, Tryz.ntmps67
      go_wp2_with fail
      refine bodyPost_ret (by (simp [results, Tryz.results67, go_sem, *]; try rfl)) rfl ?_
      exact ⟨by simp [e2], rfl⟩
    · have e2 : ¬ 122 < r := by omega
      go_enter Tryz.func67, Tryz.ntmps67
      go_wp2_with fail
      refine bodyPost_ret (by (simp [results, Tryz.results67, go_sem, *]; try rfl)) rfl ?_
      exact ⟨by simp [e1, e2], rfl⟩
theorem off_pred (w : World) : PredAt Tryz.prog 67 #[] encR offR w := fun W x _ => (off_any x W).mono fun e w' ⟨he, hw⟩ => ⟨he, 0, hw⟩
theorem index_any (s : ByteArray) (w : World) : Calls Tryz.prog 99 #[.string s, .func (.func 67) #[] #[], .bool true] w fun e w' => e = .returned (.int .i64 (Lib.idxFunc offR true s)) ∧ Below w.heap.size w w' :=
  Any.strings_indexFunc Tryz.indexF 67 #[] (enters_of Tryz.func67 (by kernel_rfl) rfl) offR true s w (off_pred w)
theorem indexFunc_any (s : ByteArray) (w : World) : Calls Tryz.prog 66 #[.string s, .func (.func 67) #[] #[]] w fun e w' => e = .returned (.int .i64 (Lib.idxFunc offR true s)) ∧ Below w.heap.size w w' := by
  have h := index_any s
  generalize Lib.idxFunc offR true s = r at h ⊢
  go_enter Tryz.func66, Tryz.ntmps66
  go_wp2_with (go_at_call 99; refine (h _).mono ?_; rintro e w1 ⟨rfl, hb⟩)
  refine bodyPost_ret (by (simp [results, Tryz.results66, go_sem, *]; try rfl)) rfl ?_
  exact ⟨rfl, hb⟩
def nameB (s : ByteArray) : Bool := decide (1 ≤ s.size) && decide (s.size ≤ 24) && decide (Lib.idxFunc offR true s < 0)
theorem name_any (s : ByteArray) (w : World) : Calls Tryz.prog 36 #[.string s] w fun e w' => e = .returned (.bool (nameB s)) ∧ Below w.heap.size w w' := by
  unfold nameB
  have h := indexFunc_any s
  generalize Lib.idxFunc offR true s = r at h ⊢
  by_cases h1 : 1 ≤ s.size
  · by_cases h2 : s.size ≤ 24
    · by_cases h3 : r < 0
      · have g1 : (1 : Int) ≤ (s.size : Int) := by omega
        have g2 : (s.size : Int) ≤ 24 := by omega
        go_enter Tryz.func36, Tryz.ntmps36
        go_wp2_with (go_at_call 66; refine (h _).mono ?_; rintro e w1 ⟨rfl, hb⟩)
        refine bodyPost_ret (by (simp [results, Tryz.results36, go_sem, *]; try rfl)) rfl ?_
        exact ⟨by simp [h1, h2, h3], hb⟩
      · have g1 : (1 : Int) ≤ (s.size : Int) := by omega
        have g2 : (s.size : Int) ≤ 24 := by omega
        go_enter Tryz.func36, Tryz.ntmps36
        go_wp2_with (go_at_call 66; refine (h _).mono ?_; rintro e w1 ⟨rfl, hb⟩)
        refine bodyPost_ret (by (simp [results, Tryz.results36, go_sem, *]; try rfl)) rfl ?_
        exact ⟨by simp [h1, h2, h3], hb⟩
    · have g1 : (1 : Int) ≤ (s.size : Int) := by omega
      have g2 : ¬ (s.size : Int) ≤ 24 := by omega
      go_enter Tryz.func36, Tryz.ntmps36
      go_wp2_with fail
      refine bodyPost_ret (by (simp [results, Tryz.results36, go_sem, *]; try rfl)) rfl ?_
      exact ⟨by simp [h1, h2], Below.refl _ _⟩
  · have g1 : ¬ (1 : Int) ≤ (s.size : Int) := by omega
    go_enter Tryz.func36, Tryz.ntmps36
    go_wp2_with fail
    refine bodyPost_ret (by (simp [results, Tryz.results36, go_sem, *]; try rfl)) rfl ?_
    exact ⟨by simp [h1], Below.refl _ _⟩
end Go.Proofs.YtpcbccpobhdokaaGreatDoor

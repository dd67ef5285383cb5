/- read. -/
import Derived.Test.YtgnlanfpholdaaaDoorF11
import Derived.Deep.DrawnRows
namespace Go.Proofs.YtgnlanfpholdaaaDoor
open Go.RowKit
attribute [local go_sem ↓] Go.wp_at_zero Go.wp_at_succ
/-- what read leaves -/
def ReadPost (w : World) (B pb : Nat) (Q : List Int) (C : List Con) (s : ByteArray) (e : Ending) (w' : World) : Prop :=
  ∃ ok, e = .returned (.bool ok) ∧ Frm B pb w w' ∧ (ok = false → readL Q C s = none) ∧ (ok = true → ∃ Q' C' VQ' VC', readL Q C s = some (Q', C') ∧ PSt w' B pb Q' C' VQ' VC')
set_option maxHeartbeats 2000000 in
set_option maxRecDepth 100000 in
theorem read_else (pb B : Nat) (s : ByteArray) (Q : List Int) (C : List Con) (VQ VC : Value) (w : World) (hP : PSt w B pb Q C VQ VC) (hs : s.size ≤ 8192) (hG : Glob w) (x : ByteArray) (t : List ByteArray) (hw : wordsOf s = x :: t)
    (h1 : (x.toList == [110, 111, 100, 101]) = false) (h2 : (x.toList == [99, 111, 110, 116, 97, 99, 116]) = false) : Calls Tryd.prog 56 #[.pointer (some ⟨pb, 0, none⟩), .string s] w (ReadPost w B pb Q C s) := by
  have HW := Lib.hid hw
  have hlen : (wordsOf s).length = t.length + 1 := by rw [hw]; rfl
  have hcnt := words_len s
  have hcl := Lib.countB_le ⟨#[32]⟩ (by decide) s.size s (Nat.le_refl _)
  have ht : t.length ≤ 8192 := by omega
  have HN : Hid (readL Q C s = none) := by
    show _ = _
    unfold readL
    rw [hw]
    simp only [ByteArray.toList_eq, beq_eq_false_iff_ne, ne_eq] at h1 h2
    simp [h1, h2]
  have p2 : (1 : Int) ≤ (t.length : Int) + 1 := by omega
  have p1 : (0 : Int) < (t.length : Int) + 1 := by omega
  have p4 : (t.length : Int) + 1 ≤ 8193 := by omega
  clear hcnt hcl hw
  go_enter Tryd.func56, Tryd.ntmps56
  go_wp2_with (go_at_call 68; refine (split_any s hs _ hG).mono ?_; rintro e w1 ⟨rfl, rfl⟩; rw [hlen, HW.out])
  all_goals
    refine bodyPost_ret (by (simp [results, Tryd.results56, go_sem, *]; try rfl)) rfl ?_
    refine ⟨false, rfl, ?_, fun _ => HN.out, fun h => by cases h⟩
    exact Frm.of_below (((Below.refl _ w).alloc (Nat.le_refl _) _).alloc (by simp) _) hP.le
end Go.Proofs.YtgnlanfpholdaaaDoor

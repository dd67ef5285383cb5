/- The reference's Find. -/
import Derived.Test.YtpcbccpobhdokaaGreatDoorB1
import Derived.Test.YtpcbccpobhdokaaGreatDoorA8
set_option linter.unusedSimpArgs false
set_option linter.unusedVariables false
set_option linter.all false
namespace Go.Proofs.YtpcbccpobhdokaaGreatDoor
open Go.RowKit
theorem findV_drop (l : List Met) (n : ByteArray) (i : Int) (k : Nat) (h : k < l.length) : findV (l.drop k) n i = if hitM n i (l.getD k mz) = true then some ((l.getD k mz).a, (l.getD k mz).b) else findV (l.drop (k + 1)) n i := by
  rw [drop_get l k h]
  unfold findV
  by_cases hh : hitM n i (l.getD k mz) = true
  · rw [if_pos hh, List.find?_cons_of_pos hh]; rfl
  · rw [if_neg hh, List.find?_cons_of_neg hh]
set_option maxRecDepth 100000 in
set_option maxHeartbeats 4000000 in
theorem rfind_any (l : List Met) (V : Value) (n : ByteArray) (i : Int) (w : World) (h : Mets w w.heap.size V l) (hl : l.length < 1000000) : Calls Tryz.prog 13 #[V, .string n, .int .i64 i] w fun e w' => e = .returned (resV (findV l n i)) ∧ Below w.heap.size w w' := by
  have hM := h.base ((Below.refl _ w).alloc (Nat.le_refl _) (.cells #[.int .i64 0, .int .i64 0] 30)) ((Below.refl _ w).alloc (Nat.le_refl _) (.cells #[.int .i64 0, .int .i64 0] 30)).size
  obtain ⟨A, c, rfl, h1, h2, h3⟩ := hM
  have H3 := Lib.hid h3
  clear h3 h
  have d0 : (w.alloc (.cells #[.int .i64 0, .int .i64 0] 30)).cell? ⟨w.heap.size, 0, none⟩ = some (.int .i64 0) := (c_box w 0).1
  have d1 : (w.alloc (.cells #[.int .i64 0, .int .i64 0] 30)).cell? ⟨w.heap.size, 1, none⟩ = some (.int .i64 0) := (c_box w 0).2
  have f0 := f_box w 0
  have f1 := f_box w 1
  have HBL := Lib.hid ((Below.refl _ w).alloc (Nat.le_refl _) (.cells #[.int .i64 0, .int .i64 0] 30))
  go_enter Tryz.func13, Tryz.ntmps13
  go_upto_region 2 with fail
  generalize w.alloc (.cells #[.int .i64 0, .int .i64 0] 30) = W at *
  go_loopw [8] (fun s wr => ∃ k : Nat, k ≤ l.length ∧ s = .int .i64 k ∧ wr = W ∧ Hid (findV (l.drop k) n i = findV l n i)) (fun s _ => l.length - (intOf s).toNat)
  case atStart => exact ⟨0, Nat.zero_le _, rfl, rfl, rfl⟩
  case round =>
    obtain ⟨k, hk, rfl, rfl, HI⟩ := hrel
    by_cases hkt : k < l.length
    · obtain ⟨B, o, rfl, hBl, hc⟩ := H3.out (by omega)
      have hkz : (k : Int) < (l.length : Int) := by omega
      have hx := hc k hkt
      have HD := Lib.hid (findV_drop l n i k hkt)
      obtain ⟨x, hxe⟩ : ∃ x, l.getD k mz = x := ⟨_, rfl⟩
      rw [hxe] at hx HD
      obtain ⟨c0, c1, c2, c3⟩ := hx
      clear hc hxe
      cases ha : (x.n.toList == n.toList) with
      | false =>
        have HR := Lib.hid (show findV (l.drop (k + 1)) n i = findV l n i by rw [← HI.out, HD.out, if_neg (by simp [hitM, ha])])
        go_wp2_with fail
        go_roundw
        case rel => exact ⟨k + 1, by omega, by go_num, by first | trivial | rfl, HR.out⟩
        case measure => simp [intOf]; omega
      | true =>
        cases hb : (x.i == i) with
        | false =>
          have HR := Lib.hid (show findV (l.drop (k + 1)) n i = findV l n i by rw [← HI.out, HD.out, if_neg (by simp [hitM, ha, hb])])
          go_wp2_with fail
          go_roundw
          case rel => exact ⟨k + 1, by omega, by go_num, by first | trivial | rfl, HR.out⟩
          case measure => simp [intOf]; omega
        | true =>
          have HR := Lib.hid (show findV l n i = some (x.a, x.b) by rw [← HI.out, HD.out, if_pos (by simp [hitM, ha, hb])])
          go_wp2_with fail
          obtain ⟨r0, r1⟩ := two_cells d0 d1 (.int .i64 x.a) (.int .i64 x.b)
          refine bodyPost_ret (by (simp [results, Tryz.results13, go_sem, r0, r1]; try rfl)) rfl ?_
          exact ⟨by rw [HR.out]; rfl, below_two HBL.out (Nat.le_refl _) _ _⟩
    · have hkz : ¬ (k : Int) < (l.length : Int) := by omega
      have HR := Lib.hid (show findV l n i = none by rw [← HI.out, show k = l.length by omega, List.drop_length]; rfl)
      go_wp2_with fail
      obtain ⟨r0, r1⟩ := two_cells d0 d1 (.int .i64 0) (.int .i64 0)
      refine bodyPost_ret (by (simp [results, Tryz.results13, go_sem, r0, r1]; try rfl)) rfl ?_
      exact ⟨by rw [HR.out]; rfl, below_two HBL.out (Nat.le_refl _) _ _⟩
end Go.Proofs.YtpcbccpobhdokaaGreatDoor

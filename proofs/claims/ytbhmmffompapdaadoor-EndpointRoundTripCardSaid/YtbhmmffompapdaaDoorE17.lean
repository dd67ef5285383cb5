/- The reference Parse of endpoints. -/
import Derived.Test.YtbhmmffompapdaaDoorE16
namespace Go.Proofs.YtbhmmffompapdaaDoor
open Go.RowKit
set_option maxHeartbeats 1000000 in
theorem rparse_any (s : ByteArray) (w : World) : Calls Tryd.prog 28 #[.string s] w (ParsePost s.data.toList w) := by
  go_enter Tryd.func28, Tryd.ntmps28
  go_wp2_with fail
  go_loopw [4] (fun i wr => ∃ k : Nat, k ≤ 16 ∧ i = .int .i64 k ∧ Hid (∀ j : Nat, j < k → epParse s.data.toList ≠ some (1, (j : Int)) ∧ (j < 8 → epParse s.data.toList ≠ some (2, (j : Int)))) ∧ Below (w.heap.size + 1) (w.alloc (Obj.cells #[Value.int IntKind.i64 0, Value.int IntKind.i64 0] 23)) wr) (fun i _ => 16 - (intOf i).toNat)
  case atStart => exact ⟨0, by omega, rfl, fun j hj => by omega, Below.refl _ _⟩
  case round =>
    obtain ⟨k, hk, rfl, hno, hWr⟩ := hrel
    have hzr : w.heap.size + 1 ≤ wr.heap.size := Nat.le_trans (by simp) hWr.size
    by_cases hlt : k < 16
    · have hE1 : epE 1 (k : Int) = 0 := by unfold epE; rw [if_neg (by omega), if_neg (by omega)]
      by_cases hp1 : epParse s.data.toList = some (1, (k : Int))
      · have t1 : s.toList = epText 1 k := by rw [ByteArray.toList_eq]; exact (epParse_some hp1).2.2.2.symm
        have u1 : (s.toList == epText 1 k) = true := by simpa using t1
        clear hE1
        go_wp2_with fail
        refine (text_any _ _ _ (by omega) (by omega)).mono ?_
        rintro e w4 ⟨rfl, hb4⟩
        have hW4 := hWr.trans (hb4.mono hzr)
        clear hb4
        have HR : Hid (pK s.data.toList = 1 ∧ pN s.data.toList = k ∧ pE s.data.toList = 0) := by show _ ∧ _; simp [pK, pN, pE, hp1]
        have d0 : w4.cell? ⟨w.heap.size, 0, none⟩ = some (.int .i64 0) := (hW4.cell (p := ⟨w.heap.size, 0, none⟩) (by show w.heap.size < _; omega)).trans (by simp [go_sem])
        have d1 : w4.cell? ⟨w.heap.size, 1, none⟩ = some (.int .i64 0) := (hW4.cell (p := ⟨w.heap.size, 1, none⟩) (by show w.heap.size < _; omega)).trans (by simp [go_sem])
        have e0 : w4.frozen? ⟨w.heap.size, 0, none⟩ = false := (hW4.frozen (p := ⟨w.heap.size, 0, none⟩) (by show w.heap.size < _; omega)).trans (by simp [go_sem])
        have e1 : w4.frozen? ⟨w.heap.size, 1, none⟩ = false := (hW4.frozen (p := ⟨w.heap.size, 1, none⟩) (by show w.heap.size < _; omega)).trans (by simp [go_sem])
        have hBW : Below w.heap.size w w4 := ((Below.refl _ w).alloc (Nat.le_refl _) _).trans (hW4.mono (by omega))
        clear hp1
        go_wp2_with fail
        obtain ⟨r0, r1⟩ := two_cells d0 d1 (.int .i64 1) (.int .i64 (k : Int))
        have hB5 := below_two hBW (Nat.le_refl _) (.int .i64 1) (.int .i64 (k : Int))
        generalize ((w4.setCell ⟨w.heap.size, 0, none⟩ (.int .i64 1)).setCell ⟨w.heap.size, 1, none⟩ (.int .i64 (k : Int))) = w9 at *
        refine bodyPost_ret (v := .tuple #[.agg #[.int .i64 1, .int .i64 (k : Int)], .int .i64 0]) (by simp [results, Tryd.results28, go_sem, r0, r1]) rfl ⟨?_, hB5⟩
        rw [HR.out.1, HR.out.2.1, HR.out.2.2]
      · have t1 : ¬ s.toList = epText 1 k := fun e => hp1 (parse_hit hE1 (by rw [← e, ByteArray.toList_eq]))
        have u1 : (s.toList == epText 1 k) = false := by simpa using t1
        clear hE1
        by_cases h8 : k < 8
        · have hE2 : epE 2 (k : Int) = 0 := by unfold epE; rw [if_neg (by omega), if_neg (by omega)]
          by_cases hp2 : epParse s.data.toList = some (2, (k : Int))
          · have t2 : s.toList = epText 2 k := by rw [ByteArray.toList_eq]; exact (epParse_some hp2).2.2.2.symm
            have u2 : (s.toList == epText 2 k) = true := by simpa using t2
            clear hE2 hp1
            go_wp2_with fail
            refine (text_any _ _ _ (by omega) (by omega)).mono ?_
            rintro e w4 ⟨rfl, hb4⟩
            have hW4 := hWr.trans (hb4.mono hzr)
            have hz4 := hb4.size
            clear hb4
            go_wp2_with fail
            refine (text_any _ _ _ (by omega) (by omega)).mono ?_
            rintro e w5 ⟨rfl, hb5⟩
            have hW5 := hW4.trans (hb5.mono (by omega))
            clear hb5
            have HR : Hid (pK s.data.toList = 2 ∧ pN s.data.toList = k ∧ pE s.data.toList = 0) := by show _ ∧ _; simp [pK, pN, pE, hp2]
            have d0 : w5.cell? ⟨w.heap.size, 0, none⟩ = some (.int .i64 0) := (hW5.cell (p := ⟨w.heap.size, 0, none⟩) (by show w.heap.size < _; omega)).trans (by simp [go_sem])
            have d1 : w5.cell? ⟨w.heap.size, 1, none⟩ = some (.int .i64 0) := (hW5.cell (p := ⟨w.heap.size, 1, none⟩) (by show w.heap.size < _; omega)).trans (by simp [go_sem])
            have e0 : w5.frozen? ⟨w.heap.size, 0, none⟩ = false := (hW5.frozen (p := ⟨w.heap.size, 0, none⟩) (by show w.heap.size < _; omega)).trans (by simp [go_sem])
            have e1 : w5.frozen? ⟨w.heap.size, 1, none⟩ = false := (hW5.frozen (p := ⟨w.heap.size, 1, none⟩) (by show w.heap.size < _; omega)).trans (by simp [go_sem])
            have hBW : Below w.heap.size w w5 := ((Below.refl _ w).alloc (Nat.le_refl _) _).trans (hW5.mono (by omega))
            clear hp2
            go_wp2_with fail
            obtain ⟨r0, r1⟩ := two_cells d0 d1 (.int .i64 2) (.int .i64 (k : Int))
            have hB5 := below_two hBW (Nat.le_refl _) (.int .i64 2) (.int .i64 (k : Int))
            generalize ((w5.setCell ⟨w.heap.size, 0, none⟩ (.int .i64 2)).setCell ⟨w.heap.size, 1, none⟩ (.int .i64 (k : Int))) = w9 at *
            refine bodyPost_ret (v := .tuple #[.agg #[.int .i64 2, .int .i64 (k : Int)], .int .i64 0]) (by simp [results, Tryd.results28, go_sem, r0, r1]) rfl ⟨?_, hB5⟩
            rw [HR.out.1, HR.out.2.1, HR.out.2.2]
          · have t2 : ¬ s.toList = epText 2 k := fun e => hp2 (parse_hit hE2 (by rw [← e, ByteArray.toList_eq]))
            have u2 : (s.toList == epText 2 k) = false := by simpa using t2
            have HNX : Hid (∀ j : Nat, j < k + 1 → epParse s.data.toList ≠ some (1, (j : Int)) ∧ (j < 8 → epParse s.data.toList ≠ some (2, (j : Int)))) := fun j hj => by
              by_cases e : j = k
              · subst e; exact ⟨hp1, fun _ => hp2⟩
              · exact hno.out j (by omega)
            clear hE2 hp1 hp2
            go_wp2_with fail
            refine (text_any _ _ _ (by omega) (by omega)).mono ?_
            rintro e w4 ⟨rfl, hb4⟩
            have hW4 := hWr.trans (hb4.mono hzr)
            have hz4 := hb4.size
            clear hb4
            go_wp2_with fail
            refine (text_any _ _ _ (by omega) (by omega)).mono ?_
            rintro e w5 ⟨rfl, hb5⟩
            have hW5 := hW4.trans (hb5.mono (by omega))
            clear hb5
            go_wp2_with fail
            go_roundw
            case rel => exact ⟨k + 1, by omega, by go_num, HNX, hW5⟩
            case measure => simp [intOf]; omega
        · have HNX : Hid (∀ j : Nat, j < k + 1 → epParse s.data.toList ≠ some (1, (j : Int)) ∧ (j < 8 → epParse s.data.toList ≠ some (2, (j : Int)))) := fun j hj => by
            by_cases e : j = k
            · subst e; exact ⟨hp1, fun h => absurd h h8⟩
            · exact hno.out j (by omega)
          have hd : decide ((k : Int) < 8) = false := by simp; omega
          clear hp1
          go_wp2_with fail
          refine (text_any _ _ _ (by omega) (by omega)).mono ?_
          rintro e w4 ⟨rfl, hb4⟩
          have hW4 := hWr.trans (hb4.mono hzr)
          clear hb4
          go_wp2_with fail
          go_roundw
          case rel => exact ⟨k + 1, by omega, by go_num, HNX, hW4⟩
          case measure => simp [intOf]; omega
    · have hN : epParse s.data.toList = none := by
        cases hp : epParse s.data.toList with
        | none => rfl
        | some q =>
          obtain ⟨k', n'⟩ := q
          obtain ⟨_, _, h3, _⟩ := epParse_some hp
          have hr := epE_ok h3
          rcases hr.1 with rfl | rfl
          · exact absurd hp (by have := (hno.out n'.toNat (by omega)).1; rwa [Int.toNat_of_nonneg hr.2.1] at this)
          · have h8 : n' < 8 := by
              unfold epE at h3; rw [if_neg (by omega)] at h3
              split at h3
              · cases h3
              · omega
            exact absurd hp (by have := (hno.out n'.toNat (by omega)).2 (by omega); rwa [Int.toNat_of_nonneg hr.2.1] at this)
      have HR : Hid (pK s.data.toList = 0 ∧ pN s.data.toList = 0 ∧ pE s.data.toList = 3) := by show _ ∧ _; simp [pK, pN, pE, hN]
      clear hN
      have c0 : wr.cell? ⟨w.heap.size, 0, none⟩ = some (.int .i64 0) := (hWr.cell (p := ⟨w.heap.size, 0, none⟩) (by show w.heap.size < _; omega)).trans (by simp [go_sem])
      have c1 : wr.cell? ⟨w.heap.size, 1, none⟩ = some (.int .i64 0) := (hWr.cell (p := ⟨w.heap.size, 1, none⟩) (by show w.heap.size < _; omega)).trans (by simp [go_sem])
      have f0 : wr.frozen? ⟨w.heap.size, 0, none⟩ = false := (hWr.frozen (p := ⟨w.heap.size, 0, none⟩) (by show w.heap.size < _; omega)).trans (by simp [go_sem])
      have f1 : wr.frozen? ⟨w.heap.size, 1, none⟩ = false := (hWr.frozen (p := ⟨w.heap.size, 1, none⟩) (by show w.heap.size < _; omega)).trans (by simp [go_sem])
      have hBr : Below w.heap.size w wr := ((Below.refl _ w).alloc (Nat.le_refl _) _).trans (hWr.mono (by omega))
      go_wp2_with fail
      obtain ⟨r0, r1⟩ := two_cells c0 c1 (.int .i64 0) (.int .i64 0)
      have hB5 := below_two hBr (Nat.le_refl _) (.int .i64 0) (.int .i64 0)
      generalize ((wr.setCell ⟨w.heap.size, 0, none⟩ (.int .i64 0)).setCell ⟨w.heap.size, 1, none⟩ (.int .i64 0)) = w5 at *
      refine bodyPost_ret (v := .tuple #[.agg #[.int .i64 0, .int .i64 0], .int .i64 3]) (by simp [results, Tryd.results28, go_sem, r0, r1]) rfl ⟨?_, hB5⟩
      rw [HR.out.1, HR.out.2.1, HR.out.2.2]
end Go.Proofs.YtbhmmffompapdaaDoor

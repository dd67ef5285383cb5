/- The example of the chapter. -/
import Derived.Test.YtgnlanfpholdaaaDoorF17
import Derived.Test.YtgnlanfpholdaaaDoorG1
namespace Go.Proofs.YtgnlanfpholdaaaDoor
open Go.RowKit Go.Shelf
theorem ex_hor : horF [100, 50] [⟨0, 1, 10, 60, 4, 5, 1⟩] = (10, 60) ∧ horE [100, 50] [⟨0, 1, 10, 60, 4, 5, 1⟩] = 0 := ⟨by kernel_rfl, by kernel_rfl⟩
set_option maxRecDepth 100000 in
set_option maxHeartbeats 4000000 in
theorem awake_any (w : World) (hG : Glob w) : Calls Tryd.prog 13 #[] w fun e w' => e = .returned (.bool true) ∧ Below w.heap.size w w' := by
  go_enter Tryd.func13, Tryd.ntmps13
  go_wp2_with fail
  refine (parse_any exText w hG).mono ?_
  unfold ParsePost
  rw [ex_parse]
  rintro e w1 ⟨qv, cv, rfl, hi, hc, hb⟩
  have hi0 := hi
  have hc0 := hc
  obtain ⟨A1, c1, rfl, _, _, hA1⟩ := hi
  obtain ⟨A2, c2, rfl, _, _, hA2⟩ := hc
  obtain ⟨b1, o1, rfl, hb1, hcell1⟩ := hA1 (by decide)
  obtain ⟨b2, o2, rfl, hb2, hcell2⟩ := hA2 (by decide)
  have HC1 := Lib.hid hcell1
  have HC2 := Lib.hid (hcell2 0 (by decide))
  clear hA1 hA2 hcell1 hcell2
  go_wp2_with fail
  refine (hor_any _ _ _ _ _ ((hi0.below (by (repeat' (first | (with_reducible exact Below.refl _ _) | (with_reducible refine Below.alloc ?_ ?_ _) | (with_reducible refine Below.drew ?_) | (with_reducible refine below_drewN ?_ _) | (with_reducible refine Below.setCell ?_ ?_ _) | (with_reducible refine Below.trans ?_ (Below.mono (by assumption) ?_)) | (with_reducible exact Nat.le_refl _) | omega | (simp; omega) | (simp; done))))).more (by (first | omega | (simp; done) | (simp; omega)))) ((hc0.below (by (repeat' (first | (with_reducible exact Below.refl _ _) | (with_reducible refine Below.alloc ?_ ?_ _) | (with_reducible refine Below.drew ?_) | (with_reducible refine below_drewN ?_ _) | (with_reducible refine Below.setCell ?_ ?_ _) | (with_reducible refine Below.trans ?_ (Below.mono (by assumption) ?_)) | (with_reducible exact Nat.le_refl _) | omega | (simp; omega) | (simp; done))))).more (by (first | omega | (simp; done) | (simp; omega))))).mono ?_
  unfold HorPost
  rw [ex_hor.1, ex_hor.2]
  rintro e w2 ⟨rfl, hb3⟩
  have hW : Below (w1.heap.size + 1) (w1.alloc (.cells #[.slice (some ⟨b1, o1, none⟩) 2 c1, .slice (some ⟨b2, o2, none⟩) 1 c2] 25)) w2 := hb3.mono (by simp)
  have hz2 : w1.heap.size + 1 ≤ w2.heap.size := Nat.le_trans (by simp) hW.size
  have q0 : w2.cell? ⟨w1.heap.size, 0, none⟩ = some (.slice (some ⟨b1, o1, none⟩) 2 c1) := (hW.cell (p := ⟨w1.heap.size, 0, none⟩) (by show w1.heap.size < _; omega)).trans (by simp [go_sem])
  have q1 : w2.cell? ⟨w1.heap.size, 1, none⟩ = some (.slice (some ⟨b2, o2, none⟩) 1 c2) := (hW.cell (p := ⟨w1.heap.size, 1, none⟩) (by show w1.heap.size < _; omega)).trans (by simp [go_sem])
  have hB12 : Below w1.heap.size w1 w2 := ((Below.refl _ w1).alloc (Nat.le_refl _) _).trans (hW.mono (by omega))
  have r4 : w2.cell? ⟨b2, o2 + 4, none⟩ = some (.int .i64 4) := (hB12.cell (p := ⟨b2, o2 + 4, none⟩) hb2).trans (by have := HC2.out.2.2.2.2.1; simpa using this)
  have hi2 := hi0.below hB12
  have hc2' := hc0.below hB12
  have HQ := Lib.hid (fun j hj => (hB12.cell (p := ⟨b1, o1 + j, none⟩) hb1).trans (HC1.out j hj))
  have hbw : Below w.heap.size w w2 := hb.trans (hB12.mono hb.size)
  have hl1 : w1.heap.size < w2.heap.size := by omega
  have hl2 : b1 < w2.heap.size := by omega
  have hl3 : b2 < w2.heap.size := by omega
  clear hb3 hW HC1 HC2
  dsimp only
  go_wp2_with fail
  have hn : Ints ((w2.alloc (.cells #[.int .i64 10, .int .i64 60] 31)).alloc (.cells #[.int .i64 100, .int .i64 50] 3)) (w2.heap.size + 2) (.slice (some ⟨w2.heap.size + 1, 0, none⟩) 2 2) [100, 50] := ⟨_, 2, rfl, by simp, by simp [maxLen], fun _ => ⟨_, _, rfl, by omega, fun j hj => by
    match j, hj with
    | 0, _ => simp [go_sem]
    | 1, _ => simp [go_sem]
    | k + 2, h => simp at h; omega⟩⟩
  refine (eq_any _ _ [100, 50] [100, 50] _ w1.heap.size (w2.heap.size + 2) (hi2.below (by (repeat' (first | (with_reducible exact Below.refl _ _) | (with_reducible refine Below.alloc ?_ ?_ _) | (with_reducible refine Below.drew ?_) | (with_reducible refine below_drewN ?_ _) | (with_reducible refine Below.setCell ?_ ?_ _) | (with_reducible refine Below.trans ?_ (Below.mono (by assumption) ?_)) | (with_reducible exact Nat.le_refl _) | omega | (simp; omega) | (simp; done))))) hn).mono ?_
  rintro e w3 ⟨rfl, hb3⟩
  have hW : Below (w2.heap.size + 1) (w2.alloc (.cells #[.int .i64 10, .int .i64 60] 31)) w3 := ((Below.refl _ _).alloc (by simp) _).trans (hb3.mono (by simp))
  have hz3 : w2.heap.size + 1 ≤ w3.heap.size := Nat.le_trans (by simp) hW.size
  have hB23 : Below w2.heap.size w2 w3 := ((Below.refl _ w2).alloc (Nat.le_refl _) _).trans (hW.mono (by omega))
  have s0 := (hB23.cell (p := ⟨w1.heap.size, 0, none⟩) hl1).trans q0
  have s1 := (hB23.cell (p := ⟨w1.heap.size, 1, none⟩) hl1).trans q1
  have s4 := (hB23.cell (p := ⟨b2, o2 + 4, none⟩) hl3).trans r4
  have x0 : w3.cell? ⟨w2.heap.size, 0, none⟩ = some (.int .i64 10) := (hW.cell (p := ⟨w2.heap.size, 0, none⟩) (by show w2.heap.size < _; omega)).trans (by simp [go_sem])
  have x1 : w3.cell? ⟨w2.heap.size, 1, none⟩ = some (.int .i64 60) := (hW.cell (p := ⟨w2.heap.size, 1, none⟩) (by show w2.heap.size < _; omega)).trans (by simp [go_sem])
  have hi3 := hi2.below (hB23.mono (by omega))
  have hc3 := hc2'.below (hB23.mono (by omega))
  have hbw3 : Below w.heap.size w w3 := hbw.trans (hB23.mono hbw.size)
  have hle3 : w1.heap.size ≤ w3.heap.size := by omega
  have heq : ∀ w, (binOp .eql 31 (.agg #[.int .i64 10, .int .i64 60]) (.agg #[.int .i64 10, .int .i64 60])).run Tryd.prog w = .ok (.bool true) w := fun w => by kernel_rfl
  clear hb3 hW hB23 hn q0 q1 r4 hi2 hc2' HQ hbw
  go_wp2_with fail
  refine (from_any _ _ _ _ _ _ (hi3.more hle3) (hc3.more hle3)).mono ?_
  rintro e w4 ⟨v, rfl, hv, hb4⟩
  have hF : filL (fromB 0) [100, 50] [⟨0, 1, 10, 60, 4, 5, 1⟩] = [0] := by kernel_rfl
  rw [hF] at hv
  obtain ⟨A, c, rfl, _⟩ := hv
  go_wp2_with fail
  go_ret
  exact ⟨rfl, hbw3.trans (hb4.mono hbw3.size)⟩
end Go.Proofs.YtgnlanfpholdaaaDoor

/- A mission that is empty; SplitAfter. -/
import Derived.Test.YtmcgddlblhinlaaGreatDoorH6
import Derived.Test.YtmcgddlblhinlaaGreatDoorP6
import Derived.BigQuiet
namespace Go.Proofs.YtmcgddlblhinlaaGreatDoor
open Go.RowKit
set_option maxHeartbeats 2000000 in
theorem same26 (A1 A2 : Option Addr) (c1 c2 : Nat) (w : World) : Calls Tryz.prog 39 #[.agg #[.slice A1 0 c1, .slice A2 0 c2], .agg #[.slice none 0 0, .slice none 0 0]] w fun e w' => e = .returned (.bool true) ∧ Below w.heap.size w w' := by
  go_enter Tryz.func39, Tryz.ntmps39
  go_wp2_with fail
  have m0 : ((w.alloc (.cells #[.slice A1 0 c1, .slice A2 0 c2] 26)).alloc (.cells #[.slice none 0 0, .slice none 0 0] 26)).cell? ⟨w.heap.size, 0, none⟩ = some (.slice A1 0 c1) := by simp [go_sem]
  have m1 : ((w.alloc (.cells #[.slice A1 0 c1, .slice A2 0 c2] 26)).alloc (.cells #[.slice none 0 0, .slice none 0 0] 26)).cell? ⟨w.heap.size, 1, none⟩ = some (.slice A2 0 c2) := by simp [go_sem]
  have k0 : ((w.alloc (.cells #[.slice A1 0 c1, .slice A2 0 c2] 26)).alloc (.cells #[.slice none 0 0, .slice none 0 0] 26)).cell? ⟨w.heap.size + 1, 0, none⟩ = some (.slice none 0 0) := by simp [go_sem]
  have k1 : ((w.alloc (.cells #[.slice A1 0 c1, .slice A2 0 c2] 26)).alloc (.cells #[.slice none 0 0, .slice none 0 0] 26)).cell? ⟨w.heap.size + 1, 1, none⟩ = some (.slice none 0 0) := by simp [go_sem]
  have hB : Below w.heap.size w ((w.alloc (.cells #[.slice A1 0 c1, .slice A2 0 c2] 26)).alloc (.cells #[.slice none 0 0, .slice none 0 0] 26)) := by (repeat' (first | (with_reducible exact Below.refl _ _) | (with_reducible refine Below.alloc ?_ ?_ _) | (with_reducible refine Below.drew ?_) | (with_reducible refine below_drewN ?_ _) | (with_reducible refine Below.setCell ?_ ?_ _) | (with_reducible refine Below.trans ?_ (Below.mono (by assumption) ?_)) | (with_reducible exact Nat.le_refl _) | omega | (simp; omega) | (simp; done)))
  have hz : ((w.alloc (.cells #[.slice A1 0 c1, .slice A2 0 c2] 26)).alloc (.cells #[.slice none 0 0, .slice none 0 0] 26)).heap.size = w.heap.size + 1 + 1 := by simp
  generalize ((w.alloc (.cells #[.slice A1 0 c1, .slice A2 0 c2] 26)).alloc (.cells #[.slice none 0 0, .slice none 0 0] 26)) = v0 at *
  go_loopw [5] (fun i wr => i = .int .i64 0 ∧ v0 = wr) (fun i _ => 0)
  case atStart => exact ⟨rfl, (by first | rfl | trivial)⟩
  case round =>
    obtain ⟨rfl, rfl⟩ := hrel
    go_wp2_with fail
    go_loopw [6] (fun i wr => i = .int .i64 0 ∧ v0 = wr) (fun i _ => 0)
    case atStart => exact ⟨rfl, (by first | rfl | trivial)⟩
    case round =>
      obtain ⟨rfl, rfl⟩ := hrel
      go_wp2_with fail
      go_ret
      exact ⟨rfl, hB⟩
set_option maxHeartbeats 2000000 in
theorem same27 (A : Option Addr) (c : Nat) (w : World) : Calls Tryz.prog 40 #[.slice A 0 c, .slice none 0 0] w fun e w' => e = .returned (.bool true) ∧ Below w.heap.size w w' := by
  go_enter Tryz.func40, Tryz.ntmps40
  go_wp2_with fail
  obtain ⟨v0, hv0⟩ : ∃ v0 : World, v0 = w := ⟨_, rfl⟩
  have hB := Below.refl w.heap.size w
  subst hv0
  go_loopw [5] (fun i wr => i = .int .i64 0 ∧ v0 = wr) (fun i _ => 0)
  case atStart => exact ⟨rfl, (by first | rfl | trivial)⟩
  case round =>
    obtain ⟨rfl, rfl⟩ := hrel
    go_wp2_with fail
    go_ret
    exact ⟨rfl, hB⟩
set_option maxHeartbeats 4000000 in
set_option maxRecDepth 100000 in
theorem same0 (VQ VC VO VF VX : Value) (w : World) (hM : MisAt w w.heap.size VQ VC VO VF VX Mis.zero) : Calls Tryz.prog 16 #[.agg #[VQ, VC, VO, VF, VX, .bool false], .agg #[.slice none 0 0, .slice none 0 0, .slice none 0 0, .slice none 0 0, .slice none 0 0, .bool false]] w fun e w' => e = .returned (.bool true) ∧ Below w.heap.size w w' := by
  obtain ⟨hq, hc, ho, hf, hx⟩ := hM
  obtain ⟨A1, c1, rfl, -⟩ := hq
  obtain ⟨A2, c2, rfl, -⟩ := hc
  obtain ⟨A3, c3, rfl, -⟩ := ho
  obtain ⟨A4, c4, rfl, -⟩ := hf
  obtain ⟨A5, c5, rfl, -⟩ := hx
  simp only [Mis.zero, List.length_nil]
  go_enter Tryz.func16, Tryz.ntmps16
  go_wp2_with fail
  have m0 : ((w.alloc (.cells #[.slice A1 0 c1, .slice A2 0 c2, .slice A3 0 c3, .slice A4 0 c4, .slice A5 0 c5, .bool false] 31)).alloc (.cells #[.slice none 0 0, .slice none 0 0, .slice none 0 0, .slice none 0 0, .slice none 0 0, .bool false] 31)).cell? ⟨w.heap.size, 0, none⟩ = some (.slice A1 0 c1) := by simp [go_sem]
  have m1 : ((w.alloc (.cells #[.slice A1 0 c1, .slice A2 0 c2, .slice A3 0 c3, .slice A4 0 c4, .slice A5 0 c5, .bool false] 31)).alloc (.cells #[.slice none 0 0, .slice none 0 0, .slice none 0 0, .slice none 0 0, .slice none 0 0, .bool false] 31)).cell? ⟨w.heap.size, 1, none⟩ = some (.slice A2 0 c2) := by simp [go_sem]
  have m2 : ((w.alloc (.cells #[.slice A1 0 c1, .slice A2 0 c2, .slice A3 0 c3, .slice A4 0 c4, .slice A5 0 c5, .bool false] 31)).alloc (.cells #[.slice none 0 0, .slice none 0 0, .slice none 0 0, .slice none 0 0, .slice none 0 0, .bool false] 31)).cell? ⟨w.heap.size, 2, none⟩ = some (.slice A3 0 c3) := by simp [go_sem]
  have m3 : ((w.alloc (.cells #[.slice A1 0 c1, .slice A2 0 c2, .slice A3 0 c3, .slice A4 0 c4, .slice A5 0 c5, .bool false] 31)).alloc (.cells #[.slice none 0 0, .slice none 0 0, .slice none 0 0, .slice none 0 0, .slice none 0 0, .bool false] 31)).cell? ⟨w.heap.size, 3, none⟩ = some (.slice A4 0 c4) := by simp [go_sem]
  have m4 : ((w.alloc (.cells #[.slice A1 0 c1, .slice A2 0 c2, .slice A3 0 c3, .slice A4 0 c4, .slice A5 0 c5, .bool false] 31)).alloc (.cells #[.slice none 0 0, .slice none 0 0, .slice none 0 0, .slice none 0 0, .slice none 0 0, .bool false] 31)).cell? ⟨w.heap.size, 4, none⟩ = some (.slice A5 0 c5) := by simp [go_sem]
  have m5 : ((w.alloc (.cells #[.slice A1 0 c1, .slice A2 0 c2, .slice A3 0 c3, .slice A4 0 c4, .slice A5 0 c5, .bool false] 31)).alloc (.cells #[.slice none 0 0, .slice none 0 0, .slice none 0 0, .slice none 0 0, .slice none 0 0, .bool false] 31)).cell? ⟨w.heap.size, 5, none⟩ = some (.bool false) := by simp [go_sem]
  have k0 : ((w.alloc (.cells #[.slice A1 0 c1, .slice A2 0 c2, .slice A3 0 c3, .slice A4 0 c4, .slice A5 0 c5, .bool false] 31)).alloc (.cells #[.slice none 0 0, .slice none 0 0, .slice none 0 0, .slice none 0 0, .slice none 0 0, .bool false] 31)).cell? ⟨w.heap.size + 1, 0, none⟩ = some (.slice none 0 0) := by simp [go_sem]
  have k1 : ((w.alloc (.cells #[.slice A1 0 c1, .slice A2 0 c2, .slice A3 0 c3, .slice A4 0 c4, .slice A5 0 c5, .bool false] 31)).alloc (.cells #[.slice none 0 0, .slice none 0 0, .slice none 0 0, .slice none 0 0, .slice none 0 0, .bool false] 31)).cell? ⟨w.heap.size + 1, 1, none⟩ = some (.slice none 0 0) := by simp [go_sem]
  have k2 : ((w.alloc (.cells #[.slice A1 0 c1, .slice A2 0 c2, .slice A3 0 c3, .slice A4 0 c4, .slice A5 0 c5, .bool false] 31)).alloc (.cells #[.slice none 0 0, .slice none 0 0, .slice none 0 0, .slice none 0 0, .slice none 0 0, .bool false] 31)).cell? ⟨w.heap.size + 1, 2, none⟩ = some (.slice none 0 0) := by simp [go_sem]
  have k3 : ((w.alloc (.cells #[.slice A1 0 c1, .slice A2 0 c2, .slice A3 0 c3, .slice A4 0 c4, .slice A5 0 c5, .bool false] 31)).alloc (.cells #[.slice none 0 0, .slice none 0 0, .slice none 0 0, .slice none 0 0, .slice none 0 0, .bool false] 31)).cell? ⟨w.heap.size + 1, 3, none⟩ = some (.slice none 0 0) := by simp [go_sem]
  have k4 : ((w.alloc (.cells #[.slice A1 0 c1, .slice A2 0 c2, .slice A3 0 c3, .slice A4 0 c4, .slice A5 0 c5, .bool false] 31)).alloc (.cells #[.slice none 0 0, .slice none 0 0, .slice none 0 0, .slice none 0 0, .slice none 0 0, .bool false] 31)).cell? ⟨w.heap.size + 1, 4, none⟩ = some (.slice none 0 0) := by simp [go_sem]
  have k5 : ((w.alloc (.cells #[.slice A1 0 c1, .slice A2 0 c2, .slice A3 0 c3, .slice A4 0 c4, .slice A5 0 c5, .bool false] 31)).alloc (.cells #[.slice none 0 0, .slice none 0 0, .slice none 0 0, .slice none 0 0, .slice none 0 0, .bool false] 31)).cell? ⟨w.heap.size + 1, 5, none⟩ = some (.bool false) := by simp [go_sem]
  have hB0 : Below w.heap.size w ((w.alloc (.cells #[.slice A1 0 c1, .slice A2 0 c2, .slice A3 0 c3, .slice A4 0 c4, .slice A5 0 c5, .bool false] 31)).alloc (.cells #[.slice none 0 0, .slice none 0 0, .slice none 0 0, .slice none 0 0, .slice none 0 0, .bool false] 31)) := by (repeat' (first | (with_reducible exact Below.refl _ _) | (with_reducible refine Below.alloc ?_ ?_ _) | (with_reducible refine Below.drew ?_) | (with_reducible refine below_drewN ?_ _) | (with_reducible refine Below.setCell ?_ ?_ _) | (with_reducible refine Below.trans ?_ (Below.mono (by assumption) ?_)) | (with_reducible exact Nat.le_refl _) | omega | (simp; omega) | (simp; done)))
  have hz : ((w.alloc (.cells #[.slice A1 0 c1, .slice A2 0 c2, .slice A3 0 c3, .slice A4 0 c4, .slice A5 0 c5, .bool false] 31)).alloc (.cells #[.slice none 0 0, .slice none 0 0, .slice none 0 0, .slice none 0 0, .slice none 0 0, .bool false] 31)).heap.size = w.heap.size + 1 + 1 := by simp
  generalize ((w.alloc (.cells #[.slice A1 0 c1, .slice A2 0 c2, .slice A3 0 c3, .slice A4 0 c4, .slice A5 0 c5, .bool false] 31)).alloc (.cells #[.slice none 0 0, .slice none 0 0, .slice none 0 0, .slice none 0 0, .slice none 0 0, .bool false] 31)) = x0 at *
  refine (same26 A1 A2 c1 c2 x0).mono ?_
  rintro e x1 ⟨rfl, hb1⟩
  have e0 : ∀ b o, b < x0.heap.size → x1.cell? ⟨b, o, none⟩ = x0.cell? ⟨b, o, none⟩ := fun b o h => hb1.cell (p := ⟨b, o, none⟩) h
  have hB1 := hB0.trans (hb1.mono hB0.size)
  have m0 := (e0 _ 0 (by omega)).trans m0
  have k0 := (e0 _ 0 (by omega)).trans k0
  have m1 := (e0 _ 1 (by omega)).trans m1
  have k1 := (e0 _ 1 (by omega)).trans k1
  have m2 := (e0 _ 2 (by omega)).trans m2
  have k2 := (e0 _ 2 (by omega)).trans k2
  have m3 := (e0 _ 3 (by omega)).trans m3
  have k3 := (e0 _ 3 (by omega)).trans k3
  have m4 := (e0 _ 4 (by omega)).trans m4
  have k4 := (e0 _ 4 (by omega)).trans k4
  have m5 := (e0 _ 5 (by omega)).trans m5
  have k5 := (e0 _ 5 (by omega)).trans k5
  have hz1 := hb1.size
  clear e0 hb1 hB0
  go_wp2_with fail
  refine (same27 A3 c3 x1).mono ?_
  rintro e v0 ⟨rfl, hb1⟩
  have e0 : ∀ b o, b < x1.heap.size → v0.cell? ⟨b, o, none⟩ = x1.cell? ⟨b, o, none⟩ := fun b o h => hb1.cell (p := ⟨b, o, none⟩) h
  have hB := hB1.trans (hb1.mono hB1.size)
  have m0 := (e0 _ 0 (by omega)).trans m0
  have k0 := (e0 _ 0 (by omega)).trans k0
  have m1 := (e0 _ 1 (by omega)).trans m1
  have k1 := (e0 _ 1 (by omega)).trans k1
  have m2 := (e0 _ 2 (by omega)).trans m2
  have k2 := (e0 _ 2 (by omega)).trans k2
  have m3 := (e0 _ 3 (by omega)).trans m3
  have k3 := (e0 _ 3 (by omega)).trans k3
  have m4 := (e0 _ 4 (by omega)).trans m4
  have k4 := (e0 _ 4 (by omega)).trans k4
  have m5 := (e0 _ 5 (by omega)).trans m5
  have k5 := (e0 _ 5 (by omega)).trans k5
  have hz2 := hb1.size
  clear e0 hb1 hB1
  go_wp2_with fail
  go_loopw [5] (fun i wr => i = .int .i64 0 ∧ v0 = wr) (fun i _ => 0)
  case atStart => exact ⟨rfl, (by first | rfl | trivial)⟩
  case round =>
    obtain ⟨rfl, rfl⟩ := hrel
    go_wp2_with fail
    go_loopw [6] (fun i wr => i = .int .i64 0 ∧ v0 = wr) (fun i _ => 0)
    case atStart => exact ⟨rfl, (by first | rfl | trivial)⟩
    case round =>
      obtain ⟨rfl, rfl⟩ := hrel
      go_wp2_with fail
      go_ret
      exact ⟨rfl, hB⟩
/-- how many lines end, and the pieces -/
def nlc (s : ByteArray) : Nat := s.data.toList.count 10
def pcS (s : ByteArray) : List ByteArray := pcs (nlc s) s.data.toList
theorem split_after (s : ByteArray) (hs : s.size ≤ 9000) (w : World) (hG : Glob w) : Calls Tryz.prog 22 #[.string s, .string ⟨#[10]⟩] w fun e w' => ∃ c, e = .returned (.slice (some ⟨w.heap.size, 0, none⟩) (pcS s).length c) ∧ (pcS s).length ≤ c ∧ c ≤ 10000 ∧ Below w.heap.size w w' ∧ w.heap.size < w'.heap.size ∧
    ∀ j, j < (pcS s).length → w'.cell? ⟨w.heap.size, j, none⟩ = some (.string ((pcS s).getD j ⟨#[]⟩)) := by
  have hcb : Lib.countB s ⟨#[10]⟩ = nlc s := Lib.count_one 10 s.data.toList
  have hle := Lib.countB_le ⟨#[10]⟩ (by decide) s.size s (Nat.le_refl _)
  have hlen := Lib.splitB_all ⟨#[10]⟩ (by decide) 1 _ s hcb
  rw [hcb] at hle
  obtain ⟨m, hm⟩ := hG.1
  have HC := Lib.hid (Tryz.strings_genSplit s ⟨#[10]⟩ 1 (-1) (nlc s + 1) m w (by omega) hm (by decide) (by decide) (by decide) (by decide) (by rw [if_pos (by decide), hcb]; omega))
  have HL : Hid ((pcS s).length = nlc s + 1) := hlen
  have HN : Hid (nlc s ≤ 9000) := by show _ ≤ _; omega
  clear hlen hle hcb hm
  go_enter Tryz.func22, Tryz.ntmps22
  go_wp2_with fail
  refine HC.out.mono ?_
  rintro e w1 ⟨rfl, rfl⟩
  rw [Nat.add_sub_cancel, show Lib.splitB ⟨#[10]⟩ 1 (nlc s) s = pcS s from rfl]
  go_wp2_with fail
  go_ret
  have HLn := HL.out
  have HNn := HN.out
  refine ⟨nlc s + 1, rfl, by omega, by omega, (Below.refl _ w).alloc (Nat.le_refl _) _, by simp, fun j hj => ?_⟩
  have e1 : Lib.cellsOf (pcS s) (nlc s + 1) = ((pcS s).map Value.string).toArray := by rw [← HLn]; exact Lib.cellsOf_full _
  rw [e1]
  generalize pcS s = ps at *
  simp [go_sem, List.getD, hj]
end Go.Proofs.YtmcgddlblhinlaaGreatDoor

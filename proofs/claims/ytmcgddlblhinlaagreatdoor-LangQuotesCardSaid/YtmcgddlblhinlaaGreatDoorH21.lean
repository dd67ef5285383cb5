/- The example of the chapter. -/
import Derived.Test.YtmcgddlblhinlaaGreatDoorH15
import Derived.Test.YtmcgddlblhinlaaGreatDoorH19
import Derived.Test.YtmcgddlblhinlaaGreatDoorP5
namespace Go.Proofs.YtmcgddlblhinlaaGreatDoor
open Go.RowKit
def exText : ByteArray := { data := ([110, 111, 100, 101, 32, 48, 32, 49, 48, 48, 10, 110, 111, 100, 101, 32, 49, 32, 49, 48, 48, 10, 110, 111, 100, 101, 32, 50, 32, 49, 48, 48, 10, 99, 111, 110, 116, 97, 99, 116, 32, 48, 32, 49, 32, 49, 48, 32, 54, 48, 32, 52, 32, 53].append [32, 48, 10, 99, 111, 110, 116, 97, 99, 116, 32, 49, 32, 50, 32, 53, 48, 32, 49, 48, 48, 32, 52, 32, 53, 32, 48, 10, 111, 114, 100, 101, 114, 32, 48, 32, 48, 32, 48, 32, 50, 32, 50, 48, 48, 32, 48, 32, 48, 32, 34, 104, 105, 34, 10]).toArray }
def exM : Mis := ⟨[100, 100, 100], [⟨0, 1, 10, 60, 4, 5, 0⟩, ⟨1, 2, 50, 100, 4, 5, 0⟩], [⟨0, 0, 0, 0, 0, 1, 2, 200, 0, 0, [], ⟨#[104, 105]⟩⟩], [], [], false⟩
theorem ex_list : printL exM = exText.data.toList := by kernel_rfl
theorem ex_mis : misE exM = 0 := by kernel_rfl
theorem ex_text : (⟨(printL exM).toArray⟩ : ByteArray) = exText := by
  rw [ex_list]
theorem ex_len : (printL exM).length ≤ 8192 := by
  rw [ex_list]; decide
theorem ex_parse : parseR exText = (exM, 0, 0) := by
  rw [← ex_text]; exact parse_print ex_mis ex_len
theorem ex_print : printR exM = (exText, 0) := by
  have := ex_len
  rw [printR, if_neg (by simp [ex_mis]), if_neg (by omega), ex_text]
set_option maxRecDepth 100000 in
set_option maxHeartbeats 4000000 in
theorem awake_any (w : World) (hG : Glob w) : Calls Tryz.prog 9 #[] w fun e w' => e = .returned (.bool true) ∧ Below w.heap.size w w' := by
  go_enter Tryz.func9, Tryz.ntmps9
  go_wp2_with fail
  refine (parse_any exText w hG).mono ?_
  unfold ParsePost
  rw [ex_parse]
  rintro e w1 ⟨VQ, VC, VO, VF, VX, rfl, hM, hb⟩
  have HM := Lib.hid hM
  obtain ⟨hq, hc, ho, hf, hx⟩ := hM
  obtain ⟨A1, c1, rfl, _, _, hA1⟩ := hq
  obtain ⟨A2, c2, rfl, _, _, hA2⟩ := hc
  obtain ⟨A3, c3, rfl, _, _, hA3⟩ := ho
  obtain ⟨A4, c4, rfl, _, _, _⟩ := hf
  obtain ⟨A5, c5, rfl, _, _, _⟩ := hx
  obtain ⟨b2, o2, rfl, hb2, -⟩ := hA2 (by decide)
  obtain ⟨b3, o3, rfl, hb3, hcell3⟩ := hA3 (by decide)
  have hp : w1.cell? ⟨b3, o3 + 11, none⟩ = some (.string ⟨#[104, 105]⟩) := by
    obtain ⟨-, -, -, -, -, -, -, -, -, -, -, h⟩ := hcell3 0 (by decide)
    rw [Nat.zero_mul, Nat.add_zero] at h; exact h
  clear hA1 hA2 hA3 hcell3
  have HM2 : Hid (MisAt w1 w1.heap.size (.slice A1 3 c1) (.slice (some ⟨b2, o2, none⟩) 2 c2) (.slice (some ⟨b3, o3, none⟩) 1 c3) (.slice A4 0 c4) (.slice A5 0 c5) exM) := HM.out
  have e1 : exM.q.length = 3 := rfl
  have e2 : exM.cs.length = 2 := rfl
  have e3 : exM.os.length = 1 := rfl
  have e4 : exM.fs.length = 0 := rfl
  have e5 : exM.xs.length = 0 := rfl
  have e6 : exM.bd = false := rfl
  have HG := Lib.hid hG
  clear hG HM
  simp only [e1, e2, e3, e4, e5, e6]
  clear e1 e2 e3 e4 e5 e6
  go_wp2_with fail
  have hb4 := (Below.refl _ w1).alloc (Nat.le_refl _) (.cells #[.slice A1 3 c1, .slice (some ⟨b2, o2, none⟩) 2 c2, .slice (some ⟨b3, o3, none⟩) 1 c3, .slice A4 0 c4, .slice A5 0 c5, .bool false] 31)
  have m0 : (w1.alloc (.cells #[.slice A1 3 c1, .slice (some ⟨b2, o2, none⟩) 2 c2, .slice (some ⟨b3, o3, none⟩) 1 c3, .slice A4 0 c4, .slice A5 0 c5, .bool false] 31)).cell? ⟨w1.heap.size, 0, none⟩ = some (.slice A1 3 c1) := by simp [go_sem]
  have m1 : (w1.alloc (.cells #[.slice A1 3 c1, .slice (some ⟨b2, o2, none⟩) 2 c2, .slice (some ⟨b3, o3, none⟩) 1 c3, .slice A4 0 c4, .slice A5 0 c5, .bool false] 31)).cell? ⟨w1.heap.size, 1, none⟩ = some (.slice (some ⟨b2, o2, none⟩) 2 c2) := by simp [go_sem]
  have m2 : (w1.alloc (.cells #[.slice A1 3 c1, .slice (some ⟨b2, o2, none⟩) 2 c2, .slice (some ⟨b3, o3, none⟩) 1 c3, .slice A4 0 c4, .slice A5 0 c5, .bool false] 31)).cell? ⟨w1.heap.size, 2, none⟩ = some (.slice (some ⟨b3, o3, none⟩) 1 c3) := by simp [go_sem]
  have m3 : (w1.alloc (.cells #[.slice A1 3 c1, .slice (some ⟨b2, o2, none⟩) 2 c2, .slice (some ⟨b3, o3, none⟩) 1 c3, .slice A4 0 c4, .slice A5 0 c5, .bool false] 31)).cell? ⟨w1.heap.size, 3, none⟩ = some (.slice A4 0 c4) := by simp [go_sem]
  have m4 : (w1.alloc (.cells #[.slice A1 3 c1, .slice (some ⟨b2, o2, none⟩) 2 c2, .slice (some ⟨b3, o3, none⟩) 1 c3, .slice A4 0 c4, .slice A5 0 c5, .bool false] 31)).cell? ⟨w1.heap.size, 4, none⟩ = some (.slice A5 0 c5) := by simp [go_sem]
  have m5 : (w1.alloc (.cells #[.slice A1 3 c1, .slice (some ⟨b2, o2, none⟩) 2 c2, .slice (some ⟨b3, o3, none⟩) 1 c3, .slice A4 0 c4, .slice A5 0 c5, .bool false] 31)).cell? ⟨w1.heap.size, 5, none⟩ = some (.bool false) := by simp [go_sem]
  have hz : w1.heap.size < (w1.alloc (.cells #[.slice A1 3 c1, .slice (some ⟨b2, o2, none⟩) 2 c2, .slice (some ⟨b3, o3, none⟩) 1 c3, .slice A4 0 c4, .slice A5 0 c5, .bool false] 31)).heap.size := by simp
  generalize w1.alloc (.cells #[.slice A1 3 c1, .slice (some ⟨b2, o2, none⟩) 2 c2, .slice (some ⟨b3, o3, none⟩) 1 c3, .slice A4 0 c4, .slice A5 0 c5, .bool false] 31) = v1 at *
  refine (print_any _ _ _ _ _ exM v1 (HM2.out.on hb4) (HG.out.gw fun j hj => ((hb.trans (hb4.mono hb.size)).block j (by have := HG.out.lt; omega)))).mono ?_
  rw [ex_print]
  rintro e w2 ⟨rfl, hb5⟩
  have q1 := (hb5.cell (p := ⟨w1.heap.size, 1, none⟩) hz).trans m1
  have q2 := (hb5.cell (p := ⟨w1.heap.size, 2, none⟩) hz).trans m2
  have hp2 := (hb5.cell (p := ⟨b3, o3 + 11, none⟩) (by show b3 < _; omega)).trans ((hb4.cell (p := ⟨b3, o3 + 11, none⟩) hb3).trans hp)
  have hB := hb.trans ((hb4.trans (hb5.mono (Nat.le_of_lt hz))).mono hb.size)
  have hz2 := hb5.size
  have hl1 : w1.heap.size < w2.heap.size := by omega
  have hl2 : b3 < w2.heap.size := by omega
  clear m0 m1 m2 m3 m4 m5 hp hb5
  dsimp only [exText]
  go_wp2_with fail
  go_ret
  exact ⟨rfl, hB⟩
end Go.Proofs.YtmcgddlblhinlaaGreatDoor

/- Greatness, with its bounds. -/
import Derived.Test.YtmcgddlblhinlaaGreatDoorH20
import Derived.Test.YtmcgddlblhinlaaGreatDoorH21
namespace Go.Proofs.YtmcgddlblhinlaaGreatDoor
open Go.RowKit
/-- what great answers of a text -/
def Rg (s : ByteArray) (e : Ending) : Prop := ∃ b : Bool, e = .returned (.bool b) ∧ (b = false → s.size ≤ 1500 ∨ (8192 < s.size ∧ s.size ≤ 9000))
theorem rg_true {s : ByteArray} {e : Ending} (h : e = .returned (.bool true)) : Rg s e := ⟨true, h, fun h => by cases h⟩
theorem rg_false {s : ByteArray} {e : Ending} {b : Bool} (h : e = .returned (.bool b)) (hs : s.size ≤ 1500 ∨ (8192 < s.size ∧ s.size ≤ 9000)) : Rg s e := ⟨b, h, fun _ => hs⟩
set_option maxHeartbeats 2000000 in
theorem greatS_any (VQ VC VO VF VX : Value) (m : Mis) (s : ByteArray) (w : World) (hM : MisAt w w.heap.size VQ VC VO VF VX m) : Calls Tryz.prog 8 #[.agg #[VQ, VC, VO, VF, VX, .bool m.bd], .string s] w fun e w' => Rg s e ∧ Below w.heap.size w w' := by
  have HM := Lib.hid hM
  obtain ⟨hq, hc, ho, hf, hx⟩ := hM
  obtain ⟨A1, c1, rfl, hc1, hm1, -⟩ := hq
  obtain ⟨A2, c2, rfl, hc2, hm2, -⟩ := hc
  obtain ⟨A3, c3, rfl, hc3, hm3, -⟩ := ho
  obtain ⟨A4, c4, rfl, hc4, hm4, -⟩ := hf
  obtain ⟨A5, c5, rfl, hc5, hm5, -⟩ := hx
  go_enter Tryz.func8, Tryz.ntmps8
  go_wp2_with fail
  have hb0 : Below w.heap.size w (w.alloc (.cells #[.slice A1 m.q.length c1, .slice A2 m.cs.length c2, .slice A3 m.os.length c3, .slice A4 m.fs.length c4, .slice A5 m.xs.length c5, .bool m.bd] 31)) := (Below.refl _ w).alloc (Nat.le_refl _) _
  generalize w.alloc (.cells #[.slice A1 m.q.length c1, .slice A2 m.cs.length c2, .slice A3 m.os.length c3, .slice A4 m.fs.length c4, .slice A5 m.xs.length c5, .bool m.bd] 31) = v0 at *
  refine (great24 _ _ _ _ _ m v0 (HM.out.on hb0)).mono ?_
  rintro e w1 ⟨⟨g, rfl⟩, hb1⟩
  have hB := hb0.trans (hb1.mono hb0.size)
  clear hb1
  cases g with
  | true =>
    go_wp2_with fail
    go_ret
    exact ⟨rg_true rfl, hB⟩
  | false =>
    by_cases j1 : (1500 : Int) < s.size
    · by_cases j2 : (s.size : Int) ≤ 8192
      · go_wp2_with fail
        go_ret
        exact ⟨rg_true rfl, hB⟩
      · by_cases j3 : (9000 : Int) < s.size
        · go_wp2_with fail
          go_ret
          exact ⟨rg_true rfl, hB⟩
        · have HS : Hid (s.size ≤ 1500 ∨ (8192 < s.size ∧ s.size ≤ 9000)) := .inr (by omega)
          go_wp2_with fail
          go_ret
          exact ⟨rg_false rfl HS.out, hB⟩
    · have j3 : ¬ (9000 : Int) < s.size := by omega
      have HS : Hid (s.size ≤ 1500 ∨ (8192 < s.size ∧ s.size ≤ 9000)) := .inl (by omega)
      go_wp2_with fail
      go_ret
      exact ⟨rg_false rfl HS.out, hB⟩
theorem glob_on {w w' : World} (hG : Glob w) (hb : Below w.heap.size w w') : Glob w' := hG.gw fun j hj => hb.block j (by have := hG.lt; omega)
end Go.Proofs.YtmcgddlblhinlaaGreatDoor

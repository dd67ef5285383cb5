/- The reference Overlap; IndexFunc and ContainsFunc over contacts. -/
import Derived.Test.YtmcgddlblhinlaaGreatDoorF2
namespace Go.Proofs.YtmcgddlblhinlaaGreatDoor
open Go.RowKit
/-- the first place of a list where a condition holds, from k on -/
def findI (p : Con → Bool) : List Con → Nat → Int
  | [], _ => -1
  | a :: t, k => if p a = true then (k : Int) else findI p t (k + 1)
theorem drop_con (l : List Con) (k : Nat) (h : k < l.length) : l.drop k = l.getD k Con.zero :: l.drop (k + 1) := by
  rw [List.drop_eq_getElem_cons h]; simp [List.getD, h]
theorem findI_step (p : Con → Bool) (l : List Con) (k : Nat) (h : k < l.length) : findI p (l.drop k) k = if p (l.getD k Con.zero) = true then (k : Int) else findI p (l.drop (k + 1)) (k + 1) := by
  rw [drop_con l k h, findI]
theorem findI_any (p : Con → Bool) : ∀ (l : List Con) (k : Nat), decide (0 ≤ findI p l k) = l.any p
  | [], k => by simp [findI]
  | a :: t, k => by
    rw [findI, List.any_cons]
    cases h : p a
    · simp [findI_any p t (k + 1)]
    · simp
set_option maxHeartbeats 1000000 in
theorem ck_index (v : Value) (cs : List Con) (pb : Nat) (p : Con → Bool) (w : World) (hv : Cons w w.heap.size v cs) (hcl : ∀ (c : Con) (W : World), Below w.heap.size w W → Calls Tryz.prog 69 #[.agg #[.int .i64 c.a, .int .i64 c.b, .int .i64 c.s, .int .i64 c.e, .int .i64 c.r, .int .i64 c.g, .int .i64 c.l], .pointer (some ⟨pb, 0, none⟩)] W fun e W' => e = .returned (.bool (p c)) ∧ Below W.heap.size W W') :
    Calls Tryz.prog 86 #[v, .func (.func 69) #[] #[.pointer (some ⟨pb, 0, none⟩)]] w fun e w' => e = .returned (.int .i64 (findI p cs 0)) ∧ Below w.heap.size w w' := by
  have HCL := Lib.hid hcl
  clear hcl
  obtain ⟨A, c, rfl, hc, hm, hA⟩ := hv
  unfold maxLen at hm
  have HA := Lib.hid hA
  clear hA
  go_enter Tryz.func86, Tryz.ntmps86
  go_wp2_with fail
  go_loopw [8] (fun i wr => ∃ k : Nat, k ≤ cs.length ∧ i = .int .i64 k ∧ Hid (findI p (cs.drop k) k = findI p cs 0) ∧ Below w.heap.size w wr) (fun i _ => cs.length - (intOf i).toNat)
  case atStart => exact ⟨0, by omega, rfl, rfl, Below.refl _ _⟩
  case round =>
    obtain ⟨k, hk, rfl, hr, hB⟩ := hrel
    have hzr := hB.size
    by_cases hlt : k < cs.length
    · obtain ⟨b, o, rfl, hb, hcell⟩ := HA.out (by omega)
      have hx := (hcell k hlt).below hB hb
      have HST := Lib.hid (findI_step p cs k hlt)
      clear hcell
      generalize cs.getD k Con.zero = d at *
      obtain ⟨x0, x1, x2, x3, x4, x5, x6⟩ := hx
      cases hq : p d
      · have HT : Hid (findI p (cs.drop (k + 1)) (k + 1) = findI p cs 0) := by show _ = _; rw [← hr.out, HST.out, hq]; rfl
        have HQ := Lib.hid hq
        clear hq
        go_wp2_with fail
        refine (HCL.out d _ hB).mono ?_
        rw [HQ.out]
        rintro e w1 ⟨rfl, hb1⟩
        have hB1 := bt' hB hb1 hzr
        clear hb1
        go_wp2_with fail
        go_roundw
        case rel => exact ⟨k + 1, by omega, by go_num, HT, hB1⟩
        case measure => simp [intOf]; omega
      · have HT : Hid (findI p cs 0 = k) := by show _ = _; rw [← hr.out, HST.out, hq]; rfl
        have HQ := Lib.hid hq
        clear hq
        go_wp2_with fail
        refine (HCL.out d _ hB).mono ?_
        rw [HQ.out]
        rintro e w1 ⟨rfl, hb1⟩
        have hB1 := bt' hB hb1 hzr
        clear hb1
        go_wp2_with fail
        go_ret
        exact ⟨by rw [HT.out]; rfl, hB1⟩
    · have HT : Hid (findI p cs 0 = -1) := by show _ = _; rw [← hr.out, List.drop_of_length_le (by omega)]; rfl
      go_wp2_with fail
      go_ret
      exact ⟨by rw [HT.out]; rfl, hB⟩
theorem ck_contains (v : Value) (cs : List Con) (pb : Nat) (p : Con → Bool) (w : World) (hv : Cons w w.heap.size v cs) (hcl : ∀ (c : Con) (W : World), Below w.heap.size w W → Calls Tryz.prog 69 #[.agg #[.int .i64 c.a, .int .i64 c.b, .int .i64 c.s, .int .i64 c.e, .int .i64 c.r, .int .i64 c.g, .int .i64 c.l], .pointer (some ⟨pb, 0, none⟩)] W fun e W' => e = .returned (.bool (p c)) ∧ Below W.heap.size W W') :
    Calls Tryz.prog 68 #[v, .func (.func 69) #[] #[.pointer (some ⟨pb, 0, none⟩)]] w fun e w' => e = .returned (.bool (cs.any p)) ∧ Below w.heap.size w w' := by
  have HCL := Lib.hid (ck_index v cs pb p w hv hcl)
  have H := Lib.hid (findI_any p cs 0)
  clear hcl
  go_enter Tryz.func68, Tryz.ntmps68
  go_wp2_with fail
  refine HCL.out.mono ?_
  rintro e w1 ⟨rfl, hb1⟩
  go_wp2_with fail
  go_ret
  exact ⟨by rw [← H.out]; rfl, hb1⟩
theorem ck_closure (c d : Con) (pb : Nat) (W : World) (hlt : pb < W.heap.size) (hc : ConAt W pb 0 c) : Calls Tryz.prog 69 #[.agg #[.int .i64 d.a, .int .i64 d.b, .int .i64 d.s, .int .i64 d.e, .int .i64 d.r, .int .i64 d.g, .int .i64 d.l], .pointer (some ⟨pb, 0, none⟩)] W fun e W' => e = .returned (.bool (overB c d)) ∧ Below W.heap.size W W' := by
  obtain ⟨x0, x1, x2, x3, x4, x5, x6⟩ := hc
  simp only [Nat.zero_add] at x0 x1 x2 x3 x4 x5 x6
  go_enter Tryz.func69, Tryz.ntmps69
  go_wp2_with fail
  refine (over_any c d _).mono ?_
  rintro e w1 ⟨rfl, hb1⟩
  go_wp2_with fail
  go_ret
  exact ⟨rfl, ((Below.refl _ W).alloc (Nat.le_refl _) _).trans (hb1.mono (by simp))⟩
end Go.Proofs.YtmcgddlblhinlaaGreatDoor

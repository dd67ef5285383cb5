/- Whether two lists of integers are equal. -/
import Derived.Test.YthlfhfliidhelaaGreatDoorK2e
import Derived.Test.YthlfhfliidhelaaGreatDoorN1e
set_option linter.unusedSimpArgs false
set_option linter.unusedVariables false
set_option linter.all false
namespace Go.Proofs.YthlfhfliidhelaaGreatDoor
open Go.RowKit
theorem take_snoc {xs ys : List Int} {k : Nat} (h1 : k < xs.length) (h2 : k < ys.length) (h : xs.take k = ys.take k) (e : xs.getD k 0 = ys.getD k 0) : xs.take (k + 1) = ys.take (k + 1) := by
  rw [List.take_add_one, List.take_add_one, h, List.getElem?_eq_getElem h1, List.getElem?_eq_getElem h2]
  simp [List.getD_eq_getElem?_getD, h1, h2] at e
  rw [e]
def EqPost (xs ys : List Int) (w : World) (e : Ending) (w' : World) : Prop := e = .returned (.bool (decide (xs = ys))) ∧ Below w.heap.size w w'
set_option maxRecDepth 100000 in
set_option maxHeartbeats 1000000 in
theorem equal_any (xs ys : List Int) (hx : xs.length ≤ 8000) (_hy : ys.length ≤ 8000) (V V' : Value) (w : World) (h : Ints w w.heap.size V xs) (h' : Ints w w.heap.size V' ys) : Calls Tryz.prog 17 #[V, V'] w (EqPost xs ys w) := by
  obtain ⟨A, c, rfl, hc1, hc2, hA⟩ := h
  obtain ⟨A', c', rfl, hd1, hd2, hB⟩ := h'
  unfold maxLen at hc2 hd2
  have HA := Lib.hid hA
  have HB := Lib.hid hB
  clear hA hB
  by_cases hl : xs.length = ys.length
  · have HL := Lib.hid hl
    go_enter Tryz.func17, Tryz.ntmps17
    go_wp2_with fail
    go_loopw [13] (fun i wr => ∃ k : Nat, k ≤ xs.length ∧ i = .int .i64 k ∧ Hid (xs.take k = ys.take k ∧ Below w.heap.size w wr)) (fun i _ => xs.length - (intOf i).toNat)
    case atStart => exact ⟨0, Nat.zero_le _, rfl, by simp, Below.refl _ _⟩
    case round =>
      obtain ⟨k, hk, rfl, HI⟩ := hrel
      rename World => wr
      by_cases hlt : k < xs.length
      · obtain ⟨b, o, rfl, hb, hcell⟩ := HA.out (by omega)
        obtain ⟨b2, o2, rfl, hb2, hcell2⟩ := HB.out (by have := HL.out; omega)
        have hc := (HI.out.2.cell (p := ⟨b, o + k, none⟩) hb).trans (hcell k hlt)
        have hd := (HI.out.2.cell (p := ⟨b2, o2 + k, none⟩) hb2).trans (hcell2 k (by have := HL.out; omega))
        have HLT := Lib.hid hlt
        clear hcell hcell2
        generalize hxe : xs.getD k 0 = x at *
        generalize hye : ys.getD k 0 = y at *
        have HXE := Lib.hid hxe
        have HYE := Lib.hid hye
        clear hxe hye
        by_cases he : x = y
        · subst he
          go_wp2_with fail
          go_quiet (fail)
          go_wp2_with fail
          go_roundw
          case rel => exact ⟨k + 1, by omega, by go_num, take_snoc HLT.out (by have := HL.out; have := HLT.out; omega) HI.out.1 (HXE.out.trans HYE.out.symm), below_drewN HI.out.2 _⟩
          case measure => simp [intOf]; omega
        · have HNE : Hid (xs ≠ ys) := fun e => he (by rw [← HXE.out, ← HYE.out, e])
          go_wp2_with fail
          go_quiet (fail)
          go_wp2_with fail
          go_ret
          exact ⟨by rw [decide_eq_false HNE.out]; rfl, below_drewN HI.out.2 _⟩
      · obtain rfl : k = xs.length := by omega
        have HE : Hid (xs = ys) := by
          have e := HI.out.1
          rw [List.take_length, HL.out, List.take_length] at e
          exact e
        go_wp2_with fail
        go_ret
        exact ⟨by rw [decide_eq_true HE.out]; rfl, HI.out.2⟩
  · have HNE : Hid (xs ≠ ys) := fun e => hl (by rw [e])
    have hl2 : ¬ (xs.length : Int) = ys.length := by omega
    go_enter Tryz.func17, Tryz.ntmps17
    go_wp2_with fail
    go_ret
    exact ⟨by rw [decide_eq_false HNE.out]; rfl, Below.refl _ _⟩
end Go.Proofs.YthlfhfliidhelaaGreatDoor
namespace Go.Proofs.YthlfhfliidhelaaGreatDoor
theorem intL_pos (n : Int) : 1 ≤ (intL n).length := by
  unfold intL
  rw [encG_len]
  omega
theorem rd_int {n : Int} (h : Rng n) (r : List UInt8) : rdG 9 0 (intL n ++ r) = some (zz n, (intL n).length) := by
  have hz := zz_lt h.1 h.2
  have h8 := ng_le (v := zz n) (by omega)
  obtain ⟨p, b, e, h1, h2⟩ := encG_shape (ngF 9 0 (zz n)) (zz n)
  have hl := encG_len (ngF 9 0 (zz n) + 1) (zz n)
  have hv := encG_val (ngF 9 0 (zz n)) (zz n)
  obtain ⟨_, _, h3, _⟩ := ngF_spec 9 0 (zz n)
  have h3' := h3 (by rw [show (9 + 0 : Nat) = 9 from rfl, show (128 : Nat) ^ 9 = 9223372036854775808 by decide]; omega)
  have hlt : zz n < 128 ^ (ngF 9 0 (zz n) + 1) := by
    have p : 0 < 128 ^ ngF 9 0 (zz n) := Nat.pow_pos (by decide)
    rw [Nat.div_lt_iff_lt_mul p] at h3'
    rw [Nat.pow_succ]
    omega
  rw [Nat.mod_eq_of_lt hlt] at hv
  unfold intL
  rw [e] at hl hv ⊢
  rw [List.append_assoc, List.singleton_append, rdG_of p 9 0 b r (by simp at hl; omega) h1 h2, hv]
  simp
theorem zz_inj {n m : Int} (h : zz n = zz m) : n = m := by
  unfold zz at h
  split at h <;> split at h <;> omega
theorem int_cancel {n m : Int} (hn : Rng n) (hm : Rng m) {r r' : List UInt8} (h : intL n ++ r = intL m ++ r') : n = m ∧ r = r' := by
  have h1 := rd_int hn r
  rw [h, rd_int hm r'] at h1
  injection h1 with h1
  injection h1 with h2 _
  obtain rfl := zz_inj h2
  exact ⟨rfl, List.append_cancel_left h⟩
theorem flat_cancel : ∀ {xs ys : List Int}, xs.length = ys.length → AllRng xs → AllRng ys → ∀ {r r' : List UInt8}, xs.flatMap intL ++ r = ys.flatMap intL ++ r' → xs = ys ∧ r = r'
  | [], [], _, _, _, _, _, h => ⟨rfl, h⟩
  | [], _ :: _, h, _, _, _, _, _ => by simp at h
  | _ :: _, [], h, _, _, _, _, _ => by simp at h
  | x :: xs, y :: ys, hl, hx, hy, r, r', h => by
    rw [List.flatMap_cons, List.flatMap_cons, List.append_assoc, List.append_assoc] at h
    obtain ⟨e1, h2⟩ := int_cancel (hx x (by simp)) (hy y (by simp)) h
    obtain ⟨e2, h3⟩ := flat_cancel (by simpa using hl) (fun z hz => hx z (by simp [hz])) (fun z hz => hy z (by simp [hz])) h2
    exact ⟨by rw [e1, e2], h3⟩
theorem rng_nat {n : Nat} (h : n ≤ 1000000000) : Rng (n : Int) := ⟨by omega, by omega⟩
theorem list_cancel {xs ys : List Int} (lx : xs.length ≤ 1000000000) (ly : ys.length ≤ 1000000000) (hx : AllRng xs) (hy : AllRng ys) {r r' : List UInt8} (h : encL xs ++ r = encL ys ++ r') : xs = ys ∧ r = r' := by
  unfold encL at h
  rw [List.append_assoc, List.append_assoc] at h
  obtain ⟨e, h⟩ := int_cancel (rng_nat lx) (rng_nat ly) h
  exact flat_cancel (by omega) hx hy h
theorem text_cancel {a b : ByteArray} (la : a.size ≤ 1000000000) (lb : b.size ≤ 1000000000) {r r' : List UInt8} (h : txL a ++ r = txL b ++ r') : a = b ∧ r = r' := by
  unfold txL at h
  rw [List.append_assoc, List.append_assoc] at h
  have ea : a.data.toList.length = a.size := rfl
  have eb : b.data.toList.length = b.size := rfl
  obtain ⟨e, h⟩ := int_cancel (rng_nat (by omega)) (rng_nat (by omega)) h
  obtain ⟨h1, h2⟩ := List.append_inj h (by omega)
  exact ⟨ByteArray.ext (Array.toList_inj.1 h1), h2⟩
theorem seal_cancel {o o' : List UInt8} (l : o.length ≤ 1000000000) (l' : o'.length ≤ 1000000000) (h : sealL (intL o.length) o = sealL (intL o'.length) o') : o = o' := by
  unfold sealL at h
  simp only [List.append_assoc] at h
  obtain ⟨e, h⟩ := int_cancel (rng_nat l) (rng_nat l') h
  exact (List.append_inj h (by omega)).1
theorem flat_len (xs : List Int) : xs.length ≤ (xs.flatMap intL).length := by
  induction xs with
  | nil => simp
  | cons x xs ih =>
    rw [List.flatMap_cons, List.length_append, List.length_cons]
    have := intL_pos x
    omega
theorem encL_len (xs : List Int) : xs.length ≤ (encL xs).length := by
  unfold encL
  rw [List.length_append]
  have := flat_len xs
  omega
def ArcEq (a b : Arc) : Prop := a.ms = b.ms ∧ a.lg = b.lg ∧ tksL a.tk = tksL b.tk ∧ ansL a.an = ansL b.an ∧ demsL a.dm = demsL b.dm
theorem encO_of {a b : Arc} (h : ArcEq a b) : encO a = encO b := by
  obtain ⟨h1, h2, h3, h4, h5⟩ := h
  unfold encO encT
  rw [h1, h2, h3, h4, h5]
theorem encO_inj {a b : Arc} (ga : GB a) (gb : GB b) (ra : ArcRng a) (rb : ArcRng b) (la : (encO a).length ≤ 65536) (lb : (encO b).length ≤ 65536) (h : encO a = encO b) : ArcEq a b := by
  have a1 := encL_len (tksL a.tk)
  have a2 := encL_len (ansL a.an)
  have a3 := encL_len (demsL a.dm)
  have b1 := encL_len (tksL b.tk)
  have b2 := encL_len (ansL b.an)
  have b3 := encL_len (demsL b.dm)
  have m1 := ga.ms
  have m2 := ga.lg
  have n1 := gb.ms
  have n2 := gb.lg
  unfold encO encT at h la lb
  simp only [List.length_append] at la lb
  simp only [List.append_assoc] at h
  have h := List.append_cancel_left h
  obtain ⟨e1, h⟩ := text_cancel (by omega) (by omega) h
  obtain ⟨e2, h⟩ := text_cancel (by omega) (by omega) h
  obtain ⟨e3, h⟩ := list_cancel (by omega) (by omega) ra.1 rb.1 h
  obtain ⟨e4, h⟩ := list_cancel (by omega) (by omega) ra.2.1 rb.2.1 h
  obtain ⟨e5, _⟩ := list_cancel (r := []) (r' := []) (by omega) (by omega) ra.2.2 rb.2.2 (by simpa using h)
  exact ⟨e1, e2, e3, e4, e5⟩
end Go.Proofs.YthlfhfliidhelaaGreatDoor

/- Walk of the law TraceLines. -/
import Derived.Test.YtekpnphfdoplfaaDoorL5
import Derived.Test.YtekpnphfdoplfaaDoorP3
namespace Go.Proofs.YtekpnphfdoplfaaDoor
open Go.RowKit Go.Shelf
theorem u8_in {n : Int} (h : (Lit.int .u8 n).wf = true) : 0 ≤ n ∧ n ≤ 255 := by
  simp only [Lit.wf, Bool.and_eq_true, decide_eq_true_eq] at h
  have e1 : IntKind.u8.min = 0 := rfl
  have e2 : IntKind.u8.max = 255 := rfl
  omega
theorem rem_nat (i : Int) (n : Nat) (h0 : 0 ≤ i) (hn : 0 < n) : ∃ m : Nat, (∀ w, (binOp .rem 3 (.int .i64 i) (.int .i64 (n : Int))).run Tryd.prog w = .ok (.int .i64 (m : Int)) w) ∧ i.tmod n = m ∧ m < n := by
  have hz : ¬ (n : Int) = 0 := by omega
  have hz0 : ¬ n = 0 := by omega
  have hz2 : ((n : Int) == 0) = false := by simp [hz0]
  have hm : ¬ (n : Int) = -1 := by omega
  have h2 := Int.tmod_nonneg (n : Int) h0
  have h3 := Int.tmod_lt_of_pos i (show (0 : Int) < n by omega)
  refine ⟨(i.tmod n).toNat, fun w => ?_, by omega, by omega⟩
  rw [Int.toNat_of_nonneg h2]
  go_simp
theorem count_any (s : ByteArray) (hs : s.size ≤ 70000) (w : World) (hG : Glob w) : Calls Tryd.prog 26 #[.string s, .string ⟨#[10]⟩] w fun e w' => e = .returned (.int .i64 (Lib.count s.data.toList [10])) ∧ w' = w := by
  obtain ⟨⟨m, h1⟩, _⟩ := hG
  exact Tryd.strings_Count_any s ⟨#[10]⟩ m w (by omega) h1 (by decide)
set_option maxHeartbeats 4000000 in
set_option maxRecDepth 100000 in
theorem law_lines (v : Value) (xs : List Ent) (at' : Int) (w : World) (hv : Ents w w.heap.size v xs) (hat : (Lit.int .u8 at').wf = true) (hG : Glob w) : Calls Tryd.prog 9 #[v, .int .u8 at'] w fun e w' => e = .returned (.bool true) ∧ Below w.heap.size w w' := by
  obtain ⟨hi0, hi1⟩ := u8_in hat
  by_cases h60 : 60 < xs.length
  · have hg : decide (60 < xs.length) = true := decide_eq_true h60
    go_enter Tryd.func9, Tryd.ntmps9
    go_wp2_with fail
    refine (great_any v xs w hv).mono ?_
    rw [hg]
    rintro e w1 ⟨rfl, b1⟩
    go_wp2_with fail
    refine (awake_any w1 (hG.below (b1))).mono ?_
    rintro e w2 ⟨rfl, b2⟩
    go_wp2_with fail
    go_ret
    exact ⟨rfl, (b1).trans (b2.mono (b1).size)⟩
  · have hg : decide (60 < xs.length) = false := decide_eq_false h60
    by_cases hE : chkE xs = 0
    · have hcl := cat_short xs ((chkE_iff xs).1 hE).2.1
      have HP := Lib.hid (printR_ok hE (by omega))
      obtain ⟨m, hrem, hmt, hml⟩ := rem_nat at' (xs.length + 1) hi0 (by omega)
      have hwi : IntKind.i64.wrap at' = at' := by rw [IntKind.wrap_i64]; omega
      have hm1 : ¬ ((xs.length : Int) + 1) = 0 := by omega
      have hm2 : ¬ ((xs.length : Int) + 1) = -1 := by omega
      have hE2 := chk_take hE m
      have hE3 := chk_drop hE m
      have hcut := cat_cut xs m
      have hcl2 : (catL (xs.take m)).length + (catL (xs.drop m)).length = (catL xs).length := by rw [← hcut, List.length_append]
      have HP2 := Lib.hid (printR_ok hE2 (by omega))
      have HP3 := Lib.hid (printR_ok hE3 (by omega))
      have HCC := Lib.hid (lib_count_cat ((chkE_iff xs).1 hE).2.1)
      have HSX : Hid (xs ≠ [] → Lib.hasSuffix (catL xs) [10] = true) := fun h => suffix_cat h
      have HJ : Hid ((⟨(catL (xs.take m)).toArray⟩ : ByteArray) ++ ⟨(catL (xs.drop m)).toArray⟩ = ⟨(catL xs).toArray⟩) := by show _ = _; rw [ByteArray.mk_append_mk, hcut]
      have hs1 : (⟨(catL xs).toArray⟩ : ByteArray).size ≤ 12000 := by show (catL xs).length ≤ _; omega
      have hs2 : ¬ 9223372036854775807 < (⟨(catL (xs.take m)).toArray⟩ : ByteArray).size + (⟨(catL (xs.drop m)).toArray⟩ : ByteArray).size := by show ¬ 9223372036854775807 < (catL (xs.take m)).length + (catL (xs.drop m)).length; omega
      have HC : Hid (Lib.count (⟨(catL xs).toArray⟩ : ByteArray).data.toList [10] = xs.length) := HCC.out
      have HS : Hid (xs ≠ [] → Lib.hasSuffix (⟨(catL xs).toArray⟩ : ByteArray).data.toList [10] = true) := HSX.out
      clear HCC HSX hcut hcl2 hE2 hE3 hcl hE
      generalize (⟨(catL xs).toArray⟩ : ByteArray) = ps at *
      generalize (⟨(catL (xs.take m)).toArray⟩ : ByteArray) = pa at *
      generalize (⟨(catL (xs.drop m)).toArray⟩ : ByteArray) = pb at *
      push_cast at hrem hmt
      have hv0 := hv
      obtain ⟨A, c, rfl, hlc, hc⟩ := hv.shp
      go_enter Tryd.func9, Tryd.ntmps9
      go_wp2_with fail
      refine (great_any _ xs w hv0).mono ?_
      rw [hg]
      rintro e w1 ⟨rfl, b1⟩
      go_wp2_with fail
      refine (print_any _ xs w1 (hv0.keep b1) (hG.below b1)).mono ?_
      rw [HP.out]
      rintro e w2 ⟨rfl, b2⟩
      have c2 := b1.trans (b2.mono b1.size)
      go_wp2_with fail
      refine (print_any _ (xs.take m) w2 ((ents_take hv0 (by omega)).keep c2) (hG.below c2)).mono ?_
      rw [HP2.out]
      rintro e w3 ⟨rfl, b3⟩
      have c3 := c2.trans (b3.mono c2.size)
      have hd := (ents_drop hv0 (show m ≤ xs.length by omega)).keep c3
      clear HP HP2
      by_cases hck : c = m
      · rw [if_pos hck, hck, Nat.sub_self] at hd
        go_wp2_with fail
        refine (print_any _ (xs.drop m) w3 hd (hG.below c3)).mono ?_
        rw [HP3.out]
        rintro e w4 ⟨rfl, b4⟩
        have c4 := c3.trans (b4.mono c3.size)
        have hJ2 : ((pa ++ pb).toList == ps.toList) = true := by rw [HJ.out]; exact beq_self_eq_true _
        clear HJ hd HP3
        by_cases hz : xs.length = 0
        · have hzb : ((xs.length : Int) == 0) = true := by simp [hz]
          have HZ := Lib.hid hz
          clear hz
          go_wp2_with fail
          refine (count_any ps (by omega) w4 (hG.below c4)).mono ?_
          rw [HC.out]
          rintro e w5 ⟨rfl, h9⟩
          rw [h9]
          clear h9 w5
          go_wp2_with fail
          refine (awake_any w4 (hG.below (c4))).mono ?_
          rintro e w5 ⟨rfl, b5⟩
          go_wp2_with fail
          go_ret
          exact ⟨rfl, (c4).trans (b5.mono (c4).size)⟩
        · have hzb : ((xs.length : Int) == 0) = false := by simpa using hz
          have HS2 := Lib.hid (HS.out (fun e => hz (by rw [e]; rfl)))
          clear hz
          go_wp2_with fail
          refine (count_any ps (by omega) w4 (hG.below c4)).mono ?_
          rw [HC.out]
          rintro e w5 ⟨rfl, h9⟩
          rw [h9]
          clear h9 w5
          go_wp2_with fail
          refine (Tryd.strings_HasSuffix ps ⟨#[10]⟩ w4 (by omega)).mono ?_
          rw [show (⟨#[10]⟩ : ByteArray).data.toList = [10] from rfl, HS2.out]
          rintro e w5 ⟨rfl, h9⟩
          rw [h9]
          clear h9 w5
          go_wp2_with fail
          refine (awake_any w4 (hG.below (c4))).mono ?_
          rintro e w5 ⟨rfl, b5⟩
          go_wp2_with fail
          go_ret
          exact ⟨rfl, (c4).trans (b5.mono (c4).size)⟩
      · rw [if_neg hck] at hd
        go_wp2_with fail
        refine (print_any _ (xs.drop m) w3 hd (hG.below c3)).mono ?_
        rw [HP3.out]
        rintro e w4 ⟨rfl, b4⟩
        have c4 := c3.trans (b4.mono c3.size)
        have hJ2 : ((pa ++ pb).toList == ps.toList) = true := by rw [HJ.out]; exact beq_self_eq_true _
        clear HJ hd HP3
        by_cases hz : xs.length = 0
        · have hzb : ((xs.length : Int) == 0) = true := by simp [hz]
          have HZ := Lib.hid hz
          clear hz
          go_wp2_with fail
          refine (count_any ps (by omega) w4 (hG.below c4)).mono ?_
          rw [HC.out]
          rintro e w5 ⟨rfl, h9⟩
          rw [h9]
          clear h9 w5
          go_wp2_with fail
          refine (awake_any w4 (hG.below (c4))).mono ?_
          rintro e w5 ⟨rfl, b5⟩
          go_wp2_with fail
          go_ret
          exact ⟨rfl, (c4).trans (b5.mono (c4).size)⟩
        · have hzb : ((xs.length : Int) == 0) = false := by simpa using hz
          have HS2 := Lib.hid (HS.out (fun e => hz (by rw [e]; rfl)))
          clear hz
          go_wp2_with fail
          refine (count_any ps (by omega) w4 (hG.below c4)).mono ?_
          rw [HC.out]
          rintro e w5 ⟨rfl, h9⟩
          rw [h9]
          clear h9 w5
          go_wp2_with fail
          refine (Tryd.strings_HasSuffix ps ⟨#[10]⟩ w4 (by omega)).mono ?_
          rw [show (⟨#[10]⟩ : ByteArray).data.toList = [10] from rfl, HS2.out]
          rintro e w5 ⟨rfl, h9⟩
          rw [h9]
          clear h9 w5
          go_wp2_with fail
          refine (awake_any w4 (hG.below (c4))).mono ?_
          rintro e w5 ⟨rfl, b5⟩
          go_wp2_with fail
          go_ret
          exact ⟨rfl, (c4).trans (b5.mono (c4).size)⟩
    · have HP := Lib.hid (printR_bad hE)
      have hEb : (chkE xs != 0) = true := by simpa using hE
      clear hE
      go_enter Tryd.func9, Tryd.ntmps9
      go_wp2_with fail
      refine (great_any v xs w hv).mono ?_
      rw [hg]
      rintro e w1 ⟨rfl, b1⟩
      go_wp2_with fail
      generalize chkE xs = ce at *
      refine (print_any v xs w1 (hv.keep b1) (hG.below b1)).mono ?_
      rw [HP.out]
      rintro e w2 ⟨rfl, b2⟩
      have c2 := b1.trans (b2.mono b1.size)
      go_wp2_with fail
      refine (awake_any w2 (hG.below (c2))).mono ?_
      rintro e w3 ⟨rfl, b3⟩
      go_wp2_with fail
      go_ret
      exact ⟨rfl, (c2).trans (b3.mono (c2).size)⟩
end Go.Proofs.YtekpnphfdoplfaaDoor

/- Lines: line, and the reference's Line, Decimal, Numbers. -/
import Derived.Test.YtgnlanfpholdaaaDoorF8
import Derived.Test.YtgnlanfpholdaaaDoorP5
namespace Go.Proofs.YtgnlanfpholdaaaDoor
open Go.RowKit
theorem itoaS_any (n : Int) (h0 : 0 ≤ n) (h1 : n ≤ 1099511627776) (w : World) (hG : Glob w) : Calls Tryd.prog 64 #[.int .i64 n] w fun e w' => e = .returned (.string (itoaS n)) ∧ Below w.heap.size w w' := itoa_any n (by omega) (by omega) w hG
set_option maxHeartbeats 1000000 in
theorem line_any (word : List UInt8) (hw : word.length ≤ 20) (v : Value) (ns : List Int) (hn : Okn ns) (w : World) (hv : Ints w w.heap.size v ns) (hG : Glob w) : Calls Tryd.prog 51 #[.string ⟨word.toArray⟩, v] w fun e w' => e = .returned (.string (lineS word ns)) ∧ Below w.heap.size w w' := by
  obtain ⟨A, c, rfl, hc, hm, hA⟩ := hv
  unfold maxLen at hm
  have HA := Lib.hid hA
  have HZ := Lib.hid (lnS_zero word ns)
  have HSz := Lib.hid (fun k hk => lnS_size hw hn (k := k) hk)
  have HN := Lib.hid hn.2
  have h7 := hn.1
  have HL := Lib.hid (lineS_eq word ns)
  clear hA hn hw
  rw [← HZ.out]
  go_enter Tryd.func51, Tryd.ntmps51
  go_wp2_with fail
  go_loopw [0, 9] (fun s i wr => ∃ k : Nat, k ≤ ns.length ∧ i = .int .i64 k ∧ s = .string (lnS word ns k) ∧ Below w.heap.size w wr) (fun _ i _ => ns.length - (intOf i).toNat)
  case atStart => exact ⟨0, by omega, rfl, rfl, Below.refl _ _⟩
  case round =>
    obtain ⟨k, hk, rfl, rfl, hB⟩ := hrel
    have hz := hB.size
    have hs1 := HSz.out k hk
    by_cases hlt : k < ns.length
    · obtain ⟨b, o, rfl, hb, hcell⟩ := HA.out (by omega)
      have hx := (hB.cell (p := ⟨b, o + k, none⟩) hb).trans (hcell k hlt)
      have hn1 := (HN.out k hlt).1
      have hn2 := (HN.out k hlt).2
      have HS := Lib.hid (lnS_succ word ns k)
      clear hcell
      generalize ns.getD k 0 = n at *
      have hs2 := itoaS_size hn1 hn2
      go_wp2_with fail
      refine (itoaS_any n hn1 hn2 _ (hG.below hB hG.1)).mono ?_
      rintro e w1 ⟨rfl, hb1⟩
      have hB1 := bt' hB hb1 hz
      clear hb1
      go_wp2_with fail
      go_roundw
      case rel => exact ⟨k + 1, by omega, by go_num, by rw [HS.out], hB1⟩
      case measure => simp [intOf]; omega
    · obtain rfl : k = ns.length := by omega
      go_wp2_with fail
      go_ret
      exact ⟨by rw [HL.out]; rfl, hB⟩
theorem dec_pre {m : Nat} (h : 10 ≤ m) : Lib.decDigits m = Lib.decDigits (m / 10) ++ [UInt8.ofNat (48 + m % 10)] := by rw [Lib.decDigits, dif_neg (by omega)]
/-- what stands ahead of the last digit -/
def preD (m : Nat) : List UInt8 := if m < 10 then [] else Lib.decDigits (m / 10)
theorem preD_eq (m : Nat) : Lib.decDigits m = preD m ++ [UInt8.ofNat (48 + m % 10)] := by
  unfold preD
  by_cases h : m < 10
  · rw [if_pos h, Lib.decDigits_one h, Nat.mod_eq_of_lt h]; rfl
  · rw [if_neg h, dec_pre (by omega)]
/-- what Decimal has made -/
def DecS (n m : Nat) (s : ByteArray) : Prop := ∃ tl : List UInt8, s = ⟨tl.toArray⟩ ∧ Lib.decDigits n = preD m ++ tl ∧ tl.length ≤ 21
theorem DecS.first (n : Nat) (x : UInt8) (hx : x = UInt8.ofNat (48 + n % 10)) : DecS n n ⟨#[x]⟩ := ⟨[x], rfl, by rw [hx]; exact preD_eq n, by simp⟩
theorem DecS.next {n m : Nat} {s : ByteArray} (h : DecS n m s) (hn : n ≤ 1099511627776) (hm : 10 ≤ m) (x : UInt8) (hx : x = UInt8.ofNat (48 + m / 10 % 10)) : DecS n (m / 10) (⟨#[x]⟩ ++ s) := by
  obtain ⟨tl, rfl, e, _⟩ := h
  have e2 : Lib.decDigits n = preD (m / 10) ++ (x :: tl) := by
    rw [e, preD, if_neg (by omega), preD_eq (m / 10), hx]; simp
  refine ⟨x :: tl, ByteArray.mk_append_mk [_] tl, e2, ?_⟩
  have := itoa_len (n := (n : Int)) (by omega) (by omega)
  rw [Lib.itoa_nonneg, e2, List.length_append] at this
  omega
theorem DecS.size {n m : Nat} {s : ByteArray} (h : DecS n m s) : s.size ≤ 21 := by
  obtain ⟨tl, rfl, _, h⟩ := h
  rw [mk_size]; exact h
theorem DecS.last {n m : Nat} {s : ByteArray} (h : DecS n m s) (hm : m < 10) : s = itoaS n := by
  obtain ⟨tl, rfl, e, _⟩ := h
  rw [preD, if_pos hm, List.nil_append] at e
  rw [itoaS, Lib.itoa_nonneg, e]
theorem conv1 (W0 : World) (b : Nat) (hb : b = W0.heap.size) (x : Int) : (convert 65 9 (.slice (some ⟨b, 0, none⟩) 1 1)).run Tryd.prog (W0.alloc (Obj.cells #[.int .u8 x] 5)) = .ok (.string ⟨#[UInt8.ofNat x.toNat]⟩) (W0.alloc (Obj.cells #[.int .u8 x] 5)) := by
  subst hb
  have := run_convert_bytes_arg (P := Tryd.prog) (w := W0.alloc (Obj.cells #[.int .u8 x] 5)) 65 5 Tryd.underlying65 Tryd.underlying5 W0.heap.size 0 1 1 [x] rfl (fun i hi => by
    obtain rfl : i = 0 := by omega
    simp [go_sem]) 9 Tryd.underlying9
  exact this
set_option maxHeartbeats 1000000 in
set_option maxRecDepth 100000 in
theorem decimal_any (n : Nat) (hn : n ≤ 1099511627776) (w : World) : Calls Tryd.prog 65 #[.int .i64 n] w fun e w' => e = .returned (.string (itoaS n)) ∧ Below w.heap.size w w' := by
  have h1 : (0 : Int) ≤ n := by omega
  have h2 : (n : Int) ≤ 1099511627776 := by omega
  have v1 := conv1 w w.heap.size rfl (48 + (n : Int) % 10)
  go_enter Tryd.func65, Tryd.ntmps65
  go_wp2_with fail
  clear v1
  go_loopw [0, 3] (fun i s wr => ∃ (m : Nat) (t : ByteArray), m ≤ 1099511627776 ∧ i = .int .i64 m ∧ s = .string t ∧ DecS n m t ∧ Below w.heap.size w wr) (fun i _ _ => (intOf i).toNat)
  case atStart => exact ⟨n, _, hn, rfl, rfl, DecS.first n _ (by first | rfl | (congr 1; omega) | simp), by (repeat' (first | (with_reducible exact Below.refl _ _) | (with_reducible refine Below.alloc ?_ ?_ _) | (with_reducible refine Below.drew ?_) | (with_reducible refine below_drewN ?_ _) | (with_reducible refine Below.setCell ?_ ?_ _) | (with_reducible refine Below.trans ?_ (Below.mono (by assumption) ?_)) | (with_reducible exact Nat.le_refl _) | omega | (simp; omega) | (simp; done)))⟩
  case round =>
    obtain ⟨m, t, hm, rfl, rfl, hD, hB⟩ := hrel
    have g0 : (0 : Int) ≤ m := by omega
    have g1 : (m : Int) ≤ 1099511627776 := by omega
    have ht := hD.size
    have HD := Lib.hid hD
    clear hD
    have hz := hB.size
    by_cases hlt : m < 10
    · have HL := Lib.hid (HD.out.last hlt)
      have g2 : ¬ (10 : Int) ≤ m := by omega
      go_wp2_with fail
      go_ret
      exact ⟨by rw [← HL.out]; rfl, hB⟩
    · have g2 : (10 : Int) ≤ m := by omega
      have v2 := conv1 wr wr.heap.size rfl (48 + (m : Int) / 10 % 10)
      go_wp2_with fail
      go_roundw
      case rel => exact ⟨m / 10, _, by omega, by go_num, rfl, HD.out.next hn (by omega) _ (by first | rfl | (simp; done) | (simp [UInt8.ofNat_add]; done) | (congr 1; omega)), hB.alloc hz _⟩
      case measure => simp [intOf]; omega
theorem numbers_any (c : Con) (w : World) : Calls Tryd.prog 54 #[.agg #[.int .i64 c.a, .int .i64 c.b, .int .i64 c.s, .int .i64 c.e, .int .i64 c.r, .int .i64 c.g, .int .i64 c.l]] w fun e w' => ∃ v, e = .returned v ∧ Ints w' w'.heap.size v (conNums c) ∧ Below w.heap.size w w' := by
  go_enter Tryd.func54, Tryd.ntmps54
  go_wp2_with fail
  go_ret
  refine ⟨_, rfl, ⟨some ⟨w.heap.size + 1, 0, none⟩, 7, rfl, by simp [conNums], by unfold maxLen; omega, fun _ => ⟨w.heap.size + 1, 0, rfl, by simp, fun j hj => ?_⟩⟩, by (repeat' (first | (with_reducible exact Below.refl _ _) | (with_reducible refine Below.alloc ?_ ?_ _) | (with_reducible refine Below.drew ?_) | (with_reducible refine below_drewN ?_ _) | (with_reducible refine Below.setCell ?_ ?_ _) | (with_reducible refine Below.trans ?_ (Below.mono (by assumption) ?_)) | (with_reducible exact Nat.le_refl _) | omega | (simp; omega) | (simp; done)))⟩
  match j, hj with
  | 0, _ => simp [go_sem, conNums]
  | 1, _ => simp [go_sem, conNums]
  | 2, _ => simp [go_sem, conNums]
  | 3, _ => simp [go_sem, conNums]
  | 4, _ => simp [go_sem, conNums]
  | 5, _ => simp [go_sem, conNums]
  | 6, _ => simp [go_sem, conNums]
  | j + 7, hj => simp [conNums] at hj; omega
set_option maxHeartbeats 1000000 in
theorem rline_any (word : List UInt8) (hw : word.length ≤ 20) (v : Value) (ns : List Int) (hn : Okn ns) (w : World) (hv : Ints w w.heap.size v ns) : Calls Tryd.prog 53 #[.string ⟨word.toArray⟩, v] w fun e w' => e = .returned (.string (lineS word ns)) ∧ Below w.heap.size w w' := by
  obtain ⟨A, c, rfl, hc, hm, hA⟩ := hv
  unfold maxLen at hm
  have HA := Lib.hid hA
  have HZ := Lib.hid (lnS_zero word ns)
  have HSz := Lib.hid (fun k hk => lnS_size hw hn (k := k) hk)
  have HN := Lib.hid hn.2
  have h7 := hn.1
  have HL := Lib.hid (lineS_eq word ns)
  clear hA hn hw
  rw [← HZ.out]
  go_enter Tryd.func53, Tryd.ntmps53
  go_wp2_with fail
  go_loopw [0, 5] (fun s i wr => ∃ k : Nat, k ≤ ns.length ∧ i = .int .i64 k ∧ s = .string (lnS word ns k) ∧ Below w.heap.size w wr) (fun _ i _ => ns.length - (intOf i).toNat)
  case atStart => exact ⟨0, by omega, rfl, rfl, Below.refl _ _⟩
  case round =>
    obtain ⟨k, hk, rfl, rfl, hB⟩ := hrel
    have hz := hB.size
    have hs1 := HSz.out k hk
    by_cases hlt : k < ns.length
    · obtain ⟨b, o, rfl, hb, hcell⟩ := HA.out (by omega)
      have hx := (hB.cell (p := ⟨b, o + k, none⟩) hb).trans (hcell k hlt)
      have hn1 := (HN.out k hlt).1
      have hn2 := (HN.out k hlt).2
      have HS := Lib.hid (lnS_succ' word ns k)
      clear hcell
      generalize ns.getD k 0 = n at *
      have hs2 := itoaS_size hn1 hn2
      go_wp2_with fail
      obtain ⟨m, rfl⟩ := Int.eq_ofNat_of_zero_le hn1
      refine (decimal_any m (by omega) _).mono ?_
      rintro e w1 ⟨rfl, hb1⟩
      have hB1 := bt' hB hb1 hz
      clear hb1
      go_wp2_with fail
      go_roundw
      case rel => exact ⟨k + 1, by omega, by go_num, by rw [HS.out], hB1⟩
      case measure => simp [intOf]; omega
    · obtain rfl : k = ns.length := by omega
      go_wp2_with fail
      go_ret
      exact ⟨by rw [HL.out]; rfl, hB⟩
end Go.Proofs.YtgnlanfpholdaaaDoor

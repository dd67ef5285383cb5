/- The reference's text of an entry. -/
import Derived.Test.YtekpnphfdoplfaaDoorB2
import Derived.Lib.ItoaNum
namespace Go.Proofs.YtekpnphfdoplfaaDoor
open Go.RowKit
theorem mk_size (l : List UInt8) : (ByteArray.mk l.toArray).size = l.length := by show l.toArray.size = _; simp
def itoaS (n : Int) : ByteArray := ⟨(Lib.itoa n).toArray⟩
theorem itoa_len {n : Int} (h0 : 0 ≤ n) (h1 : n ≤ 1152921504606846976) : (Lib.itoa n).length ≤ 21 := Lib.itoa_length_le n (by omega) (by omega)
theorem itoaS_size {n : Int} (h0 : 0 ≤ n) (h1 : n ≤ 1152921504606846976) : (itoaS n).size ≤ 21 := by rw [itoaS, mk_size]; exact itoa_len h0 h1
theorem dec_pre {m : Nat} (h : 10 ≤ m) : Lib.decDigits m = Lib.decDigits (m / 10) ++ [UInt8.ofNat (48 + m % 10)] := by rw [Lib.decDigits, dif_neg (by omega)]
/-- what stands ahead of the last digit -/
def preD (m : Nat) : List UInt8 := if m < 10 then [] else Lib.decDigits (m / 10)
theorem preD_eq (m : Nat) : Lib.decDigits m = preD m ++ [UInt8.ofNat (48 + m % 10)] := by
  unfold preD
  by_cases h : m < 10
  · rw [if_pos h, Lib.decDigits_one h, Nat.mod_eq_of_lt h]; rfl
  · rw [if_neg h, dec_pre (by omega)]
/-- what Decimal has made -/
def DecS (n m : Nat) (s : ByteArray) : Prop := ∃ tl : List UInt8, s = ⟨tl.toArray⟩ ∧ Lib.decDigits n = preD m ++ tl ∧ tl.length ≤ 21
theorem DecS.first (n : Nat) (x : UInt8) (hx : x = UInt8.ofNat (48 + n % 10)) : DecS n n ⟨#[x]⟩ := ⟨[x], rfl, by rw [hx]; exact preD_eq n, by simp⟩
theorem DecS.next {n m : Nat} {s : ByteArray} (h : DecS n m s) (hn : n ≤ 1152921504606846976) (hm : 10 ≤ m) (x : UInt8) (hx : x = UInt8.ofNat (48 + m / 10 % 10)) : DecS n (m / 10) (⟨#[x]⟩ ++ s) := by
  obtain ⟨tl, rfl, e, _⟩ := h
  have e2 : Lib.decDigits n = preD (m / 10) ++ (x :: tl) := by
    rw [e, preD, if_neg (by omega), preD_eq (m / 10), hx]; simp
  refine ⟨x :: tl, ByteArray.mk_append_mk [_] tl, e2, ?_⟩
  have := itoa_len (n := (n : Int)) (by omega) (by omega)
  rw [Lib.itoa_nonneg, e2, List.length_append] at this
  omega
theorem DecS.size {n m : Nat} {s : ByteArray} (h : DecS n m s) : s.size ≤ 21 := by
  obtain ⟨tl, rfl, _, h⟩ := h
  rw [mk_size]; exact h
theorem DecS.last {n m : Nat} {s : ByteArray} (h : DecS n m s) (hm : m < 10) : s = itoaS n := by
  obtain ⟨tl, rfl, e, _⟩ := h
  rw [preD, if_pos hm, List.nil_append] at e
  rw [itoaS, Lib.itoa_nonneg, e]
theorem conv1 (W0 : World) (b : Nat) (hb : b = W0.heap.size) (x : Int) : (convert 59 9 (.slice (some ⟨b, 0, none⟩) 1 1)).run Tryd.prog (W0.alloc (Obj.cells #[.int .u8 x] 5)) = .ok (.string ⟨#[UInt8.ofNat x.toNat]⟩) (W0.alloc (Obj.cells #[.int .u8 x] 5)) := by
  subst hb
  have := run_convert_bytes_arg (P := Tryd.prog) (w := W0.alloc (Obj.cells #[.int .u8 x] 5)) 59 5 Tryd.underlying59 Tryd.underlying5 W0.heap.size 0 1 1 [x] rfl (fun i hi => by
    obtain rfl : i = 0 := by omega
    simp [go_sem]) 9 Tryd.underlying9
  exact this
set_option maxHeartbeats 1000000 in
set_option maxRecDepth 100000 in
theorem decimal_any (n : Nat) (hn : n ≤ 1152921504606846976) (w : World) : Calls Tryd.prog 58 #[.int .i64 n] w fun e w' => e = .returned (.string (itoaS n)) ∧ Below w.heap.size w w' := by
  have h1 : (0 : Int) ≤ n := by omega
  have h2 : (n : Int) ≤ 1152921504606846976 := by omega
  have v1 := conv1 w w.heap.size rfl (48 + (n : Int) % 10)
  go_enter Tryd.func58, Tryd.ntmps58
  go_wp2_with fail
  clear v1
  go_loopw [0, 3] (fun i s wr => ∃ (m : Nat) (t : ByteArray), m ≤ 1152921504606846976 ∧ i = .int .i64 m ∧ s = .string t ∧ DecS n m t ∧ Below w.heap.size w wr) (fun i _ _ => (intOf i).toNat)
  case atStart => exact ⟨n, _, hn, rfl, rfl, DecS.first n _ (by first | rfl | (congr 1; omega) | simp), by (repeat' (first | (with_reducible exact Below.refl _ _) | (with_reducible refine Below.alloc ?_ ?_ _) | (with_reducible refine Below.drew ?_) | (with_reducible refine below_drewN ?_ _) | (with_reducible refine Below.setCell ?_ ?_ _) | (with_reducible refine Below.trans ?_ (Below.mono (by assumption) ?_)) | (with_reducible exact Nat.le_refl _) | omega | (simp; omega) | (simp; done)))⟩
  case round =>
    obtain ⟨m, t, hm, rfl, rfl, hD, hB⟩ := hrel
    have g0 : (0 : Int) ≤ m := by omega
    have g1 : (m : Int) ≤ 1152921504606846976 := by omega
    have ht := hD.size
    have HD := Lib.hid hD
    clear hD
    have hz := hB.size
    by_cases hlt : m < 10
    · have HL := Lib.hid (HD.out.last hlt)
      have g2 : ¬ (10 : Int) ≤ m := by omega
      go_wp2_with fail
      go_ret
      exact ⟨by rw [← HL.out]; rfl, hB⟩
    · have g2 : (10 : Int) ≤ m := by omega
      have v2 := conv1 wr wr.heap.size rfl (48 + (m : Int) / 10 % 10)
      go_wp2_with fail
      go_roundw
      case rel => exact ⟨m / 10, _, by omega, by go_num, rfl, HD.out.next hn (by omega) _ (by first | rfl | (simp; done) | (simp [UInt8.ofNat_add]; done) | (congr 1; omega)), hB.alloc hz _⟩
      case measure => simp [intOf]; omega
theorem rdec_any (n : Int) (h0 : 0 ≤ n) (h1 : n ≤ 1152921504606846976) (w : World) : Calls Tryd.prog 58 #[.int .i64 n] w fun e w' => e = .returned (.string (itoaS n)) ∧ Below w.heap.size w w' := by
  obtain ⟨m, rfl⟩ : ∃ m : Nat, n = m := ⟨n.toNat, by omega⟩
  exact decimal_any m (by omega) w
def partL (wd : List UInt8) (n : Int) : List UInt8 := if n = -1 then [] else 32 :: (wd ++ 32 :: Lib.itoa n)
def partS (wd : List UInt8) (n : Int) : ByteArray := ⟨(partL wd n).toArray⟩
theorem partS_size {wd : List UInt8} {n : Int} (hw : wd.length ≤ 10) (h : n = -1 ∨ 0 ≤ n ∧ n ≤ 1152921504606846976) : (partS wd n).size ≤ 40 := by
  rw [partS, mk_size, partL]
  split
  · simp
  · rename_i h2
    have := itoa_len (n := n) (by omega) (by omega)
    simp; omega
theorem partS_eq {wd : List UInt8} {n : Int} (h : ¬ n = -1) : partS wd n = ⟨#[32]⟩ ++ ⟨wd.toArray⟩ ++ ⟨#[32]⟩ ++ itoaS n := by
  have e : (ByteArray.mk #[32] ++ ByteArray.mk wd.toArray) = ⟨([32] ++ wd).toArray⟩ := ByteArray.mk_append_mk [32] wd
  have e2 : (ByteArray.mk ([32] ++ wd).toArray ++ ByteArray.mk #[32]) = ⟨(([32] ++ wd) ++ [32]).toArray⟩ := ByteArray.mk_append_mk _ [32]
  rw [e, e2, itoaS, ByteArray.mk_append_mk, partS, partL, if_neg h]
  simp
theorem rpart_any (wd : List UInt8) (n : Int) (hw : wd.length ≤ 10) (h : n = -1 ∨ 0 ≤ n ∧ n ≤ 1152921504606846976) (w : World) : Calls Tryd.prog 59 #[.string ⟨wd.toArray⟩, .int .i64 n] w fun e w' => e = .returned (.string (partS wd n)) ∧ Below w.heap.size w w' := by
  by_cases h1 : n = -1
  · subst h1
    have HT : Hid (partS wd (-1) = ⟨#[]⟩) := by show _ = _; simp [partS, partL]
    go_enter Tryd.func59, Tryd.ntmps59
    go_wp2_with fail
    go_ret
    exact ⟨by rw [HT.out]; rfl, by (repeat' (first | (with_reducible exact Below.refl _ _) | (with_reducible refine Below.alloc ?_ ?_ _) | (with_reducible refine Below.drew ?_) | (with_reducible refine below_drewN ?_ _) | (with_reducible refine Below.setCell ?_ ?_ _) | (with_reducible refine Below.trans ?_ (Below.mono (by assumption) ?_)) | (with_reducible exact Nat.le_refl _) | omega | (simp; omega) | (simp; done)))⟩
  · have h2 : 0 ≤ n := by omega
    have h3 : n ≤ 1152921504606846976 := by omega
    have HT := Lib.hid (partS_eq (wd := wd) h1)
    have hb : (n == -1) = false := by simpa using h1
    have hs := itoaS_size h2 h3
    have hz : (⟨wd.toArray⟩ : ByteArray).size ≤ 10 := by rw [mk_size]; exact hw
    have HD := Lib.hid (rdec_any n h2 h3)
    clear h h1 hw
    generalize (⟨wd.toArray⟩ : ByteArray) = wb at *
    generalize itoaS n = D at *
    have g1 : ¬ 9223372036854775807 < 1 + wb.size := by omega
    have g2 : ¬ 9223372036854775807 < 1 + wb.size + 1 := by omega
    have g3 : ¬ 9223372036854775807 < 1 + wb.size + 1 + D.size := by omega
    go_enter Tryd.func59, Tryd.ntmps59
    go_wp2_with fail
    refine (HD.out _).mono ?_
    rintro e w1 ⟨rfl, hb1⟩
    go_wp2_with fail
    go_ret
    exact ⟨by rw [HT.out]; rfl, hb1⟩
/-- the words of the kinds, in memory -/
def wordC : Array Value := #[.string ⟨#[]⟩, .string ⟨#[97, 99, 99, 101, 112, 116, 101, 100]⟩, .string ⟨#[114, 101, 102, 117, 115, 101, 100]⟩, .string ⟨#[109, 111, 118, 101, 100]⟩, .string ⟨#[100, 114, 111, 112, 112, 101, 100]⟩, .string ⟨#[98, 101, 103, 97, 110]⟩, .string ⟨#[115, 116, 111, 114, 101, 100]⟩, .string ⟨#[100, 101, 108, 105, 118, 101, 114, 101, 100]⟩, .string ⟨#[100, 117, 112, 108, 105, 99, 97, 116, 101]⟩, .string ⟨#[114, 101, 106, 101, 99, 116, 101, 100]⟩, .string ⟨#[109, 105, 115, 115, 101, 100]⟩, .string ⟨#[108, 111, 115, 116]⟩, .string ⟨#[114, 101, 109, 111, 118, 101, 100]⟩, .string ⟨#[101, 120, 112, 105, 114, 101, 100]⟩, .string ⟨#[99, 114, 97, 115, 104, 101, 100]⟩, .string ⟨#[114, 101, 115, 116, 97, 114, 116, 101, 100]⟩, .string ⟨#[114, 101, 112, 108, 97, 110, 110, 101, 100]⟩, .string ⟨#[115, 116, 117, 99, 107]⟩]
set_option maxRecDepth 100000 in
set_option maxHeartbeats 4000000 in
theorem rwords_any (w : World) : Calls Tryd.prog 54 #[] w fun e w' => e = .returned (.slice (some ⟨w.heap.size, 0, none⟩) 18 18) ∧ w' = w.alloc (.cells wordC 9) := by
  go_enter Tryd.func54, Tryd.ntmps54
  go_wp2_with fail
  go_ret
  exact ⟨rfl, rfl⟩
theorem wordC_get {k : Int} (h1 : 1 ≤ k) (h2 : k ≤ 17) : wordC[k.toNat]? = some (.string ⟨(wordL k).toArray⟩) := by
  rcases kinds_cases h1 h2 with rfl | rfl | rfl | rfl | rfl | rfl | rfl | rfl | rfl | rfl | rfl | rfl | rfl | rfl | rfl | rfl | rfl <;> rfl
def wordS (k : Int) : ByteArray := ⟨(wordL k).toArray⟩
theorem join_more (a b : List UInt8) (r : List (List UInt8)) : Lib.join (a :: b :: r) [32] = a ++ ([32] ++ b) ++ Lib.joinTail [32] r := by
  rw [Lib.join_cons]; simp [Lib.joinTail]
theorem tail_part (f : Fld) (h : fldB f.n f.has f.most = true) : Lib.joinTail [32] (fwL f) = partL f.wd f.n := by
  unfold fwL partL
  cases hh : f.has
  · rw [hh] at h; simp [fldB] at h; simp [Lib.joinTail, h]
  · rw [hh] at h; simp [fldB] at h
    have hn : ¬ f.n = -1 := by omega
    simp [Lib.joinTail, hn]
theorem joinTail_app (a b : List (List UInt8)) : Lib.joinTail [32] (a ++ b) = Lib.joinTail [32] a ++ Lib.joinTail [32] b := by simp [Lib.joinTail]
theorem textL_eq {x : Ent} (h : entE x = 0) : textL x = Lib.itoa x.t ++ ([32] ++ wordL x.k) ++ (partL nodeW x.n ++ (partL ticketW x.j ++ (partL contactW x.c ++ partL valueW x.v))) ++ [10] := by
  obtain ⟨_, _, _, _, h1, h2, h3, h4⟩ := entE_ok h
  have e : wordsL x = Lib.itoa x.t :: wordL x.k :: (fwL ⟨nodeW, 2, x.n, 15, hasN x.k⟩ ++ (fwL ⟨ticketW, 3, x.j, 1152921504606846976, hasJ x.k⟩ ++ (fwL ⟨contactW, 4, x.c, 63, hasC x.k⟩ ++ (fwL ⟨valueW, 5, x.v, 1152921504606846976, hasV x.k⟩ ++ [])))) := rfl
  rw [textL, e, List.append_nil, join_more, joinTail_app, joinTail_app, joinTail_app, tail_part _ h1, tail_part _ h2, tail_part _ h3, tail_part _ h4]
theorem textS_eq {x : Ent} (h : entE x = 0) : itoaS x.t ++ ⟨#[32]⟩ ++ wordS x.k ++ partS nodeW x.n ++ partS ticketW x.j ++ partS contactW x.c ++ partS valueW x.v ++ ⟨#[10]⟩ = (⟨(textL x).toArray⟩ : ByteArray) := by
  rw [textL_eq h, itoaS, wordS, partS, partS, partS, partS]
  have e1 : (ByteArray.mk (Lib.itoa x.t).toArray ++ ByteArray.mk #[32]) = ⟨(Lib.itoa x.t ++ [32]).toArray⟩ := ByteArray.mk_append_mk _ [32]
  rw [e1, ByteArray.mk_append_mk _ (wordL x.k), ByteArray.mk_append_mk _ (partL nodeW x.n), ByteArray.mk_append_mk _ (partL ticketW x.j), ByteArray.mk_append_mk _ (partL contactW x.c), ByteArray.mk_append_mk _ (partL valueW x.v)]
  have e2 : ∀ l : List UInt8, (ByteArray.mk l.toArray ++ ByteArray.mk #[10]) = ⟨(l ++ [10]).toArray⟩ := fun l => ByteArray.mk_append_mk l [10]
  rw [e2]
  simp
theorem fldB_or {n most : Int} {b : Bool} (h : fldB n b most = true) (hm : most ≤ 1152921504606846976) : n = -1 ∨ 0 ≤ n ∧ n ≤ 1152921504606846976 := by
  cases b <;> simp [fldB] at h <;> omega
set_option maxRecDepth 100000 in
set_option maxHeartbeats 8000000 in
theorem rtext_any (x : Ent) (w : World) (hE : entE x = 0) : Calls Tryd.prog 37 #[.agg #[.int .i64 x.t, .int .i64 x.k, .int .i64 x.n, .int .i64 x.j, .int .i64 x.c, .int .i64 x.v]] w fun e w' => e = .returned (.string ⟨(textL x).toArray⟩) ∧ Below w.heap.size w w' := by
  have HT := Lib.hid (textS_eq hE)
  obtain ⟨hk1, hk2, ht1, ht2, h1, h2, h3, h4⟩ := entE_ok hE
  have HD := Lib.hid (rdec_any x.t ht1 (by omega))
  have HP1 := Lib.hid (rpart_any nodeW x.n (by decide) (fldB_or h1 (by omega)))
  have HP2 := Lib.hid (rpart_any ticketW x.j (by decide) (fldB_or h2 (by omega)))
  have HP3 := Lib.hid (rpart_any contactW x.c (by decide) (fldB_or h3 (by omega)))
  have HP4 := Lib.hid (rpart_any valueW x.v (by decide) (fldB_or h4 (by omega)))
  have s0 := itoaS_size ht1 (show x.t ≤ 1152921504606846976 by omega)
  have s1 := partS_size (wd := nodeW) (by decide) (fldB_or h1 (by omega))
  have s2 := partS_size (wd := ticketW) (by decide) (fldB_or h2 (by omega))
  have s3 := partS_size (wd := contactW) (by decide) (fldB_or h3 (by omega))
  have s4 := partS_size (wd := valueW) (by decide) (fldB_or h4 (by omega))
  have sw : (wordS x.k).size ≤ 10 := by rw [wordS, mk_size]; exact wordL_le hk1 hk2
  have HWG : Hid (wordC[x.k.toNat]? = some (.string (wordS x.k))) := wordC_get hk1 hk2
  have hk0 : (0 : Int) ≤ x.k := by omega
  have hk18 : x.k < 18 := by omega
  clear hE h1 h2 h3 h4 ht1 ht2 hk1 hk2
  generalize itoaS x.t = Dt at *
  generalize wordS x.k = Wd at *
  generalize partS nodeW x.n = P1 at *
  generalize partS ticketW x.j = P2 at *
  generalize partS contactW x.c = P3 at *
  generalize partS valueW x.v = P4 at *
  have k1 : ¬ 9223372036854775807 < Dt.size + 1 := by omega
  have k2 : ¬ 9223372036854775807 < Dt.size + 1 + Wd.size := by omega
  have k3 : ¬ 9223372036854775807 < Dt.size + 1 + Wd.size + P1.size := by omega
  have k4 : ¬ 9223372036854775807 < Dt.size + 1 + Wd.size + P1.size + P2.size := by omega
  have k5 : ¬ 9223372036854775807 < Dt.size + 1 + Wd.size + P1.size + P2.size + P3.size := by omega
  have k6 : ¬ 9223372036854775807 < Dt.size + 1 + Wd.size + P1.size + P2.size + P3.size + P4.size := by omega
  have k7 : ¬ 9223372036854775807 < Dt.size + 1 + Wd.size + P1.size + P2.size + P3.size + P4.size + 1 := by omega
  go_enter Tryd.func37, Tryd.ntmps37
  go_wp2_with fail
  have c0 : (w.alloc (.cells #[.int .i64 x.t, .int .i64 x.k, .int .i64 x.n, .int .i64 x.j, .int .i64 x.c, .int .i64 x.v] 37)).cell? ⟨w.heap.size, 0, none⟩ = some (.int .i64 x.t) := by simp [go_sem]
  have c1 : (w.alloc (.cells #[.int .i64 x.t, .int .i64 x.k, .int .i64 x.n, .int .i64 x.j, .int .i64 x.c, .int .i64 x.v] 37)).cell? ⟨w.heap.size, 1, none⟩ = some (.int .i64 x.k) := by simp [go_sem]
  have c2 : (w.alloc (.cells #[.int .i64 x.t, .int .i64 x.k, .int .i64 x.n, .int .i64 x.j, .int .i64 x.c, .int .i64 x.v] 37)).cell? ⟨w.heap.size, 2, none⟩ = some (.int .i64 x.n) := by simp [go_sem]
  have c3 : (w.alloc (.cells #[.int .i64 x.t, .int .i64 x.k, .int .i64 x.n, .int .i64 x.j, .int .i64 x.c, .int .i64 x.v] 37)).cell? ⟨w.heap.size, 3, none⟩ = some (.int .i64 x.j) := by simp [go_sem]
  have c4 : (w.alloc (.cells #[.int .i64 x.t, .int .i64 x.k, .int .i64 x.n, .int .i64 x.j, .int .i64 x.c, .int .i64 x.v] 37)).cell? ⟨w.heap.size, 4, none⟩ = some (.int .i64 x.c) := by simp [go_sem]
  have c5 : (w.alloc (.cells #[.int .i64 x.t, .int .i64 x.k, .int .i64 x.n, .int .i64 x.j, .int .i64 x.c, .int .i64 x.v] 37)).cell? ⟨w.heap.size, 5, none⟩ = some (.int .i64 x.v) := by simp [go_sem]
  have hl : w.heap.size < (w.alloc (.cells #[.int .i64 x.t, .int .i64 x.k, .int .i64 x.n, .int .i64 x.j, .int .i64 x.c, .int .i64 x.v] 37)).heap.size := by simp
  have hbw : Below w.heap.size w (w.alloc (.cells #[.int .i64 x.t, .int .i64 x.k, .int .i64 x.n, .int .i64 x.j, .int .i64 x.c, .int .i64 x.v] 37)) := (Below.refl _ w).alloc (Nat.le_refl _) _
  have hsz : (w.alloc (.cells #[.int .i64 x.t, .int .i64 x.k, .int .i64 x.n, .int .i64 x.j, .int .i64 x.c, .int .i64 x.v] 37)).heap.size = w.heap.size + 1 := by simp
  generalize (w.alloc (.cells #[.int .i64 x.t, .int .i64 x.k, .int .i64 x.n, .int .i64 x.j, .int .i64 x.c, .int .i64 x.v] 37)) = v0 at *
  have hd0 : Below v0.heap.size v0 v0.drew := Below.drew (Below.refl _ _)
  refine wp_region_held_drew (S := fun w' => w'.cell? ⟨w.heap.size, 0, none⟩ = some (.int .i64 x.t) ∧ w'.cell? ⟨w.heap.size, 1, none⟩ = some (.int .i64 x.k) ∧ w'.cell? ⟨w.heap.size, 2, none⟩ = some (.int .i64 x.n) ∧ w'.cell? ⟨w.heap.size, 3, none⟩ = some (.int .i64 x.j) ∧ w'.cell? ⟨w.heap.size, 4, none⟩ = some (.int .i64 x.c) ∧ w'.cell? ⟨w.heap.size, 5, none⟩ = some (.int .i64 x.v)) (by kernel_rfl) ⟨c0, c1, c2, c3, c4, c5⟩ (fun hHeld => ?_)
  generalize hX0 : v0.drew = vd at *
  clear hX0
  (refine wpAnyH_take (i := 0) (v := ?_) rfl (by kernel_rfl) (by kernel_rfl) (by kernel_rfl) (fun _ _ _ h => h) (Or.inl ⟨by kernel_rfl, fun w0 hSw => ?_⟩) hHeld ?_; rotate_left; (focus ((try dsimp only at hSw); simp only [List.getElem_toArray, List.getElem_cons_zero]; (first | (go_simp; done) | (go_simp; with_reducible rfl)))); (try simp only [List.getElem_toArray, List.getElem_cons_zero, Act.put, List.setIfInBounds_toArray, List.set_cons_zero, List.set_cons_succ]))
  (refine wpAnyH_take (i := 1) (v := ?_) rfl (by kernel_rfl) (by kernel_rfl) (by kernel_rfl) (fun _ _ _ h => h) (Or.inl ⟨by kernel_rfl, fun w0 hSw => ?_⟩) hHeld ?_; rotate_left; (focus ((try dsimp only at hSw); simp only [List.getElem_toArray, List.getElem_cons_zero, List.getElem_cons_succ]; (first | (go_simp; done) | (go_simp; with_reducible rfl)))); (try simp only [List.getElem_toArray, List.getElem_cons_zero, List.getElem_cons_succ, Act.put, List.setIfInBounds_toArray, List.set_cons_zero, List.set_cons_succ]))
  (refine wpAnyH_take (i := 5) (v := ?_) rfl (by kernel_rfl) (by kernel_rfl) (by kernel_rfl) (fun _ _ _ h => h) (Or.inl ⟨by kernel_rfl, fun w0 hSw => ?_⟩) hHeld ?_; rotate_left; (focus ((try dsimp only at hSw); simp only [List.getElem_toArray, List.getElem_cons_zero, List.getElem_cons_succ]; (first | (go_simp; done) | (go_simp; with_reducible rfl)))); (try simp only [List.getElem_toArray, List.getElem_cons_zero, List.getElem_cons_succ, Act.put, List.setIfInBounds_toArray, List.set_cons_zero, List.set_cons_succ]))
  (refine wpAnyH_take (i := 6) (v := ?_) rfl (by kernel_rfl) (by kernel_rfl) (by kernel_rfl) (fun _ _ _ h => h) (Or.inl ⟨by kernel_rfl, fun w0 hSw => ?_⟩) hHeld ?_; rotate_left; (focus ((try dsimp only at hSw); simp only [List.getElem_toArray, List.getElem_cons_zero, List.getElem_cons_succ]; (first | (go_simp; done) | (go_simp; with_reducible rfl)))); (try simp only [List.getElem_toArray, List.getElem_cons_zero, List.getElem_cons_succ, Act.put, List.setIfInBounds_toArray, List.set_cons_zero, List.set_cons_succ]))
  (refine wpAnyH_take (i := 10) (v := ?_) rfl (by kernel_rfl) (by kernel_rfl) (by kernel_rfl) (fun _ _ _ h => h) (Or.inl ⟨by kernel_rfl, fun w0 hSw => ?_⟩) hHeld ?_; rotate_left; (focus ((try dsimp only at hSw); simp only [List.getElem_toArray, List.getElem_cons_zero, List.getElem_cons_succ]; (first | (go_simp; done) | (go_simp; with_reducible rfl)))); (try simp only [List.getElem_toArray, List.getElem_cons_zero, List.getElem_cons_succ, Act.put, List.setIfInBounds_toArray, List.set_cons_zero, List.set_cons_succ]))
  (refine wpAnyH_take (i := 11) (v := ?_) rfl (by kernel_rfl) (by kernel_rfl) (by kernel_rfl) (fun _ _ _ h => h) (Or.inl ⟨by kernel_rfl, fun w0 hSw => ?_⟩) hHeld ?_; rotate_left; (focus ((try dsimp only at hSw); simp only [List.getElem_toArray, List.getElem_cons_zero, List.getElem_cons_succ]; (first | (go_simp; done) | (go_simp; with_reducible rfl)))); (try simp only [List.getElem_toArray, List.getElem_cons_zero, List.getElem_cons_succ, Act.put, List.setIfInBounds_toArray, List.set_cons_zero, List.set_cons_succ]))
  (refine wpAnyH_take (i := 14) (v := ?_) rfl (by kernel_rfl) (by kernel_rfl) (by kernel_rfl) (fun _ _ _ h => h) (Or.inl ⟨by kernel_rfl, fun w0 hSw => ?_⟩) hHeld ?_; rotate_left; (focus ((try dsimp only at hSw); simp only [List.getElem_toArray, List.getElem_cons_zero, List.getElem_cons_succ]; (first | (go_simp; done) | (go_simp; with_reducible rfl)))); (try simp only [List.getElem_toArray, List.getElem_cons_zero, List.getElem_cons_succ, Act.put, List.setIfInBounds_toArray, List.set_cons_zero, List.set_cons_succ]))
  (refine wpAnyH_take (i := 15) (v := ?_) rfl (by kernel_rfl) (by kernel_rfl) (by kernel_rfl) (fun _ _ _ h => h) (Or.inl ⟨by kernel_rfl, fun w0 hSw => ?_⟩) hHeld ?_; rotate_left; (focus ((try dsimp only at hSw); simp only [List.getElem_toArray, List.getElem_cons_zero, List.getElem_cons_succ]; (first | (go_simp; done) | (go_simp; with_reducible rfl)))); (try simp only [List.getElem_toArray, List.getElem_cons_zero, List.getElem_cons_succ, Act.put, List.setIfInBounds_toArray, List.set_cons_zero, List.set_cons_succ]))
  (refine wpAnyH_take (i := 18) (v := ?_) rfl (by kernel_rfl) (by kernel_rfl) (by kernel_rfl) (fun _ _ _ h => h) (Or.inl ⟨by kernel_rfl, fun w0 hSw => ?_⟩) hHeld ?_; rotate_left; (focus ((try dsimp only at hSw); simp only [List.getElem_toArray, List.getElem_cons_zero, List.getElem_cons_succ]; (first | (go_simp; done) | (go_simp; with_reducible rfl)))); (try simp only [List.getElem_toArray, List.getElem_cons_zero, List.getElem_cons_succ, Act.put, List.setIfInBounds_toArray, List.set_cons_zero, List.set_cons_succ]))
  (refine wpAnyH_take (i := 19) (v := ?_) rfl (by kernel_rfl) (by kernel_rfl) (by kernel_rfl) (fun _ _ _ h => h) (Or.inl ⟨by kernel_rfl, fun w0 hSw => ?_⟩) hHeld ?_; rotate_left; (focus ((try dsimp only at hSw); simp only [List.getElem_toArray, List.getElem_cons_zero, List.getElem_cons_succ]; (first | (go_simp; done) | (go_simp; with_reducible rfl)))); (try simp only [List.getElem_toArray, List.getElem_cons_zero, List.getElem_cons_succ, Act.put, List.setIfInBounds_toArray, List.set_cons_zero, List.set_cons_succ]))
  (refine wpAnyH_take (i := 22) (v := ?_) rfl (by kernel_rfl) (by kernel_rfl) (by kernel_rfl) (fun _ _ _ h => h) (Or.inl ⟨by kernel_rfl, fun w0 hSw => ?_⟩) hHeld ?_; rotate_left; (focus ((try dsimp only at hSw); simp only [List.getElem_toArray, List.getElem_cons_zero, List.getElem_cons_succ]; (first | (go_simp; done) | (go_simp; with_reducible rfl)))); (try simp only [List.getElem_toArray, List.getElem_cons_zero, List.getElem_cons_succ, Act.put, List.setIfInBounds_toArray, List.set_cons_zero, List.set_cons_succ]))
  (refine wpAnyH_take (i := 23) (v := ?_) rfl (by kernel_rfl) (by kernel_rfl) (by kernel_rfl) (fun _ _ _ h => h) (Or.inl ⟨by kernel_rfl, fun w0 hSw => ?_⟩) hHeld ?_; rotate_left; (focus ((try dsimp only at hSw); simp only [List.getElem_toArray, List.getElem_cons_zero, List.getElem_cons_succ]; (first | (go_simp; done) | (go_simp; with_reducible rfl)))); (try simp only [List.getElem_toArray, List.getElem_cons_zero, List.getElem_cons_succ, Act.put, List.setIfInBounds_toArray, List.set_cons_zero, List.set_cons_succ]))
  refine wpAnyH_ready (rs := [2]) (by kernel_rfl) (by simp) ?_
  refine (AllReadyH.cons rfl (fun K hK => ?_) AllReadyH.nil)
  simp only [List.getElem_toArray, List.getElem_cons_zero, List.getElem_cons_succ]
  go_simp
  refine (HD.out _).mono ?_
  rintro e v1 ⟨rfl, hb1⟩
  have hd1 := hd0.trans (hb1.mono hd0.size)
  clear hb1
  go_wp2_with fail
  refine hK.out _ _ ⟨(hd1.cell (p := ⟨w.heap.size, 0, none⟩) hl).trans c0, (hd1.cell (p := ⟨w.heap.size, 1, none⟩) hl).trans c1, (hd1.cell (p := ⟨w.heap.size, 2, none⟩) hl).trans c2, (hd1.cell (p := ⟨w.heap.size, 3, none⟩) hl).trans c3, (hd1.cell (p := ⟨w.heap.size, 4, none⟩) hl).trans c4, (hd1.cell (p := ⟨w.heap.size, 5, none⟩) hl).trans c5⟩ (fun hHeld => ?_)
  clear hK K
  (try simp only [List.getElem_toArray, List.getElem_cons_zero, List.getElem_cons_succ, Act.put, List.setIfInBounds_toArray, List.set_cons_zero, List.set_cons_succ])
  (refine wpAnyH_take (i := 3) (v := ?_) rfl (by kernel_rfl) (by kernel_rfl) (by kernel_rfl) (fun _ _ _ h => h) (Or.inl ⟨by kernel_rfl, fun w0 hSw => ?_⟩) hHeld ?_; rotate_left; (focus ((try dsimp only at hSw); simp only [List.getElem_toArray, List.getElem_cons_zero, List.getElem_cons_succ]; (first | (go_simp; done) | (go_simp; with_reducible rfl)))); (try simp only [List.getElem_toArray, List.getElem_cons_zero, List.getElem_cons_succ, Act.put, List.setIfInBounds_toArray, List.set_cons_zero, List.set_cons_succ]))
  refine wpAnyH_ready (rs := [4]) (by kernel_rfl) (by simp) ?_
  refine (AllReadyH.cons rfl (fun K hK => ?_) AllReadyH.nil)
  simp only [List.getElem_toArray, List.getElem_cons_zero, List.getElem_cons_succ]
  go_simp
  refine (rwords_any v1).mono ?_
  rintro e v2 ⟨rfl, hv2⟩
  have hd2 : Below v0.heap.size v0 v2 := by rw [hv2]; exact hd1.alloc hd1.size _
  have hwd2 : v2.heap[v1.heap.size]? = some (.cells wordC 9 (0, 0)) := by rw [hv2]; exact heap_alloc_last v1 _
  have hwl : v1.heap.size < v2.heap.size := blk_lt hwd2
  have hsz2 : v2.heap.size ≤ v2.heap.size := Nat.le_refl _
  clear hv2
  generalize v1.heap.size = wb at *
  go_wp2_with fail
  refine hK.out _ _ ⟨(hd2.cell (p := ⟨w.heap.size, 0, none⟩) hl).trans c0, (hd2.cell (p := ⟨w.heap.size, 1, none⟩) hl).trans c1, (hd2.cell (p := ⟨w.heap.size, 2, none⟩) hl).trans c2, (hd2.cell (p := ⟨w.heap.size, 3, none⟩) hl).trans c3, (hd2.cell (p := ⟨w.heap.size, 4, none⟩) hl).trans c4, (hd2.cell (p := ⟨w.heap.size, 5, none⟩) hl).trans c5⟩ (fun hHeld => ?_)
  clear hK K
  (try simp only [List.getElem_toArray, List.getElem_cons_zero, List.getElem_cons_succ, Act.put, List.setIfInBounds_toArray, List.set_cons_zero, List.set_cons_succ])
  (refine wpAnyH_take (i := 7) (v := ?_) rfl (by kernel_rfl) (by kernel_rfl) (by kernel_rfl) (fun _ _ _ h => h) (Or.inl ⟨by kernel_rfl, fun w0 hSw => ?_⟩) hHeld ?_; rotate_left; (focus ((try dsimp only at hSw); simp only [List.getElem_toArray, List.getElem_cons_zero, List.getElem_cons_succ]; (first | (go_simp; done) | (go_simp; with_reducible rfl)))); (try simp only [List.getElem_toArray, List.getElem_cons_zero, List.getElem_cons_succ, Act.put, List.setIfInBounds_toArray, List.set_cons_zero, List.set_cons_succ]))
  refine wpAnyH_ready (rs := [8, 12]) (by kernel_rfl) (by simp) ?_
  refine (AllReadyH.cons rfl (fun K hK => ?_) (AllReadyH.cons rfl (fun K hK => ?_) AllReadyH.nil))
  · simp only [List.getElem_toArray, List.getElem_cons_zero, List.getElem_cons_succ]
    have zk := cell_blk hwd2 x.k.toNat
    rw [HWG.out] at zk
    go_simp
    have hd3 := hd2
    have hwd3 := hwd2
    have hsz3 := hsz2
    refine hK.out _ _ ⟨(hd2.cell (p := ⟨w.heap.size, 0, none⟩) hl).trans c0, (hd2.cell (p := ⟨w.heap.size, 1, none⟩) hl).trans c1, (hd2.cell (p := ⟨w.heap.size, 2, none⟩) hl).trans c2, (hd2.cell (p := ⟨w.heap.size, 3, none⟩) hl).trans c3, (hd2.cell (p := ⟨w.heap.size, 4, none⟩) hl).trans c4, (hd2.cell (p := ⟨w.heap.size, 5, none⟩) hl).trans c5⟩ (fun hHeld => ?_)
    clear hK K
    (try simp only [List.getElem_toArray, List.getElem_cons_zero, List.getElem_cons_succ, Act.put, List.setIfInBounds_toArray, List.set_cons_zero, List.set_cons_succ])
    (refine wpAnyH_take (i := 9) (v := ?_) rfl (by kernel_rfl) (by kernel_rfl) (by kernel_rfl) (fun _ _ _ h => h) (Or.inl ⟨by kernel_rfl, fun w0 hSw => ?_⟩) hHeld ?_; rotate_left; (focus ((try dsimp only at hSw); simp only [List.getElem_toArray, List.getElem_cons_zero, List.getElem_cons_succ]; (first | (go_simp; done) | (go_simp; with_reducible rfl)))); (try simp only [List.getElem_toArray, List.getElem_cons_zero, List.getElem_cons_succ, Act.put, List.setIfInBounds_toArray, List.set_cons_zero, List.set_cons_succ]))
    refine wpAnyH_ready (rs := [12]) (by kernel_rfl) (by simp) ?_
    refine (AllReadyH.cons rfl (fun K hK => ?_) AllReadyH.nil)
    · simp only [List.getElem_toArray, List.getElem_cons_zero, List.getElem_cons_succ]
      go_simp
      refine (HP1.out _).mono ?_
      rintro e u4 ⟨rfl, hb4⟩
      have hd4 := hd3.trans (hb4.mono hd3.size)
      have hwd4 := (hb4.block wb (Nat.lt_of_lt_of_le hwl (hsz3))).trans hwd3
      have hsz4 : v2.heap.size ≤ u4.heap.size := Nat.le_trans hsz3 hb4.size
      clear hb4
      go_wp2_with fail
      refine hK.out _ _ ⟨(hd4.cell (p := ⟨w.heap.size, 0, none⟩) hl).trans c0, (hd4.cell (p := ⟨w.heap.size, 1, none⟩) hl).trans c1, (hd4.cell (p := ⟨w.heap.size, 2, none⟩) hl).trans c2, (hd4.cell (p := ⟨w.heap.size, 3, none⟩) hl).trans c3, (hd4.cell (p := ⟨w.heap.size, 4, none⟩) hl).trans c4, (hd4.cell (p := ⟨w.heap.size, 5, none⟩) hl).trans c5⟩ (fun hHeld => ?_)
      clear hK K
      (try simp only [List.getElem_toArray, List.getElem_cons_zero, List.getElem_cons_succ, Act.put, List.setIfInBounds_toArray, List.set_cons_zero, List.set_cons_succ])
      (refine wpAnyH_take (i := 13) (v := ?_) rfl (by kernel_rfl) (by kernel_rfl) (by kernel_rfl) (fun _ _ _ h => h) (Or.inl ⟨by kernel_rfl, fun w0 hSw => ?_⟩) hHeld ?_; rotate_left; (focus ((try dsimp only at hSw); simp only [List.getElem_toArray, List.getElem_cons_zero, List.getElem_cons_succ]; (first | (go_simp; done) | (go_simp; with_reducible rfl)))); (try simp only [List.getElem_toArray, List.getElem_cons_zero, List.getElem_cons_succ, Act.put, List.setIfInBounds_toArray, List.set_cons_zero, List.set_cons_succ]))
      refine wpAnyH_ready (rs := [16]) (by kernel_rfl) (by simp) ?_
      refine (AllReadyH.cons rfl (fun K hK => ?_) AllReadyH.nil)
      · simp only [List.getElem_toArray, List.getElem_cons_zero, List.getElem_cons_succ]
        go_simp
        refine (HP2.out _).mono ?_
        rintro e u5 ⟨rfl, hb5⟩
        have hd5 := hd4.trans (hb5.mono hd4.size)
        have hwd5 := (hb5.block wb (Nat.lt_of_lt_of_le hwl (hsz4))).trans hwd4
        have hsz5 : v2.heap.size ≤ u5.heap.size := Nat.le_trans hsz4 hb5.size
        clear hb5
        go_wp2_with fail
        refine hK.out _ _ ⟨(hd5.cell (p := ⟨w.heap.size, 0, none⟩) hl).trans c0, (hd5.cell (p := ⟨w.heap.size, 1, none⟩) hl).trans c1, (hd5.cell (p := ⟨w.heap.size, 2, none⟩) hl).trans c2, (hd5.cell (p := ⟨w.heap.size, 3, none⟩) hl).trans c3, (hd5.cell (p := ⟨w.heap.size, 4, none⟩) hl).trans c4, (hd5.cell (p := ⟨w.heap.size, 5, none⟩) hl).trans c5⟩ (fun hHeld => ?_)
        clear hK K
        (try simp only [List.getElem_toArray, List.getElem_cons_zero, List.getElem_cons_succ, Act.put, List.setIfInBounds_toArray, List.set_cons_zero, List.set_cons_succ])
        (refine wpAnyH_take (i := 17) (v := ?_) rfl (by kernel_rfl) (by kernel_rfl) (by kernel_rfl) (fun _ _ _ h => h) (Or.inl ⟨by kernel_rfl, fun w0 hSw => ?_⟩) hHeld ?_; rotate_left; (focus ((try dsimp only at hSw); simp only [List.getElem_toArray, List.getElem_cons_zero, List.getElem_cons_succ]; (first | (go_simp; done) | (go_simp; with_reducible rfl)))); (try simp only [List.getElem_toArray, List.getElem_cons_zero, List.getElem_cons_succ, Act.put, List.setIfInBounds_toArray, List.set_cons_zero, List.set_cons_succ]))
        refine wpAnyH_ready (rs := [20]) (by kernel_rfl) (by simp) ?_
        refine (AllReadyH.cons rfl (fun K hK => ?_) AllReadyH.nil)
        · simp only [List.getElem_toArray, List.getElem_cons_zero, List.getElem_cons_succ]
          go_simp
          refine (HP3.out _).mono ?_
          rintro e u6 ⟨rfl, hb6⟩
          have hd6 := hd5.trans (hb6.mono hd5.size)
          have hwd6 := (hb6.block wb (Nat.lt_of_lt_of_le hwl (hsz5))).trans hwd5
          have hsz6 : v2.heap.size ≤ u6.heap.size := Nat.le_trans hsz5 hb6.size
          clear hb6
          go_wp2_with fail
          refine hK.out _ _ ⟨(hd6.cell (p := ⟨w.heap.size, 0, none⟩) hl).trans c0, (hd6.cell (p := ⟨w.heap.size, 1, none⟩) hl).trans c1, (hd6.cell (p := ⟨w.heap.size, 2, none⟩) hl).trans c2, (hd6.cell (p := ⟨w.heap.size, 3, none⟩) hl).trans c3, (hd6.cell (p := ⟨w.heap.size, 4, none⟩) hl).trans c4, (hd6.cell (p := ⟨w.heap.size, 5, none⟩) hl).trans c5⟩ (fun hHeld => ?_)
          clear hK K
          (try simp only [List.getElem_toArray, List.getElem_cons_zero, List.getElem_cons_succ, Act.put, List.setIfInBounds_toArray, List.set_cons_zero, List.set_cons_succ])
          (refine wpAnyH_take (i := 21) (v := ?_) rfl (by kernel_rfl) (by kernel_rfl) (by kernel_rfl) (fun _ _ _ h => h) (Or.inl ⟨by kernel_rfl, fun w0 hSw => ?_⟩) hHeld ?_; rotate_left; (focus ((try dsimp only at hSw); simp only [List.getElem_toArray, List.getElem_cons_zero, List.getElem_cons_succ]; (first | (go_simp; done) | (go_simp; with_reducible rfl)))); (try simp only [List.getElem_toArray, List.getElem_cons_zero, List.getElem_cons_succ, Act.put, List.setIfInBounds_toArray, List.set_cons_zero, List.set_cons_succ]))
          refine wpAnyH_ready (rs := [24]) (by kernel_rfl) (by simp) ?_
          refine (AllReadyH.cons rfl (fun K hK => ?_) AllReadyH.nil)
          · simp only [List.getElem_toArray, List.getElem_cons_zero, List.getElem_cons_succ]
            go_simp
            refine (HP4.out _).mono ?_
            rintro e u7 ⟨rfl, hb7⟩
            have hd7 := hd6.trans (hb7.mono hd6.size)
            have hwd7 := (hb7.block wb (Nat.lt_of_lt_of_le hwl (hsz6))).trans hwd6
            have hsz7 : v2.heap.size ≤ u7.heap.size := Nat.le_trans hsz6 hb7.size
            clear hb7
            go_wp2_with fail
            refine hK.out _ _ ⟨(hd7.cell (p := ⟨w.heap.size, 0, none⟩) hl).trans c0, (hd7.cell (p := ⟨w.heap.size, 1, none⟩) hl).trans c1, (hd7.cell (p := ⟨w.heap.size, 2, none⟩) hl).trans c2, (hd7.cell (p := ⟨w.heap.size, 3, none⟩) hl).trans c3, (hd7.cell (p := ⟨w.heap.size, 4, none⟩) hl).trans c4, (hd7.cell (p := ⟨w.heap.size, 5, none⟩) hl).trans c5⟩ (fun hHeld => ?_)
            clear hK K
            (try simp only [List.getElem_toArray, List.getElem_cons_zero, List.getElem_cons_succ, Act.put, List.setIfInBounds_toArray, List.set_cons_zero, List.set_cons_succ])
            (refine wpAnyH_take (i := 25) (v := ?_) rfl (by kernel_rfl) (by kernel_rfl) (by kernel_rfl) (fun _ _ _ h => h) (Or.inl ⟨by kernel_rfl, fun w0 hSw => ?_⟩) hHeld ?_; rotate_left; (focus ((try dsimp only at hSw); simp only [List.getElem_toArray, List.getElem_cons_zero, List.getElem_cons_succ]; (first | (go_simp; done) | (go_simp; with_reducible rfl)))); (try simp only [List.getElem_toArray, List.getElem_cons_zero, List.getElem_cons_succ, Act.put, List.setIfInBounds_toArray, List.set_cons_zero, List.set_cons_succ]))
            (refine wpAnyH_take (i := 26) (v := ?_) rfl (by kernel_rfl) (by kernel_rfl) (by kernel_rfl) (fun _ _ _ h => h) (Or.inl ⟨by kernel_rfl, fun w0 hSw => ?_⟩) hHeld ?_; rotate_left; (focus ((try dsimp only at hSw); simp only [List.getElem_toArray, List.getElem_cons_zero, List.getElem_cons_succ]; (first | (go_simp; done) | (go_simp; with_reducible rfl)))); (try simp only [List.getElem_toArray, List.getElem_cons_zero, List.getElem_cons_succ, Act.put, List.setIfInBounds_toArray, List.set_cons_zero, List.set_cons_succ]))
            (refine wpAnyH_take (i := 27) (v := ?_) rfl (by kernel_rfl) (by kernel_rfl) (by kernel_rfl) (fun _ _ _ h => h) (Or.inl ⟨by kernel_rfl, fun w0 hSw => ?_⟩) hHeld ?_; rotate_left; (focus ((try dsimp only at hSw); simp only [List.getElem_toArray, List.getElem_cons_zero, List.getElem_cons_succ]; (first | (go_simp; done) | (go_simp; with_reducible rfl)))); (try simp only [List.getElem_toArray, List.getElem_cons_zero, List.getElem_cons_succ, Act.put, List.setIfInBounds_toArray, List.set_cons_zero, List.set_cons_succ]))
            refine wpAnyH_done (by kernel_rfl) ?_ _
            clear hHeld
            go_wp2_with fail
            go_ret
            exact ⟨by rw [← HT.out]; rfl, hbw.trans (hd7.mono (by omega))⟩
  · simp only [List.getElem_toArray, List.getElem_cons_zero, List.getElem_cons_succ]
    go_simp
    refine (HP1.out _).mono ?_
    rintro e u3 ⟨rfl, hb3⟩
    have hd3 := hd2.trans (hb3.mono hd2.size)
    have hwd3 := (hb3.block wb (Nat.lt_of_lt_of_le hwl (hsz2))).trans hwd2
    have hsz3 : v2.heap.size ≤ u3.heap.size := Nat.le_trans hsz2 hb3.size
    clear hb3
    go_wp2_with fail
    refine hK.out _ _ ⟨(hd3.cell (p := ⟨w.heap.size, 0, none⟩) hl).trans c0, (hd3.cell (p := ⟨w.heap.size, 1, none⟩) hl).trans c1, (hd3.cell (p := ⟨w.heap.size, 2, none⟩) hl).trans c2, (hd3.cell (p := ⟨w.heap.size, 3, none⟩) hl).trans c3, (hd3.cell (p := ⟨w.heap.size, 4, none⟩) hl).trans c4, (hd3.cell (p := ⟨w.heap.size, 5, none⟩) hl).trans c5⟩ (fun hHeld => ?_)
    clear hK K
    (try simp only [List.getElem_toArray, List.getElem_cons_zero, List.getElem_cons_succ, Act.put, List.setIfInBounds_toArray, List.set_cons_zero, List.set_cons_succ])
    refine wpAnyH_ready (rs := [8, 16]) (by kernel_rfl) (by simp) ?_
    refine (AllReadyH.cons rfl (fun K hK => ?_) (AllReadyH.cons rfl (fun K hK => ?_) AllReadyH.nil))
    · simp only [List.getElem_toArray, List.getElem_cons_zero, List.getElem_cons_succ]
      have zk := cell_blk hwd3 x.k.toNat
      rw [HWG.out] at zk
      go_simp
      have hd4 := hd3
      have hwd4 := hwd3
      have hsz4 := hsz3
      refine hK.out _ _ ⟨(hd3.cell (p := ⟨w.heap.size, 0, none⟩) hl).trans c0, (hd3.cell (p := ⟨w.heap.size, 1, none⟩) hl).trans c1, (hd3.cell (p := ⟨w.heap.size, 2, none⟩) hl).trans c2, (hd3.cell (p := ⟨w.heap.size, 3, none⟩) hl).trans c3, (hd3.cell (p := ⟨w.heap.size, 4, none⟩) hl).trans c4, (hd3.cell (p := ⟨w.heap.size, 5, none⟩) hl).trans c5⟩ (fun hHeld => ?_)
      clear hK K
      (try simp only [List.getElem_toArray, List.getElem_cons_zero, List.getElem_cons_succ, Act.put, List.setIfInBounds_toArray, List.set_cons_zero, List.set_cons_succ])
      (refine wpAnyH_take (i := 9) (v := ?_) rfl (by kernel_rfl) (by kernel_rfl) (by kernel_rfl) (fun _ _ _ h => h) (Or.inl ⟨by kernel_rfl, fun w0 hSw => ?_⟩) hHeld ?_; rotate_left; (focus ((try dsimp only at hSw); simp only [List.getElem_toArray, List.getElem_cons_zero, List.getElem_cons_succ]; (first | (go_simp; done) | (go_simp; with_reducible rfl)))); (try simp only [List.getElem_toArray, List.getElem_cons_zero, List.getElem_cons_succ, Act.put, List.setIfInBounds_toArray, List.set_cons_zero, List.set_cons_succ]))
      (refine wpAnyH_take (i := 13) (v := ?_) rfl (by kernel_rfl) (by kernel_rfl) (by kernel_rfl) (fun _ _ _ h => h) (Or.inl ⟨by kernel_rfl, fun w0 hSw => ?_⟩) hHeld ?_; rotate_left; (focus ((try dsimp only at hSw); simp only [List.getElem_toArray, List.getElem_cons_zero, List.getElem_cons_succ]; (first | (go_simp; done) | (go_simp; with_reducible rfl)))); (try simp only [List.getElem_toArray, List.getElem_cons_zero, List.getElem_cons_succ, Act.put, List.setIfInBounds_toArray, List.set_cons_zero, List.set_cons_succ]))
      refine wpAnyH_ready (rs := [16]) (by kernel_rfl) (by simp) ?_
      refine (AllReadyH.cons rfl (fun K hK => ?_) AllReadyH.nil)
      · simp only [List.getElem_toArray, List.getElem_cons_zero, List.getElem_cons_succ]
        go_simp
        refine (HP2.out _).mono ?_
        rintro e u5 ⟨rfl, hb5⟩
        have hd5 := hd4.trans (hb5.mono hd4.size)
        have hwd5 := (hb5.block wb (Nat.lt_of_lt_of_le hwl (hsz4))).trans hwd4
        have hsz5 : v2.heap.size ≤ u5.heap.size := Nat.le_trans hsz4 hb5.size
        clear hb5
        go_wp2_with fail
        refine hK.out _ _ ⟨(hd5.cell (p := ⟨w.heap.size, 0, none⟩) hl).trans c0, (hd5.cell (p := ⟨w.heap.size, 1, none⟩) hl).trans c1, (hd5.cell (p := ⟨w.heap.size, 2, none⟩) hl).trans c2, (hd5.cell (p := ⟨w.heap.size, 3, none⟩) hl).trans c3, (hd5.cell (p := ⟨w.heap.size, 4, none⟩) hl).trans c4, (hd5.cell (p := ⟨w.heap.size, 5, none⟩) hl).trans c5⟩ (fun hHeld => ?_)
        clear hK K
        (try simp only [List.getElem_toArray, List.getElem_cons_zero, List.getElem_cons_succ, Act.put, List.setIfInBounds_toArray, List.set_cons_zero, List.set_cons_succ])
        (refine wpAnyH_take (i := 17) (v := ?_) rfl (by kernel_rfl) (by kernel_rfl) (by kernel_rfl) (fun _ _ _ h => h) (Or.inl ⟨by kernel_rfl, fun w0 hSw => ?_⟩) hHeld ?_; rotate_left; (focus ((try dsimp only at hSw); simp only [List.getElem_toArray, List.getElem_cons_zero, List.getElem_cons_succ]; (first | (go_simp; done) | (go_simp; with_reducible rfl)))); (try simp only [List.getElem_toArray, List.getElem_cons_zero, List.getElem_cons_succ, Act.put, List.setIfInBounds_toArray, List.set_cons_zero, List.set_cons_succ]))
        refine wpAnyH_ready (rs := [20]) (by kernel_rfl) (by simp) ?_
        refine (AllReadyH.cons rfl (fun K hK => ?_) AllReadyH.nil)
        · simp only [List.getElem_toArray, List.getElem_cons_zero, List.getElem_cons_succ]
          go_simp
          refine (HP3.out _).mono ?_
          rintro e u6 ⟨rfl, hb6⟩
          have hd6 := hd5.trans (hb6.mono hd5.size)
          have hwd6 := (hb6.block wb (Nat.lt_of_lt_of_le hwl (hsz5))).trans hwd5
          have hsz6 : v2.heap.size ≤ u6.heap.size := Nat.le_trans hsz5 hb6.size
          clear hb6
          go_wp2_with fail
          refine hK.out _ _ ⟨(hd6.cell (p := ⟨w.heap.size, 0, none⟩) hl).trans c0, (hd6.cell (p := ⟨w.heap.size, 1, none⟩) hl).trans c1, (hd6.cell (p := ⟨w.heap.size, 2, none⟩) hl).trans c2, (hd6.cell (p := ⟨w.heap.size, 3, none⟩) hl).trans c3, (hd6.cell (p := ⟨w.heap.size, 4, none⟩) hl).trans c4, (hd6.cell (p := ⟨w.heap.size, 5, none⟩) hl).trans c5⟩ (fun hHeld => ?_)
          clear hK K
          (try simp only [List.getElem_toArray, List.getElem_cons_zero, List.getElem_cons_succ, Act.put, List.setIfInBounds_toArray, List.set_cons_zero, List.set_cons_succ])
          (refine wpAnyH_take (i := 21) (v := ?_) rfl (by kernel_rfl) (by kernel_rfl) (by kernel_rfl) (fun _ _ _ h => h) (Or.inl ⟨by kernel_rfl, fun w0 hSw => ?_⟩) hHeld ?_; rotate_left; (focus ((try dsimp only at hSw); simp only [List.getElem_toArray, List.getElem_cons_zero, List.getElem_cons_succ]; (first | (go_simp; done) | (go_simp; with_reducible rfl)))); (try simp only [List.getElem_toArray, List.getElem_cons_zero, List.getElem_cons_succ, Act.put, List.setIfInBounds_toArray, List.set_cons_zero, List.set_cons_succ]))
          refine wpAnyH_ready (rs := [24]) (by kernel_rfl) (by simp) ?_
          refine (AllReadyH.cons rfl (fun K hK => ?_) AllReadyH.nil)
          · simp only [List.getElem_toArray, List.getElem_cons_zero, List.getElem_cons_succ]
            go_simp
            refine (HP4.out _).mono ?_
            rintro e u7 ⟨rfl, hb7⟩
            have hd7 := hd6.trans (hb7.mono hd6.size)
            have hwd7 := (hb7.block wb (Nat.lt_of_lt_of_le hwl (hsz6))).trans hwd6
            have hsz7 : v2.heap.size ≤ u7.heap.size := Nat.le_trans hsz6 hb7.size
            clear hb7
            go_wp2_with fail
            refine hK.out _ _ ⟨(hd7.cell (p := ⟨w.heap.size, 0, none⟩) hl).trans c0, (hd7.cell (p := ⟨w.heap.size, 1, none⟩) hl).trans c1, (hd7.cell (p := ⟨w.heap.size, 2, none⟩) hl).trans c2, (hd7.cell (p := ⟨w.heap.size, 3, none⟩) hl).trans c3, (hd7.cell (p := ⟨w.heap.size, 4, none⟩) hl).trans c4, (hd7.cell (p := ⟨w.heap.size, 5, none⟩) hl).trans c5⟩ (fun hHeld => ?_)
            clear hK K
            (try simp only [List.getElem_toArray, List.getElem_cons_zero, List.getElem_cons_succ, Act.put, List.setIfInBounds_toArray, List.set_cons_zero, List.set_cons_succ])
            (refine wpAnyH_take (i := 25) (v := ?_) rfl (by kernel_rfl) (by kernel_rfl) (by kernel_rfl) (fun _ _ _ h => h) (Or.inl ⟨by kernel_rfl, fun w0 hSw => ?_⟩) hHeld ?_; rotate_left; (focus ((try dsimp only at hSw); simp only [List.getElem_toArray, List.getElem_cons_zero, List.getElem_cons_succ]; (first | (go_simp; done) | (go_simp; with_reducible rfl)))); (try simp only [List.getElem_toArray, List.getElem_cons_zero, List.getElem_cons_succ, Act.put, List.setIfInBounds_toArray, List.set_cons_zero, List.set_cons_succ]))
            (refine wpAnyH_take (i := 26) (v := ?_) rfl (by kernel_rfl) (by kernel_rfl) (by kernel_rfl) (fun _ _ _ h => h) (Or.inl ⟨by kernel_rfl, fun w0 hSw => ?_⟩) hHeld ?_; rotate_left; (focus ((try dsimp only at hSw); simp only [List.getElem_toArray, List.getElem_cons_zero, List.getElem_cons_succ]; (first | (go_simp; done) | (go_simp; with_reducible rfl)))); (try simp only [List.getElem_toArray, List.getElem_cons_zero, List.getElem_cons_succ, Act.put, List.setIfInBounds_toArray, List.set_cons_zero, List.set_cons_succ]))
            (refine wpAnyH_take (i := 27) (v := ?_) rfl (by kernel_rfl) (by kernel_rfl) (by kernel_rfl) (fun _ _ _ h => h) (Or.inl ⟨by kernel_rfl, fun w0 hSw => ?_⟩) hHeld ?_; rotate_left; (focus ((try dsimp only at hSw); simp only [List.getElem_toArray, List.getElem_cons_zero, List.getElem_cons_succ]; (first | (go_simp; done) | (go_simp; with_reducible rfl)))); (try simp only [List.getElem_toArray, List.getElem_cons_zero, List.getElem_cons_succ, Act.put, List.setIfInBounds_toArray, List.set_cons_zero, List.set_cons_succ]))
            refine wpAnyH_done (by kernel_rfl) ?_ _
            clear hHeld
            go_wp2_with fail
            go_ret
            exact ⟨by rw [← HT.out]; rfl, hbw.trans (hd7.mono (by omega))⟩
    · simp only [List.getElem_toArray, List.getElem_cons_zero, List.getElem_cons_succ]
      go_simp
      refine (HP2.out _).mono ?_
      rintro e u4 ⟨rfl, hb4⟩
      have hd4 := hd3.trans (hb4.mono hd3.size)
      have hwd4 := (hb4.block wb (Nat.lt_of_lt_of_le hwl (hsz3))).trans hwd3
      have hsz4 : v2.heap.size ≤ u4.heap.size := Nat.le_trans hsz3 hb4.size
      clear hb4
      go_wp2_with fail
      refine hK.out _ _ ⟨(hd4.cell (p := ⟨w.heap.size, 0, none⟩) hl).trans c0, (hd4.cell (p := ⟨w.heap.size, 1, none⟩) hl).trans c1, (hd4.cell (p := ⟨w.heap.size, 2, none⟩) hl).trans c2, (hd4.cell (p := ⟨w.heap.size, 3, none⟩) hl).trans c3, (hd4.cell (p := ⟨w.heap.size, 4, none⟩) hl).trans c4, (hd4.cell (p := ⟨w.heap.size, 5, none⟩) hl).trans c5⟩ (fun hHeld => ?_)
      clear hK K
      (try simp only [List.getElem_toArray, List.getElem_cons_zero, List.getElem_cons_succ, Act.put, List.setIfInBounds_toArray, List.set_cons_zero, List.set_cons_succ])
      refine wpAnyH_ready (rs := [8, 20]) (by kernel_rfl) (by simp) ?_
      refine (AllReadyH.cons rfl (fun K hK => ?_) (AllReadyH.cons rfl (fun K hK => ?_) AllReadyH.nil))
      · simp only [List.getElem_toArray, List.getElem_cons_zero, List.getElem_cons_succ]
        have zk := cell_blk hwd4 x.k.toNat
        rw [HWG.out] at zk
        go_simp
        have hd5 := hd4
        have hwd5 := hwd4
        have hsz5 := hsz4
        refine hK.out _ _ ⟨(hd4.cell (p := ⟨w.heap.size, 0, none⟩) hl).trans c0, (hd4.cell (p := ⟨w.heap.size, 1, none⟩) hl).trans c1, (hd4.cell (p := ⟨w.heap.size, 2, none⟩) hl).trans c2, (hd4.cell (p := ⟨w.heap.size, 3, none⟩) hl).trans c3, (hd4.cell (p := ⟨w.heap.size, 4, none⟩) hl).trans c4, (hd4.cell (p := ⟨w.heap.size, 5, none⟩) hl).trans c5⟩ (fun hHeld => ?_)
        clear hK K
        (try simp only [List.getElem_toArray, List.getElem_cons_zero, List.getElem_cons_succ, Act.put, List.setIfInBounds_toArray, List.set_cons_zero, List.set_cons_succ])
        (refine wpAnyH_take (i := 9) (v := ?_) rfl (by kernel_rfl) (by kernel_rfl) (by kernel_rfl) (fun _ _ _ h => h) (Or.inl ⟨by kernel_rfl, fun w0 hSw => ?_⟩) hHeld ?_; rotate_left; (focus ((try dsimp only at hSw); simp only [List.getElem_toArray, List.getElem_cons_zero, List.getElem_cons_succ]; (first | (go_simp; done) | (go_simp; with_reducible rfl)))); (try simp only [List.getElem_toArray, List.getElem_cons_zero, List.getElem_cons_succ, Act.put, List.setIfInBounds_toArray, List.set_cons_zero, List.set_cons_succ]))
        (refine wpAnyH_take (i := 13) (v := ?_) rfl (by kernel_rfl) (by kernel_rfl) (by kernel_rfl) (fun _ _ _ h => h) (Or.inl ⟨by kernel_rfl, fun w0 hSw => ?_⟩) hHeld ?_; rotate_left; (focus ((try dsimp only at hSw); simp only [List.getElem_toArray, List.getElem_cons_zero, List.getElem_cons_succ]; (first | (go_simp; done) | (go_simp; with_reducible rfl)))); (try simp only [List.getElem_toArray, List.getElem_cons_zero, List.getElem_cons_succ, Act.put, List.setIfInBounds_toArray, List.set_cons_zero, List.set_cons_succ]))
        (refine wpAnyH_take (i := 17) (v := ?_) rfl (by kernel_rfl) (by kernel_rfl) (by kernel_rfl) (fun _ _ _ h => h) (Or.inl ⟨by kernel_rfl, fun w0 hSw => ?_⟩) hHeld ?_; rotate_left; (focus ((try dsimp only at hSw); simp only [List.getElem_toArray, List.getElem_cons_zero, List.getElem_cons_succ]; (first | (go_simp; done) | (go_simp; with_reducible rfl)))); (try simp only [List.getElem_toArray, List.getElem_cons_zero, List.getElem_cons_succ, Act.put, List.setIfInBounds_toArray, List.set_cons_zero, List.set_cons_succ]))
        refine wpAnyH_ready (rs := [20]) (by kernel_rfl) (by simp) ?_
        refine (AllReadyH.cons rfl (fun K hK => ?_) AllReadyH.nil)
        · simp only [List.getElem_toArray, List.getElem_cons_zero, List.getElem_cons_succ]
          go_simp
          refine (HP3.out _).mono ?_
          rintro e u6 ⟨rfl, hb6⟩
          have hd6 := hd5.trans (hb6.mono hd5.size)
          have hwd6 := (hb6.block wb (Nat.lt_of_lt_of_le hwl (hsz5))).trans hwd5
          have hsz6 : v2.heap.size ≤ u6.heap.size := Nat.le_trans hsz5 hb6.size
          clear hb6
          go_wp2_with fail
          refine hK.out _ _ ⟨(hd6.cell (p := ⟨w.heap.size, 0, none⟩) hl).trans c0, (hd6.cell (p := ⟨w.heap.size, 1, none⟩) hl).trans c1, (hd6.cell (p := ⟨w.heap.size, 2, none⟩) hl).trans c2, (hd6.cell (p := ⟨w.heap.size, 3, none⟩) hl).trans c3, (hd6.cell (p := ⟨w.heap.size, 4, none⟩) hl).trans c4, (hd6.cell (p := ⟨w.heap.size, 5, none⟩) hl).trans c5⟩ (fun hHeld => ?_)
          clear hK K
          (try simp only [List.getElem_toArray, List.getElem_cons_zero, List.getElem_cons_succ, Act.put, List.setIfInBounds_toArray, List.set_cons_zero, List.set_cons_succ])
          (refine wpAnyH_take (i := 21) (v := ?_) rfl (by kernel_rfl) (by kernel_rfl) (by kernel_rfl) (fun _ _ _ h => h) (Or.inl ⟨by kernel_rfl, fun w0 hSw => ?_⟩) hHeld ?_; rotate_left; (focus ((try dsimp only at hSw); simp only [List.getElem_toArray, List.getElem_cons_zero, List.getElem_cons_succ]; (first | (go_simp; done) | (go_simp; with_reducible rfl)))); (try simp only [List.getElem_toArray, List.getElem_cons_zero, List.getElem_cons_succ, Act.put, List.setIfInBounds_toArray, List.set_cons_zero, List.set_cons_succ]))
          refine wpAnyH_ready (rs := [24]) (by kernel_rfl) (by simp) ?_
          refine (AllReadyH.cons rfl (fun K hK => ?_) AllReadyH.nil)
          · simp only [List.getElem_toArray, List.getElem_cons_zero, List.getElem_cons_succ]
            go_simp
            refine (HP4.out _).mono ?_
            rintro e u7 ⟨rfl, hb7⟩
            have hd7 := hd6.trans (hb7.mono hd6.size)
            have hwd7 := (hb7.block wb (Nat.lt_of_lt_of_le hwl (hsz6))).trans hwd6
            have hsz7 : v2.heap.size ≤ u7.heap.size := Nat.le_trans hsz6 hb7.size
            clear hb7
            go_wp2_with fail
            refine hK.out _ _ ⟨(hd7.cell (p := ⟨w.heap.size, 0, none⟩) hl).trans c0, (hd7.cell (p := ⟨w.heap.size, 1, none⟩) hl).trans c1, (hd7.cell (p := ⟨w.heap.size, 2, none⟩) hl).trans c2, (hd7.cell (p := ⟨w.heap.size, 3, none⟩) hl).trans c3, (hd7.cell (p := ⟨w.heap.size, 4, none⟩) hl).trans c4, (hd7.cell (p := ⟨w.heap.size, 5, none⟩) hl).trans c5⟩ (fun hHeld => ?_)
            clear hK K
            (try simp only [List.getElem_toArray, List.getElem_cons_zero, List.getElem_cons_succ, Act.put, List.setIfInBounds_toArray, List.set_cons_zero, List.set_cons_succ])
            (refine wpAnyH_take (i := 25) (v := ?_) rfl (by kernel_rfl) (by kernel_rfl) (by kernel_rfl) (fun _ _ _ h => h) (Or.inl ⟨by kernel_rfl, fun w0 hSw => ?_⟩) hHeld ?_; rotate_left; (focus ((try dsimp only at hSw); simp only [List.getElem_toArray, List.getElem_cons_zero, List.getElem_cons_succ]; (first | (go_simp; done) | (go_simp; with_reducible rfl)))); (try simp only [List.getElem_toArray, List.getElem_cons_zero, List.getElem_cons_succ, Act.put, List.setIfInBounds_toArray, List.set_cons_zero, List.set_cons_succ]))
            (refine wpAnyH_take (i := 26) (v := ?_) rfl (by kernel_rfl) (by kernel_rfl) (by kernel_rfl) (fun _ _ _ h => h) (Or.inl ⟨by kernel_rfl, fun w0 hSw => ?_⟩) hHeld ?_; rotate_left; (focus ((try dsimp only at hSw); simp only [List.getElem_toArray, List.getElem_cons_zero, List.getElem_cons_succ]; (first | (go_simp; done) | (go_simp; with_reducible rfl)))); (try simp only [List.getElem_toArray, List.getElem_cons_zero, List.getElem_cons_succ, Act.put, List.setIfInBounds_toArray, List.set_cons_zero, List.set_cons_succ]))
            (refine wpAnyH_take (i := 27) (v := ?_) rfl (by kernel_rfl) (by kernel_rfl) (by kernel_rfl) (fun _ _ _ h => h) (Or.inl ⟨by kernel_rfl, fun w0 hSw => ?_⟩) hHeld ?_; rotate_left; (focus ((try dsimp only at hSw); simp only [List.getElem_toArray, List.getElem_cons_zero, List.getElem_cons_succ]; (first | (go_simp; done) | (go_simp; with_reducible rfl)))); (try simp only [List.getElem_toArray, List.getElem_cons_zero, List.getElem_cons_succ, Act.put, List.setIfInBounds_toArray, List.set_cons_zero, List.set_cons_succ]))
            refine wpAnyH_done (by kernel_rfl) ?_ _
            clear hHeld
            go_wp2_with fail
            go_ret
            exact ⟨by rw [← HT.out]; rfl, hbw.trans (hd7.mono (by omega))⟩
      · simp only [List.getElem_toArray, List.getElem_cons_zero, List.getElem_cons_succ]
        go_simp
        refine (HP3.out _).mono ?_
        rintro e u5 ⟨rfl, hb5⟩
        have hd5 := hd4.trans (hb5.mono hd4.size)
        have hwd5 := (hb5.block wb (Nat.lt_of_lt_of_le hwl (hsz4))).trans hwd4
        have hsz5 : v2.heap.size ≤ u5.heap.size := Nat.le_trans hsz4 hb5.size
        clear hb5
        go_wp2_with fail
        refine hK.out _ _ ⟨(hd5.cell (p := ⟨w.heap.size, 0, none⟩) hl).trans c0, (hd5.cell (p := ⟨w.heap.size, 1, none⟩) hl).trans c1, (hd5.cell (p := ⟨w.heap.size, 2, none⟩) hl).trans c2, (hd5.cell (p := ⟨w.heap.size, 3, none⟩) hl).trans c3, (hd5.cell (p := ⟨w.heap.size, 4, none⟩) hl).trans c4, (hd5.cell (p := ⟨w.heap.size, 5, none⟩) hl).trans c5⟩ (fun hHeld => ?_)
        clear hK K
        (try simp only [List.getElem_toArray, List.getElem_cons_zero, List.getElem_cons_succ, Act.put, List.setIfInBounds_toArray, List.set_cons_zero, List.set_cons_succ])
        refine wpAnyH_ready (rs := [8, 24]) (by kernel_rfl) (by simp) ?_
        refine (AllReadyH.cons rfl (fun K hK => ?_) (AllReadyH.cons rfl (fun K hK => ?_) AllReadyH.nil))
        · simp only [List.getElem_toArray, List.getElem_cons_zero, List.getElem_cons_succ]
          have zk := cell_blk hwd5 x.k.toNat
          rw [HWG.out] at zk
          go_simp
          have hd6 := hd5
          have hwd6 := hwd5
          have hsz6 := hsz5
          refine hK.out _ _ ⟨(hd5.cell (p := ⟨w.heap.size, 0, none⟩) hl).trans c0, (hd5.cell (p := ⟨w.heap.size, 1, none⟩) hl).trans c1, (hd5.cell (p := ⟨w.heap.size, 2, none⟩) hl).trans c2, (hd5.cell (p := ⟨w.heap.size, 3, none⟩) hl).trans c3, (hd5.cell (p := ⟨w.heap.size, 4, none⟩) hl).trans c4, (hd5.cell (p := ⟨w.heap.size, 5, none⟩) hl).trans c5⟩ (fun hHeld => ?_)
          clear hK K
          (try simp only [List.getElem_toArray, List.getElem_cons_zero, List.getElem_cons_succ, Act.put, List.setIfInBounds_toArray, List.set_cons_zero, List.set_cons_succ])
          (refine wpAnyH_take (i := 9) (v := ?_) rfl (by kernel_rfl) (by kernel_rfl) (by kernel_rfl) (fun _ _ _ h => h) (Or.inl ⟨by kernel_rfl, fun w0 hSw => ?_⟩) hHeld ?_; rotate_left; (focus ((try dsimp only at hSw); simp only [List.getElem_toArray, List.getElem_cons_zero, List.getElem_cons_succ]; (first | (go_simp; done) | (go_simp; with_reducible rfl)))); (try simp only [List.getElem_toArray, List.getElem_cons_zero, List.getElem_cons_succ, Act.put, List.setIfInBounds_toArray, List.set_cons_zero, List.set_cons_succ]))
          (refine wpAnyH_take (i := 13) (v := ?_) rfl (by kernel_rfl) (by kernel_rfl) (by kernel_rfl) (fun _ _ _ h => h) (Or.inl ⟨by kernel_rfl, fun w0 hSw => ?_⟩) hHeld ?_; rotate_left; (focus ((try dsimp only at hSw); simp only [List.getElem_toArray, List.getElem_cons_zero, List.getElem_cons_succ]; (first | (go_simp; done) | (go_simp; with_reducible rfl)))); (try simp only [List.getElem_toArray, List.getElem_cons_zero, List.getElem_cons_succ, Act.put, List.setIfInBounds_toArray, List.set_cons_zero, List.set_cons_succ]))
          (refine wpAnyH_take (i := 17) (v := ?_) rfl (by kernel_rfl) (by kernel_rfl) (by kernel_rfl) (fun _ _ _ h => h) (Or.inl ⟨by kernel_rfl, fun w0 hSw => ?_⟩) hHeld ?_; rotate_left; (focus ((try dsimp only at hSw); simp only [List.getElem_toArray, List.getElem_cons_zero, List.getElem_cons_succ]; (first | (go_simp; done) | (go_simp; with_reducible rfl)))); (try simp only [List.getElem_toArray, List.getElem_cons_zero, List.getElem_cons_succ, Act.put, List.setIfInBounds_toArray, List.set_cons_zero, List.set_cons_succ]))
          (refine wpAnyH_take (i := 21) (v := ?_) rfl (by kernel_rfl) (by kernel_rfl) (by kernel_rfl) (fun _ _ _ h => h) (Or.inl ⟨by kernel_rfl, fun w0 hSw => ?_⟩) hHeld ?_; rotate_left; (focus ((try dsimp only at hSw); simp only [List.getElem_toArray, List.getElem_cons_zero, List.getElem_cons_succ]; (first | (go_simp; done) | (go_simp; with_reducible rfl)))); (try simp only [List.getElem_toArray, List.getElem_cons_zero, List.getElem_cons_succ, Act.put, List.setIfInBounds_toArray, List.set_cons_zero, List.set_cons_succ]))
          refine wpAnyH_ready (rs := [24]) (by kernel_rfl) (by simp) ?_
          refine (AllReadyH.cons rfl (fun K hK => ?_) AllReadyH.nil)
          · simp only [List.getElem_toArray, List.getElem_cons_zero, List.getElem_cons_succ]
            go_simp
            refine (HP4.out _).mono ?_
            rintro e u7 ⟨rfl, hb7⟩
            have hd7 := hd6.trans (hb7.mono hd6.size)
            have hwd7 := (hb7.block wb (Nat.lt_of_lt_of_le hwl (hsz6))).trans hwd6
            have hsz7 : v2.heap.size ≤ u7.heap.size := Nat.le_trans hsz6 hb7.size
            clear hb7
            go_wp2_with fail
            refine hK.out _ _ ⟨(hd7.cell (p := ⟨w.heap.size, 0, none⟩) hl).trans c0, (hd7.cell (p := ⟨w.heap.size, 1, none⟩) hl).trans c1, (hd7.cell (p := ⟨w.heap.size, 2, none⟩) hl).trans c2, (hd7.cell (p := ⟨w.heap.size, 3, none⟩) hl).trans c3, (hd7.cell (p := ⟨w.heap.size, 4, none⟩) hl).trans c4, (hd7.cell (p := ⟨w.heap.size, 5, none⟩) hl).trans c5⟩ (fun hHeld => ?_)
            clear hK K
            (try simp only [List.getElem_toArray, List.getElem_cons_zero, List.getElem_cons_succ, Act.put, List.setIfInBounds_toArray, List.set_cons_zero, List.set_cons_succ])
            (refine wpAnyH_take (i := 25) (v := ?_) rfl (by kernel_rfl) (by kernel_rfl) (by kernel_rfl) (fun _ _ _ h => h) (Or.inl ⟨by kernel_rfl, fun w0 hSw => ?_⟩) hHeld ?_; rotate_left; (focus ((try dsimp only at hSw); simp only [List.getElem_toArray, List.getElem_cons_zero, List.getElem_cons_succ]; (first | (go_simp; done) | (go_simp; with_reducible rfl)))); (try simp only [List.getElem_toArray, List.getElem_cons_zero, List.getElem_cons_succ, Act.put, List.setIfInBounds_toArray, List.set_cons_zero, List.set_cons_succ]))
            (refine wpAnyH_take (i := 26) (v := ?_) rfl (by kernel_rfl) (by kernel_rfl) (by kernel_rfl) (fun _ _ _ h => h) (Or.inl ⟨by kernel_rfl, fun w0 hSw => ?_⟩) hHeld ?_; rotate_left; (focus ((try dsimp only at hSw); simp only [List.getElem_toArray, List.getElem_cons_zero, List.getElem_cons_succ]; (first | (go_simp; done) | (go_simp; with_reducible rfl)))); (try simp only [List.getElem_toArray, List.getElem_cons_zero, List.getElem_cons_succ, Act.put, List.setIfInBounds_toArray, List.set_cons_zero, List.set_cons_succ]))
            (refine wpAnyH_take (i := 27) (v := ?_) rfl (by kernel_rfl) (by kernel_rfl) (by kernel_rfl) (fun _ _ _ h => h) (Or.inl ⟨by kernel_rfl, fun w0 hSw => ?_⟩) hHeld ?_; rotate_left; (focus ((try dsimp only at hSw); simp only [List.getElem_toArray, List.getElem_cons_zero, List.getElem_cons_succ]; (first | (go_simp; done) | (go_simp; with_reducible rfl)))); (try simp only [List.getElem_toArray, List.getElem_cons_zero, List.getElem_cons_succ, Act.put, List.setIfInBounds_toArray, List.set_cons_zero, List.set_cons_succ]))
            refine wpAnyH_done (by kernel_rfl) ?_ _
            clear hHeld
            go_wp2_with fail
            go_ret
            exact ⟨by rw [← HT.out]; rfl, hbw.trans (hd7.mono (by omega))⟩
        · simp only [List.getElem_toArray, List.getElem_cons_zero, List.getElem_cons_succ]
          go_simp
          refine (HP4.out _).mono ?_
          rintro e u6 ⟨rfl, hb6⟩
          have hd6 := hd5.trans (hb6.mono hd5.size)
          have hwd6 := (hb6.block wb (Nat.lt_of_lt_of_le hwl (hsz5))).trans hwd5
          have hsz6 : v2.heap.size ≤ u6.heap.size := Nat.le_trans hsz5 hb6.size
          clear hb6
          go_wp2_with fail
          refine hK.out _ _ ⟨(hd6.cell (p := ⟨w.heap.size, 0, none⟩) hl).trans c0, (hd6.cell (p := ⟨w.heap.size, 1, none⟩) hl).trans c1, (hd6.cell (p := ⟨w.heap.size, 2, none⟩) hl).trans c2, (hd6.cell (p := ⟨w.heap.size, 3, none⟩) hl).trans c3, (hd6.cell (p := ⟨w.heap.size, 4, none⟩) hl).trans c4, (hd6.cell (p := ⟨w.heap.size, 5, none⟩) hl).trans c5⟩ (fun hHeld => ?_)
          clear hK K
          (try simp only [List.getElem_toArray, List.getElem_cons_zero, List.getElem_cons_succ, Act.put, List.setIfInBounds_toArray, List.set_cons_zero, List.set_cons_succ])
          refine wpAnyH_ready (rs := [8]) (by kernel_rfl) (by simp) ?_
          refine (AllReadyH.cons rfl (fun K hK => ?_) AllReadyH.nil)
          · simp only [List.getElem_toArray, List.getElem_cons_zero, List.getElem_cons_succ]
            have zk := cell_blk hwd6 x.k.toNat
            rw [HWG.out] at zk
            go_simp
            have hd7 := hd6
            have hwd7 := hwd6
            have hsz7 := hsz6
            refine hK.out _ _ ⟨(hd6.cell (p := ⟨w.heap.size, 0, none⟩) hl).trans c0, (hd6.cell (p := ⟨w.heap.size, 1, none⟩) hl).trans c1, (hd6.cell (p := ⟨w.heap.size, 2, none⟩) hl).trans c2, (hd6.cell (p := ⟨w.heap.size, 3, none⟩) hl).trans c3, (hd6.cell (p := ⟨w.heap.size, 4, none⟩) hl).trans c4, (hd6.cell (p := ⟨w.heap.size, 5, none⟩) hl).trans c5⟩ (fun hHeld => ?_)
            clear hK K
            (try simp only [List.getElem_toArray, List.getElem_cons_zero, List.getElem_cons_succ, Act.put, List.setIfInBounds_toArray, List.set_cons_zero, List.set_cons_succ])
            (refine wpAnyH_take (i := 9) (v := ?_) rfl (by kernel_rfl) (by kernel_rfl) (by kernel_rfl) (fun _ _ _ h => h) (Or.inl ⟨by kernel_rfl, fun w0 hSw => ?_⟩) hHeld ?_; rotate_left; (focus ((try dsimp only at hSw); simp only [List.getElem_toArray, List.getElem_cons_zero, List.getElem_cons_succ]; (first | (go_simp; done) | (go_simp; with_reducible rfl)))); (try simp only [List.getElem_toArray, List.getElem_cons_zero, List.getElem_cons_succ, Act.put, List.setIfInBounds_toArray, List.set_cons_zero, List.set_cons_succ]))
            (refine wpAnyH_take (i := 13) (v := ?_) rfl (by kernel_rfl) (by kernel_rfl) (by kernel_rfl) (fun _ _ _ h => h) (Or.inl ⟨by kernel_rfl, fun w0 hSw => ?_⟩) hHeld ?_; rotate_left; (focus ((try dsimp only at hSw); simp only [List.getElem_toArray, List.getElem_cons_zero, List.getElem_cons_succ]; (first | (go_simp; done) | (go_simp; with_reducible rfl)))); (try simp only [List.getElem_toArray, List.getElem_cons_zero, List.getElem_cons_succ, Act.put, List.setIfInBounds_toArray, List.set_cons_zero, List.set_cons_succ]))
            (refine wpAnyH_take (i := 17) (v := ?_) rfl (by kernel_rfl) (by kernel_rfl) (by kernel_rfl) (fun _ _ _ h => h) (Or.inl ⟨by kernel_rfl, fun w0 hSw => ?_⟩) hHeld ?_; rotate_left; (focus ((try dsimp only at hSw); simp only [List.getElem_toArray, List.getElem_cons_zero, List.getElem_cons_succ]; (first | (go_simp; done) | (go_simp; with_reducible rfl)))); (try simp only [List.getElem_toArray, List.getElem_cons_zero, List.getElem_cons_succ, Act.put, List.setIfInBounds_toArray, List.set_cons_zero, List.set_cons_succ]))
            (refine wpAnyH_take (i := 21) (v := ?_) rfl (by kernel_rfl) (by kernel_rfl) (by kernel_rfl) (fun _ _ _ h => h) (Or.inl ⟨by kernel_rfl, fun w0 hSw => ?_⟩) hHeld ?_; rotate_left; (focus ((try dsimp only at hSw); simp only [List.getElem_toArray, List.getElem_cons_zero, List.getElem_cons_succ]; (first | (go_simp; done) | (go_simp; with_reducible rfl)))); (try simp only [List.getElem_toArray, List.getElem_cons_zero, List.getElem_cons_succ, Act.put, List.setIfInBounds_toArray, List.set_cons_zero, List.set_cons_succ]))
            (refine wpAnyH_take (i := 25) (v := ?_) rfl (by kernel_rfl) (by kernel_rfl) (by kernel_rfl) (fun _ _ _ h => h) (Or.inl ⟨by kernel_rfl, fun w0 hSw => ?_⟩) hHeld ?_; rotate_left; (focus ((try dsimp only at hSw); simp only [List.getElem_toArray, List.getElem_cons_zero, List.getElem_cons_succ]; (first | (go_simp; done) | (go_simp; with_reducible rfl)))); (try simp only [List.getElem_toArray, List.getElem_cons_zero, List.getElem_cons_succ, Act.put, List.setIfInBounds_toArray, List.set_cons_zero, List.set_cons_succ]))
            (refine wpAnyH_take (i := 26) (v := ?_) rfl (by kernel_rfl) (by kernel_rfl) (by kernel_rfl) (fun _ _ _ h => h) (Or.inl ⟨by kernel_rfl, fun w0 hSw => ?_⟩) hHeld ?_; rotate_left; (focus ((try dsimp only at hSw); simp only [List.getElem_toArray, List.getElem_cons_zero, List.getElem_cons_succ]; (first | (go_simp; done) | (go_simp; with_reducible rfl)))); (try simp only [List.getElem_toArray, List.getElem_cons_zero, List.getElem_cons_succ, Act.put, List.setIfInBounds_toArray, List.set_cons_zero, List.set_cons_succ]))
            (refine wpAnyH_take (i := 27) (v := ?_) rfl (by kernel_rfl) (by kernel_rfl) (by kernel_rfl) (fun _ _ _ h => h) (Or.inl ⟨by kernel_rfl, fun w0 hSw => ?_⟩) hHeld ?_; rotate_left; (focus ((try dsimp only at hSw); simp only [List.getElem_toArray, List.getElem_cons_zero, List.getElem_cons_succ]; (first | (go_simp; done) | (go_simp; with_reducible rfl)))); (try simp only [List.getElem_toArray, List.getElem_cons_zero, List.getElem_cons_succ, Act.put, List.setIfInBounds_toArray, List.set_cons_zero, List.set_cons_succ]))
            refine wpAnyH_done (by kernel_rfl) ?_ _
            clear hHeld
            go_wp2_with fail
            go_ret
            exact ⟨by rw [← HT.out]; rfl, hbw.trans (hd7.mono (by omega))⟩
end Go.Proofs.YtekpnphfdoplfaaDoor

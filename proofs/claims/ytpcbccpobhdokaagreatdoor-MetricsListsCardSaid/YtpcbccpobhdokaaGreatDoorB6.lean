/- The reference's decimals. -/
import Derived.Test.YtpcbccpobhdokaaGreatDoorB1
import Derived.Test.YtpcbccpobhdokaaGreatDoorP1
import Derived.Lib.ItoaNum
import Derived.Test.YtpcbccpobhdokaaGreatDoorE3
set_option linter.unusedSimpArgs false
set_option linter.unusedVariables false
set_option linter.all false
namespace Go.Proofs.YtpcbccpobhdokaaGreatDoor
open Go.RowKit
theorem itoa_len {n : Int} (h0 : 0 ≤ n) (h1 : n ≤ 1152921504606846976) : (Lib.itoa n).length ≤ 21 := Lib.itoa_length_le n (by omega) (by omega)
theorem dec_pre {m : Nat} (h : 10 ≤ m) : Lib.decDigits m = Lib.decDigits (m / 10) ++ [UInt8.ofNat (48 + m % 10)] := by rw [Lib.decDigits, dif_neg (by omega)]
def preD (m : Nat) : List UInt8 := if m < 10 then [] else Lib.decDigits (m / 10)
theorem preD_eq (m : Nat) : Lib.decDigits m = preD m ++ [UInt8.ofNat (48 + m % 10)] := by
  unfold preD
  by_cases h : m < 10
  · rw [if_pos h, Lib.decDigits_one h, Nat.mod_eq_of_lt h]; rfl
  · rw [if_neg h, dec_pre (by omega)]
def DecS (n m : Nat) (s : ByteArray) : Prop := ∃ tl : List UInt8, s = ⟨tl.toArray⟩ ∧ Lib.decDigits n = preD m ++ tl ∧ tl.length ≤ 21
theorem DecS.first (n : Nat) (x : UInt8) (hx : x = UInt8.ofNat (48 + n % 10)) : DecS n n ⟨#[x]⟩ := ⟨[x], rfl, by rw [hx]; exact preD_eq n, by simp⟩
theorem DecS.next {n m : Nat} {s : ByteArray} (h : DecS n m s) (hn : n ≤ 1152921504606846976) (hm : 10 ≤ m) (x : UInt8) (hx : x = UInt8.ofNat (48 + m / 10 % 10)) : DecS n (m / 10) (⟨#[x]⟩ ++ s) := by
  obtain ⟨tl, rfl, e, _⟩ := h
  have e2 : Lib.decDigits n = preD (m / 10) ++ (x :: tl) := by
    rw [e, preD, if_neg (by omega), preD_eq (m / 10), hx]; simp
  refine ⟨x :: tl, ByteArray.mk_append_mk [_] tl, e2, ?_⟩
  have := itoa_len (n := (n : Int)) (by omega) (by omega)
  rw [Lib.itoa_nonneg, e2, List.length_append] at this
  omega
theorem DecS.size {n m : Nat} {s : ByteArray} (h : DecS n m s) : s.size ≤ 21 := by
  obtain ⟨tl, rfl, _, h⟩ := h
  rw [mk_size]; exact h
theorem DecS.last {n m : Nat} {s : ByteArray} (h : DecS n m s) (hm : m < 10) : s = itoaS n := by
  obtain ⟨tl, rfl, e, _⟩ := h
  rw [preD, if_pos hm, List.nil_append] at e
  rw [itoaS, Lib.itoa_nonneg, e]
theorem conv1 (W0 : World) (b : Nat) (hb : b = W0.heap.size) (x : Int) : (convert 72 9 (.slice (some ⟨b, 0, none⟩) 1 1)).run Tryz.prog (W0.alloc (Obj.cells #[.int .u8 x] 5)) = .ok (.string ⟨#[UInt8.ofNat x.toNat]⟩) (W0.alloc (Obj.cells #[.int .u8 x] 5)) := by
  subst hb
  have := run_convert_bytes_arg (P := Tryz.prog) (w := W0.alloc (Obj.cells #[.int .u8 x] 5)) 72 5 Tryz.underlying72 Tryz.underlying5 W0.heap.size 0 1 1 [x] rfl (fun i hi => by
    obtain rfl : i = 0 := by omega
    simp [go_sem]) 9 Tryz.underlying9
  exact this
set_option maxHeartbeats 1000000 in
set_option maxRecDepth 100000 in
theorem decimal_any (n : Nat) (hn : n ≤ 1152921504606846976) (w : World) : Calls Tryz.prog 33 #[.int .i64 n] w fun e w' => e = .returned (.string (itoaS n)) ∧ Below w.heap.size w w' := by
  have h1 : (0 : Int) ≤ n := by omega
  have h2 : (n : Int) ≤ 1152921504606846976 := by omega
  have v1 := conv1 w w.heap.size rfl (48 + (n : Int) % 10)
  go_enter Tryz.func33, Tryz.ntmps33
  go_wp2_with fail
  clear v1
  go_loopw [0, 3] (fun i s wr => ∃ (m : Nat) (t : ByteArray), m ≤ 1152921504606846976 ∧ i = .int .i64 m ∧ s = .string t ∧ DecS n m t ∧ Below w.heap.size w wr) (fun i _ _ => (intOf i).toNat)
  case atStart => exact ⟨n, _, hn, rfl, rfl, DecS.first n _ (by first | rfl | (congr 1; omega) | simp), by (repeat' (first | (with_reducible exact Below.refl _ _) | (with_reducible refine Below.alloc ?_ ?_ _) | (with_reducible refine Below.drew ?_) | (with_reducible refine below_drewN ?_ _) | (with_reducible refine Below.setCell ?_ ?_ _) | (with_reducible refine Below.trans ?_ (Below.mono (by assumption) ?_)) | (with_reducible exact Nat.le_refl _) | omega | (simp; omega) | (simp; done)))⟩
  case round =>
    obtain ⟨m, t, hm, rfl, rfl, hD, hB⟩ := hrel
    have g0 : (0 : Int) ≤ m := by omega
    have g1 : (m : Int) ≤ 1152921504606846976 := by omega
    have ht := hD.size
    have HD := Lib.hid hD
    clear hD
    have hz := hB.size
    by_cases hlt : m < 10
    · have HL := Lib.hid (HD.out.last hlt)
      have g2 : ¬ (10 : Int) ≤ m := by omega
      go_wp2_with fail
      go_ret
      exact ⟨by rw [← HL.out]; rfl, hB⟩
    · have g2 : (10 : Int) ≤ m := by omega
      have v2 := conv1 wr wr.heap.size rfl (48 + (m : Int) / 10 % 10)
      go_wp2_with fail
      go_roundw
      case rel => exact ⟨m / 10, _, by omega, by go_num, rfl, HD.out.next hn (by omega) _ (by first | rfl | (simp; done) | (simp [UInt8.ofNat_add]; done) | (congr 1; omega)), hB.alloc hz _⟩
      case measure => simp [intOf]; omega
def hdD (m : Nat) : List UInt8 := if m = 0 then [] else Lib.decDigits m
def DecT (n m : Nat) (s : ByteArray) : Prop := ∃ tl : List UInt8, s = ⟨tl.toArray⟩ ∧ ((tl = [] ∧ m = n) ∨ (tl ≠ [] ∧ Lib.decDigits n = hdD m ++ tl)) ∧ tl.length ≤ 21
theorem hd_pre (m : Nat) : preD m = hdD (m / 10) := by
  unfold preD hdD
  by_cases h : m < 10
  · rw [if_pos h, if_pos (by omega)]
  · rw [if_neg h, if_neg (by omega)]
theorem DecT.first (n : Nat) : DecT n n ⟨#[]⟩ := ⟨[], rfl, .inl ⟨rfl, rfl⟩, by simp⟩
theorem DecT.next {n m : Nat} {s : ByteArray} (h : DecT n m s) (hn : n ≤ 1152921504606846976) (hm : 0 < m ∨ s = ⟨#[]⟩) (x : UInt8) (hx : x = UInt8.ofNat (48 + m % 10)) : DecT n (m / 10) (⟨#[x]⟩ ++ s) := by
  obtain ⟨tl, rfl, e, _⟩ := h
  have e2 : Lib.decDigits n = hdD (m / 10) ++ (x :: tl) := by
    rcases e with ⟨rfl, rfl⟩ | ⟨e0, e⟩
    · rw [preD_eq m, hd_pre, hx]
    · have hm0 : 0 < m := by
        rcases hm with hm | hm
        · exact hm
        · exfalso
          apply e0
          have := congrArg (fun b : ByteArray => b.data.toList) hm
          simpa using this
      rw [e, hdD, if_neg (by omega), preD_eq m, hd_pre, hx]; simp
  refine ⟨x :: tl, ByteArray.mk_append_mk [_] tl, .inr ⟨by simp, e2⟩, ?_⟩
  have := itoa_len (n := (n : Int)) (by omega) (by omega)
  rw [Lib.itoa_nonneg, e2, List.length_append] at this
  omega
theorem DecT.size {n m : Nat} {s : ByteArray} (h : DecT n m s) : s.size ≤ 21 := by
  obtain ⟨tl, rfl, _, h⟩ := h
  rw [mk_size]; exact h
theorem DecT.last {n : Nat} {s : ByteArray} (h : DecT n 0 s) (hs : s ≠ ⟨#[]⟩) : s = itoaS n := by
  obtain ⟨tl, rfl, e, _⟩ := h
  rcases e with ⟨rfl, _⟩ | ⟨_, e⟩
  · exact absurd rfl hs
  · rw [hdD, if_pos rfl, List.nil_append] at e
    rw [itoaS, Lib.itoa_nonneg, e]
def sz0 (s : Value) : Nat := match s with | .string b => if b.size = 0 then 1 else 0 | _ => 0
theorem sz0_app (x : UInt8) (t : ByteArray) : sz0 (.string (⟨#[x]⟩ ++ t)) = 0 := by
  have h : (ByteArray.mk #[x] ++ t).size ≠ 0 := by
    rw [ByteArray.size_append]
    show 1 + t.size ≠ 0
    omega
  show (if (ByteArray.mk #[x] ++ t).size = 0 then 1 else 0) = 0
  rw [if_neg h]
set_option maxHeartbeats 2000000 in
set_option maxRecDepth 100000 in
theorem dec04_any (n : Int) (hn : -1099511627776 ≤ n ∧ n ≤ 1099511627776) (w : World) : Calls Tryz.prog 65 #[.int .i64 n] w fun e w' => e = .returned (.string (itoaS n)) ∧ Below w.heap.size w w' := by
  have HS := fun W => siz_any n ⟨by omega, by omega⟩ W
  obtain ⟨N, hN⟩ : ∃ N : Nat, n.natAbs = N := ⟨_, rfl⟩
  rw [hN] at HS
  have hN2 : N ≤ 1099511627776 := by omega
  go_enter Tryz.func65, Tryz.ntmps65
  go_wp2_with fail
  refine (HS _).mono ?_
  rintro e w1 ⟨rfl, h1⟩
  have h2 := h1.symm
  subst h2
  go_wp2_with fail
  go_loopw [3, 4] (fun s i wr => ∃ (m : Nat) (t : ByteArray), m ≤ 1099511627776 ∧ i = .int .u64 m ∧ s = .string t ∧ DecT N m t ∧ Below w.heap.size w wr) (fun s i _ => 2 * (intOf i).toNat + sz0 s)
  case atStart => exact ⟨N, _, hN2, rfl, rfl, DecT.first N, by (repeat' (first | (with_reducible exact Below.refl _ _) | (with_reducible refine Below.alloc ?_ ?_ _) | (with_reducible refine Below.drew ?_) | (with_reducible refine below_drewN ?_ _) | (with_reducible refine Below.setCell ?_ ?_ _) | (with_reducible refine Below.trans ?_ (Below.mono (by assumption) ?_)) | (with_reducible exact Nat.le_refl _) | omega | (simp; omega) | (simp; done)))⟩
  case round =>
    obtain ⟨m, t, hm, rfl, rfl, hD, hB⟩ := hrel
    have HD := Lib.hid hD
    have ht := hD.size
    clear hD
    have hz := hB.size
    have g0 : (0 : Int) ≤ m := by omega
    have g1 : (m : Int) ≤ 1099511627776 := by omega
    have v2 := conv1 wr wr.heap.size rfl (48 + (m : Int) % 10)
    by_cases hm0 : m = 0
    · subst hm0
      clear v2
      cases hs : t.toList.isEmpty with
      | false =>
        have hs2 : t ≠ ⟨#[]⟩ := fun h => by rw [h] at hs; simp at hs
        have HL := Lib.hid (HD.out.last hs2)
        by_cases hneg : n < 0
        · have HI : Hid ((ByteArray.mk #[45]) ++ t = itoaS n) := by
            show _ = _
            rw [HL.out, itoaS, itoaS, ← hN]
            obtain ⟨k, rfl⟩ : ∃ k : Nat, n = -(k : Int) := ⟨n.natAbs, by omega⟩
            rw [Int.natAbs_neg, Int.natAbs_natCast, Lib.itoa_nonneg]
            rw [Lib.itoa_neg k (by omega)]
            exact ByteArray.mk_append_mk [45] _
          clear hs2
          go_wp2_with fail
          refine bodyPost_ret (by (simp [results, Tryz.results65, go_sem, *]; try rfl)) rfl ?_
          exact ⟨by rw [← HI.out], hB⟩
        · have HI : Hid (t = itoaS n) := by
            show _ = _
            rw [HL.out, ← hN]
            congr 1
            omega
          clear hs2
          go_wp2_with fail
          refine bodyPost_ret (by (simp [results, Tryz.results65, go_sem, *]; try rfl)) rfl ?_
          exact ⟨by rw [← HI.out], hB⟩
      | true =>
        have v3 := conv1 wr wr.heap.size rfl 48
        have HT : Hid (t = ⟨#[]⟩) := by
          show _ = _
          exact (ba_list t ⟨#[]⟩).1 (by rw [List.isEmpty_iff.1 hs]; simp)
        have HN0 := HD.out.next (by omega) (.inr HT.out) (UInt8.ofNat 48) rfl
        have hsz : sz0 (.string t) = 1 := by rw [HT.out]; rfl
        clear HT
        go_wp2_with fail
        go_roundw
        case rel => exact ⟨0, _, by omega, by go_num, rfl, HN0, hB.alloc hz _⟩
        case measure => simp only [intOf]; rw [hsz, sz0_app]; simp
    · have g3 : (0 : Int) < m := by omega
      go_wp2_with fail
      go_roundw
      case rel => exact ⟨m / 10, _, by omega, by go_num, rfl, HD.out.next (by omega) (.inl (by omega)) _ (by first | rfl | (simp; done) | (simp [UInt8.ofNat_add]; done) | (congr 1; omega)), hB.alloc hz _⟩
      case measure =>
        simp [intOf, sz0_app]
        omega
end Go.Proofs.YtpcbccpobhdokaaGreatDoor
namespace Go.Proofs.YtpcbccpobhdokaaGreatDoor
open Go.RowKit
set_option maxHeartbeats 4000000 in
set_option maxRecDepth 100000 in
theorem rp04_any (a b : Int) (hE : ratE a b = 0) (w : World) : Calls Tryz.prog 32 #[.agg #[.int .i64 a, .int .i64 b]] w fun e w' => e = .returned (.tuple #[.string (ratS a b), .int .i64 0]) ∧ Below w.heap.size w w' := by
  obtain ⟨h1, h2, h3, h4, _⟩ := ratE_ok hE
  have hc := fun W => fcheck_any a b W
  rw [hE] at hc
  have hA := fun W => dec04_any a ⟨h1, h2⟩ W
  have hB := fun W => dec04_any b ⟨by omega, by omega⟩ W
  have sa := itoaS_size (n := a) (by omega) (by omega)
  have sb := itoaS_size (n := b) (by omega) (by omega)
  have hR : ratS a b = if b = 1 then itoaS a else itoaS a ++ (⟨#[47]⟩ ++ itoaS b) := rfl
  generalize itoaS a = ta at *
  generalize itoaS b = tb at *
  generalize ratS a b = R at *
  have HC := Lib.hid hc
  have HA := Lib.hid hA
  have HB := Lib.hid hB
  clear hA hB hE hc
  have e1 : (⟨#[47]⟩ : ByteArray).size = 1 := rfl
  have d0 : (w.alloc (.cells #[.int .i64 a, .int .i64 b] 30)).cell? ⟨w.heap.size, 0, none⟩ = some (.int .i64 a) := cell_of_row _ _ 0 _ _ _ (heap_alloc_last _ _)
  have d1 : (w.alloc (.cells #[.int .i64 a, .int .i64 b] 30)).cell? ⟨w.heap.size, 1, none⟩ = some (.int .i64 b) := cell_of_row _ _ 1 _ _ _ (heap_alloc_last _ _)
  have hB0 : Below w.heap.size w (w.alloc (.cells #[.int .i64 a, .int .i64 b] 30)) := (Below.refl _ w).alloc (Nat.le_refl _) _
  have hlt : w.heap.size < (w.alloc (.cells #[.int .i64 a, .int .i64 b] 30)).heap.size := by simp
  by_cases hone : b = 1
  · rw [if_pos hone] at hR
    subst hR
    subst hone
    clear h1 h2 h3 h4 sa sb e1
    go_enter Tryz.func32, Tryz.ntmps32
    go_upto_region 1 with fail
    generalize w.alloc (.cells #[.int .i64 a, .int .i64 1] 30) = W at *
    go_wp2_with fail
    refine (HC.out _).mono ?_
    rintro e w1 ⟨rfl, hb1⟩
    have c0 := (hb1.cell (p := ⟨w.heap.size, 0, none⟩) hlt).trans d0
    have c1 := (hb1.cell (p := ⟨w.heap.size, 1, none⟩) hlt).trans d1
    have hB1 := hB0.trans (hb1.mono hB0.size)
    clear d0 d1 hb1
    go_wp2_with fail
    refine (HA.out _).mono ?_
    rintro e w2 ⟨rfl, hb2⟩
    have hB2 := hB1.trans (hb2.mono hB1.size)
    go_wp2_with fail
    refine bodyPost_ret (by (simp [results, Tryz.results32, go_sem]; try rfl)) rfl ?_
    exact ⟨rfl, hB2⟩
  · rw [if_neg hone] at hR
    subst hR
    have q1 : ¬ 9223372036854775807 < ta.size + 1 := by omega
    have q2 : ¬ 9223372036854775807 < ta.size + 1 + tb.size := by omega
    go_enter Tryz.func32, Tryz.ntmps32
    go_upto_region 1 with fail
    generalize w.alloc (.cells #[.int .i64 a, .int .i64 b] 30) = W at *
    go_wp2_with fail
    refine (HC.out _).mono ?_
    rintro e w1 ⟨rfl, hb1⟩
    have c0 := (hb1.cell (p := ⟨w.heap.size, 0, none⟩) hlt).trans d0
    have c1 := (hb1.cell (p := ⟨w.heap.size, 1, none⟩) hlt).trans d1
    have hB1 := hB0.trans (hb1.mono hB0.size)
    have hl1 : w.heap.size < w1.heap.size := by have := hb1.size; omega
    clear d0 d1 hb1
    go_upto_region 5 with fail
    have g0 : w1.drew.cell? ⟨w.heap.size, 0, none⟩ = some (.int .i64 a) := c0
    have g1 : w1.drew.cell? ⟨w.heap.size, 1, none⟩ = some (.int .i64 b) := c1
    have hBd : Below w.heap.size w w1.drew := hB1.drew
    have hld : w.heap.size < w1.drew.heap.size := hl1
    refine wp_region_held_drew (S := fun w' => w'.cell? ⟨w.heap.size, 0, none⟩ = some (.int .i64 a) ∧ w'.cell? ⟨w.heap.size, 1, none⟩ = some (.int .i64 b)) (by kernel_rfl) ⟨c0, c1⟩ (fun hHeld => ?_)
    generalize w1.drew = wd at *
    clear c0 c1
    (refine wpAnyH_take (i := 0) (v := ?_) rfl (by kernel_rfl) (by kernel_rfl) (by kernel_rfl) (fun _ _ _ h => h) (Or.inl ⟨by kernel_rfl, fun w0 hSw => ?_⟩) hHeld ?_; rotate_left; (focus ((try dsimp only at hSw); simp only [List.getElem_toArray, List.getElem_cons_zero, List.getElem_cons_succ]; (first | (go_simp; done) | (go_simp; with_reducible rfl)))); (try simp only [List.getElem_toArray, List.getElem_cons_zero, List.getElem_cons_succ, Act.put, List.setIfInBounds_toArray, List.set_cons_zero, List.set_cons_succ]))
    (refine wpAnyH_take (i := 1) (v := ?_) rfl (by kernel_rfl) (by kernel_rfl) (by kernel_rfl) (fun _ _ _ h => h) (Or.inl ⟨by kernel_rfl, fun w0 hSw => ?_⟩) hHeld ?_; rotate_left; (focus ((try dsimp only at hSw); simp only [List.getElem_toArray, List.getElem_cons_zero, List.getElem_cons_succ]; (first | (go_simp; done) | (go_simp; with_reducible rfl)))); (try simp only [List.getElem_toArray, List.getElem_cons_zero, List.getElem_cons_succ, Act.put, List.setIfInBounds_toArray, List.set_cons_zero, List.set_cons_succ]))
    (refine wpAnyH_take (i := 4) (v := ?_) rfl (by kernel_rfl) (by kernel_rfl) (by kernel_rfl) (fun _ _ _ h => h) (Or.inl ⟨by kernel_rfl, fun w0 hSw => ?_⟩) hHeld ?_; rotate_left; (focus ((try dsimp only at hSw); simp only [List.getElem_toArray, List.getElem_cons_zero, List.getElem_cons_succ]; (first | (go_simp; done) | (go_simp; with_reducible rfl)))); (try simp only [List.getElem_toArray, List.getElem_cons_zero, List.getElem_cons_succ, Act.put, List.setIfInBounds_toArray, List.set_cons_zero, List.set_cons_succ]))
    (refine wpAnyH_take (i := 5) (v := ?_) rfl (by kernel_rfl) (by kernel_rfl) (by kernel_rfl) (fun _ _ _ h => h) (Or.inl ⟨by kernel_rfl, fun w0 hSw => ?_⟩) hHeld ?_; rotate_left; (focus ((try dsimp only at hSw); simp only [List.getElem_toArray, List.getElem_cons_zero, List.getElem_cons_succ]; (first | (go_simp; done) | (go_simp; with_reducible rfl)))); (try simp only [List.getElem_toArray, List.getElem_cons_zero, List.getElem_cons_succ, Act.put, List.setIfInBounds_toArray, List.set_cons_zero, List.set_cons_succ]))
    refine wpAnyH_ready (rs := [2]) (by kernel_rfl) (by simp) ?_
    refine AllReadyH.cons rfl (fun K hK => ?_) AllReadyH.nil
    · simp only [List.getElem_toArray, List.getElem_cons_zero, List.getElem_cons_succ]
      go_simp
      refine (HA.out _).mono ?_
      rintro e w3 ⟨rfl, hb3⟩
      have hB3 := hBd.trans (hb3.mono hBd.size)
      have f0 := (hb3.cell (p := ⟨w.heap.size, 0, none⟩) hld).trans g0
      have f1 := (hb3.cell (p := ⟨w.heap.size, 1, none⟩) hld).trans g1
      have hl3 : w.heap.size < w3.heap.size := by have := hb3.size; omega
      refine hK.out _ _ ⟨f0, f1⟩ (fun hH2 => ?_)
      clear hK K hHeld
      have hHeld := hH2
      clear hH2
      (try simp only [List.getElem_toArray, List.getElem_cons_zero, List.getElem_cons_succ, Act.put, List.setIfInBounds_toArray, List.set_cons_zero, List.set_cons_succ])
      (refine wpAnyH_take (i := 3) (v := ?_) rfl (by kernel_rfl) (by kernel_rfl) (by kernel_rfl) (fun _ _ _ h => h) (Or.inl ⟨by kernel_rfl, fun w0 hSw => ?_⟩) hHeld ?_; rotate_left; (focus ((try dsimp only at hSw); simp only [List.getElem_toArray, List.getElem_cons_zero, List.getElem_cons_succ]; (first | (go_simp; done) | (go_simp; with_reducible rfl)))); (try simp only [List.getElem_toArray, List.getElem_cons_zero, List.getElem_cons_succ, Act.put, List.setIfInBounds_toArray, List.set_cons_zero, List.set_cons_succ]))
      refine wpAnyH_ready (rs := [6]) (by kernel_rfl) (by simp) ?_
      refine AllReadyH.cons rfl (fun K hK => ?_) AllReadyH.nil
      simp only [List.getElem_toArray, List.getElem_cons_zero, List.getElem_cons_succ]
      go_simp
      refine (HB.out _).mono ?_
      rintro e w4 ⟨rfl, hb4⟩
      have hB4 := hB3.trans (hb4.mono hB3.size)
      have k0 := (hb4.cell (p := ⟨w.heap.size, 0, none⟩) hl3).trans f0
      have k1 := (hb4.cell (p := ⟨w.heap.size, 1, none⟩) hl3).trans f1
      refine hK.out _ _ ⟨k0, k1⟩ (fun hH2 => ?_)
      clear hK K hHeld
      have hHeld := hH2
      clear hH2
      (try simp only [List.getElem_toArray, List.getElem_cons_zero, List.getElem_cons_succ, Act.put, List.setIfInBounds_toArray, List.set_cons_zero, List.set_cons_succ])
      (refine wpAnyH_take (i := 7) (v := ?_) rfl (by kernel_rfl) (by kernel_rfl) (by kernel_rfl) (fun _ _ _ h => h) (Or.inl ⟨by kernel_rfl, fun w0 hSw => ?_⟩) hHeld ?_; rotate_left; (focus ((try dsimp only at hSw); simp only [List.getElem_toArray, List.getElem_cons_zero, List.getElem_cons_succ]; (first | (go_simp; done) | (go_simp; with_reducible rfl)))); (try simp only [List.getElem_toArray, List.getElem_cons_zero, List.getElem_cons_succ, Act.put, List.setIfInBounds_toArray, List.set_cons_zero, List.set_cons_succ]))
      (refine wpAnyH_take (i := 8) (v := ?_) rfl (by kernel_rfl) (by kernel_rfl) (by kernel_rfl) (fun _ _ _ h => h) (Or.inl ⟨by kernel_rfl, fun w0 hSw => ?_⟩) hHeld ?_; rotate_left; (focus ((try dsimp only at hSw); simp only [List.getElem_toArray, List.getElem_cons_zero, List.getElem_cons_succ]; (first | (go_simp; done) | (go_simp; with_reducible rfl)))); (try simp only [List.getElem_toArray, List.getElem_cons_zero, List.getElem_cons_succ, Act.put, List.setIfInBounds_toArray, List.set_cons_zero, List.set_cons_succ]))
      (refine wpAnyH_take (i := 9) (v := ?_) rfl (by kernel_rfl) (by kernel_rfl) (by kernel_rfl) (fun _ _ _ h => h) (Or.inl ⟨by kernel_rfl, fun w0 hSw => ?_⟩) hHeld ?_; rotate_left; (focus ((try dsimp only at hSw); simp only [List.getElem_toArray, List.getElem_cons_zero, List.getElem_cons_succ]; (first | (go_simp; done) | (go_simp; with_reducible rfl)))); (try simp only [List.getElem_toArray, List.getElem_cons_zero, List.getElem_cons_succ, Act.put, List.setIfInBounds_toArray, List.set_cons_zero, List.set_cons_succ]))
      refine wpAnyH_done (by kernel_rfl) ?_ _
      go_wp2_with fail
      refine bodyPost_ret (by (simp [results, Tryz.results32, go_sem]; try rfl)) rfl ?_
      exact ⟨by rw [ByteArray.append_assoc], hB4⟩
end Go.Proofs.YtpcbccpobhdokaaGreatDoor

/- Walks over endpoint.Print and the reference Print. -/
import Derived.Test.YtbhmmffompapdaaDoorRows
import Derived.Test.YtbhmmffompapdaaDoorE1
import Derived.WalkKit
import Derived.WalkSpells
import Derived.WalkLawsBesides
import Derived.Handy
import Derived.Deep.QuietTactic
import Derived.BigQuiet
import Derived.Deep.RegionHeld3
import Derived.Deep.DeepCutAuto
import Derived.Lib.Hide
namespace Go.Proofs.YtbhmmffompapdaaDoor
open Go.RowKit

theorem idx1 (a b c : Value) (W : World) : (Instr.index 49 (.agg #[a, b, c]) (.int .i64 1)).run Tryd.prog W = .ok b W := by kernel_rfl
theorem idx2 (a b c : Value) (W : World) : (Instr.index 49 (.agg #[a, b, c]) (.int .i64 2)).run Tryd.prog W = .ok c W := by kernel_rfl
theorem itoa_any (n : Int) (w : World) (h0 : 0 ≤ n) (h1 : n < 16) : Calls Tryd.prog 32 #[.int .i64 n] w fun e w' => e = .returned (.string ⟨(Lib.decDigits n.toNat).toArray⟩) ∧ w' = w := by
  have := Tryd.strconv_Itoa_small n.toNat (by omega) w
  rwa [Int.toNat_of_nonneg h0] at this
theorem dec_len (n : Int) (h0 : 0 ≤ n) (h1 : n < 16) : (Lib.decDigits n.toNat).length ≤ 2 := by
  by_cases h : n.toNat < 10
  · rw [Lib.decDigits_one h]; simp
  · rw [Lib.decDigits_two h (by omega)]; simp
theorem cat1 (n : Int) : (ByteArray.mk #[110, 111, 100, 101] ++ ByteArray.mk #[58] ++ ByteArray.mk (Lib.decDigits n.toNat).toArray) = ⟨(epText 1 n).toArray⟩ := by
  have h1 := ByteArray.mk_append_mk [110, 111, 100, 101] [58]
  have h2 := ByteArray.mk_append_mk [110, 111, 100, 101, 58] (Lib.decDigits n.toNat)
  exact (congrArg (· ++ _) h1).trans h2
theorem cat2 (n : Int) : (ByteArray.mk #[103, 114, 111, 117, 112] ++ ByteArray.mk #[58] ++ ByteArray.mk (Lib.decDigits n.toNat).toArray) = ⟨(epText 2 n).toArray⟩ := by
  have h1 := ByteArray.mk_append_mk [103, 114, 111, 117, 112] [58]
  have h2 := ByteArray.mk_append_mk [103, 114, 111, 117, 112, 58] (Lib.decDigits n.toNat)
  exact (congrArg (· ++ _) h1).trans h2
set_option maxHeartbeats 400000 in
theorem print_ok (k n : Int) (w : World) (h : epE k n = 0) : Calls Tryd.prog 10 #[.agg #[.int .i64 k, .int .i64 n]] w fun e w' => e = .returned (.tuple #[.string ⟨(epText k n).toArray⟩, .int .i64 0]) ∧ Below w.heap.size w w' := by
  obtain ⟨hk, h0, h1⟩ := epE_ok h
  have H := Lib.hid h
  clear h
  have i1 := idx1
  have i2 := idx2
  have hl := dec_len n h0 h1
  have hl5 : ¬ 9223372036854775807 < 5 + (Lib.decDigits n.toNat).length := by omega
  have hl6 : ¬ 9223372036854775807 < 6 + (Lib.decDigits n.toNat).length := by omega
  rcases hk with rfl | rfl
  · go_enter Tryd.func10, Tryd.ntmps10
    go_wp2_with fail
    refine (check_any _ _ _).mono ?_
    rw [H.out]
    (rintro e w1 ⟨rfl, hb1⟩; have hz1 : w.heap.size + 1 ≤ w1.heap.size := (Nat.le_trans (by (first | omega | (simp; done) | (simp; omega))) hb1.size); have hk1 := bc (B := w.heap.size + 1) hb1 (by (first | omega | (simp; done) | (simp; omega))); have hf1 := bf (B := w.heap.size + 1) hb1 (by (first | omega | (simp; done) | (simp; omega))); have hy1 : w.heap.size < w1.heap.size := (by omega))
    go_wp2_with fail
    have c0 : w1.cell? ⟨w.heap.size, 0, none⟩ = some (.int .i64 1) := by simp [*, go_sem]
    have c1 : w1.cell? ⟨w.heap.size, 1, none⟩ = some (.int .i64 n) := by simp [*, go_sem]
    clear hk1 hf1
    go_region_held3 (fun w' => w'.cell? ⟨w.heap.size, 0, none⟩ = some (.int .i64 1) ∧ w'.cell? ⟨w.heap.size, 1, none⟩ = some (.int .i64 n)) (go_keep)
      (first
       | (go_at_call 31; refine (words_any _).mono ?_; rintro e w2 ⟨rfl, hb2⟩; have hk2 := bc (B := w1.heap.size) hb2 (by (first | omega | (simp; done) | (simp; omega))))
       | (go_at_call 32; refine (itoa_any _ _ (by omega) (by omega)).mono ?_; rintro e w3 ⟨rfl, rfl⟩))
    all_goals
      go_wp2_with fail
      go_ret2
      refine ⟨?_, by (repeat' (first | (with_reducible exact Below.refl _ _) | (with_reducible refine Below.alloc ?_ ?_ _) | (with_reducible refine Below.drew ?_) | (with_reducible refine below_drewN ?_ _) | (with_reducible refine Below.setCell ?_ ?_ _) | (with_reducible refine Below.trans ?_ (Below.mono (by assumption) ?_)) | (with_reducible exact Nat.le_refl _) | omega | (simp; omega) | (simp; done)))⟩
      rw [← cat1]; rfl
  · go_enter Tryd.func10, Tryd.ntmps10
    go_wp2_with fail
    refine (check_any _ _ _).mono ?_
    rw [H.out]
    (rintro e w1 ⟨rfl, hb1⟩; have hz1 : w.heap.size + 1 ≤ w1.heap.size := (Nat.le_trans (by (first | omega | (simp; done) | (simp; omega))) hb1.size); have hk1 := bc (B := w.heap.size + 1) hb1 (by (first | omega | (simp; done) | (simp; omega))); have hf1 := bf (B := w.heap.size + 1) hb1 (by (first | omega | (simp; done) | (simp; omega))); have hy1 : w.heap.size < w1.heap.size := (by omega))
    go_wp2_with fail
    have c0 : w1.cell? ⟨w.heap.size, 0, none⟩ = some (.int .i64 2) := by simp [*, go_sem]
    have c1 : w1.cell? ⟨w.heap.size, 1, none⟩ = some (.int .i64 n) := by simp [*, go_sem]
    clear hk1 hf1
    go_region_held3 (fun w' => w'.cell? ⟨w.heap.size, 0, none⟩ = some (.int .i64 2) ∧ w'.cell? ⟨w.heap.size, 1, none⟩ = some (.int .i64 n)) (go_keep)
      (first
       | (go_at_call 31; refine (words_any _).mono ?_; rintro e w2 ⟨rfl, hb2⟩; have hk2 := bc (B := w1.heap.size) hb2 (by (first | omega | (simp; done) | (simp; omega))))
       | (go_at_call 32; refine (itoa_any _ _ (by omega) (by omega)).mono ?_; rintro e w3 ⟨rfl, rfl⟩))
    all_goals
      go_wp2_with fail
      go_ret2
      refine ⟨?_, by (repeat' (first | (with_reducible exact Below.refl _ _) | (with_reducible refine Below.alloc ?_ ?_ _) | (with_reducible refine Below.drew ?_) | (with_reducible refine below_drewN ?_ _) | (with_reducible refine Below.setCell ?_ ?_ _) | (with_reducible refine Below.trans ?_ (Below.mono (by assumption) ?_)) | (with_reducible exact Nat.le_refl _) | omega | (simp; omega) | (simp; done)))⟩
      rw [← cat2]; rfl
theorem print_bad (k n : Int) (w : World) (h : epE k n ≠ 0) : Calls Tryd.prog 10 #[.agg #[.int .i64 k, .int .i64 n]] w fun e w' => e = .returned (.tuple #[.string ⟨#[]⟩, .int .i64 (epE k n)]) ∧ Below w.heap.size w w' := by
  have h1 : (epE k n != 0) = true := by simpa using h
  clear h
  go_enter Tryd.func10, Tryd.ntmps10
  go_wp2_with (first | (go_at_call 29; refine (check_any _ _ _).mono ?_; (rintro e w1 ⟨rfl, hb⟩; have hz : w.heap.size + 1 ≤ w1.heap.size := (Nat.le_trans (by (first | omega | (simp; done) | (simp; omega))) hb.size); have hk := bc (B := w.heap.size + 1) hb (by (first | omega | (simp; done) | (simp; omega))); have hf := bf (B := w.heap.size + 1) hb (by (first | omega | (simp; done) | (simp; omega))); have hy : w.heap.size < w1.heap.size := (by omega))))
  go_ret2
  exact ⟨rfl, by (repeat' (first | (with_reducible exact Below.refl _ _) | (with_reducible refine Below.alloc ?_ ?_ _) | (with_reducible refine Below.drew ?_) | (with_reducible refine below_drewN ?_ _) | (with_reducible refine Below.setCell ?_ ?_ _) | (with_reducible refine Below.trans ?_ (Below.mono (by assumption) ?_)) | (with_reducible exact Nat.le_refl _) | omega | (simp; omega) | (simp; done)))⟩
/-- what Print returns -/
def prS (k n : Int) : ByteArray := if epE k n = 0 then ⟨(epText k n).toArray⟩ else ⟨#[]⟩
theorem print_any (k n : Int) (w : World) : Calls Tryd.prog 10 #[.agg #[.int .i64 k, .int .i64 n]] w fun e w' => e = .returned (.tuple #[.string (prS k n), .int .i64 (epE k n)]) ∧ Below w.heap.size w w' := by
  by_cases h : epE k n = 0
  · rw [prS, if_pos h, h]; exact print_ok k n w h
  · rw [prS, if_neg h]; exact print_bad k n w h
/-- the reference: the digits of a number below 16 -/
theorem dec16 (n : Int) (h0 : 0 ≤ n) (h1 : n < 16) : Lib.decDigits n.toNat = if n < 10 then [UInt8.ofNat (48 + (n % 10).toNat)] else [UInt8.ofNat (48 + (n / 10).toNat), UInt8.ofNat (48 + (n % 10).toNat)] := by
  by_cases h : n < 10
  · rw [if_pos h, Lib.decDigits_one (by omega)]
    have e : n.toNat = (n % 10).toNat := by omega
    rw [e]
  · rw [if_neg h, Lib.decDigits_two (by omega) (by omega)]
    have e1 : n.toNat / 10 = (n / 10).toNat := by omega
    have e2 : n.toNat % 10 = (n % 10).toNat := by omega
    rw [e1, e2]
theorem conv1 (W0 : World) (b : Nat) (hb : b = W0.heap.size) (x : Int) : (convert 66 9 (.slice (some ⟨b, 0, none⟩) 1 1)).run Tryd.prog (W0.alloc (Obj.cells #[.int .u8 x] 5)) = .ok (.string ⟨#[UInt8.ofNat x.toNat]⟩) (W0.alloc (Obj.cells #[.int .u8 x] 5)) := by
  subst hb
  have := run_convert_bytes_arg (P := Tryd.prog) (w := W0.alloc (Obj.cells #[.int .u8 x] 5)) 66 5 Tryd.underlying66 Tryd.underlying5 W0.heap.size 0 1 1 [x] rfl (fun i hi => by
    obtain rfl : i = 0 := by omega
    simp [go_sem]) 9 Tryd.underlying9
  exact this
theorem tx1 (k n : Int) (h0 : 0 ≤ n) (h1 : n < 16) (hk : (k == 1) = true) (hn : n < 10) : (ByteArray.mk #[110, 111, 100, 101, 58] ++ ByteArray.mk #[UInt8.ofNat (48 + n % 10).toNat]) = ⟨(epText k n).toArray⟩ := by
  have e : (48 + n % 10).toNat = 48 + (n % 10).toNat := by omega
  rw [epText, dec16 n h0 h1, if_pos hn, if_pos (by simpa using hk), e]
  exact ByteArray.mk_append_mk [110, 111, 100, 101, 58] _
theorem tx2 (k n : Int) (h0 : 0 ≤ n) (h1 : n < 16) (hk : (k == 1) = true) (hn : ¬ n < 10) : (ByteArray.mk #[110, 111, 100, 101, 58] ++ (ByteArray.mk #[UInt8.ofNat (48 + n / 10).toNat] ++ ByteArray.mk #[UInt8.ofNat (48 + n % 10).toNat])) = ⟨(epText k n).toArray⟩ := by
  have e : (48 + n % 10).toNat = 48 + (n % 10).toNat := by omega
  have e2 : (48 + n / 10).toNat = 48 + (n / 10).toNat := by omega
  rw [epText, dec16 n h0 h1, if_neg hn, if_pos (by simpa using hk), e, e2]
  exact (congrArg (_ ++ ·) (ByteArray.mk_append_mk [_] [_])).trans (ByteArray.mk_append_mk [110, 111, 100, 101, 58] _)
theorem tx3 (k n : Int) (h0 : 0 ≤ n) (h1 : n < 16) (hk : ¬ (k == 1) = true) (hn : n < 10) : (ByteArray.mk #[103, 114, 111, 117, 112, 58] ++ ByteArray.mk #[UInt8.ofNat (48 + n % 10).toNat]) = ⟨(epText k n).toArray⟩ := by
  have e : (48 + n % 10).toNat = 48 + (n % 10).toNat := by omega
  rw [epText, dec16 n h0 h1, if_pos hn, if_neg (by simpa using hk), e]
  exact ByteArray.mk_append_mk [103, 114, 111, 117, 112, 58] _
theorem tx4 (k n : Int) (h0 : 0 ≤ n) (h1 : n < 16) (hk : ¬ (k == 1) = true) (hn : ¬ n < 10) : (ByteArray.mk #[103, 114, 111, 117, 112, 58] ++ (ByteArray.mk #[UInt8.ofNat (48 + n / 10).toNat] ++ ByteArray.mk #[UInt8.ofNat (48 + n % 10).toNat])) = ⟨(epText k n).toArray⟩ := by
  have e : (48 + n % 10).toNat = 48 + (n % 10).toNat := by omega
  have e2 : (48 + n / 10).toNat = 48 + (n / 10).toNat := by omega
  rw [epText, dec16 n h0 h1, if_neg hn, if_neg (by simpa using hk), e, e2]
  exact (congrArg (_ ++ ·) (ByteArray.mk_append_mk [_] [_])).trans (ByteArray.mk_append_mk [103, 114, 111, 117, 112, 58] _)
set_option maxRecDepth 100000 in
set_option maxHeartbeats 400000 in
theorem text_any (k n : Int) (w : World) (h0 : 0 ≤ n) (h1 : n < 16) : Calls Tryd.prog 39 #[.agg #[.int .i64 k, .int .i64 n]] w fun e w' => e = .returned (.string ⟨(epText k n).toArray⟩) ∧ Below w.heap.size w w' := by
  have v1 := conv1 (w.alloc (Obj.cells #[.int .i64 k, .int .i64 n] 23)) (w.heap.size + 1) (by simp) (48 + n % 10)
  have v2 := conv1 ((w.alloc (Obj.cells #[.int .i64 k, .int .i64 n] 23)).alloc (Obj.cells #[.int .u8 (48 + n % 10)] 5)) (w.heap.size + 1 + 1) (by simp) (48 + n / 10)
  by_cases hk : (k == 1) = true <;> by_cases hn : n < 10
  · have HT := Lib.hid (tx1 k n h0 h1 hk hn)
    go_enter Tryd.func39, Tryd.ntmps39
    go_wp2_with fail
    go_ret
    refine ⟨?_, by (repeat' (first | (with_reducible exact Below.refl _ _) | (with_reducible refine Below.alloc ?_ ?_ _) | (with_reducible refine Below.drew ?_) | (with_reducible refine below_drewN ?_ _) | (with_reducible refine Below.setCell ?_ ?_ _) | (with_reducible refine Below.trans ?_ (Below.mono (by assumption) ?_)) | (with_reducible exact Nat.le_refl _) | omega | (simp; omega) | (simp; done)))⟩
    rw [← HT.out]; rfl
  · have HT := Lib.hid (tx2 k n h0 h1 hk hn)
    go_enter Tryd.func39, Tryd.ntmps39
    go_wp2_with fail
    go_ret
    refine ⟨?_, by (repeat' (first | (with_reducible exact Below.refl _ _) | (with_reducible refine Below.alloc ?_ ?_ _) | (with_reducible refine Below.drew ?_) | (with_reducible refine below_drewN ?_ _) | (with_reducible refine Below.setCell ?_ ?_ _) | (with_reducible refine Below.trans ?_ (Below.mono (by assumption) ?_)) | (with_reducible exact Nat.le_refl _) | omega | (simp; omega) | (simp; done)))⟩
    rw [← HT.out]; rfl
  · have HT := Lib.hid (tx3 k n h0 h1 hk hn)
    go_enter Tryd.func39, Tryd.ntmps39
    go_wp2_with fail
    go_ret
    refine ⟨?_, by (repeat' (first | (with_reducible exact Below.refl _ _) | (with_reducible refine Below.alloc ?_ ?_ _) | (with_reducible refine Below.drew ?_) | (with_reducible refine below_drewN ?_ _) | (with_reducible refine Below.setCell ?_ ?_ _) | (with_reducible refine Below.trans ?_ (Below.mono (by assumption) ?_)) | (with_reducible exact Nat.le_refl _) | omega | (simp; omega) | (simp; done)))⟩
    rw [← HT.out]; rfl
  · have HT := Lib.hid (tx4 k n h0 h1 hk hn)
    go_enter Tryd.func39, Tryd.ntmps39
    go_wp2_with fail
    go_ret
    refine ⟨?_, by (repeat' (first | (with_reducible exact Below.refl _ _) | (with_reducible refine Below.alloc ?_ ?_ _) | (with_reducible refine Below.drew ?_) | (with_reducible refine below_drewN ?_ _) | (with_reducible refine Below.setCell ?_ ?_ _) | (with_reducible refine Below.trans ?_ (Below.mono (by assumption) ?_)) | (with_reducible exact Nat.le_refl _) | omega | (simp; omega) | (simp; done)))⟩
    rw [← HT.out]; rfl
theorem rprint_any (k n : Int) (w : World) : Calls Tryd.prog 26 #[.agg #[.int .i64 k, .int .i64 n]] w fun e w' => e = .returned (.tuple #[.string (prS k n), .int .i64 (epE k n)]) ∧ Below w.heap.size w w' := by
  by_cases h : epE k n = 0
  · obtain ⟨_, h0, h1⟩ := epE_ok h
    rw [prS, if_pos h, h]
    have H := Lib.hid h
    clear h
    go_enter Tryd.func26, Tryd.ntmps26
    go_wp2_with fail
    refine (rcheck_any _ _ _).mono ?_
    rw [H.out]
    (rintro e w1 ⟨rfl, hb⟩; have hz : w.heap.size + 1 ≤ w1.heap.size := (Nat.le_trans (by (first | omega | (simp; done) | (simp; omega))) hb.size); have hk := bc (B := w.heap.size + 1) hb (by (first | omega | (simp; done) | (simp; omega))); have hf := bf (B := w.heap.size + 1) hb (by (first | omega | (simp; done) | (simp; omega))); have hy : w.heap.size < w1.heap.size := (by omega))
    go_wp2_with fail
    refine (text_any _ _ _ h0 h1).mono ?_
    (rintro e w1 ⟨rfl, hb⟩; have hz : w.heap.size + 1 ≤ w1.heap.size := (Nat.le_trans (by (first | omega | (simp; done) | (simp; omega))) hb.size); have hk := bc (B := w.heap.size + 1) hb (by (first | omega | (simp; done) | (simp; omega))); have hf := bf (B := w.heap.size + 1) hb (by (first | omega | (simp; done) | (simp; omega))); have hy : w.heap.size < w1.heap.size := (by omega))
    go_wp2_with fail
    go_ret2
    exact ⟨rfl, by (repeat' (first | (with_reducible exact Below.refl _ _) | (with_reducible refine Below.alloc ?_ ?_ _) | (with_reducible refine Below.drew ?_) | (with_reducible refine below_drewN ?_ _) | (with_reducible refine Below.setCell ?_ ?_ _) | (with_reducible refine Below.trans ?_ (Below.mono (by assumption) ?_)) | (with_reducible exact Nat.le_refl _) | omega | (simp; omega) | (simp; done)))⟩
  · rw [prS, if_neg h]
    have h1 : (epE k n != 0) = true := by simpa using h
    clear h
    go_enter Tryd.func26, Tryd.ntmps26
    go_wp2_with (first | (go_at_call 30; refine (rcheck_any _ _ _).mono ?_; (rintro e w1 ⟨rfl, hb⟩; have hz : w.heap.size + 1 ≤ w1.heap.size := (Nat.le_trans (by (first | omega | (simp; done) | (simp; omega))) hb.size); have hk := bc (B := w.heap.size + 1) hb (by (first | omega | (simp; done) | (simp; omega))); have hf := bf (B := w.heap.size + 1) hb (by (first | omega | (simp; done) | (simp; omega))); have hy : w.heap.size < w1.heap.size := (by omega))))
    go_ret2
    exact ⟨rfl, by (repeat' (first | (with_reducible exact Below.refl _ _) | (with_reducible refine Below.alloc ?_ ?_ _) | (with_reducible refine Below.drew ?_) | (with_reducible refine below_drewN ?_ _) | (with_reducible refine Below.setCell ?_ ?_ _) | (with_reducible refine Below.trans ?_ (Below.mono (by assumption) ?_)) | (with_reducible exact Nat.le_refl _) | omega | (simp; omega) | (simp; done)))⟩
end Go.Proofs.YtbhmmffompapdaaDoor

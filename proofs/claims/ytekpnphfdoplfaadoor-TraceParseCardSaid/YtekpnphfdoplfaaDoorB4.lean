/- The search of a kind's word in the table. -/
import Derived.Test.YtekpnphfdoplfaaDoorP1
namespace Go.Proofs.YtekpnphfdoplfaaDoor
open Go.RowKit
theorem bytes_eq {a b : List UInt8} : ((⟨a.toArray⟩ : ByteArray) = ⟨b.toArray⟩) ↔ a = b := by
  constructor
  · intro h; simpa using congrArg (fun x : ByteArray => x.data.toList) h
  · rintro rfl; rfl
theorem bs_ne {a b : List UInt8} (h : ¬ a = b) : ((⟨a.toArray⟩ : ByteArray).toList == (⟨b.toArray⟩ : ByteArray).toList) = false := by
  rw [ByteArray.toList_eq, ByteArray.toList_eq]; simpa using h
theorem frm_closure (wd w1 : List UInt8) (b1 b2 b3 b4 : Bool) (tb A n c : Nat) (W : World) (r : Bool) (hr : (wd == w1) = r) (hT : W.cell? ⟨tb, 0, none⟩ = some (.slice (some ⟨A, 0, none⟩) n c)) (hn : 2 ≤ n)
    (h1 : W.cell? ⟨A, 1, none⟩ = some (.string ⟨w1.toArray⟩)) : Calls Tryd.prog 49 #[.agg #[.string ⟨wd.toArray⟩, .bool b1, .bool b2, .bool b3, .bool b4], .pointer (some ⟨tb, 0, none⟩)] W fun e W' => e = .returned (.bool r) ∧ Below W.heap.size W W' := by
  have ht := cell_lt hT
  have hA := cell_lt h1
  have hn1 : (1 : Int) < n := by omega
  cases r with
  | true =>
    have e : wd = w1 := by simpa using hr
    subst e
    clear hr
    generalize (⟨wd.toArray⟩ : ByteArray) = s at *
    go_enter Tryd.func49, Tryd.ntmps49
    go_wp2_with fail
    go_quiet (fail)
    go_wp2_with fail
    go_ret
    exact ⟨rfl, by (repeat' (first | (with_reducible exact Below.refl _ _) | (with_reducible refine Below.alloc ?_ ?_ _) | (with_reducible refine Below.drew ?_) | (with_reducible refine below_drewN ?_ _) | (with_reducible refine Below.setCell ?_ ?_ _) | (with_reducible refine Below.trans ?_ (Below.mono (by assumption) ?_)) | (with_reducible exact Nat.le_refl _) | omega | (simp; omega) | (simp; done)))⟩
  | false =>
    have eb := bs_ne (a := wd) (b := w1) (fun e => by rw [e] at hr; simp at hr)
    clear hr
    generalize (⟨wd.toArray⟩ : ByteArray) = s at *
    generalize (⟨w1.toArray⟩ : ByteArray) = s1 at *
    go_enter Tryd.func49, Tryd.ntmps49
    go_wp2_with fail
    go_quiet (fail)
    go_wp2_with fail
    go_ret
    exact ⟨rfl, by (repeat' (first | (with_reducible exact Below.refl _ _) | (with_reducible refine Below.alloc ?_ ?_ _) | (with_reducible refine Below.drew ?_) | (with_reducible refine below_drewN ?_ _) | (with_reducible refine Below.setCell ?_ ?_ _) | (with_reducible refine Below.trans ?_ (Below.mono (by assumption) ?_)) | (with_reducible exact Nat.le_refl _) | omega | (simp; omega) | (simp; done)))⟩
theorem form_at (k : Nat) (h : k < 18) : ∃ b1 b2 b3 b4, formC[k * 5]? = some (.string ⟨(frmW k).toArray⟩) ∧ formC[k * 5 + 1]? = some (.bool b1) ∧ formC[k * 5 + 2]? = some (.bool b2) ∧ formC[k * 5 + 3]? = some (.bool b3) ∧ formC[k * 5 + 4]? = some (.bool b4) := by
  have hk : k = 0 ∨ k = 1 ∨ k = 2 ∨ k = 3 ∨ k = 4 ∨ k = 5 ∨ k = 6 ∨ k = 7 ∨ k = 8 ∨ k = 9 ∨ k = 10 ∨ k = 11 ∨ k = 12 ∨ k = 13 ∨ k = 14 ∨ k = 15 ∨ k = 16 ∨ k = 17 := by omega
  rcases hk with rfl | rfl | rfl | rfl | rfl | rfl | rfl | rfl | rfl | rfl | rfl | rfl | rfl | rfl | rfl | rfl | rfl | rfl <;> exact ⟨_, _, _, _, rfl, rfl, rfl, rfl, rfl⟩
def tabW : List (List UInt8) := (List.range 18).map frmW
theorem tabW_len : tabW.length = 18 := rfl
theorem tabW_get (k : Nat) (h : k < 18) : tabW.getD k [] = frmW k := by
  unfold tabW
  rw [List.getD_eq_getElem?_getD, List.getElem?_map, List.getElem?_range h]; rfl
set_option maxHeartbeats 2000000 in
theorem frm_index (T tb A n c : Nat) (w1 : List UInt8) (w : World) (hF : w.heap[T]? = some (.cells formC 77 (0, 0))) (hT : w.cell? ⟨tb, 0, none⟩ = some (.slice (some ⟨A, 0, none⟩) n c)) (hn : 2 ≤ n) (h1 : w.cell? ⟨A, 1, none⟩ = some (.string ⟨w1.toArray⟩)) :
    Calls Tryd.prog 48 #[.slice (some ⟨T, 0, none⟩) 18 18, .func (.func 49) #[] #[.pointer (some ⟨tb, 0, none⟩)]] w fun e w' => e = .returned (.int .i64 (findI (fun x => x == w1) tabW 0)) ∧ Below w.heap.size w w' := by
  have hTl := blk_lt hF
  have htl := cell_lt hT
  have hAl := cell_lt h1
  have HF := Lib.hid hF
  have HT := Lib.hid hT
  have H1 := Lib.hid h1
  clear hF hT h1
  go_enter Tryd.func48, Tryd.ntmps48
  go_wp2_with fail
  go_loopw [8] (fun i wr => ∃ k : Nat, k ≤ 18 ∧ i = .int .i64 k ∧ Hid (findI (fun x => x == w1) (tabW.drop k) k = findI (fun x => x == w1) tabW 0) ∧ Below w.heap.size w wr) (fun i _ => 18 - (intOf i).toNat)
  case atStart => exact ⟨0, by omega, rfl, rfl, Below.refl _ _⟩
  case round =>
    obtain ⟨k, hk, rfl, hr, hB⟩ := hrel
    have hzr := hB.size
    by_cases hlt : k < 18
    · obtain ⟨b1, b2, b3, b4, f0, f1, f2, f3, f4⟩ := form_at k hlt
      have hb := (hB.block T hTl).trans HF.out
      have x0 := (cell_blk hb (k * 5)).trans f0
      have x1 := (cell_blk hb (k * 5 + 1)).trans f1
      have x2 := (cell_blk hb (k * 5 + 2)).trans f2
      have x3 := (cell_blk hb (k * 5 + 3)).trans f3
      have x4 := (cell_blk hb (k * 5 + 4)).trans f4
      have HST := Lib.hid (findI_step (fun x => x == w1) [] tabW k (by rw [tabW_len]; exact hlt))
      have HW := Lib.hid (tabW_get k hlt)
      have hki : (k : Int) < 18 := by omega
      have hTr : T < wr.heap.size := by omega
      have HC := Lib.hid (fun r hr => frm_closure (frmW k) w1 b1 b2 b3 b4 tb A n c wr r hr ((hB.cell (p := ⟨tb, 0, none⟩) htl).trans HT.out) hn ((hB.cell (p := ⟨A, 1, none⟩) hAl).trans H1.out))
      clear f0 f1 f2 f3 f4 hb
      cases hq : (frmW k == w1)
      · have HN : Hid (findI (fun x => x == w1) (tabW.drop (k + 1)) (k + 1) = findI (fun x => x == w1) tabW 0) := by show _ = _; rw [← hr.out, HST.out, HW.out, hq]; rfl
        have HC2 := Lib.hid (HC.out _ hq)
        clear hq HC
        generalize frmW k = wd at *
        go_wp2_with fail
        refine HC2.out.mono ?_
        rintro e w3 ⟨rfl, hb3⟩
        have hB3 := bt' hB hb3 hzr
        clear hb3
        go_wp2_with fail
        go_roundw
        case rel => exact ⟨k + 1, by omega, by go_num, HN, hB3⟩
        case measure => simp [intOf]; omega
      · have HN : Hid (findI (fun x => x == w1) tabW 0 = k) := by show _ = _; rw [← hr.out, HST.out, HW.out, hq]; rfl
        have HC2 := Lib.hid (HC.out _ hq)
        clear hq HC
        generalize frmW k = wd at *
        go_wp2_with fail
        refine HC2.out.mono ?_
        rintro e w3 ⟨rfl, hb3⟩
        have hB3 := bt' hB hb3 hzr
        clear hb3
        go_wp2_with fail
        go_ret
        exact ⟨by rw [HN.out]; rfl, hB3⟩
    · have HN : Hid (findI (fun x => x == w1) tabW 0 = -1) := by show _ = _; rw [← hr.out, List.drop_of_length_le (by rw [tabW_len]; omega)]; rfl
      obtain rfl : k = 18 := by omega
      go_wp2_with fail
      go_ret
      exact ⟨by rw [HN.out]; rfl, hB⟩
end Go.Proofs.YtekpnphfdoplfaaDoor

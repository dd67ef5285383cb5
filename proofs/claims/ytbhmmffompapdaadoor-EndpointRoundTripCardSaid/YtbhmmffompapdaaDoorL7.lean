/- Walk of the law EndpointRoundTrip. -/
import Derived.Test.YtbhmmffompapdaaDoorR0
import Derived.Test.YtbhmmffompapdaaDoorE17
namespace Go.Proofs.YtbhmmffompapdaaDoor
open Go.RowKit
theorem trip_long (k n : Int) (s : ByteArray) (w : World) (h : 40 < s.size) (hm : s.size ≤ maxLen) : Calls Tryd.prog 9 #[.agg #[.int .i64 k, .int .i64 n], .string s] w fun e w' => e = .returned (.bool true) ∧ Below w.heap.size w w' := by
  unfold maxLen at hm
  go_enter Tryd.func9, Tryd.ntmps9
  go_wp2_with fail
  refine (awake_any _).mono ?_
  rintro e w1 ⟨rfl, hb⟩
  go_wp2_with fail
  go_ret
  exact ⟨rfl, by (repeat' (first | (with_reducible exact Below.refl _ _) | (with_reducible refine Below.alloc ?_ ?_ _) | (with_reducible refine Below.drew ?_) | (with_reducible refine below_drewN ?_ _) | (with_reducible refine Below.setCell ?_ ?_ _) | (with_reducible refine Below.trans ?_ (Below.mono (by assumption) ?_)) | (with_reducible exact Nat.le_refl _) | omega | (simp; omega) | (simp; done)))⟩
theorem epAll_short : (epAll.all fun p => decide ((epText p.1 p.2).length ≤ 8)) = true := by kernel_rfl
theorem prS_size {k n : Int} (h : epE k n = 0) : (prS k n).size ≤ 40 := by
  have := of_decide_eq_true (List.all_eq_true.1 epAll_short _ (epAll_mem h))
  rw [prS, if_pos h]
  show (epText k n).length ≤ 40
  exact Nat.le_trans this (by omega)
theorem prS_data {k n : Int} (h : epE k n = 0) : (prS k n).data.toList = epText k n := by rw [prS, if_pos h]
set_option maxHeartbeats 2000000 in
theorem trip_short (k n : Int) (s : ByteArray) (w : World) (h : s.size ≤ 40) (hG : Glob w) : Calls Tryd.prog 9 #[.agg #[.int .i64 k, .int .i64 n], .string s] w fun e w' => e = .returned (.bool true) ∧ Below w.heap.size w w' := by
  by_cases h1 : epE k n = 0
  · have hS := prS_size h1
    have hp0 := parse_hit h1 (prS_data h1).symm
    have HP : Hid (pK (prS k n).data.toList = k ∧ pN (prS k n).data.toList = n ∧ pE (prS k n).data.toList = 0) := by show _ ∧ _; simp [pK, pN, pE, hp0]
    have H1 := Lib.hid h1
    have hq : ∀ w, (binOp .neq 23 (.agg #[.int .i64 k, .int .i64 n]) (.agg #[.int .i64 k, .int .i64 n])).run Tryd.prog w = .ok (.bool false) w := fun w => by rw [neq_ep, decide_eq_true rfl]; rfl
    clear h1 hp0
    go_enter Tryd.func9, Tryd.ntmps9
    go_wp2_with fail
    refine (print_any _ _ _).mono ?_
    rw [H1.out]
    rintro e w1 ⟨rfl, hb1⟩
    have hz1 : w.heap.size + 1 ≤ w1.heap.size := Nat.le_trans (by (first | omega | (simp; done) | (simp; omega))) hb1.size
    have hB1 : Below w.heap.size w w1 := by (repeat' (first | (with_reducible exact Below.refl _ _) | (with_reducible refine Below.alloc ?_ ?_ _) | (with_reducible refine Below.drew ?_) | (with_reducible refine below_drewN ?_ _) | (with_reducible refine Below.setCell ?_ ?_ _) | (with_reducible refine Below.trans ?_ (Below.mono (by assumption) ?_)) | (with_reducible exact Nat.le_refl _) | omega | (simp; omega) | (simp; done)))
    have c1 : w1.cell? ⟨w.heap.size, 0, none⟩ = some (.int .i64 k) := (hb1.cell (p := ⟨w.heap.size, 0, none⟩) (by simp)).trans (by simp [go_sem])
    have d1 : w1.cell? ⟨w.heap.size, 1, none⟩ = some (.int .i64 n) := (hb1.cell (p := ⟨w.heap.size, 1, none⟩) (by simp)).trans (by simp [go_sem])
    clear hb1
    go_wp2_with fail
    refine (parse_any _ hS _ (hG.below hB1 hG.1)).mono ?_
    rintro e w2 ⟨rfl, hb2⟩
    rw [HP.out.1, HP.out.2.1, HP.out.2.2]
    have hz2 : w1.heap.size ≤ w2.heap.size := hb2.size
    have hB2 : Below w.heap.size w w2 := hB1.trans (hb2.mono (by omega))
    have c2 := (hb2.cell (p := ⟨w.heap.size, 0, none⟩) (show w.heap.size < w1.heap.size by omega)).trans c1
    have d2 := (hb2.cell (p := ⟨w.heap.size, 1, none⟩) (show w.heap.size < w1.heap.size by omega)).trans d1
    have hlt : w.heap.size < w2.heap.size := by omega
    have hB3 := hB2.alloc (by omega) (.cells #[.int .i64 k, .int .i64 n] 23)
    have hz3 : w.heap.size ≤ (w2.alloc (.cells #[.int .i64 k, .int .i64 n] 23)).heap.size := by simp; omega
    clear hb2 c1 d1
    cases hp : epParse s.data.toList with
    | none =>
      have hR : pK s.data.toList = 0 ∧ pN s.data.toList = 0 ∧ pE s.data.toList = 3 := by simp [pK, pN, pE, hp]
      have HR := Lib.hid hR
      clear hR hp
      have hne : ∀ w, (binOp .eql 23 (.agg #[.int .i64 0, .int .i64 0]) (.agg #[.int .i64 0, .int .i64 0])).run Tryd.prog w = .ok (.bool true) w := fun w => by rw [eql_ep, decide_eq_true rfl]
      go_wp2_with fail
      refine (parse_any s h _ (hG.below hB3 hG.1)).mono ?_
      rintro e w8 ⟨rfl, hb8⟩
      rw [HR.out.1, HR.out.2.1, HR.out.2.2]
      have hB8 := hB3.trans (hb8.mono hz3)
      have hz8 := Nat.le_trans hz3 hb8.size
      clear hb8
      go_wp2_with fail
      refine (awake_any _).mono ?_
      rintro e w9 ⟨rfl, hb9⟩
      go_wp2_with fail
      go_ret
      exact ⟨rfl, hB8.trans (((Below.refl _ w8).alloc (by omega) _).trans (hb9.mono (by simp; omega)))⟩
    | some q =>
      obtain ⟨k', n'⟩ := q
      obtain ⟨_, _, r3, r4⟩ := epParse_some hp
      have hR : pK s.data.toList = k' ∧ pN s.data.toList = n' ∧ pE s.data.toList = 0 := by simp [pK, pN, pE, hp]
      have hT : (prS k' n').toList = s.toList := by rw [prS_ok r3, r4, ByteArray.toList_eq]
      have HR := Lib.hid hR
      have HE := Lib.hid r3
      clear hR hp r3 r4
      go_wp2_with fail
      refine (parse_any s h _ (hG.below hB3 hG.1)).mono ?_
      rintro e w8 ⟨rfl, hb8⟩
      rw [HR.out.1, HR.out.2.1, HR.out.2.2]
      have hB8 := hB3.trans (hb8.mono hz3)
      have hz8 := Nat.le_trans hz3 hb8.size
      clear hb8
      go_wp2_with fail
      refine (print_any _ _ _).mono ?_
      rw [HE.out]
      rintro e w10 ⟨rfl, hb10⟩
      have hB10 := hB8.trans (((Below.refl _ w8).alloc (by omega) _).trans (hb10.mono (by simp; omega)))
      have hz10 : w8.heap.size + 1 ≤ w10.heap.size := Nat.le_trans (by simp) hb10.size
      clear hb10
      go_wp2_with fail
      refine (awake_any _).mono ?_
      rintro e w9 ⟨rfl, hb9⟩
      go_wp2_with fail
      go_ret
      exact ⟨rfl, hB10.trans (hb9.mono (by omega))⟩
  · have h2 : (epE k n == 0) = false := by simpa using h1
    have h3 : (epE k n != epE k n) = false := by simp
    have HS : Hid (prS k n = ⟨#[]⟩) := by show _ = _; rw [prS, if_neg h1]
    clear h1
    go_enter Tryd.func9, Tryd.ntmps9
    go_wp2_with fail
    refine (print_any _ _ _).mono ?_
    rw [HS.out]
    rintro e w1 ⟨rfl, hb1⟩
    have hz1 : w.heap.size + 1 ≤ w1.heap.size := Nat.le_trans (by (first | omega | (simp; done) | (simp; omega))) hb1.size
    have hB1 : Below w.heap.size w w1 := by (repeat' (first | (with_reducible exact Below.refl _ _) | (with_reducible refine Below.alloc ?_ ?_ _) | (with_reducible refine Below.drew ?_) | (with_reducible refine below_drewN ?_ _) | (with_reducible refine Below.setCell ?_ ?_ _) | (with_reducible refine Below.trans ?_ (Below.mono (by assumption) ?_)) | (with_reducible exact Nat.le_refl _) | omega | (simp; omega) | (simp; done)))
    have c1 : w1.cell? ⟨w.heap.size, 0, none⟩ = some (.int .i64 k) := (hb1.cell (p := ⟨w.heap.size, 0, none⟩) (by simp)).trans (by simp [go_sem])
    have d1 : w1.cell? ⟨w.heap.size, 1, none⟩ = some (.int .i64 n) := (hb1.cell (p := ⟨w.heap.size, 1, none⟩) (by simp)).trans (by simp [go_sem])
    clear hb1
    go_wp2_with fail
    refine (check_any _ _ _).mono ?_
    rintro e w2 ⟨rfl, hb2⟩
    have hz2 : w1.heap.size ≤ w2.heap.size := hb2.size
    have hB3 : Below w.heap.size w w2 := hB1.trans (hb2.mono (by omega))
    have hz3 : w.heap.size ≤ w2.heap.size := by omega
    clear hb2 c1 d1
    cases hp : epParse s.data.toList with
    | none =>
      have hR : pK s.data.toList = 0 ∧ pN s.data.toList = 0 ∧ pE s.data.toList = 3 := by simp [pK, pN, pE, hp]
      have HR := Lib.hid hR
      clear hR hp
      have hne : ∀ w, (binOp .eql 23 (.agg #[.int .i64 0, .int .i64 0]) (.agg #[.int .i64 0, .int .i64 0])).run Tryd.prog w = .ok (.bool true) w := fun w => by rw [eql_ep, decide_eq_true rfl]
      go_wp2_with fail
      refine (parse_any s h _ (hG.below hB3 hG.1)).mono ?_
      rintro e w8 ⟨rfl, hb8⟩
      rw [HR.out.1, HR.out.2.1, HR.out.2.2]
      have hB8 := hB3.trans (hb8.mono hz3)
      have hz8 := Nat.le_trans hz3 hb8.size
      clear hb8
      go_wp2_with fail
      refine (awake_any _).mono ?_
      rintro e w9 ⟨rfl, hb9⟩
      go_wp2_with fail
      go_ret
      exact ⟨rfl, hB8.trans (((Below.refl _ w8).alloc (by omega) _).trans (hb9.mono (by simp; omega)))⟩
    | some q =>
      obtain ⟨k', n'⟩ := q
      obtain ⟨_, _, r3, r4⟩ := epParse_some hp
      have hR : pK s.data.toList = k' ∧ pN s.data.toList = n' ∧ pE s.data.toList = 0 := by simp [pK, pN, pE, hp]
      have hT : (prS k' n').toList = s.toList := by rw [prS_ok r3, r4, ByteArray.toList_eq]
      have HR := Lib.hid hR
      have HE := Lib.hid r3
      clear hR hp r3 r4
      go_wp2_with fail
      refine (parse_any s h _ (hG.below hB3 hG.1)).mono ?_
      rintro e w8 ⟨rfl, hb8⟩
      rw [HR.out.1, HR.out.2.1, HR.out.2.2]
      have hB8 := hB3.trans (hb8.mono hz3)
      have hz8 := Nat.le_trans hz3 hb8.size
      clear hb8
      go_wp2_with fail
      refine (print_any _ _ _).mono ?_
      rw [HE.out]
      rintro e w10 ⟨rfl, hb10⟩
      have hB10 := hB8.trans (((Below.refl _ w8).alloc (by omega) _).trans (hb10.mono (by simp; omega)))
      have hz10 : w8.heap.size + 1 ≤ w10.heap.size := Nat.le_trans (by simp) hb10.size
      clear hb10
      go_wp2_with fail
      refine (awake_any _).mono ?_
      rintro e w9 ⟨rfl, hb9⟩
      go_wp2_with fail
      go_ret
      exact ⟨rfl, hB10.trans (hb9.mono (by omega))⟩
theorem trip_any (k n : Int) (s : ByteArray) (w : World) (hm : s.size ≤ maxLen) (hG : Glob w) : Calls Tryd.prog 9 #[.agg #[.int .i64 k, .int .i64 n], .string s] w fun e w' => e = .returned (.bool true) ∧ Below w.heap.size w w' := by
  by_cases h : s.size ≤ 40
  · exact trip_short k n s w h hG
  · exact trip_long k n s w (by omega) hm
end Go.Proofs.YtbhmmffompapdaaDoor

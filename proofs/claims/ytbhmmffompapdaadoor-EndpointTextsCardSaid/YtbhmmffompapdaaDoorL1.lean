/- Walk of the law EndpointDifferent. -/
import Derived.Test.YtbhmmffompapdaaDoorR0
namespace Go.Proofs.YtbhmmffompapdaaDoor
open Go.RowKit
def epAll : List (Int × Int) := ((List.range 16).map fun i : Nat => ((1 : Int), (i : Int))) ++ ((List.range 8).map fun i : Nat => ((2 : Int), (i : Int)))
theorem epAll_mem {k n : Int} (h : epE k n = 0) : (k, n) ∈ epAll := by
  unfold epE at h; split at h
  · cases h
  split at h
  · cases h
  simp only [epAll, List.mem_append, List.mem_map, List.mem_range, Prod.mk.injEq]
  by_cases hk : k = 1
  · exact .inl ⟨n.toNat, by omega, by omega, by omega⟩
  · exact .inr ⟨n.toNat, by omega, by omega, by omega⟩
theorem epAll_inj : (epAll.all fun p => epAll.all fun q => (epText p.1 p.2 == epText q.1 q.2) == decide (p = q)) = true := by kernel_rfl
theorem toList_mk (l : List UInt8) : (⟨l.toArray⟩ : ByteArray).toList = l := by rw [ByteArray.toList_eq]
theorem prS_inj {k n k' n' : Int} (h : epE k n = 0) (h' : epE k' n' = 0) : ((prS k n).toList == (prS k' n').toList) = decide ((k, n) = (k', n')) := by
  have := List.all_eq_true.1 (List.all_eq_true.1 epAll_inj _ (epAll_mem h)) _ (epAll_mem h')
  rw [prS, prS, if_pos h, if_pos h', toList_mk, toList_mk]
  simpa using this
set_option maxHeartbeats 1000000 in
theorem different_any (k n k' n' : Int) (w : World) : Calls Tryd.prog 3 #[.agg #[.int .i64 k, .int .i64 n], .agg #[.int .i64 k', .int .i64 n']] w fun e w' => e = .returned (.bool true) ∧ Below w.heap.size w w' := by
  by_cases h1 : epE k n = 0
  · by_cases h2 : epE k' n' = 0
    · have hI := prS_inj h1 h2
      have H1 := Lib.hid h1
      have H2 := Lib.hid h2
      clear h1 h2
      cases hd : decide ((k, n) = (k', n'))
      · rw [hd] at hI
        have hq : ∀ w, (binOp .eql 23 (.agg #[.int .i64 k, .int .i64 n]) (.agg #[.int .i64 k', .int .i64 n'])).run Tryd.prog w = .ok (.bool false) w := fun w => by rw [eql_ep, hd]
        clear hd
        go_enter Tryd.func3, Tryd.ntmps3
        go_wp2_with fail
        refine (print_any _ _ _).mono ?_
        rw [H1.out]
        rintro e w1 ⟨rfl, hb1⟩
        have hk1 := bc (B := w.heap.size + 1 + 1) hb1 (by (first | omega | (simp; done) | (simp; omega)))
        have hz1 : w.heap.size + 1 + 1 ≤ w1.heap.size := Nat.le_trans (by (first | omega | (simp; done) | (simp; omega))) hb1.size
        go_wp2_with fail
        refine (print_any _ _ _).mono ?_
        rw [H2.out]
        rintro e w2 ⟨rfl, hb2⟩
        have hk2 := bc (B := w.heap.size + 1 + 1) hb2 (by (first | omega | (simp; done) | (simp; omega)))
        have hz2 : w.heap.size + 1 + 1 ≤ w2.heap.size := Nat.le_trans (by (first | omega | (simp; done) | (simp; omega))) hb2.size
        go_wp2_with fail
        refine (awake_any _).mono ?_
        rintro e w3 ⟨rfl, hb3⟩
        go_wp2_with fail
        go_ret
        exact ⟨rfl, by (repeat' (first | (with_reducible exact Below.refl _ _) | (with_reducible refine Below.alloc ?_ ?_ _) | (with_reducible refine Below.drew ?_) | (with_reducible refine below_drewN ?_ _) | (with_reducible refine Below.setCell ?_ ?_ _) | (with_reducible refine Below.trans ?_ (Below.mono (by assumption) ?_)) | (with_reducible exact Nat.le_refl _) | omega | (simp; omega) | (simp; done)))⟩
      · rw [hd] at hI
        have hq : ∀ w, (binOp .eql 23 (.agg #[.int .i64 k, .int .i64 n]) (.agg #[.int .i64 k', .int .i64 n'])).run Tryd.prog w = .ok (.bool true) w := fun w => by rw [eql_ep, hd]
        clear hd
        go_enter Tryd.func3, Tryd.ntmps3
        go_wp2_with fail
        refine (print_any _ _ _).mono ?_
        rw [H1.out]
        rintro e w1 ⟨rfl, hb1⟩
        have hk1 := bc (B := w.heap.size + 1 + 1) hb1 (by (first | omega | (simp; done) | (simp; omega)))
        have hz1 : w.heap.size + 1 + 1 ≤ w1.heap.size := Nat.le_trans (by (first | omega | (simp; done) | (simp; omega))) hb1.size
        go_wp2_with fail
        refine (print_any _ _ _).mono ?_
        rw [H2.out]
        rintro e w2 ⟨rfl, hb2⟩
        have hk2 := bc (B := w.heap.size + 1 + 1) hb2 (by (first | omega | (simp; done) | (simp; omega)))
        have hz2 : w.heap.size + 1 + 1 ≤ w2.heap.size := Nat.le_trans (by (first | omega | (simp; done) | (simp; omega))) hb2.size
        go_wp2_with fail
        refine (awake_any _).mono ?_
        rintro e w3 ⟨rfl, hb3⟩
        go_wp2_with fail
        go_ret
        exact ⟨rfl, by (repeat' (first | (with_reducible exact Below.refl _ _) | (with_reducible refine Below.alloc ?_ ?_ _) | (with_reducible refine Below.drew ?_) | (with_reducible refine below_drewN ?_ _) | (with_reducible refine Below.setCell ?_ ?_ _) | (with_reducible refine Below.trans ?_ (Below.mono (by assumption) ?_)) | (with_reducible exact Nat.le_refl _) | omega | (simp; omega) | (simp; done)))⟩
    · have h3 : (epE k' n' != 0) = true := by simpa using h2
      have H1 := Lib.hid h1
      clear h1 h2
      go_enter Tryd.func3, Tryd.ntmps3
      go_wp2_with fail
      refine (print_any _ _ _).mono ?_
      rw [H1.out]
      rintro e w1 ⟨rfl, hb1⟩
      have hk1 := bc (B := w.heap.size + 1 + 1) hb1 (by (first | omega | (simp; done) | (simp; omega)))
      have hz1 : w.heap.size + 1 + 1 ≤ w1.heap.size := Nat.le_trans (by (first | omega | (simp; done) | (simp; omega))) hb1.size
      go_wp2_with fail
      refine (print_any _ _ _).mono ?_
      rintro e w2 ⟨rfl, hb2⟩
      have hz2 : w.heap.size + 1 + 1 ≤ w2.heap.size := Nat.le_trans (by (first | omega | (simp; done) | (simp; omega))) hb2.size
      go_wp2_with fail
      refine (awake_any _).mono ?_
      rintro e w3 ⟨rfl, hb3⟩
      go_wp2_with fail
      go_ret
      exact ⟨rfl, by (repeat' (first | (with_reducible exact Below.refl _ _) | (with_reducible refine Below.alloc ?_ ?_ _) | (with_reducible refine Below.drew ?_) | (with_reducible refine below_drewN ?_ _) | (with_reducible refine Below.setCell ?_ ?_ _) | (with_reducible refine Below.trans ?_ (Below.mono (by assumption) ?_)) | (with_reducible exact Nat.le_refl _) | omega | (simp; omega) | (simp; done)))⟩
  · have h3 : (epE k n != 0) = true := by simpa using h1
    clear h1
    go_enter Tryd.func3, Tryd.ntmps3
    go_wp2_with fail
    refine (print_any _ _ _).mono ?_
    rintro e w1 ⟨rfl, hb1⟩
    have hk1 := bc (B := w.heap.size + 1 + 1) hb1 (by (first | omega | (simp; done) | (simp; omega)))
    have hz1 : w.heap.size + 1 + 1 ≤ w1.heap.size := Nat.le_trans (by (first | omega | (simp; done) | (simp; omega))) hb1.size
    go_wp2_with fail
    refine (print_any _ _ _).mono ?_
    rintro e w2 ⟨rfl, hb2⟩
    have hz2 : w.heap.size + 1 + 1 ≤ w2.heap.size := Nat.le_trans (by (first | omega | (simp; done) | (simp; omega))) hb2.size
    go_wp2_with fail
    refine (awake_any _).mono ?_
    rintro e w3 ⟨rfl, hb3⟩
    go_wp2_with fail
    go_ret
    exact ⟨rfl, by (repeat' (first | (with_reducible exact Below.refl _ _) | (with_reducible refine Below.alloc ?_ ?_ _) | (with_reducible refine Below.drew ?_) | (with_reducible refine below_drewN ?_ _) | (with_reducible refine Below.setCell ?_ ?_ _) | (with_reducible refine Below.trans ?_ (Below.mono (by assumption) ?_)) | (with_reducible exact Nat.le_refl _) | omega | (simp; omega) | (simp; done)))⟩
end Go.Proofs.YtbhmmffompapdaaDoor

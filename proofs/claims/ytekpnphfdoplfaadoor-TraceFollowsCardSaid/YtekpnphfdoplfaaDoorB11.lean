/- slices.Index and slices.Contains over entries. -/
import Derived.Test.YtekpnphfdoplfaaDoorA5
namespace Go.Proofs.YtekpnphfdoplfaaDoor
open Go.RowKit
set_option maxHeartbeats 4000000 in
set_option maxRecDepth 100000 in
theorem index_any (v : Value) (xs : List Ent) (x : Ent) (w : World) (hv : Ents w w.heap.size v xs) : Calls Tryd.prog 32 #[v, .agg #[.int .i64 x.t, .int .i64 x.k, .int .i64 x.n, .int .i64 x.j, .int .i64 x.c, .int .i64 x.v]] w fun e w' => ((∃ k : Nat, e = .returned (.int .i64 k) ∧ x ∈ xs) ∨ (e = .returned (.int .i64 (-1)) ∧ x ∉ xs)) ∧ Below w.heap.size w w' := by
  obtain ⟨A, c, rfl, hc, hm, hA⟩ := hv
  unfold maxLen at hm
  have HA := Lib.hid hA
  clear hA
  go_enter Tryd.func32, Tryd.ntmps32
  go_wp2_with fail
  have c0 : (w.alloc (.cells #[.int .i64 x.t, .int .i64 x.k, .int .i64 x.n, .int .i64 x.j, .int .i64 x.c, .int .i64 x.v] 37)).cell? ⟨w.heap.size, 0, none⟩ = some (.int .i64 x.t) := by simp [go_sem]
  have c1 : (w.alloc (.cells #[.int .i64 x.t, .int .i64 x.k, .int .i64 x.n, .int .i64 x.j, .int .i64 x.c, .int .i64 x.v] 37)).cell? ⟨w.heap.size, 1, none⟩ = some (.int .i64 x.k) := by simp [go_sem]
  have c2 : (w.alloc (.cells #[.int .i64 x.t, .int .i64 x.k, .int .i64 x.n, .int .i64 x.j, .int .i64 x.c, .int .i64 x.v] 37)).cell? ⟨w.heap.size, 2, none⟩ = some (.int .i64 x.n) := by simp [go_sem]
  have c3 : (w.alloc (.cells #[.int .i64 x.t, .int .i64 x.k, .int .i64 x.n, .int .i64 x.j, .int .i64 x.c, .int .i64 x.v] 37)).cell? ⟨w.heap.size, 3, none⟩ = some (.int .i64 x.j) := by simp [go_sem]
  have c4 : (w.alloc (.cells #[.int .i64 x.t, .int .i64 x.k, .int .i64 x.n, .int .i64 x.j, .int .i64 x.c, .int .i64 x.v] 37)).cell? ⟨w.heap.size, 4, none⟩ = some (.int .i64 x.c) := by simp [go_sem]
  have c5 : (w.alloc (.cells #[.int .i64 x.t, .int .i64 x.k, .int .i64 x.n, .int .i64 x.j, .int .i64 x.c, .int .i64 x.v] 37)).cell? ⟨w.heap.size, 5, none⟩ = some (.int .i64 x.v) := by simp [go_sem]
  have hw : Below w.heap.size w (w.alloc (.cells #[.int .i64 x.t, .int .i64 x.k, .int .i64 x.n, .int .i64 x.j, .int .i64 x.c, .int .i64 x.v] 37)) := (Below.refl _ w).alloc (Nat.le_refl _) _
  have hn : w.heap.size < (w.alloc (.cells #[.int .i64 x.t, .int .i64 x.k, .int .i64 x.n, .int .i64 x.j, .int .i64 x.c, .int .i64 x.v] 37)).heap.size := by simp
  have hn0 : w.heap.size ≤ (w.alloc (.cells #[.int .i64 x.t, .int .i64 x.k, .int .i64 x.n, .int .i64 x.j, .int .i64 x.c, .int .i64 x.v] 37)).heap.size := by simp
  generalize (w.alloc (.cells #[.int .i64 x.t, .int .i64 x.k, .int .i64 x.n, .int .i64 x.j, .int .i64 x.c, .int .i64 x.v] 37)) = w1 at *
  obtain ⟨n, hnn⟩ : ∃ n, n = w.heap.size := ⟨_, rfl⟩
  rw [← hnn] at hn c0 c1 c2 c3 c4 c5 ⊢
  clear hnn
  go_loopw [8] (fun i wr => ∃ k : Nat, k ≤ xs.length ∧ i = .int .i64 k ∧ Hid (∀ j, j < k → xs.getD j Ent.zero ≠ x) ∧ Below w1.heap.size w1 wr) (fun i _ => xs.length - (intOf i).toNat)
  case atStart => exact ⟨0, by omega, rfl, (fun j hj => absurd hj (by omega)), Below.refl _ _⟩
  case round =>
    obtain ⟨k, hk, rfl, hr, hB⟩ := hrel
    have hzr := hB.size
    have z0 := (hB.cell (p := ⟨n, 0, none⟩) hn).trans c0
    have z1 := (hB.cell (p := ⟨n, 1, none⟩) hn).trans c1
    have z2 := (hB.cell (p := ⟨n, 2, none⟩) hn).trans c2
    have z3 := (hB.cell (p := ⟨n, 3, none⟩) hn).trans c3
    have z4 := (hB.cell (p := ⟨n, 4, none⟩) hn).trans c4
    have z5 := (hB.cell (p := ⟨n, 5, none⟩) hn).trans c5
    have hbw := hw.trans (hB.mono hn0)
    have hnr : n < wr.heap.size := by omega
    by_cases hlt : k < xs.length
    · obtain ⟨b, o, rfl, hb, hcell⟩ := HA.out (by omega)
      have hx := (hcell k hlt).below hbw hb
      have hmem : xs.getD k Ent.zero ∈ xs := by simp [List.getD, hlt]
      have HR : Hid (xs.getD k Ent.zero ≠ x → ∀ j, j < k + 1 → xs.getD j Ent.zero ≠ x) := fun h j hj => by
        rcases Nat.lt_or_ge j k with h' | h'
        · exact hr.out j h'
        · obtain rfl : j = k := by omega
          exact h
      clear hcell
      generalize xs.getD k Ent.zero = y at *
      obtain ⟨y0, y1, y2, y3, y4, y5⟩ := hx
      have hbr : b < wr.heap.size := by omega
      have ki : (k : Int) < xs.length := by omega
      by_cases hq : x = y
      · have hM := Lib.hid (show x ∈ xs by rw [hq]; exact hmem)
        have hne : ∀ W : World, (binOp .eql 37 (.agg #[.int .i64 x.t, .int .i64 x.k, .int .i64 x.n, .int .i64 x.j, .int .i64 x.c, .int .i64 x.v]) (.agg #[.int .i64 y.t, .int .i64 y.k, .int .i64 y.n, .int .i64 y.j, .int .i64 y.c, .int .i64 y.v])).run Tryd.prog W = .ok (.bool true) W := fun W => by rw [eql_ent, decide_eq_true hq]
        clear hq hmem
        go_wp2_with fail
        go_quiet (fail)
        go_wp2_with fail
        go_ret
        exact ⟨.inl ⟨k, rfl, hM.out⟩, below_drewN hbw _⟩
      · have hne : ∀ W : World, (binOp .eql 37 (.agg #[.int .i64 x.t, .int .i64 x.k, .int .i64 x.n, .int .i64 x.j, .int .i64 x.c, .int .i64 x.v]) (.agg #[.int .i64 y.t, .int .i64 y.k, .int .i64 y.n, .int .i64 y.j, .int .i64 y.c, .int .i64 y.v])).run Tryd.prog W = .ok (.bool false) W := fun W => by rw [eql_ent, decide_eq_false hq]
        have HT := Lib.hid (HR.out (fun h => hq h.symm))
        clear hq hmem HR
        go_wp2_with fail
        go_quiet (fail)
        go_wp2_with fail
        go_roundw
        case rel => exact ⟨k + 1, by omega, by go_num, HT, below_drewN hB _⟩
        case measure => simp [intOf]; omega
    · have HT : Hid (x ∉ xs) := fun h => by
        obtain ⟨j, hj, e⟩ := List.mem_iff_getElem.1 h
        exact hr.out j (by omega) (by simp [List.getD, hj, e])
      go_wp2_with fail
      go_ret
      exact ⟨.inr ⟨rfl, HT.out⟩, hbw⟩
set_option maxHeartbeats 4000000 in
set_option maxRecDepth 100000 in
theorem contains_any (v : Value) (xs : List Ent) (x : Ent) (w : World) (hv : Ents w w.heap.size v xs) : Calls Tryd.prog 20 #[v, .agg #[.int .i64 x.t, .int .i64 x.k, .int .i64 x.n, .int .i64 x.j, .int .i64 x.c, .int .i64 x.v]] w fun e w' => e = .returned (.bool (decide (x ∈ xs))) ∧ Below w.heap.size w w' := by
  go_enter Tryd.func20, Tryd.ntmps20
  go_wp2_with fail
  have hw : Below w.heap.size w (w.alloc (.cells #[.int .i64 x.t, .int .i64 x.k, .int .i64 x.n, .int .i64 x.j, .int .i64 x.c, .int .i64 x.v] 37)) := (Below.refl _ w).alloc (Nat.le_refl _) _
  have hn0 : w.heap.size ≤ (w.alloc (.cells #[.int .i64 x.t, .int .i64 x.k, .int .i64 x.n, .int .i64 x.j, .int .i64 x.c, .int .i64 x.v] 37)).heap.size := by simp
  refine (index_any v xs x _ ((hv.below hw).more hn0)).mono ?_
  rintro e w1 ⟨h | h, hb⟩
  · obtain ⟨k, rfl, hM⟩ := h
    have HM := Lib.hid hM
    have hk : (0 : Int) ≤ k := by omega
    clear hM
    go_wp2_with fail
    go_ret
    exact ⟨by rw [decide_eq_true HM.out]; rfl, hw.trans (hb.mono hn0)⟩
  · obtain ⟨rfl, hM⟩ := h
    have HM := Lib.hid hM
    clear hM
    go_wp2_with fail
    go_ret
    exact ⟨by rw [decide_eq_false HM.out]; rfl, hw.trans (hb.mono hn0)⟩
end Go.Proofs.YtekpnphfdoplfaaDoor

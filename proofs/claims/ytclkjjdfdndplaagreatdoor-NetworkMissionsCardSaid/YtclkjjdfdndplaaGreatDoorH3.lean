/- Orders: fragment.Is, ContainsFunc over bundles, checkOrder. -/
import Derived.Test.YtclkjjdfdndplaaGreatDoorH2
import Derived.Deep.DrawnRows
namespace Go.Proofs.YtclkjjdfdndplaaGreatDoor
open Go.RowKit
attribute [local go_sem ↓] Go.wp_at_zero Go.wp_at_succ
theorem eql5 (w : World) (a0 a1 a2 a3 a4 b0 b1 b2 b3 b4 : Int) : (binOp .eql 54 (.agg #[.int .i64 a0, .int .i64 a1, .int .i64 a2, .int .i64 a3, .int .i64 a4]) (.agg #[.int .i64 b0, .int .i64 b1, .int .i64 b2, .int .i64 b3, .int .i64 b4])).run Tryz.prog w = .ok (.bool ((a0 == b0) && ((a1 == b1) && ((a2 == b2) && ((a3 == b3) && (a4 == b4)))))) w := by
  cases h0 : (a0 == b0)
  · go_simp
  cases h1 : (a1 == b1)
  · go_simp
  cases h2 : (a2 == b2)
  · go_simp
  cases h3 : (a3 == b3)
  · go_simp
  cases h4 : (a4 == b4)
  · go_simp
  · go_simp
/-- the ids are equal -/
def idEq (x y : Bun) : Bool := (y.s == x.s) && ((y.c == x.c) && ((y.q == x.q) && ((y.o == x.o) && (y.t == x.t))))
theorem idEq_iff {x y : Bun} : idEq x y = true ↔ x.s = y.s ∧ x.c = y.c ∧ x.q = y.q ∧ x.o = y.o ∧ x.t = y.t := by
  simp only [idEq, Bool.and_eq_true, beq_iff_eq]
  constructor
  · rintro ⟨h0, h1, h2, h3, h4⟩; exact ⟨h0.symm, h1.symm, h2.symm, h3.symm, h4.symm⟩
  · rintro ⟨h0, h1, h2, h3, h4⟩; exact ⟨h0.symm, h1.symm, h2.symm, h3.symm, h4.symm⟩
set_option maxHeartbeats 1000000 in
theorem oid_closure (x y : Bun) (V : Value) (pb : Nat) (W : World) (hlt : pb < W.heap.size) (c0 : W.cell? ⟨pb, 0, none⟩ = some (.int .i64 x.s)) (c1 : W.cell? ⟨pb, 1, none⟩ = some (.int .i64 x.c)) (c2 : W.cell? ⟨pb, 2, none⟩ = some (.int .i64 x.q)) (c3 : W.cell? ⟨pb, 3, none⟩ = some (.int .i64 x.o)) (c4 : W.cell? ⟨pb, 4, none⟩ = some (.int .i64 x.t)) :
    Calls Tryz.prog 45 #[.agg #[.int .i64 y.s, .int .i64 y.c, .int .i64 y.q, .int .i64 y.o, .int .i64 y.t, .int .i64 y.dk, .int .i64 y.dn, .int .i64 y.lf, .int .i64 y.pr, .int .i64 y.fl, V, .string y.py], .pointer (some ⟨pb, 0, none⟩)] W fun e W' => e = .returned (.bool (idEq x y)) ∧ Below W.heap.size W W' := by
  have he : ∀ w, (binOp .eql 54 (.agg #[.int .i64 y.s, .int .i64 y.c, .int .i64 y.q, .int .i64 y.o, .int .i64 y.t]) (.agg #[.int .i64 x.s, .int .i64 x.c, .int .i64 x.q, .int .i64 x.o, .int .i64 x.t])).run Tryz.prog w = .ok (.bool (idEq x y)) w := fun w => eql5 w _ _ _ _ _ _ _ _ _ _
  generalize idEq x y = r at *
  go_enter Tryz.func45, Tryz.ntmps45
  go_wp2_with fail
  go_ret
  exact ⟨rfl, by (repeat' (first | (with_reducible exact Below.refl _ _) | (with_reducible refine Below.alloc ?_ ?_ _) | (with_reducible refine Below.drew ?_) | (with_reducible refine below_drewN ?_ _) | (with_reducible refine Below.setCell ?_ ?_ _) | (with_reducible refine Below.trans ?_ (Below.mono (by assumption) ?_)) | (with_reducible exact Nat.le_refl _) | omega | (simp; omega) | (simp; done)))⟩
/-- the first place of a list where a condition holds, from k on -/
def findB (p : Bun → Bool) : List Bun → Nat → Int
  | [], _ => -1
  | a :: t, k => if p a = true then (k : Int) else findB p t (k + 1)
theorem findB_step (p : Bun → Bool) (l : List Bun) (k : Nat) (h : k < l.length) : findB p (l.drop k) k = if p (l.getD k Bun.zero) = true then (k : Int) else findB p (l.drop (k + 1)) (k + 1) := by
  rw [drop_get l Bun.zero k h, findB]
theorem findB_any (p : Bun → Bool) : ∀ (l : List Bun) (k : Nat), decide (0 ≤ findB p l k) = l.any p
  | [], k => by simp [findB]
  | a :: t, k => by
    rw [findB, List.any_cons]
    cases h : p a
    · simp [findB_any p t (k + 1)]
    · simp
set_option maxHeartbeats 1000000 in
theorem ob_index (v : Value) (os : List Bun) (pb : Nat) (p : Bun → Bool) (w : World) (hv : Buns w w.heap.size v os) (hcl : ∀ (y : Bun) (V : Value) (W : World), Below w.heap.size w W → Calls Tryz.prog 45 #[.agg #[.int .i64 y.s, .int .i64 y.c, .int .i64 y.q, .int .i64 y.o, .int .i64 y.t, .int .i64 y.dk, .int .i64 y.dn, .int .i64 y.lf, .int .i64 y.pr, .int .i64 y.fl, V, .string y.py], .pointer (some ⟨pb, 0, none⟩)] W fun e W' => e = .returned (.bool (p y)) ∧ Below W.heap.size W W') :
    Calls Tryz.prog 81 #[v, .func (.func 45) #[] #[.pointer (some ⟨pb, 0, none⟩)]] w fun e w' => e = .returned (.int .i64 (findB p os 0)) ∧ Below w.heap.size w w' := by
  have HCL := Lib.hid hcl
  clear hcl
  obtain ⟨A, c, rfl, hc, hm, hA⟩ := hv
  unfold maxLen at hm
  have HA := Lib.hid hA
  clear hA
  go_enter Tryz.func81, Tryz.ntmps81
  go_wp2_with fail
  go_loopw [8] (fun i wr => ∃ k : Nat, k ≤ os.length ∧ i = .int .i64 k ∧ Hid (findB p (os.drop k) k = findB p os 0) ∧ Below w.heap.size w wr) (fun i _ => os.length - (intOf i).toNat)
  case atStart => exact ⟨0, by omega, rfl, rfl, Below.refl _ _⟩
  case round =>
    obtain ⟨k, hk, rfl, hr, hB⟩ := hrel
    have hzr := hB.size
    by_cases hlt : k < os.length
    · obtain ⟨b, o, rfl, hb, hcell⟩ := HA.out (by omega)
      have hx := (hcell k hlt).below hB hb
      have HST := Lib.hid (findB_step p os k hlt)
      clear hcell
      generalize os.getD k Bun.zero = d at *
      obtain ⟨x0, x1, x2, x3, x4, x5, x6, x7, x8, x9, ⟨V, x10, -⟩, x11⟩ := hx
      cases hq : p d
      · have HT : Hid (findB p (os.drop (k + 1)) (k + 1) = findB p os 0) := by show _ = _; rw [← hr.out, HST.out, hq]; rfl
        have HQ := Lib.hid hq
        clear hq
        go_wp2_with fail
        refine (HCL.out d V _ hB).mono ?_
        rw [HQ.out]
        rintro e w1 ⟨rfl, hb1⟩
        have hB1 := bt' hB hb1 hzr
        clear hb1
        go_wp2_with fail
        go_roundw
        case rel => exact ⟨k + 1, by omega, by go_num, HT, hB1⟩
        case measure => simp [intOf]; omega
      · have HT : Hid (findB p os 0 = k) := by show _ = _; rw [← hr.out, HST.out, hq]; rfl
        have HQ := Lib.hid hq
        clear hq
        go_wp2_with fail
        refine (HCL.out d V _ hB).mono ?_
        rw [HQ.out]
        rintro e w1 ⟨rfl, hb1⟩
        have hB1 := bt' hB hb1 hzr
        clear hb1
        go_wp2_with fail
        go_ret
        exact ⟨by rw [HT.out]; rfl, hB1⟩
    · have HT : Hid (findB p os 0 = -1) := by show _ = _; rw [← hr.out, List.drop_of_length_le (by omega)]; rfl
      go_wp2_with fail
      go_ret
      exact ⟨by rw [HT.out]; rfl, hB⟩
theorem ob_contains (v : Value) (os : List Bun) (pb : Nat) (p : Bun → Bool) (w : World) (hv : Buns w w.heap.size v os) (hcl : ∀ (y : Bun) (V : Value) (W : World), Below w.heap.size w W → Calls Tryz.prog 45 #[.agg #[.int .i64 y.s, .int .i64 y.c, .int .i64 y.q, .int .i64 y.o, .int .i64 y.t, .int .i64 y.dk, .int .i64 y.dn, .int .i64 y.lf, .int .i64 y.pr, .int .i64 y.fl, V, .string y.py], .pointer (some ⟨pb, 0, none⟩)] W fun e W' => e = .returned (.bool (p y)) ∧ Below W.heap.size W W') :
    Calls Tryz.prog 44 #[v, .func (.func 45) #[] #[.pointer (some ⟨pb, 0, none⟩)]] w fun e w' => e = .returned (.bool (os.any p)) ∧ Below w.heap.size w w' := by
  have HCL := Lib.hid (ob_index v os pb p w hv hcl)
  have H := Lib.hid (findB_any p os 0)
  clear hcl
  go_enter Tryz.func44, Tryz.ntmps44
  go_wp2_with fail
  refine HCL.out.mono ?_
  rintro e w1 ⟨rfl, hb1⟩
  go_wp2_with fail
  go_ret
  exact ⟨by rw [← H.out]; rfl, hb1⟩
set_option maxHeartbeats 1000000 in
theorem frag_any (x : Bun) (V : Value) (w : World) (hV : Blks w w.heap.size V x.bl) (hE : bunE x = 0) : Calls Tryz.prog 43 #[.agg #[.int .i64 x.s, .int .i64 x.c, .int .i64 x.q, .int .i64 x.o, .int .i64 x.t, .int .i64 x.dk, .int .i64 x.dn, .int .i64 x.lf, .int .i64 x.pr, .int .i64 x.fl, V, .string x.py]] w fun e w' => e = .returned (.bool (decide (0 < x.t))) ∧ Below w.heap.size w w' := by
  have HE := Lib.hid hE
  have hV1 := (hV.blks ((Below.refl _ w).alloc (Nat.le_refl _) (.cells #[.int .i64 x.s, .int .i64 x.c, .int .i64 x.q, .int .i64 x.o, .int .i64 x.t, .int .i64 x.dk, .int .i64 x.dn, .int .i64 x.lf, .int .i64 x.pr, .int .i64 x.fl, V, .string x.py] 59))).blks_more (show w.heap.size ≤ (w.alloc (.cells #[.int .i64 x.s, .int .i64 x.c, .int .i64 x.q, .int .i64 x.o, .int .i64 x.t, .int .i64 x.dk, .int .i64 x.dn, .int .i64 x.lf, .int .i64 x.pr, .int .i64 x.fl, V, .string x.py] 59)).heap.size by simp)
  clear hE
  go_enter Tryz.func43, Tryz.ntmps43
  go_wp2_with fail
  refine (bun_any x V _ hV1).mono ?_
  rw [HE.out]
  (rintro e w1 ⟨rfl, hb1⟩; have hz1 : w.heap.size + 1 ≤ w1.heap.size := (Nat.le_trans (by (first | omega | (simp; done) | (simp; omega))) hb1.size); have hk1 := bc (B := w.heap.size + 1) hb1 (by (first | omega | (simp; done) | (simp; omega))); have hf1 := bf (B := w.heap.size + 1) hb1 (by (first | omega | (simp; done) | (simp; omega))); have hy1 : w.heap.size < w1.heap.size := (by omega))
  have hBB := bt' ((Below.refl _ w).alloc (Nat.le_refl _) _) hb1 (by simp)
  go_wp2_with fail
  go_ret
  exact ⟨rfl, hBB⟩
/-- why an order is not valid -/
def ordE (pre : List Bun) (n : Int) (x : Bun) : Int := if bunE x ≠ 0 then bunE x else if 0 < x.t ∨ x.dk ≠ 1 then 10 else if n ≤ x.s ∨ n ≤ x.dn ∨ x.s = x.dn then 2 else if pre.any (idEq x) = true then 6 else 0

end Go.Proofs.YtclkjjdfdndplaaGreatDoor

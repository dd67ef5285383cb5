/- Events: valid, compare. -/
import Derived.Test.YtclkjjdfdndplaaGreatDoorH2
import Derived.StillTailTactics
namespace Go.Proofs.YtclkjjdfdndplaaGreatDoor
open Go.RowKit
theorem wrap_s {n : Int} (h0 : 0 ≤ n) (h : n ≤ 9223372036854775807) : IntKind.i64.wrap n = n := by
  have h1 : n % 18446744073709551616 = n := Int.emod_eq_of_lt h0 (by omega)
  show (if (true && decide (n % 18446744073709551616 ≥ 9223372036854775808)) = true then n % 18446744073709551616 - 18446744073709551616 else n % 18446744073709551616) = n
  rw [h1, if_neg (by simp; omega)]
/-- an event -/
structure Ev where
  t : Int
  k : Int
  n : Int
deriving DecidableEq, Inhabited
def Ev.zero : Ev := ⟨0, 0, 0⟩
def EvAt (w : World) (_B b o : Nat) (x : Ev) : Prop :=
  w.cell? ⟨b, o, none⟩ = some (.int .i64 x.t) ∧ w.cell? ⟨b, o + 1, none⟩ = some (.int .i64 x.k) ∧ w.cell? ⟨b, o + 2, none⟩ = some (.int .i64 x.n)
theorem EvAt.below {w w' : World} {B B' b o : Nat} {x : Ev} (h : EvAt w B b o x) (hb : Below B w w') (hB : b < B) : EvAt w' B' b o x :=
  ⟨(hb.cell (p := ⟨b, o, none⟩) hB).trans h.1, (hb.cell (p := ⟨b, o + 1, none⟩) hB).trans h.2.1, (hb.cell (p := ⟨b, o + 2, none⟩) hB).trans h.2.2⟩
/-- a slice that reads as a list of events -/
def Evs (w : World) (B : Nat) (v : Value) (xs : List Ev) : Prop := Sl EvAt Ev.zero 3 w B v xs
theorem Evs.below {w w' : World} {B : Nat} {v : Value} {xs : List Ev} (h : Evs w B v xs) (hb : Below B w w') : Evs w' B v xs := Sl.map h (Nat.le_refl _) fun _ _ _ hB hA => hA.below hb hB
theorem Evs.more {w : World} {B B' : Nat} {v : Value} {xs : List Ev} (h : Evs w B v xs) (hB : B ≤ B') : Evs w B' v xs := Sl.map h hB fun _ _ _ _ hA => hA
/-- the event is valid -/
def evV (x : Ev) : Bool := (decide (0 ≤ x.t) && decide (x.t ≤ 1099511627776)) && ((decide (0 ≤ x.k) && decide (x.k ≤ 1152921504606846976)) && (decide (0 ≤ x.n) && decide (x.n ≤ 1152921504606846976)))
theorem evV_iff {x : Ev} : evV x = true ↔ 0 ≤ x.t ∧ x.t ≤ 1099511627776 ∧ 0 ≤ x.k ∧ x.k ≤ 1152921504606846976 ∧ 0 ≤ x.n ∧ x.n ≤ 1152921504606846976 := by
  simp [evV, and_assoc]
/-- the order of events -/
def evL (x y : Ev) : Bool := decide (x.t < y.t ∨ (x.t = y.t ∧ (x.k < y.k ∨ (x.k = y.k ∧ x.n < y.n))))
theorem evL_iff {x y : Ev} : evL x y = true ↔ (x.t < y.t ∨ (x.t = y.t ∧ (x.k < y.k ∨ (x.k = y.k ∧ x.n < y.n)))) := by simp [evL]
/-- -1, 0 or 1 -/
def cmp3 (a b : Int) : Int := if a < b then -1 else if b < a then 1 else 0
def fnz (x y z : Int) : Int := if x ≠ 0 then x else if y ≠ 0 then y else z
def evC (x y : Ev) : Int := fnz (cmp3 x.t y.t) (cmp3 x.k y.k) (cmp3 x.n y.n)
theorem evC_pos {x y : Ev} : 0 < evC x y ↔ evL y x = true := by
  rw [evL_iff]; unfold evC fnz cmp3; repeat' split
  all_goals omega
theorem evC_neg {x y : Ev} : evC x y < 0 ↔ evL x y = true := by
  rw [evL_iff]; unfold evC fnz cmp3; repeat' split
  all_goals omega
theorem evC_eq {x y : Ev} : evC x y = 0 ↔ x = y := by
  have : x = y ↔ x.t = y.t ∧ x.k = y.k ∧ x.n = y.n := by cases x; cases y; simp
  rw [this]; unfold evC fnz cmp3; repeat' split
  all_goals omega
theorem evL_irr (x : Ev) : evL x x = false := by
  cases h : evL x x
  · rfl
  · rw [evL_iff] at h; omega
theorem evL_trans {x y z : Ev} (h : evL x y = true) (h' : evL y z = true) : evL x z = true := by
  rw [evL_iff] at *; omega
theorem evL_tri (x y : Ev) : evL x y = true ∨ x = y ∨ evL y x = true := by
  have : x = y ↔ x.t = y.t ∧ x.k = y.k ∧ x.n = y.n := by cases x; cases y; simp
  rw [this, evL_iff, evL_iff]; omega
theorem nan_any (a : Int) (w : World) : Calls Tryz.prog 166 #[.int .i64 a] w fun e w' => e = .returned (.bool false) ∧ w' = w := by
  have q : (a != a) = false := by simp
  go_enter Tryz.func166, Tryz.ntmps166
  go_wp2_with fail
  go_ret
  exact ⟨rfl, rfl⟩
set_option maxHeartbeats 2000000 in
theorem cmp_any (a b : Int) (w : World) : Calls Tryz.prog 126 #[.int .i64 a, .int .i64 b] w fun e w' => e = .returned (.int .i64 (cmp3 a b)) ∧ w' = w := by
  by_cases h1 : a < b
  · have HE : Hid (cmp3 a b = -1) := by show _ = _; rw [cmp3, if_pos h1]
    go_enter Tryz.func126, Tryz.ntmps126
    go_wp2_with fail
    refine (nan_any a _).mono ?_
    rintro e w1 ⟨rfl, rfl⟩
    go_wp2_with fail
    refine (nan_any b _).mono ?_
    rintro e w1 ⟨rfl, rfl⟩
    go_wp2_with fail
    go_ret
    exact ⟨by rw [HE.out]; rfl, rfl⟩
  · by_cases h2 : b < a
    · have HE : Hid (cmp3 a b = 1) := by show _ = _; rw [cmp3, if_neg h1, if_pos h2]
      go_enter Tryz.func126, Tryz.ntmps126
      go_wp2_with fail
      refine (nan_any a _).mono ?_
      rintro e w1 ⟨rfl, rfl⟩
      go_wp2_with fail
      refine (nan_any b _).mono ?_
      rintro e w1 ⟨rfl, rfl⟩
      go_wp2_with fail
      go_ret
      exact ⟨by rw [HE.out]; rfl, rfl⟩
    · have HE : Hid (cmp3 a b = 0) := by show _ = _; rw [cmp3, if_neg h1, if_neg h2]
      go_enter Tryz.func126, Tryz.ntmps126
      go_wp2_with fail
      refine (nan_any a _).mono ?_
      rintro e w1 ⟨rfl, rfl⟩
      go_wp2_with fail
      refine (nan_any b _).mono ?_
      rintro e w1 ⟨rfl, rfl⟩
      go_wp2_with fail
      go_ret
      exact ⟨by rw [HE.out]; rfl, rfl⟩
def orL (l : List Int) : Int := l.foldr (fun x y => if x ≠ 0 then x else y) 0
theorem fnz_drop (l : List Int) (k : Nat) (h : k < l.length) : orL (l.drop k) = if l.getD k 0 ≠ 0 then l.getD k 0 else orL (l.drop (k + 1)) := by
  rw [drop_get l 0 k h, orL, List.foldr_cons]; rfl
set_option maxHeartbeats 2000000 in
theorem or_any (v : Value) (l : List Int) (w : World) (hv : Ints w w.heap.size v l) : Calls Tryz.prog 125 #[v] w fun e w' => e = .returned (.int .i64 (orL l)) ∧ w' = w := by
  obtain ⟨A, c, rfl, hc, hm, hA⟩ := hv
  unfold maxLen at hm
  have HA := Lib.hid hA
  clear hA
  go_enter Tryz.func125, Tryz.ntmps125
  go_wp2_with fail
  go_loop [8] (fun i => ∃ k : Nat, k ≤ l.length ∧ i = .int .i64 k ∧ Hid (orL (l.drop k) = orL l)) (fun i => l.length - (intOf i).toNat)
  case atStart => exact ⟨0, by omega, rfl, rfl⟩
  case round =>
    obtain ⟨k, hk, rfl, hr⟩ := hrel
    by_cases hlt : k < l.length
    · obtain ⟨b, o, rfl, hb, hcell⟩ := HA.out (by omega)
      have hx := hcell k hlt
      have HST := Lib.hid (fnz_drop l k hlt)
      clear hcell
      generalize l.getD k 0 = x at *
      by_cases hz : x = 0
      · have HN : Hid (orL (l.drop (k + 1)) = orL l) := by show _ = _; rw [← hr.out, HST.out, if_neg (by simp [hz])]
        have q : (x != 0) = false := by simpa using hz
        go_wp2_with fail
        go_round
        case rel => exact ⟨k + 1, by omega, by go_num, HN⟩
        case measure => simp [intOf]; omega
      · have HT : Hid (orL l = x) := by show _ = _; rw [← hr.out, HST.out, if_pos hz]
        have q : (x != 0) = true := by simpa using hz
        go_wp2_with fail
        go_ret
        exact ⟨by rw [HT.out]; rfl, rfl⟩
    · have HT : Hid (orL l = 0) := by show _ = _; rw [← hr.out, List.drop_of_length_le (by omega)]; rfl
      go_wp2_with fail
      go_ret
      exact ⟨by rw [HT.out]; rfl, rfl⟩
set_option maxRecDepth 100000 in
set_option maxHeartbeats 4000000 in
theorem evcmp_any (x y : Ev) (w : World) : Calls Tryz.prog 104 #[.agg #[.int .i64 x.t, .int .i64 x.k, .int .i64 x.n], .agg #[.int .i64 y.t, .int .i64 y.k, .int .i64 y.n]] w fun e w' => e = .returned (.int .i64 (evC x y)) ∧ Below w.heap.size w w' := by
  have HE : Hid (evC x y = orL [cmp3 x.t y.t, cmp3 x.k y.k, cmp3 x.n y.n]) := by
    show _ = _
    unfold evC fnz orL
    simp only [List.foldr_cons, List.foldr_nil]
    repeat' split
    all_goals omega
  go_enter Tryz.func104, Tryz.ntmps104
  go_wp2_with fail
  have m0 : ((w.alloc (.cells #[.int .i64 x.t, .int .i64 x.k, .int .i64 x.n] 132)).alloc (.cells #[.int .i64 y.t, .int .i64 y.k, .int .i64 y.n] 49)).cell? ⟨w.heap.size, 0, none⟩ = some (.int .i64 x.t) := by simp [go_sem]
  have m1 : ((w.alloc (.cells #[.int .i64 x.t, .int .i64 x.k, .int .i64 x.n] 132)).alloc (.cells #[.int .i64 y.t, .int .i64 y.k, .int .i64 y.n] 49)).cell? ⟨w.heap.size, 1, none⟩ = some (.int .i64 x.k) := by simp [go_sem]
  have m2 : ((w.alloc (.cells #[.int .i64 x.t, .int .i64 x.k, .int .i64 x.n] 132)).alloc (.cells #[.int .i64 y.t, .int .i64 y.k, .int .i64 y.n] 49)).cell? ⟨w.heap.size, 2, none⟩ = some (.int .i64 x.n) := by simp [go_sem]
  have n0 : ((w.alloc (.cells #[.int .i64 x.t, .int .i64 x.k, .int .i64 x.n] 132)).alloc (.cells #[.int .i64 y.t, .int .i64 y.k, .int .i64 y.n] 49)).cell? ⟨w.heap.size + 1, 0, none⟩ = some (.int .i64 y.t) := by simp [go_sem]
  have n1 : ((w.alloc (.cells #[.int .i64 x.t, .int .i64 x.k, .int .i64 x.n] 132)).alloc (.cells #[.int .i64 y.t, .int .i64 y.k, .int .i64 y.n] 49)).cell? ⟨w.heap.size + 1, 1, none⟩ = some (.int .i64 y.k) := by simp [go_sem]
  have n2 : ((w.alloc (.cells #[.int .i64 x.t, .int .i64 x.k, .int .i64 x.n] 132)).alloc (.cells #[.int .i64 y.t, .int .i64 y.k, .int .i64 y.n] 49)).cell? ⟨w.heap.size + 1, 2, none⟩ = some (.int .i64 y.n) := by simp [go_sem]
  have hbw : Below w.heap.size w ((w.alloc (.cells #[.int .i64 x.t, .int .i64 x.k, .int .i64 x.n] 132)).alloc (.cells #[.int .i64 y.t, .int .i64 y.k, .int .i64 y.n] 49)) := by (repeat' (first | (with_reducible exact Below.refl _ _) | (with_reducible refine Below.alloc ?_ ?_ _) | (with_reducible refine Below.drew ?_) | (with_reducible refine below_drewN ?_ _) | (with_reducible refine Below.setCell ?_ ?_ _) | (with_reducible refine Below.trans ?_ (Below.mono (by assumption) ?_)) | (with_reducible exact Nat.le_refl _) | omega | (simp; omega) | (simp; done)))
  generalize (w.alloc (.cells #[.int .i64 x.t, .int .i64 x.k, .int .i64 x.n] 132)).alloc (.cells #[.int .i64 y.t, .int .i64 y.k, .int .i64 y.n] 49) = v0 at *
  refine wp_region_still_tail 18 (by kernel_rfl) (by kernel_rfl) ?_
  simp only [List.take_succ_cons, List.take_zero, List.drop_succ_cons, List.drop_zero]
  repeat still_step
  still_call (cmp_any _ _ _)
  repeat still_step
  still_call (cmp_any _ _ _)
  repeat still_step
  still_call (cmp_any _ _ _)
  refine wpStill_nil ?_
  change wpList _ _ _ _ _ v0.drew
  have hb2 : Below w.heap.size w v0.drew := hbw.drew
  clear m0 m1 m2 n0 n1 n2 hbw
  generalize v0.drew = v1 at *
  have hz := hb2.size
  go_wp2_with fail
  refine (or_any _ [cmp3 x.t y.t, cmp3 x.k y.k, cmp3 x.n y.n] _ ⟨some ⟨v1.heap.size, 0, none⟩, 3, rfl, by simp, by simp [maxLen], fun _ => ⟨v1.heap.size, 0, rfl, by simp, fun j hj => ?_⟩⟩).mono ?_
  · simp only [List.length_cons, List.length_nil] at hj
    match j, hj with
    | 0, _ => simp [go_sem]
    | 1, _ => simp [go_sem]
    | 2, _ => simp [go_sem]
  rintro e w1 ⟨rfl, rfl⟩
  go_wp2_with fail
  go_ret
  exact ⟨by rw [HE.out]; rfl, hb2.alloc hz _⟩
end Go.Proofs.YtclkjjdfdndplaaGreatDoor

/- Two networks that read as the same are the same. -/
import Derived.Test.YtclkjjdfdndplaaGreatDoorA9
import Derived.Test.YtclkjjdfdndplaaGreatDoorRK
import Derived.Test.YtclkjjdfdndplaaGreatDoorH24
namespace Go.Proofs.YtclkjjdfdndplaaGreatDoor
open Go.RowKit
theorem neq_ev (x : Ev) (w : World) : (binOp .neq 49 (.agg #[.int .i64 x.t, .int .i64 x.k, .int .i64 x.n]) (.agg #[.int .i64 x.t, .int .i64 x.k, .int .i64 x.n])).run Tryz.prog w = .ok (.bool false) w := by go_simp
set_option maxHeartbeats 2000000 in
theorem same30 (v v' : Value) (l : List Ev) (w : World) (h : Evs w w.heap.size v l) (h' : Evs w w.heap.size v' l) : Calls Tryz.prog 30 #[v, v'] w fun e w' => e = .returned (.bool true) ∧ Below w.heap.size w w' := by
  obtain ⟨A1, c1, rfl, hc1, hmc1, hA⟩ := h
  obtain ⟨A2, c2, rfl, hc2, hmc2, hB⟩ := h'
  unfold maxLen at hmc1 hmc2
  have HA := Lib.hid hA
  have HB := Lib.hid hB
  clear hA hB
  go_enter Tryz.func30, Tryz.ntmps30
  go_wp2_with fail
  have br := Below.refl w.heap.size w
  go_loopw [5] (fun i wr => ∃ k : Nat, k ≤ l.length ∧ i = .int .i64 k ∧ Below w.heap.size w wr) (fun i _ => l.length - (intOf i).toNat)
  case atStart => exact ⟨0, by omega, rfl, br⟩
  case round =>
    clear br
    obtain ⟨k, hk, rfl, br⟩ := hrel
    have hzr := br.size
    have hbw := (Below.refl w.heap.size w).trans (br.mono (Below.refl w.heap.size w).size)
    
    by_cases hlt : k < l.length
    · obtain ⟨b1, o1, rfl, hb1, hcell1⟩ := HA.out (by omega)
      obtain ⟨b2, o2, rfl, hb2, hcell2⟩ := HB.out (by omega)
      have y1 := (hcell1 k hlt).below (B' := 0) hbw hb1
      have y2 := (hcell2 k hlt).below (B' := 0) hbw hb2
      have ic1 : (0 : Int) ≤ k := by omega
      have ic2 : (k : Int) < l.length := by omega
      have hb1r : b1 < wr.heap.size := by omega
      have hb2r : b2 < wr.heap.size := by omega
      clear hcell1 hcell2
      generalize l.getD k Ev.zero = c at *
      obtain ⟨y10, y11, y12⟩ := y1
      obtain ⟨y20, y21, y22⟩ := y2
      have hn := neq_ev c
      go_wp2_with fail
      go_quiet (fail)
      have br2 := below_drewN br
      go_wp2_with fail
      go_roundw
      case rel => exact ⟨k + 1, by omega, by go_num, below_drewN br _⟩
      case measure => simp [intOf]; omega
    · obtain rfl : k = l.length := by omega
      go_wp2_with fail
      go_ret
      exact ⟨rfl, hbw⟩
theorem nil51 (w : World) : Calls Tryz.prog 51 #[.slice none 0 0, .slice none 0 0] w fun e w' => e = .returned (.bool true) ∧ w' = w := by
  go_enter Tryz.func51, Tryz.ntmps51
  go_wp2_with fail
  go_loop [5] (fun i => i = .int .i64 0) (fun _ => 0)
  case atStart => rfl
  case round =>
    obtain rfl := hrel
    go_wp2_with fail
    go_ret
    exact ⟨rfl, rfl⟩
theorem nil54 (w : World) : Calls Tryz.prog 54 #[.slice none 0 0, .slice none 0 0] w fun e w' => e = .returned (.bool true) ∧ w' = w := by
  go_enter Tryz.func54, Tryz.ntmps54
  go_wp2_with fail
  go_loop [5] (fun i => i = .int .i64 0) (fun _ => 0)
  case atStart => rfl
  case round =>
    obtain rfl := hrel
    go_wp2_with fail
    go_ret
    exact ⟨rfl, rfl⟩
theorem nil87 (w : World) : Calls Tryz.prog 87 #[.slice none 0 0, .slice none 0 0] w fun e w' => e = .returned (.bool true) ∧ w' = w := by
  go_enter Tryz.func87, Tryz.ntmps87
  go_wp2_with fail
  go_loop [5] (fun i => i = .int .i64 0) (fun _ => 0)
  case atStart => rfl
  case round =>
    obtain rfl := hrel
    go_wp2_with fail
    go_ret
    exact ⟨rfl, rfl⟩
theorem nil29 (w : World) : Calls Tryz.prog 29 #[.slice none 0 0, .slice none 0 0] w fun e w' => e = .returned (.bool true) ∧ w' = w := by
  go_enter Tryz.func29, Tryz.ntmps29
  go_wp2_with fail
  go_loop [5] (fun i => i = .int .i64 0) (fun _ => 0)
  case atStart => rfl
  case round =>
    obtain rfl := hrel
    go_wp2_with fail
    go_ret
    exact ⟨rfl, rfl⟩
theorem nil31 (w : World) : Calls Tryz.prog 31 #[.slice none 0 0, .slice none 0 0] w fun e w' => e = .returned (.bool true) ∧ w' = w := by
  go_enter Tryz.func31, Tryz.ntmps31
  go_wp2_with fail
  go_loop [5] (fun i => i = .int .i64 0) (fun _ => 0)
  case atStart => rfl
  case round =>
    obtain rfl := hrel
    go_wp2_with fail
    go_ret
    exact ⟨rfl, rfl⟩
theorem same53 (w : World) : Calls Tryz.prog 53 #[.agg #[.slice none 0 0, .slice none 0 0], .agg #[.slice none 0 0, .slice none 0 0]] w fun e w' => e = .returned (.bool true) ∧ Below w.heap.size w w' := by
  go_enter Tryz.func53, Tryz.ntmps53
  go_wp2_with fail
  refine (nil87 _).mono ?_
  rintro e w1 ⟨rfl, rfl⟩
  go_wp2_with fail
  refine (nil87 _).mono ?_
  rintro e w1 ⟨rfl, rfl⟩
  go_wp2_with fail
  go_ret
  exact ⟨rfl, by (repeat' (first | (with_reducible exact Below.refl _ _) | (with_reducible refine Below.alloc ?_ ?_ _) | (with_reducible refine Below.drew ?_) | (with_reducible refine below_drewN ?_ _) | (with_reducible refine Below.setCell ?_ ?_ _) | (with_reducible refine Below.trans ?_ (Below.mono (by assumption) ?_)) | (with_reducible exact Nat.le_refl _) | omega | (simp; omega) | (simp; done)))⟩
set_option maxRecDepth 100000 in
set_option maxHeartbeats 4000000 in
theorem same32 (i q : Int) (w : World) : Calls Tryz.prog 32 #[nodeV i q, nodeV i q] w fun e w' => e = .returned (.bool true) ∧ Below w.heap.size w w' := by
  unfold nodeV
  go_enter Tryz.func32, Tryz.ntmps32
  go_wp2_with fail
  refine (same53 _).mono ?_
  rintro e w1 ⟨rfl, hb1⟩
  have hz : w.heap.size + 1 + 1 ≤ w1.heap.size := Nat.le_trans (by simp) hb1.size
  have a6 : w1.cell? ⟨w.heap.size, 7, none⟩ = some (.slice none 0 0) := (hb1.cell (p := ⟨w.heap.size, 7, none⟩) (by simp; omega)).trans (by simp [go_sem])
  have b6 : w1.cell? ⟨w.heap.size + 1, 7, none⟩ = some (.slice none 0 0) := (hb1.cell (p := ⟨w.heap.size + 1, 7, none⟩) (by simp)).trans (by simp [go_sem])
  have hB : Below w.heap.size w w1 := by (repeat' (first | (with_reducible exact Below.refl _ _) | (with_reducible refine Below.alloc ?_ ?_ _) | (with_reducible refine Below.drew ?_) | (with_reducible refine below_drewN ?_ _) | (with_reducible refine Below.setCell ?_ ?_ _) | (with_reducible refine Below.trans ?_ (Below.mono (by assumption) ?_)) | (with_reducible exact Nat.le_refl _) | omega | (simp; omega) | (simp; done)))
  clear hb1
  go_wp2_with fail
  refine (nil54 _).mono ?_
  rintro e w2 ⟨rfl, rfl⟩
  go_wp2_with fail
  go_ret
  exact ⟨rfl, hB⟩
set_option maxRecDepth 100000 in
set_option maxHeartbeats 4000000 in
theorem same28 (qv cv : Value) (qs : List Int) (cs : List Con) (w : World) (hq : Ints w w.heap.size qv qs) (hc : Cons w w.heap.size cv cs) : Calls Tryz.prog 28 #[.agg #[qv, cv, .slice none 0 0, .slice none 0 0], .agg #[qv, cv, .slice none 0 0, .slice none 0 0]] w fun e w' => e = .returned (.bool true) ∧ Below w.heap.size w w' := by
  have HQ := Lib.hid hq
  have HC := Lib.hid hc
  obtain ⟨A1, c1, rfl, -, -, -⟩ := hq
  obtain ⟨A2, c2, rfl, -, -, -⟩ := hc
  go_enter Tryz.func28, Tryz.ntmps28
  go_wp2_with fail
  have hbw : Below w.heap.size w ((w.alloc (.cells #[.slice A1 qs.length c1, .slice A2 cs.length c2, .slice none 0 0, .slice none 0 0] 36)).alloc (.cells #[.slice A1 qs.length c1, .slice A2 cs.length c2, .slice none 0 0, .slice none 0 0] 36)) := by (repeat' (first | (with_reducible exact Below.refl _ _) | (with_reducible refine Below.alloc ?_ ?_ _) | (with_reducible refine Below.drew ?_) | (with_reducible refine below_drewN ?_ _) | (with_reducible refine Below.setCell ?_ ?_ _) | (with_reducible refine Below.trans ?_ (Below.mono (by assumption) ?_)) | (with_reducible exact Nat.le_refl _) | omega | (simp; omega) | (simp; done)))
  have hs : ((w.alloc (.cells #[.slice A1 qs.length c1, .slice A2 cs.length c2, .slice none 0 0, .slice none 0 0] 36)).alloc (.cells #[.slice A1 qs.length c1, .slice A2 cs.length c2, .slice none 0 0, .slice none 0 0] 36)).heap.size = w.heap.size + 1 + 1 := by simp
  have a2 : ((w.alloc (.cells #[.slice A1 qs.length c1, .slice A2 cs.length c2, .slice none 0 0, .slice none 0 0] 36)).alloc (.cells #[.slice A1 qs.length c1, .slice A2 cs.length c2, .slice none 0 0, .slice none 0 0] 36)).cell? ⟨w.heap.size, 2, none⟩ = some (.slice none 0 0) := by simp [go_sem]
  have a3 : ((w.alloc (.cells #[.slice A1 qs.length c1, .slice A2 cs.length c2, .slice none 0 0, .slice none 0 0] 36)).alloc (.cells #[.slice A1 qs.length c1, .slice A2 cs.length c2, .slice none 0 0, .slice none 0 0] 36)).cell? ⟨w.heap.size, 3, none⟩ = some (.slice none 0 0) := by simp [go_sem]
  have b2 : ((w.alloc (.cells #[.slice A1 qs.length c1, .slice A2 cs.length c2, .slice none 0 0, .slice none 0 0] 36)).alloc (.cells #[.slice A1 qs.length c1, .slice A2 cs.length c2, .slice none 0 0, .slice none 0 0] 36)).cell? ⟨w.heap.size + 1, 2, none⟩ = some (.slice none 0 0) := by simp [go_sem]
  have b3 : ((w.alloc (.cells #[.slice A1 qs.length c1, .slice A2 cs.length c2, .slice none 0 0, .slice none 0 0] 36)).alloc (.cells #[.slice A1 qs.length c1, .slice A2 cs.length c2, .slice none 0 0, .slice none 0 0] 36)).cell? ⟨w.heap.size + 1, 3, none⟩ = some (.slice none 0 0) := by simp [go_sem]
  generalize (w.alloc (.cells #[.slice A1 qs.length c1, .slice A2 cs.length c2, .slice none 0 0, .slice none 0 0] 36)).alloc (.cells #[.slice A1 qs.length c1, .slice A2 cs.length c2, .slice none 0 0, .slice none 0 0] 36) = v0 at *
  have HQ0 := Lib.hid ((HQ.out.below hbw).more hbw.size)
  have HC0 := Lib.hid ((HC.out.below hbw).more hbw.size)
  refine (same39 _ _ _ _ qs cs _ HQ0.out HC0.out HQ0.out HC0.out).mono ?_
  rintro e w1 ⟨rfl, hb1⟩
  have l0 : w.heap.size < v0.heap.size := by omega
  have l1 : w.heap.size + 1 < v0.heap.size := by omega
  have p2 := (hb1.cell (p := ⟨w.heap.size, 2, none⟩) l0).trans a2
  have p3 := (hb1.cell (p := ⟨w.heap.size, 3, none⟩) l0).trans a3
  have q2 := (hb1.cell (p := ⟨w.heap.size + 1, 2, none⟩) l1).trans b2
  have q3 := (hb1.cell (p := ⟨w.heap.size + 1, 3, none⟩) l1).trans b3
  have hB := hbw.trans (hb1.mono hbw.size)
  clear a2 a3 b2 b3 hb1 hs
  go_wp2_with fail
  refine (nil51 _).mono ?_
  rintro e w2 ⟨rfl, rfl⟩
  go_wp2_with fail
  go_loop [5] (fun i => i = .int .i64 0) (fun _ => 0)
  case atStart => rfl
  case round =>
    obtain rfl := hrel
    go_wp2_with fail
    go_ret
    exact ⟨rfl, hB⟩
/-- the first event -/
def nextR : List Ev → Value
  | [] => .tuple #[.agg #[.int .i64 0, .int .i64 0, .int .i64 0], .bool false]
  | x :: _ => .tuple #[.agg #[.int .i64 x.t, .int .i64 x.k, .int .i64 x.n], .bool true]
set_option maxRecDepth 100000 in
set_option maxHeartbeats 4000000 in
theorem next_any (VQ VC VO VF VX VN VE VA : Value) (bd : Bool) (l : List Ev) (w : World) (hA : Evs w w.heap.size VA l) : Calls Tryz.prog 11 #[netV VQ VC VO VF VX bd VN VE VA] w fun e w' => e = .returned (nextR l) ∧ Below w.heap.size w w' := by
  obtain ⟨A, c, rfl, hc, hm, h⟩ := hA
  unfold maxLen at hm
  unfold netV
  cases l with
  | nil =>
    go_enter Tryz.func11, Tryz.ntmps11
    go_wp2_with fail
    refine bodyPost_ret (v := .tuple #[.agg #[.int .i64 0, .int .i64 0, .int .i64 0], .bool false]) (by simp [results, Tryz.results11, go_sem]) rfl ⟨rfl, by (repeat' (first | (with_reducible exact Below.refl _ _) | (with_reducible refine Below.alloc ?_ ?_ _) | (with_reducible refine Below.drew ?_) | (with_reducible refine below_drewN ?_ _) | (with_reducible refine Below.setCell ?_ ?_ _) | (with_reducible refine Below.trans ?_ (Below.mono (by assumption) ?_)) | (with_reducible exact Nat.le_refl _) | omega | (simp; omega) | (simp; done)))⟩
  | cons x t =>
    obtain ⟨b, o, rfl, hb, hcell⟩ := h (by simp)
    obtain ⟨x0, x1, x2⟩ := hcell 0 (by simp)
    simp only [Nat.zero_mul, Nat.add_zero, List.getD_cons_zero] at x0 x1 x2
    have y0 : ∀ (o1 o2 : Obj), ((w.alloc o1).alloc o2).cell? ⟨b, o, none⟩ = some (.int .i64 x.t) := fun o1 o2 => (World.cell?_alloc_lt _ o2 ⟨b, o, none⟩ (by simp; omega)).trans ((World.cell?_alloc_lt w o1 ⟨b, o, none⟩ hb).trans x0)
    have y1 : ∀ (o1 o2 : Obj), ((w.alloc o1).alloc o2).cell? ⟨b, o + 1, none⟩ = some (.int .i64 x.k) := fun o1 o2 => (World.cell?_alloc_lt _ o2 ⟨b, o + 1, none⟩ (by simp; omega)).trans ((World.cell?_alloc_lt w o1 ⟨b, o + 1, none⟩ hb).trans x1)
    have y2 : ∀ (o1 o2 : Obj), ((w.alloc o1).alloc o2).cell? ⟨b, o + 2, none⟩ = some (.int .i64 x.n) := fun o1 o2 => (World.cell?_alloc_lt _ o2 ⟨b, o + 2, none⟩ (by simp; omega)).trans ((World.cell?_alloc_lt w o1 ⟨b, o + 2, none⟩ hb).trans x2)
    have q0 : ¬ ((t.length : Int) + 1 = 0) := by omega
    have q1 : (0 : Int) < (t.length : Int) + 1 := by omega
    simp only [List.length_cons] at hc
    clear hcell h x0 x1 x2
    go_enter Tryz.func11, Tryz.ntmps11
    go_wp2_with fail
    refine bodyPost_ret (v := .tuple #[.agg #[.int .i64 x.t, .int .i64 x.k, .int .i64 x.n], .bool true]) (by simp [results, Tryz.results11, go_sem]) rfl ⟨rfl, by (repeat' (first | (with_reducible exact Below.refl _ _) | (with_reducible refine Below.alloc ?_ ?_ _) | (with_reducible refine Below.drew ?_) | (with_reducible refine below_drewN ?_ _) | (with_reducible refine Below.setCell ?_ ?_ _) | (with_reducible refine Below.trans ?_ (Below.mono (by assumption) ?_)) | (with_reducible exact Nat.le_refl _) | omega | (simp; omega) | (simp; done)))⟩
set_option maxRecDepth 100000 in
set_option maxHeartbeats 4000000 in
theorem rnext_any (VQ VC VO VF VX VN VE VA : Value) (bd : Bool) (l : List Ev) (w : World) (hA : Evs w w.heap.size VA l) : Calls Tryz.prog 12 #[netV VQ VC VO VF VX bd VN VE VA] w fun e w' => e = .returned (nextR l) ∧ Below w.heap.size w w' := by
  obtain ⟨A, c, rfl, hc, hm, h⟩ := hA
  unfold maxLen at hm
  unfold netV
  cases l with
  | nil =>
    go_enter Tryz.func12, Tryz.ntmps12
    go_wp2_with fail
    refine bodyPost_ret (v := .tuple #[.agg #[.int .i64 0, .int .i64 0, .int .i64 0], .bool false]) (by simp [results, Tryz.results12, go_sem]) rfl ⟨rfl, by (repeat' (first | (with_reducible exact Below.refl _ _) | (with_reducible refine Below.alloc ?_ ?_ _) | (with_reducible refine Below.drew ?_) | (with_reducible refine below_drewN ?_ _) | (with_reducible refine Below.setCell ?_ ?_ _) | (with_reducible refine Below.trans ?_ (Below.mono (by assumption) ?_)) | (with_reducible exact Nat.le_refl _) | omega | (simp; omega) | (simp; done)))⟩
  | cons x t =>
    obtain ⟨b, o, rfl, hb, hcell⟩ := h (by simp)
    obtain ⟨x0, x1, x2⟩ := hcell 0 (by simp)
    simp only [Nat.zero_mul, Nat.add_zero, List.getD_cons_zero] at x0 x1 x2
    have y0 : ∀ (o1 o2 : Obj), ((w.alloc o1).alloc o2).cell? ⟨b, o, none⟩ = some (.int .i64 x.t) := fun o1 o2 => (World.cell?_alloc_lt _ o2 ⟨b, o, none⟩ (by simp; omega)).trans ((World.cell?_alloc_lt w o1 ⟨b, o, none⟩ hb).trans x0)
    have y1 : ∀ (o1 o2 : Obj), ((w.alloc o1).alloc o2).cell? ⟨b, o + 1, none⟩ = some (.int .i64 x.k) := fun o1 o2 => (World.cell?_alloc_lt _ o2 ⟨b, o + 1, none⟩ (by simp; omega)).trans ((World.cell?_alloc_lt w o1 ⟨b, o + 1, none⟩ hb).trans x1)
    have y2 : ∀ (o1 o2 : Obj), ((w.alloc o1).alloc o2).cell? ⟨b, o + 2, none⟩ = some (.int .i64 x.n) := fun o1 o2 => (World.cell?_alloc_lt _ o2 ⟨b, o + 2, none⟩ (by simp; omega)).trans ((World.cell?_alloc_lt w o1 ⟨b, o + 2, none⟩ hb).trans x2)
    have q0 : ¬ ((t.length : Int) + 1 = 0) := by omega
    have q1 : (0 : Int) < (t.length : Int) + 1 := by omega
    simp only [List.length_cons] at hc
    clear hcell h x0 x1 x2
    go_enter Tryz.func12, Tryz.ntmps12
    go_wp2_with fail
    refine bodyPost_ret (v := .tuple #[.agg #[.int .i64 x.t, .int .i64 x.k, .int .i64 x.n], .bool true]) (by simp [results, Tryz.results12, go_sem]) rfl ⟨rfl, by (repeat' (first | (with_reducible exact Below.refl _ _) | (with_reducible refine Below.alloc ?_ ?_ _) | (with_reducible refine Below.drew ?_) | (with_reducible refine below_drewN ?_ _) | (with_reducible refine Below.setCell ?_ ?_ _) | (with_reducible refine Below.trans ?_ (Below.mono (by assumption) ?_)) | (with_reducible exact Nat.le_refl _) | omega | (simp; omega) | (simp; done)))⟩
end Go.Proofs.YtclkjjdfdndplaaGreatDoor

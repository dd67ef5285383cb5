/- Two missions that are equal are the same. -/
import Derived.Test.YtclkjjdfdndplaaGreatDoorH5
import Derived.Laws.EntriesVeiled
import Derived.BigQuiet
namespace Go.Proofs.YtclkjjdfdndplaaGreatDoor
open Go.RowKit
theorem neq_con (c : Con) (w : World) : (binOp .neq 61 (.agg #[.int .i64 c.a, .int .i64 c.b, .int .i64 c.s, .int .i64 c.e, .int .i64 c.r, .int .i64 c.g, .int .i64 c.l]) (.agg #[.int .i64 c.a, .int .i64 c.b, .int .i64 c.s, .int .i64 c.e, .int .i64 c.r, .int .i64 c.g, .int .i64 c.l])).run Tryz.prog w = .ok (.bool false) w := by go_simp
theorem neq_flt (c : Flt) (w : World) : (binOp .neq 86 (.agg #[.int .i64 c.n, .int .i64 c.a, .int .i64 c.k, .int .i64 c.u]) (.agg #[.int .i64 c.n, .int .i64 c.a, .int .i64 c.k, .int .i64 c.u])).run Tryz.prog w = .ok (.bool false) w := by go_simp
theorem neq_otg (c : Otg) (w : World) : (binOp .neq 93 (.agg #[.int .i64 c.c, .int .i64 c.f, .int .i64 c.t]) (.agg #[.int .i64 c.c, .int .i64 c.f, .int .i64 c.t])).run Tryz.prog w = .ok (.bool false) w := by go_simp
theorem neq_blk (c : Blk) (w : World) : (binOp .neq 101 (.agg #[.int .i64 c.k, .int .i64 c.f, .string c.d]) (.agg #[.int .i64 c.k, .int .i64 c.f, .string c.d])).run Tryz.prog w = .ok (.bool false) w := by go_simp
theorem eq_five (x : Bun) (w : World) : (binOp .eql 54 (.agg #[.int .i64 x.s, .int .i64 x.c, .int .i64 x.q, .int .i64 x.o, .int .i64 x.t]) (.agg #[.int .i64 x.s, .int .i64 x.c, .int .i64 x.q, .int .i64 x.o, .int .i64 x.t])).run Tryz.prog w = .ok (.bool true) w := by go_simp
theorem eq_two (x : Bun) (w : World) : (binOp .eql 56 (.agg #[.int .i64 x.dk, .int .i64 x.dn]) (.agg #[.int .i64 x.dk, .int .i64 x.dn])).run Tryz.prog w = .ok (.bool true) w := by go_simp
set_option maxHeartbeats 2000000 in
theorem same84 (v v' : Value) (l : List Blk) (w : World) (h : Blks w w.heap.size v l) (h' : Blks w w.heap.size v' l) : Calls Tryz.prog 112 #[v, v'] w fun e w' => e = .returned (.bool true) ∧ Below w.heap.size w w' := by
  obtain ⟨A1, c1, rfl, hc1, hmc1, hA⟩ := h
  obtain ⟨A2, c2, rfl, hc2, hmc2, hB⟩ := h'
  unfold maxLen at hmc1 hmc2
  have HA := Lib.hid hA
  have HB := Lib.hid hB
  clear hA hB
  go_enter Tryz.func112, Tryz.ntmps112
  go_wp2_with fail
  have br := Below.refl w.heap.size w
  go_loopw [5] (fun i wr => ∃ k : Nat, k ≤ l.length ∧ i = .int .i64 k ∧ Below w.heap.size w wr) (fun i _ => l.length - (intOf i).toNat)
  case atStart => exact ⟨0, by omega, rfl, br⟩
  case round =>
    clear br
    obtain ⟨k, hk, rfl, br⟩ := hrel
    have hzr := br.size
    have hbw := (Below.refl w.heap.size w).trans (br.mono (Below.refl w.heap.size w).size)
    
    by_cases hlt : k < l.length
    · obtain ⟨b1, o1, rfl, hb1, hcell1⟩ := HA.out (by omega)
      obtain ⟨b2, o2, rfl, hb2, hcell2⟩ := HB.out (by omega)
      have y1 := (hcell1 k hlt).below (B' := 0) hbw hb1
      have y2 := (hcell2 k hlt).below (B' := 0) hbw hb2
      have ic1 : (0 : Int) ≤ k := by omega
      have ic2 : (k : Int) < l.length := by omega
      have hb1r : b1 < wr.heap.size := by omega
      have hb2r : b2 < wr.heap.size := by omega
      clear hcell1 hcell2
      generalize l.getD k Blk.zero = c at *
      obtain ⟨y10, y11, y12⟩ := y1
      obtain ⟨y20, y21, y22⟩ := y2
      have hn := neq_blk c
      go_wp2_with fail
      go_quiet (fail)
      have br2 := below_drewN br
      go_wp2_with fail
      go_roundw
      case rel => exact ⟨k + 1, by omega, by go_num, below_drewN br _⟩
      case measure => simp [intOf]; omega
    · obtain rfl : k = l.length := by omega
      go_wp2_with fail
      go_ret
      exact ⟨rfl, hbw⟩
set_option maxHeartbeats 4000000 in
set_option maxRecDepth 100000 in
theorem same66 (x : Bun) (V V' : Value) (w : World) (h : Blks w w.heap.size V x.bl) (h' : Blks w w.heap.size V' x.bl) : Calls Tryz.prog 86 #[.agg #[.int .i64 x.s, .int .i64 x.c, .int .i64 x.q, .int .i64 x.o, .int .i64 x.t, .int .i64 x.dk, .int .i64 x.dn, .int .i64 x.lf, .int .i64 x.pr, .int .i64 x.fl, V, .string x.py], .agg #[.int .i64 x.s, .int .i64 x.c, .int .i64 x.q, .int .i64 x.o, .int .i64 x.t, .int .i64 x.dk, .int .i64 x.dn, .int .i64 x.lf, .int .i64 x.pr, .int .i64 x.fl, V', .string x.py]] w fun e w' => e = .returned (.bool true) ∧ Below w.heap.size w w' := by
  have H1 := Lib.hid h
  have H2 := Lib.hid h'
  obtain ⟨AA, ca, rfl, hca, hma, -⟩ := h
  obtain ⟨AB, cb, rfl, hcb, hmb, -⟩ := h'
  have t1 := eq_five x
  have t2 := eq_two x
  go_enter Tryz.func86, Tryz.ntmps86
  go_wp2_with fail
  have m0 : ((w.alloc (.cells #[.int .i64 x.s, .int .i64 x.c, .int .i64 x.q, .int .i64 x.o, .int .i64 x.t, .int .i64 x.dk, .int .i64 x.dn, .int .i64 x.lf, .int .i64 x.pr, .int .i64 x.fl, .slice AA x.bl.length ca, .string x.py] 59)).alloc (.cells #[.int .i64 x.s, .int .i64 x.c, .int .i64 x.q, .int .i64 x.o, .int .i64 x.t, .int .i64 x.dk, .int .i64 x.dn, .int .i64 x.lf, .int .i64 x.pr, .int .i64 x.fl, .slice AB x.bl.length cb, .string x.py] 59)).cell? ⟨w.heap.size, 0, none⟩ = some (.int .i64 x.s) := by simp [go_sem]
  have m1 : ((w.alloc (.cells #[.int .i64 x.s, .int .i64 x.c, .int .i64 x.q, .int .i64 x.o, .int .i64 x.t, .int .i64 x.dk, .int .i64 x.dn, .int .i64 x.lf, .int .i64 x.pr, .int .i64 x.fl, .slice AA x.bl.length ca, .string x.py] 59)).alloc (.cells #[.int .i64 x.s, .int .i64 x.c, .int .i64 x.q, .int .i64 x.o, .int .i64 x.t, .int .i64 x.dk, .int .i64 x.dn, .int .i64 x.lf, .int .i64 x.pr, .int .i64 x.fl, .slice AB x.bl.length cb, .string x.py] 59)).cell? ⟨w.heap.size, 1, none⟩ = some (.int .i64 x.c) := by simp [go_sem]
  have m2 : ((w.alloc (.cells #[.int .i64 x.s, .int .i64 x.c, .int .i64 x.q, .int .i64 x.o, .int .i64 x.t, .int .i64 x.dk, .int .i64 x.dn, .int .i64 x.lf, .int .i64 x.pr, .int .i64 x.fl, .slice AA x.bl.length ca, .string x.py] 59)).alloc (.cells #[.int .i64 x.s, .int .i64 x.c, .int .i64 x.q, .int .i64 x.o, .int .i64 x.t, .int .i64 x.dk, .int .i64 x.dn, .int .i64 x.lf, .int .i64 x.pr, .int .i64 x.fl, .slice AB x.bl.length cb, .string x.py] 59)).cell? ⟨w.heap.size, 2, none⟩ = some (.int .i64 x.q) := by simp [go_sem]
  have m3 : ((w.alloc (.cells #[.int .i64 x.s, .int .i64 x.c, .int .i64 x.q, .int .i64 x.o, .int .i64 x.t, .int .i64 x.dk, .int .i64 x.dn, .int .i64 x.lf, .int .i64 x.pr, .int .i64 x.fl, .slice AA x.bl.length ca, .string x.py] 59)).alloc (.cells #[.int .i64 x.s, .int .i64 x.c, .int .i64 x.q, .int .i64 x.o, .int .i64 x.t, .int .i64 x.dk, .int .i64 x.dn, .int .i64 x.lf, .int .i64 x.pr, .int .i64 x.fl, .slice AB x.bl.length cb, .string x.py] 59)).cell? ⟨w.heap.size, 3, none⟩ = some (.int .i64 x.o) := by simp [go_sem]
  have m4 : ((w.alloc (.cells #[.int .i64 x.s, .int .i64 x.c, .int .i64 x.q, .int .i64 x.o, .int .i64 x.t, .int .i64 x.dk, .int .i64 x.dn, .int .i64 x.lf, .int .i64 x.pr, .int .i64 x.fl, .slice AA x.bl.length ca, .string x.py] 59)).alloc (.cells #[.int .i64 x.s, .int .i64 x.c, .int .i64 x.q, .int .i64 x.o, .int .i64 x.t, .int .i64 x.dk, .int .i64 x.dn, .int .i64 x.lf, .int .i64 x.pr, .int .i64 x.fl, .slice AB x.bl.length cb, .string x.py] 59)).cell? ⟨w.heap.size, 4, none⟩ = some (.int .i64 x.t) := by simp [go_sem]
  have m5 : ((w.alloc (.cells #[.int .i64 x.s, .int .i64 x.c, .int .i64 x.q, .int .i64 x.o, .int .i64 x.t, .int .i64 x.dk, .int .i64 x.dn, .int .i64 x.lf, .int .i64 x.pr, .int .i64 x.fl, .slice AA x.bl.length ca, .string x.py] 59)).alloc (.cells #[.int .i64 x.s, .int .i64 x.c, .int .i64 x.q, .int .i64 x.o, .int .i64 x.t, .int .i64 x.dk, .int .i64 x.dn, .int .i64 x.lf, .int .i64 x.pr, .int .i64 x.fl, .slice AB x.bl.length cb, .string x.py] 59)).cell? ⟨w.heap.size, 5, none⟩ = some (.int .i64 x.dk) := by simp [go_sem]
  have m6 : ((w.alloc (.cells #[.int .i64 x.s, .int .i64 x.c, .int .i64 x.q, .int .i64 x.o, .int .i64 x.t, .int .i64 x.dk, .int .i64 x.dn, .int .i64 x.lf, .int .i64 x.pr, .int .i64 x.fl, .slice AA x.bl.length ca, .string x.py] 59)).alloc (.cells #[.int .i64 x.s, .int .i64 x.c, .int .i64 x.q, .int .i64 x.o, .int .i64 x.t, .int .i64 x.dk, .int .i64 x.dn, .int .i64 x.lf, .int .i64 x.pr, .int .i64 x.fl, .slice AB x.bl.length cb, .string x.py] 59)).cell? ⟨w.heap.size, 6, none⟩ = some (.int .i64 x.dn) := by simp [go_sem]
  have m7 : ((w.alloc (.cells #[.int .i64 x.s, .int .i64 x.c, .int .i64 x.q, .int .i64 x.o, .int .i64 x.t, .int .i64 x.dk, .int .i64 x.dn, .int .i64 x.lf, .int .i64 x.pr, .int .i64 x.fl, .slice AA x.bl.length ca, .string x.py] 59)).alloc (.cells #[.int .i64 x.s, .int .i64 x.c, .int .i64 x.q, .int .i64 x.o, .int .i64 x.t, .int .i64 x.dk, .int .i64 x.dn, .int .i64 x.lf, .int .i64 x.pr, .int .i64 x.fl, .slice AB x.bl.length cb, .string x.py] 59)).cell? ⟨w.heap.size, 7, none⟩ = some (.int .i64 x.lf) := by simp [go_sem]
  have m8 : ((w.alloc (.cells #[.int .i64 x.s, .int .i64 x.c, .int .i64 x.q, .int .i64 x.o, .int .i64 x.t, .int .i64 x.dk, .int .i64 x.dn, .int .i64 x.lf, .int .i64 x.pr, .int .i64 x.fl, .slice AA x.bl.length ca, .string x.py] 59)).alloc (.cells #[.int .i64 x.s, .int .i64 x.c, .int .i64 x.q, .int .i64 x.o, .int .i64 x.t, .int .i64 x.dk, .int .i64 x.dn, .int .i64 x.lf, .int .i64 x.pr, .int .i64 x.fl, .slice AB x.bl.length cb, .string x.py] 59)).cell? ⟨w.heap.size, 8, none⟩ = some (.int .i64 x.pr) := by simp [go_sem]
  have m9 : ((w.alloc (.cells #[.int .i64 x.s, .int .i64 x.c, .int .i64 x.q, .int .i64 x.o, .int .i64 x.t, .int .i64 x.dk, .int .i64 x.dn, .int .i64 x.lf, .int .i64 x.pr, .int .i64 x.fl, .slice AA x.bl.length ca, .string x.py] 59)).alloc (.cells #[.int .i64 x.s, .int .i64 x.c, .int .i64 x.q, .int .i64 x.o, .int .i64 x.t, .int .i64 x.dk, .int .i64 x.dn, .int .i64 x.lf, .int .i64 x.pr, .int .i64 x.fl, .slice AB x.bl.length cb, .string x.py] 59)).cell? ⟨w.heap.size, 9, none⟩ = some (.int .i64 x.fl) := by simp [go_sem]
  have m10 : ((w.alloc (.cells #[.int .i64 x.s, .int .i64 x.c, .int .i64 x.q, .int .i64 x.o, .int .i64 x.t, .int .i64 x.dk, .int .i64 x.dn, .int .i64 x.lf, .int .i64 x.pr, .int .i64 x.fl, .slice AA x.bl.length ca, .string x.py] 59)).alloc (.cells #[.int .i64 x.s, .int .i64 x.c, .int .i64 x.q, .int .i64 x.o, .int .i64 x.t, .int .i64 x.dk, .int .i64 x.dn, .int .i64 x.lf, .int .i64 x.pr, .int .i64 x.fl, .slice AB x.bl.length cb, .string x.py] 59)).cell? ⟨w.heap.size, 10, none⟩ = some (.slice AA x.bl.length ca) := by simp [go_sem]
  have m11 : ((w.alloc (.cells #[.int .i64 x.s, .int .i64 x.c, .int .i64 x.q, .int .i64 x.o, .int .i64 x.t, .int .i64 x.dk, .int .i64 x.dn, .int .i64 x.lf, .int .i64 x.pr, .int .i64 x.fl, .slice AA x.bl.length ca, .string x.py] 59)).alloc (.cells #[.int .i64 x.s, .int .i64 x.c, .int .i64 x.q, .int .i64 x.o, .int .i64 x.t, .int .i64 x.dk, .int .i64 x.dn, .int .i64 x.lf, .int .i64 x.pr, .int .i64 x.fl, .slice AB x.bl.length cb, .string x.py] 59)).cell? ⟨w.heap.size, 11, none⟩ = some (.string x.py) := by simp [go_sem]
  have n0 : ((w.alloc (.cells #[.int .i64 x.s, .int .i64 x.c, .int .i64 x.q, .int .i64 x.o, .int .i64 x.t, .int .i64 x.dk, .int .i64 x.dn, .int .i64 x.lf, .int .i64 x.pr, .int .i64 x.fl, .slice AA x.bl.length ca, .string x.py] 59)).alloc (.cells #[.int .i64 x.s, .int .i64 x.c, .int .i64 x.q, .int .i64 x.o, .int .i64 x.t, .int .i64 x.dk, .int .i64 x.dn, .int .i64 x.lf, .int .i64 x.pr, .int .i64 x.fl, .slice AB x.bl.length cb, .string x.py] 59)).cell? ⟨w.heap.size + 1, 0, none⟩ = some (.int .i64 x.s) := by simp [go_sem]
  have n1 : ((w.alloc (.cells #[.int .i64 x.s, .int .i64 x.c, .int .i64 x.q, .int .i64 x.o, .int .i64 x.t, .int .i64 x.dk, .int .i64 x.dn, .int .i64 x.lf, .int .i64 x.pr, .int .i64 x.fl, .slice AA x.bl.length ca, .string x.py] 59)).alloc (.cells #[.int .i64 x.s, .int .i64 x.c, .int .i64 x.q, .int .i64 x.o, .int .i64 x.t, .int .i64 x.dk, .int .i64 x.dn, .int .i64 x.lf, .int .i64 x.pr, .int .i64 x.fl, .slice AB x.bl.length cb, .string x.py] 59)).cell? ⟨w.heap.size + 1, 1, none⟩ = some (.int .i64 x.c) := by simp [go_sem]
  have n2 : ((w.alloc (.cells #[.int .i64 x.s, .int .i64 x.c, .int .i64 x.q, .int .i64 x.o, .int .i64 x.t, .int .i64 x.dk, .int .i64 x.dn, .int .i64 x.lf, .int .i64 x.pr, .int .i64 x.fl, .slice AA x.bl.length ca, .string x.py] 59)).alloc (.cells #[.int .i64 x.s, .int .i64 x.c, .int .i64 x.q, .int .i64 x.o, .int .i64 x.t, .int .i64 x.dk, .int .i64 x.dn, .int .i64 x.lf, .int .i64 x.pr, .int .i64 x.fl, .slice AB x.bl.length cb, .string x.py] 59)).cell? ⟨w.heap.size + 1, 2, none⟩ = some (.int .i64 x.q) := by simp [go_sem]
  have n3 : ((w.alloc (.cells #[.int .i64 x.s, .int .i64 x.c, .int .i64 x.q, .int .i64 x.o, .int .i64 x.t, .int .i64 x.dk, .int .i64 x.dn, .int .i64 x.lf, .int .i64 x.pr, .int .i64 x.fl, .slice AA x.bl.length ca, .string x.py] 59)).alloc (.cells #[.int .i64 x.s, .int .i64 x.c, .int .i64 x.q, .int .i64 x.o, .int .i64 x.t, .int .i64 x.dk, .int .i64 x.dn, .int .i64 x.lf, .int .i64 x.pr, .int .i64 x.fl, .slice AB x.bl.length cb, .string x.py] 59)).cell? ⟨w.heap.size + 1, 3, none⟩ = some (.int .i64 x.o) := by simp [go_sem]
  have n4 : ((w.alloc (.cells #[.int .i64 x.s, .int .i64 x.c, .int .i64 x.q, .int .i64 x.o, .int .i64 x.t, .int .i64 x.dk, .int .i64 x.dn, .int .i64 x.lf, .int .i64 x.pr, .int .i64 x.fl, .slice AA x.bl.length ca, .string x.py] 59)).alloc (.cells #[.int .i64 x.s, .int .i64 x.c, .int .i64 x.q, .int .i64 x.o, .int .i64 x.t, .int .i64 x.dk, .int .i64 x.dn, .int .i64 x.lf, .int .i64 x.pr, .int .i64 x.fl, .slice AB x.bl.length cb, .string x.py] 59)).cell? ⟨w.heap.size + 1, 4, none⟩ = some (.int .i64 x.t) := by simp [go_sem]
  have n5 : ((w.alloc (.cells #[.int .i64 x.s, .int .i64 x.c, .int .i64 x.q, .int .i64 x.o, .int .i64 x.t, .int .i64 x.dk, .int .i64 x.dn, .int .i64 x.lf, .int .i64 x.pr, .int .i64 x.fl, .slice AA x.bl.length ca, .string x.py] 59)).alloc (.cells #[.int .i64 x.s, .int .i64 x.c, .int .i64 x.q, .int .i64 x.o, .int .i64 x.t, .int .i64 x.dk, .int .i64 x.dn, .int .i64 x.lf, .int .i64 x.pr, .int .i64 x.fl, .slice AB x.bl.length cb, .string x.py] 59)).cell? ⟨w.heap.size + 1, 5, none⟩ = some (.int .i64 x.dk) := by simp [go_sem]
  have n6 : ((w.alloc (.cells #[.int .i64 x.s, .int .i64 x.c, .int .i64 x.q, .int .i64 x.o, .int .i64 x.t, .int .i64 x.dk, .int .i64 x.dn, .int .i64 x.lf, .int .i64 x.pr, .int .i64 x.fl, .slice AA x.bl.length ca, .string x.py] 59)).alloc (.cells #[.int .i64 x.s, .int .i64 x.c, .int .i64 x.q, .int .i64 x.o, .int .i64 x.t, .int .i64 x.dk, .int .i64 x.dn, .int .i64 x.lf, .int .i64 x.pr, .int .i64 x.fl, .slice AB x.bl.length cb, .string x.py] 59)).cell? ⟨w.heap.size + 1, 6, none⟩ = some (.int .i64 x.dn) := by simp [go_sem]
  have n7 : ((w.alloc (.cells #[.int .i64 x.s, .int .i64 x.c, .int .i64 x.q, .int .i64 x.o, .int .i64 x.t, .int .i64 x.dk, .int .i64 x.dn, .int .i64 x.lf, .int .i64 x.pr, .int .i64 x.fl, .slice AA x.bl.length ca, .string x.py] 59)).alloc (.cells #[.int .i64 x.s, .int .i64 x.c, .int .i64 x.q, .int .i64 x.o, .int .i64 x.t, .int .i64 x.dk, .int .i64 x.dn, .int .i64 x.lf, .int .i64 x.pr, .int .i64 x.fl, .slice AB x.bl.length cb, .string x.py] 59)).cell? ⟨w.heap.size + 1, 7, none⟩ = some (.int .i64 x.lf) := by simp [go_sem]
  have n8 : ((w.alloc (.cells #[.int .i64 x.s, .int .i64 x.c, .int .i64 x.q, .int .i64 x.o, .int .i64 x.t, .int .i64 x.dk, .int .i64 x.dn, .int .i64 x.lf, .int .i64 x.pr, .int .i64 x.fl, .slice AA x.bl.length ca, .string x.py] 59)).alloc (.cells #[.int .i64 x.s, .int .i64 x.c, .int .i64 x.q, .int .i64 x.o, .int .i64 x.t, .int .i64 x.dk, .int .i64 x.dn, .int .i64 x.lf, .int .i64 x.pr, .int .i64 x.fl, .slice AB x.bl.length cb, .string x.py] 59)).cell? ⟨w.heap.size + 1, 8, none⟩ = some (.int .i64 x.pr) := by simp [go_sem]
  have n9 : ((w.alloc (.cells #[.int .i64 x.s, .int .i64 x.c, .int .i64 x.q, .int .i64 x.o, .int .i64 x.t, .int .i64 x.dk, .int .i64 x.dn, .int .i64 x.lf, .int .i64 x.pr, .int .i64 x.fl, .slice AA x.bl.length ca, .string x.py] 59)).alloc (.cells #[.int .i64 x.s, .int .i64 x.c, .int .i64 x.q, .int .i64 x.o, .int .i64 x.t, .int .i64 x.dk, .int .i64 x.dn, .int .i64 x.lf, .int .i64 x.pr, .int .i64 x.fl, .slice AB x.bl.length cb, .string x.py] 59)).cell? ⟨w.heap.size + 1, 9, none⟩ = some (.int .i64 x.fl) := by simp [go_sem]
  have n10 : ((w.alloc (.cells #[.int .i64 x.s, .int .i64 x.c, .int .i64 x.q, .int .i64 x.o, .int .i64 x.t, .int .i64 x.dk, .int .i64 x.dn, .int .i64 x.lf, .int .i64 x.pr, .int .i64 x.fl, .slice AA x.bl.length ca, .string x.py] 59)).alloc (.cells #[.int .i64 x.s, .int .i64 x.c, .int .i64 x.q, .int .i64 x.o, .int .i64 x.t, .int .i64 x.dk, .int .i64 x.dn, .int .i64 x.lf, .int .i64 x.pr, .int .i64 x.fl, .slice AB x.bl.length cb, .string x.py] 59)).cell? ⟨w.heap.size + 1, 10, none⟩ = some (.slice AB x.bl.length cb) := by simp [go_sem]
  have n11 : ((w.alloc (.cells #[.int .i64 x.s, .int .i64 x.c, .int .i64 x.q, .int .i64 x.o, .int .i64 x.t, .int .i64 x.dk, .int .i64 x.dn, .int .i64 x.lf, .int .i64 x.pr, .int .i64 x.fl, .slice AA x.bl.length ca, .string x.py] 59)).alloc (.cells #[.int .i64 x.s, .int .i64 x.c, .int .i64 x.q, .int .i64 x.o, .int .i64 x.t, .int .i64 x.dk, .int .i64 x.dn, .int .i64 x.lf, .int .i64 x.pr, .int .i64 x.fl, .slice AB x.bl.length cb, .string x.py] 59)).cell? ⟨w.heap.size + 1, 11, none⟩ = some (.string x.py) := by simp [go_sem]
  have hb0 : Below w.heap.size w ((w.alloc (.cells #[.int .i64 x.s, .int .i64 x.c, .int .i64 x.q, .int .i64 x.o, .int .i64 x.t, .int .i64 x.dk, .int .i64 x.dn, .int .i64 x.lf, .int .i64 x.pr, .int .i64 x.fl, .slice AA x.bl.length ca, .string x.py] 59)).alloc (.cells #[.int .i64 x.s, .int .i64 x.c, .int .i64 x.q, .int .i64 x.o, .int .i64 x.t, .int .i64 x.dk, .int .i64 x.dn, .int .i64 x.lf, .int .i64 x.pr, .int .i64 x.fl, .slice AB x.bl.length cb, .string x.py] 59)) := by (repeat' (first | (with_reducible exact Below.refl _ _) | (with_reducible refine Below.alloc ?_ ?_ _) | (with_reducible refine Below.drew ?_) | (with_reducible refine below_drewN ?_ _) | (with_reducible refine Below.setCell ?_ ?_ _) | (with_reducible refine Below.trans ?_ (Below.mono (by assumption) ?_)) | (with_reducible exact Nat.le_refl _) | omega | (simp; omega) | (simp; done)))
  have hz0 : ((w.alloc (.cells #[.int .i64 x.s, .int .i64 x.c, .int .i64 x.q, .int .i64 x.o, .int .i64 x.t, .int .i64 x.dk, .int .i64 x.dn, .int .i64 x.lf, .int .i64 x.pr, .int .i64 x.fl, .slice AA x.bl.length ca, .string x.py] 59)).alloc (.cells #[.int .i64 x.s, .int .i64 x.c, .int .i64 x.q, .int .i64 x.o, .int .i64 x.t, .int .i64 x.dk, .int .i64 x.dn, .int .i64 x.lf, .int .i64 x.pr, .int .i64 x.fl, .slice AB x.bl.length cb, .string x.py] 59)).heap.size = w.heap.size + 1 + 1 := by simp
  generalize ((w.alloc (.cells #[.int .i64 x.s, .int .i64 x.c, .int .i64 x.q, .int .i64 x.o, .int .i64 x.t, .int .i64 x.dk, .int .i64 x.dn, .int .i64 x.lf, .int .i64 x.pr, .int .i64 x.fl, .slice AA x.bl.length ca, .string x.py] 59)).alloc (.cells #[.int .i64 x.s, .int .i64 x.c, .int .i64 x.q, .int .i64 x.o, .int .i64 x.t, .int .i64 x.dk, .int .i64 x.dn, .int .i64 x.lf, .int .i64 x.pr, .int .i64 x.fl, .slice AB x.bl.length cb, .string x.py] 59)) = v0 at *
  have HS0 : Hid (∀ W, Below v0.heap.size v0 W → W.cell? ⟨w.heap.size, 0, none⟩ = some (.int .i64 x.s) ∧ W.cell? ⟨w.heap.size, 1, none⟩ = some (.int .i64 x.c) ∧ W.cell? ⟨w.heap.size, 2, none⟩ = some (.int .i64 x.q) ∧ W.cell? ⟨w.heap.size, 3, none⟩ = some (.int .i64 x.o) ∧ W.cell? ⟨w.heap.size, 4, none⟩ = some (.int .i64 x.t) ∧ W.cell? ⟨w.heap.size, 5, none⟩ = some (.int .i64 x.dk) ∧ W.cell? ⟨w.heap.size, 6, none⟩ = some (.int .i64 x.dn) ∧ W.cell? ⟨w.heap.size, 7, none⟩ = some (.int .i64 x.lf) ∧ W.cell? ⟨w.heap.size, 8, none⟩ = some (.int .i64 x.pr) ∧ W.cell? ⟨w.heap.size, 9, none⟩ = some (.int .i64 x.fl) ∧ W.cell? ⟨w.heap.size, 10, none⟩ = some (.slice AA x.bl.length ca) ∧ W.cell? ⟨w.heap.size, 11, none⟩ = some (.string x.py) ∧ W.cell? ⟨w.heap.size + 1, 0, none⟩ = some (.int .i64 x.s) ∧ W.cell? ⟨w.heap.size + 1, 1, none⟩ = some (.int .i64 x.c) ∧ W.cell? ⟨w.heap.size + 1, 2, none⟩ = some (.int .i64 x.q) ∧ W.cell? ⟨w.heap.size + 1, 3, none⟩ = some (.int .i64 x.o) ∧ W.cell? ⟨w.heap.size + 1, 4, none⟩ = some (.int .i64 x.t) ∧ W.cell? ⟨w.heap.size + 1, 5, none⟩ = some (.int .i64 x.dk) ∧ W.cell? ⟨w.heap.size + 1, 6, none⟩ = some (.int .i64 x.dn) ∧ W.cell? ⟨w.heap.size + 1, 7, none⟩ = some (.int .i64 x.lf) ∧ W.cell? ⟨w.heap.size + 1, 8, none⟩ = some (.int .i64 x.pr) ∧ W.cell? ⟨w.heap.size + 1, 9, none⟩ = some (.int .i64 x.fl) ∧ W.cell? ⟨w.heap.size + 1, 10, none⟩ = some (.slice AB x.bl.length cb) ∧ W.cell? ⟨w.heap.size + 1, 11, none⟩ = some (.string x.py)) := fun W h => by
    have e : ∀ b k, b < v0.heap.size → W.cell? ⟨b, k, none⟩ = v0.cell? ⟨b, k, none⟩ := fun b k hk => h.cell (p := ⟨b, k, none⟩) hk
    exact ⟨(e _ _ (by omega)).trans m0, (e _ _ (by omega)).trans m1, (e _ _ (by omega)).trans m2, (e _ _ (by omega)).trans m3, (e _ _ (by omega)).trans m4, (e _ _ (by omega)).trans m5, (e _ _ (by omega)).trans m6, (e _ _ (by omega)).trans m7, (e _ _ (by omega)).trans m8, (e _ _ (by omega)).trans m9, (e _ _ (by omega)).trans m10, (e _ _ (by omega)).trans m11, (e _ _ (by omega)).trans n0, (e _ _ (by omega)).trans n1, (e _ _ (by omega)).trans n2, (e _ _ (by omega)).trans n3, (e _ _ (by omega)).trans n4, (e _ _ (by omega)).trans n5, (e _ _ (by omega)).trans n6, (e _ _ (by omega)).trans n7, (e _ _ (by omega)).trans n8, (e _ _ (by omega)).trans n9, (e _ _ (by omega)).trans n10, (e _ _ (by omega)).trans n11⟩
  clear m0 n0 m1 n1 m2 n2 m3 n3 m4 n4 m5 n5 m6 n6 m7 n7 m8 n8 m9 n9 m10 n10 m11 n11
  have br := Below.refl v0.heap.size v0
  obtain ⟨q0, q1, q2, q3, q4, q5, q6, q7, q8, q9, q10, q11, r0, r1, r2, r3, r4, r5, r6, r7, r8, r9, r10, r11⟩ := HS0.out v0 br
  go_wp2_with fail
  refine (same84 _ _ x.bl v0 ((H1.out.blks hb0).blks_more hb0.size) ((H2.out.blks hb0).blks_more hb0.size)).mono ?_
  rintro e w1 ⟨rfl, br⟩
  have hB := hb0.trans (br.mono hb0.size)
  have hz1 := br.size
  clear q0 r0 q1 r1 q2 r2 q3 r3 q4 r4 q5 r5 q6 r6 q7 r7 q8 r8 q9 r9 q10 r10 q11 r11
  obtain ⟨q0, q1, q2, q3, q4, q5, q6, q7, q8, q9, q10, q11, r0, r1, r2, r3, r4, r5, r6, r7, r8, r9, r10, r11⟩ := HS0.out w1 br
  go_wp2_with fail
  go_ret
  exact ⟨rfl, hB⟩
set_option maxHeartbeats 4000000 in
set_option maxRecDepth 100000 in
theorem same40 (v v' : Value) (l : List Bun) (w : World) (h : Buns w w.heap.size v l) (h' : Buns w w.heap.size v' l) : Calls Tryz.prog 50 #[v, v'] w fun e w' => e = .returned (.bool true) ∧ Below w.heap.size w w' := by
  obtain ⟨A1, c1, rfl, hc1, hmc1, hA⟩ := h
  obtain ⟨A2, c2, rfl, hc2, hmc2, hB⟩ := h'
  unfold maxLen at hmc1 hmc2
  have HA := Lib.hid hA
  have HB := Lib.hid hB
  clear hA hB
  go_enter Tryz.func50, Tryz.ntmps50
  go_wp2_with fail
  go_loopw [5] (fun i wr => ∃ k : Nat, k ≤ l.length ∧ i = .int .i64 k ∧ Below w.heap.size w wr) (fun i _ => l.length - (intOf i).toNat)
  case atStart => exact ⟨0, by omega, rfl, Below.refl _ _⟩
  case round =>
    obtain ⟨k, hk, rfl, br⟩ := hrel
    have hzr := br.size
    by_cases hlt : k < l.length
    · obtain ⟨b1, o1, rfl, hb1, hcell1⟩ := HA.out (by omega)
      obtain ⟨b2, o2, rfl, hb2, hcell2⟩ := HB.out (by omega)
      have y1 := (hcell1 k hlt).below br hb1
      have y2 := (hcell2 k hlt).below br hb2
      have hb1r : b1 < wr.heap.size := by omega
      have hb2r : b2 < wr.heap.size := by omega
      have ic1 : (0 : Int) ≤ k := by omega
      have ic2 : (k : Int) < l.length := by omega
      clear hcell1 hcell2
      generalize l.getD k Bun.zero = x at *
      obtain ⟨e0, e1, e2, e3, e4, e5, e6, e7, e8, e9, ⟨V1, e10, hV1⟩, e11⟩ := y1
      obtain ⟨f0, f1, f2, f3, f4, f5, f6, f7, f8, f9, ⟨V2, f10, hV2⟩, f11⟩ := y2
      have W1 := hV1.blks_more hzr
      have W2 := hV2.blks_more hzr
      obtain ⟨AA, ca, rfl, hca, hma, -⟩ := hV1
      obtain ⟨AB, cb, rfl, hcb, hmb, -⟩ := hV2
      have hd := Below.drew (Below.refl wr.heap.size wr)
      have X1 := (W1.blks hd).blks_more (B' := wr.drew.heap.size) hd.size
      have X2 := (W2.blks hd).blks_more (B' := wr.drew.heap.size) hd.size
      have HSS : wr.cell? ⟨b1, o1 + k * 12, none⟩ = some (.int .i64 x.s) ∧ wr.cell? ⟨b1, o1 + k * 12 + 1, none⟩ = some (.int .i64 x.c) ∧ wr.cell? ⟨b1, o1 + k * 12 + 2, none⟩ = some (.int .i64 x.q) ∧ wr.cell? ⟨b1, o1 + k * 12 + 3, none⟩ = some (.int .i64 x.o) ∧ wr.cell? ⟨b1, o1 + k * 12 + 4, none⟩ = some (.int .i64 x.t) ∧ wr.cell? ⟨b1, o1 + k * 12 + 5, none⟩ = some (.int .i64 x.dk) ∧ wr.cell? ⟨b1, o1 + k * 12 + 6, none⟩ = some (.int .i64 x.dn) ∧ wr.cell? ⟨b1, o1 + k * 12 + 7, none⟩ = some (.int .i64 x.lf) ∧ wr.cell? ⟨b1, o1 + k * 12 + 8, none⟩ = some (.int .i64 x.pr) ∧ wr.cell? ⟨b1, o1 + k * 12 + 9, none⟩ = some (.int .i64 x.fl) ∧ wr.cell? ⟨b1, o1 + k * 12 + 10, none⟩ = some (.slice AA x.bl.length ca) ∧ wr.cell? ⟨b1, o1 + k * 12 + 11, none⟩ = some (.string x.py) ∧ wr.cell? ⟨b2, o2 + k * 12, none⟩ = some (.int .i64 x.s) ∧ wr.cell? ⟨b2, o2 + k * 12 + 1, none⟩ = some (.int .i64 x.c) ∧ wr.cell? ⟨b2, o2 + k * 12 + 2, none⟩ = some (.int .i64 x.q) ∧ wr.cell? ⟨b2, o2 + k * 12 + 3, none⟩ = some (.int .i64 x.o) ∧ wr.cell? ⟨b2, o2 + k * 12 + 4, none⟩ = some (.int .i64 x.t) ∧ wr.cell? ⟨b2, o2 + k * 12 + 5, none⟩ = some (.int .i64 x.dk) ∧ wr.cell? ⟨b2, o2 + k * 12 + 6, none⟩ = some (.int .i64 x.dn) ∧ wr.cell? ⟨b2, o2 + k * 12 + 7, none⟩ = some (.int .i64 x.lf) ∧ wr.cell? ⟨b2, o2 + k * 12 + 8, none⟩ = some (.int .i64 x.pr) ∧ wr.cell? ⟨b2, o2 + k * 12 + 9, none⟩ = some (.int .i64 x.fl) ∧ wr.cell? ⟨b2, o2 + k * 12 + 10, none⟩ = some (.slice AB x.bl.length cb) ∧ wr.cell? ⟨b2, o2 + k * 12 + 11, none⟩ = some (.string x.py) := ⟨e0, e1, e2, e3, e4, e5, e6, e7, e8, e9, e10, e11, f0, f1, f2, f3, f4, f5, f6, f7, f8, f9, f10, f11⟩
      have HSD : wr.drew.cell? ⟨b1, o1 + k * 12, none⟩ = some (.int .i64 x.s) ∧ wr.drew.cell? ⟨b1, o1 + k * 12 + 1, none⟩ = some (.int .i64 x.c) ∧ wr.drew.cell? ⟨b1, o1 + k * 12 + 2, none⟩ = some (.int .i64 x.q) ∧ wr.drew.cell? ⟨b1, o1 + k * 12 + 3, none⟩ = some (.int .i64 x.o) ∧ wr.drew.cell? ⟨b1, o1 + k * 12 + 4, none⟩ = some (.int .i64 x.t) ∧ wr.drew.cell? ⟨b1, o1 + k * 12 + 5, none⟩ = some (.int .i64 x.dk) ∧ wr.drew.cell? ⟨b1, o1 + k * 12 + 6, none⟩ = some (.int .i64 x.dn) ∧ wr.drew.cell? ⟨b1, o1 + k * 12 + 7, none⟩ = some (.int .i64 x.lf) ∧ wr.drew.cell? ⟨b1, o1 + k * 12 + 8, none⟩ = some (.int .i64 x.pr) ∧ wr.drew.cell? ⟨b1, o1 + k * 12 + 9, none⟩ = some (.int .i64 x.fl) ∧ wr.drew.cell? ⟨b1, o1 + k * 12 + 10, none⟩ = some (.slice AA x.bl.length ca) ∧ wr.drew.cell? ⟨b1, o1 + k * 12 + 11, none⟩ = some (.string x.py) ∧ wr.drew.cell? ⟨b2, o2 + k * 12, none⟩ = some (.int .i64 x.s) ∧ wr.drew.cell? ⟨b2, o2 + k * 12 + 1, none⟩ = some (.int .i64 x.c) ∧ wr.drew.cell? ⟨b2, o2 + k * 12 + 2, none⟩ = some (.int .i64 x.q) ∧ wr.drew.cell? ⟨b2, o2 + k * 12 + 3, none⟩ = some (.int .i64 x.o) ∧ wr.drew.cell? ⟨b2, o2 + k * 12 + 4, none⟩ = some (.int .i64 x.t) ∧ wr.drew.cell? ⟨b2, o2 + k * 12 + 5, none⟩ = some (.int .i64 x.dk) ∧ wr.drew.cell? ⟨b2, o2 + k * 12 + 6, none⟩ = some (.int .i64 x.dn) ∧ wr.drew.cell? ⟨b2, o2 + k * 12 + 7, none⟩ = some (.int .i64 x.lf) ∧ wr.drew.cell? ⟨b2, o2 + k * 12 + 8, none⟩ = some (.int .i64 x.pr) ∧ wr.drew.cell? ⟨b2, o2 + k * 12 + 9, none⟩ = some (.int .i64 x.fl) ∧ wr.drew.cell? ⟨b2, o2 + k * 12 + 10, none⟩ = some (.slice AB x.bl.length cb) ∧ wr.drew.cell? ⟨b2, o2 + k * 12 + 11, none⟩ = some (.string x.py) := HSS
      go_wp2_with fail
      refine wp_region_held_drew (S := fun w' => w'.cell? ⟨b1, o1 + k * 12, none⟩ = some (.int .i64 x.s) ∧ w'.cell? ⟨b1, o1 + k * 12 + 1, none⟩ = some (.int .i64 x.c) ∧ w'.cell? ⟨b1, o1 + k * 12 + 2, none⟩ = some (.int .i64 x.q) ∧ w'.cell? ⟨b1, o1 + k * 12 + 3, none⟩ = some (.int .i64 x.o) ∧ w'.cell? ⟨b1, o1 + k * 12 + 4, none⟩ = some (.int .i64 x.t) ∧ w'.cell? ⟨b1, o1 + k * 12 + 5, none⟩ = some (.int .i64 x.dk) ∧ w'.cell? ⟨b1, o1 + k * 12 + 6, none⟩ = some (.int .i64 x.dn) ∧ w'.cell? ⟨b1, o1 + k * 12 + 7, none⟩ = some (.int .i64 x.lf) ∧ w'.cell? ⟨b1, o1 + k * 12 + 8, none⟩ = some (.int .i64 x.pr) ∧ w'.cell? ⟨b1, o1 + k * 12 + 9, none⟩ = some (.int .i64 x.fl) ∧ w'.cell? ⟨b1, o1 + k * 12 + 10, none⟩ = some (.slice AA x.bl.length ca) ∧ w'.cell? ⟨b1, o1 + k * 12 + 11, none⟩ = some (.string x.py) ∧ w'.cell? ⟨b2, o2 + k * 12, none⟩ = some (.int .i64 x.s) ∧ w'.cell? ⟨b2, o2 + k * 12 + 1, none⟩ = some (.int .i64 x.c) ∧ w'.cell? ⟨b2, o2 + k * 12 + 2, none⟩ = some (.int .i64 x.q) ∧ w'.cell? ⟨b2, o2 + k * 12 + 3, none⟩ = some (.int .i64 x.o) ∧ w'.cell? ⟨b2, o2 + k * 12 + 4, none⟩ = some (.int .i64 x.t) ∧ w'.cell? ⟨b2, o2 + k * 12 + 5, none⟩ = some (.int .i64 x.dk) ∧ w'.cell? ⟨b2, o2 + k * 12 + 6, none⟩ = some (.int .i64 x.dn) ∧ w'.cell? ⟨b2, o2 + k * 12 + 7, none⟩ = some (.int .i64 x.lf) ∧ w'.cell? ⟨b2, o2 + k * 12 + 8, none⟩ = some (.int .i64 x.pr) ∧ w'.cell? ⟨b2, o2 + k * 12 + 9, none⟩ = some (.int .i64 x.fl) ∧ w'.cell? ⟨b2, o2 + k * 12 + 10, none⟩ = some (.slice AB x.bl.length cb) ∧ w'.cell? ⟨b2, o2 + k * 12 + 11, none⟩ = some (.string x.py)) (by kernel_rfl) HSD (fun hHeld => ?_)
      (refine wpAnyH_take (i := 0) (v := ?_) rfl (by kernel_rfl) (by kernel_rfl) (by kernel_rfl) (fun _ _ _ h => h) (Or.inl ⟨by kernel_rfl, fun w0 hSw => ?_⟩) hHeld ?_; rotate_left; (focus ((try dsimp only at hSw); simp only [List.getElem_toArray, List.getElem_cons_zero]; (first | (go_simp; done) | (go_simp; with_reducible rfl)))); (try simp only [List.getElem_toArray, List.getElem_cons_zero, Act.put, List.setIfInBounds_toArray, List.set_cons_zero, List.set_cons_succ]))
      (refine wpAnyH_take (i := 1) (v := ?_) rfl (by kernel_rfl) (by kernel_rfl) (by kernel_rfl) (fun _ _ _ h => h) (Or.inl ⟨by kernel_rfl, fun w0 hSw => ?_⟩) hHeld ?_; rotate_left; (focus ((try dsimp only at hSw); simp only [List.getElem_toArray, List.getElem_cons_zero, List.getElem_cons_succ]; (first | (go_simp; done) | (go_simp; with_reducible rfl)))); (try simp only [List.getElem_toArray, List.getElem_cons_zero, List.getElem_cons_succ, Act.put, List.setIfInBounds_toArray, List.set_cons_zero, List.set_cons_succ]))
      (refine wpAnyH_take (i := 2) (v := ?_) rfl (by kernel_rfl) (by kernel_rfl) (by kernel_rfl) (fun _ _ _ h => h) (Or.inl ⟨by kernel_rfl, fun w0 hSw => ?_⟩) hHeld ?_; rotate_left; (focus ((try dsimp only at hSw); simp only [List.getElem_toArray, List.getElem_cons_zero, List.getElem_cons_succ]; (first | (go_simp; done) | (go_simp; with_reducible rfl)))); (try simp only [List.getElem_toArray, List.getElem_cons_zero, List.getElem_cons_succ, Act.put, List.setIfInBounds_toArray, List.set_cons_zero, List.set_cons_succ]))
      (refine wpAnyH_take (i := 3) (v := ?_) rfl (by kernel_rfl) (by kernel_rfl) (by kernel_rfl) (fun _ _ _ h => h) (Or.inl ⟨by kernel_rfl, fun w0 hSw => ?_⟩) hHeld ?_; rotate_left; (focus ((try dsimp only at hSw); simp only [List.getElem_toArray, List.getElem_cons_zero, List.getElem_cons_succ]; (first | (go_simp; done) | (go_simp; with_reducible rfl)))); (try simp only [List.getElem_toArray, List.getElem_cons_zero, List.getElem_cons_succ, Act.put, List.setIfInBounds_toArray, List.set_cons_zero, List.set_cons_succ]))
      (refine wpAnyH_take (i := 4) (v := ?_) rfl (by kernel_rfl) (by kernel_rfl) (by kernel_rfl) (fun _ _ _ h => h) (Or.inl ⟨by kernel_rfl, fun w0 hSw => ?_⟩) hHeld ?_; rotate_left; (focus ((try dsimp only at hSw); simp only [List.getElem_toArray, List.getElem_cons_zero, List.getElem_cons_succ]; (first | (go_simp; done) | (go_simp; with_reducible rfl)))); (try simp only [List.getElem_toArray, List.getElem_cons_zero, List.getElem_cons_succ, Act.put, List.setIfInBounds_toArray, List.set_cons_zero, List.set_cons_succ]))
      (refine wpAnyH_take (i := 5) (v := ?_) rfl (by kernel_rfl) (by kernel_rfl) (by kernel_rfl) (fun _ _ _ h => h) (Or.inl ⟨by kernel_rfl, fun w0 hSw => ?_⟩) hHeld ?_; rotate_left; (focus ((try dsimp only at hSw); simp only [List.getElem_toArray, List.getElem_cons_zero, List.getElem_cons_succ]; (first | (go_simp; done) | (go_simp; with_reducible rfl)))); (try simp only [List.getElem_toArray, List.getElem_cons_zero, List.getElem_cons_succ, Act.put, List.setIfInBounds_toArray, List.set_cons_zero, List.set_cons_succ]))
      (refine wpAnyH_take (i := 6) (v := ?_) rfl (by kernel_rfl) (by kernel_rfl) (by kernel_rfl) (fun _ _ _ h => h) (Or.inl ⟨by kernel_rfl, fun w0 hSw => ?_⟩) hHeld ?_; rotate_left; (focus ((try dsimp only at hSw); simp only [List.getElem_toArray, List.getElem_cons_zero, List.getElem_cons_succ]; (first | (go_simp; done) | (go_simp; with_reducible rfl)))); (try simp only [List.getElem_toArray, List.getElem_cons_zero, List.getElem_cons_succ, Act.put, List.setIfInBounds_toArray, List.set_cons_zero, List.set_cons_succ]))
      (refine wpAnyH_take (i := 7) (v := ?_) rfl (by kernel_rfl) (by kernel_rfl) (by kernel_rfl) (fun _ _ _ h => h) (Or.inl ⟨by kernel_rfl, fun w0 hSw => ?_⟩) hHeld ?_; rotate_left; (focus ((try dsimp only at hSw); simp only [List.getElem_toArray, List.getElem_cons_zero, List.getElem_cons_succ]; (first | (go_simp; done) | (go_simp; with_reducible rfl)))); (try simp only [List.getElem_toArray, List.getElem_cons_zero, List.getElem_cons_succ, Act.put, List.setIfInBounds_toArray, List.set_cons_zero, List.set_cons_succ]))
      refine wpAnyH_ready (rs := [8]) (by kernel_rfl) (by simp) ?_
      refine AllReadyH.cons rfl (fun K hK => ?_) AllReadyH.nil
      simp only [List.getElem_toArray, List.getElem_cons_zero, List.getElem_cons_succ]
      go_simp
      refine (same66 x _ _ wr.drew X1 X2).mono ?_
      rintro e w4 ⟨rfl, hb4⟩
      have b4 := br.trans ((hd.trans (hb4.mono hd.size)).mono hzr)
      have ce : ∀ b o, b < wr.heap.size → w4.cell? ⟨b, o, none⟩ = wr.cell? ⟨b, o, none⟩ := fun b o h => (hd.trans (hb4.mono hd.size)).cell (p := ⟨b, o, none⟩) h
      refine hK.out _ _ ⟨(ce _ _ hb1r).trans e0, (ce _ _ hb1r).trans e1, (ce _ _ hb1r).trans e2, (ce _ _ hb1r).trans e3, (ce _ _ hb1r).trans e4, (ce _ _ hb1r).trans e5, (ce _ _ hb1r).trans e6, (ce _ _ hb1r).trans e7, (ce _ _ hb1r).trans e8, (ce _ _ hb1r).trans e9, (ce _ _ hb1r).trans e10, (ce _ _ hb1r).trans e11, (ce _ _ hb2r).trans f0, (ce _ _ hb2r).trans f1, (ce _ _ hb2r).trans f2, (ce _ _ hb2r).trans f3, (ce _ _ hb2r).trans f4, (ce _ _ hb2r).trans f5, (ce _ _ hb2r).trans f6, (ce _ _ hb2r).trans f7, (ce _ _ hb2r).trans f8, (ce _ _ hb2r).trans f9, (ce _ _ hb2r).trans f10, (ce _ _ hb2r).trans f11⟩ (fun hH2 => ?_)
      clear hK K hHeld
      have hHeld := hH2
      clear hH2
      (try simp only [List.getElem_toArray, List.getElem_cons_zero, List.getElem_cons_succ, Act.put, List.setIfInBounds_toArray, List.set_cons_zero, List.set_cons_succ])
      (refine wpAnyH_take (i := 9) (v := ?_) rfl (by kernel_rfl) (by kernel_rfl) (by kernel_rfl) (fun _ _ _ h => h) (Or.inl ⟨by kernel_rfl, fun w0 hSw => ?_⟩) hHeld ?_; rotate_left; (focus ((try dsimp only at hSw); simp only [List.getElem_toArray, List.getElem_cons_zero, List.getElem_cons_succ]; (first | (go_simp; done) | (go_simp; with_reducible rfl)))); (try simp only [List.getElem_toArray, List.getElem_cons_zero, List.getElem_cons_succ, Act.put, List.setIfInBounds_toArray, List.set_cons_zero, List.set_cons_succ]))
      refine wpAnyH_done (by kernel_rfl) ?_ _
      clear hHeld
      go_wp2_with fail
      go_roundw
      case rel => exact ⟨k + 1, by omega, by go_num, b4⟩
      case measure => simp [intOf]; omega
    · obtain rfl : k = l.length := by omega
      go_wp2_with fail
      go_ret
      exact ⟨rfl, br⟩
set_option maxHeartbeats 4000000 in
set_option maxRecDepth 100000 in
theorem same39 (qv cv qv' cv' : Value) (qs : List Int) (cs : List Con) (w : World) (hq : Ints w w.heap.size qv qs) (hc : Cons w w.heap.size cv cs) (hq' : Ints w w.heap.size qv' qs) (hc' : Cons w w.heap.size cv' cs) : Calls Tryz.prog 49 #[.agg #[qv, cv], .agg #[qv', cv']] w fun e w' => e = .returned (.bool true) ∧ Below w.heap.size w w' := by
  obtain ⟨A1, c1, rfl, hc1, hmc1, hA1⟩ := hq
  obtain ⟨A2, c2, rfl, hc2, hmc2, hA2⟩ := hc
  obtain ⟨A3, c3, rfl, hc3, hmc3, hA3⟩ := hq'
  obtain ⟨A4, c4, rfl, hc4, hmc4, hA4⟩ := hc'
  unfold maxLen at hmc1 hmc2 hmc3 hmc4
  have HA1 := Lib.hid hA1
  have HA2 := Lib.hid hA2
  have HA3 := Lib.hid hA3
  have HA4 := Lib.hid hA4
  clear hA1 hA2 hA3 hA4
  go_enter Tryz.func49, Tryz.ntmps49
  go_wp2_with fail
  have m0 : ((w.alloc (.cells #[.slice A1 qs.length c1, .slice A2 cs.length c2] 25)).alloc (.cells #[.slice A3 qs.length c3, .slice A4 cs.length c4] 25)).cell? ⟨w.heap.size, 0, none⟩ = some (.slice A1 qs.length c1) := by simp [go_sem]
  have m1 : ((w.alloc (.cells #[.slice A1 qs.length c1, .slice A2 cs.length c2] 25)).alloc (.cells #[.slice A3 qs.length c3, .slice A4 cs.length c4] 25)).cell? ⟨w.heap.size, 1, none⟩ = some (.slice A2 cs.length c2) := by simp [go_sem]
  have n0 : ((w.alloc (.cells #[.slice A1 qs.length c1, .slice A2 cs.length c2] 25)).alloc (.cells #[.slice A3 qs.length c3, .slice A4 cs.length c4] 25)).cell? ⟨w.heap.size + 1, 0, none⟩ = some (.slice A3 qs.length c3) := by simp [go_sem]
  have n1 : ((w.alloc (.cells #[.slice A1 qs.length c1, .slice A2 cs.length c2] 25)).alloc (.cells #[.slice A3 qs.length c3, .slice A4 cs.length c4] 25)).cell? ⟨w.heap.size + 1, 1, none⟩ = some (.slice A4 cs.length c4) := by simp [go_sem]
  have hb0 : Below w.heap.size w ((w.alloc (.cells #[.slice A1 qs.length c1, .slice A2 cs.length c2] 25)).alloc (.cells #[.slice A3 qs.length c3, .slice A4 cs.length c4] 25)) := by (repeat' (first | (with_reducible exact Below.refl _ _) | (with_reducible refine Below.alloc ?_ ?_ _) | (with_reducible refine Below.drew ?_) | (with_reducible refine below_drewN ?_ _) | (with_reducible refine Below.setCell ?_ ?_ _) | (with_reducible refine Below.trans ?_ (Below.mono (by assumption) ?_)) | (with_reducible exact Nat.le_refl _) | omega | (simp; omega) | (simp; done)))
  have hz0 : ((w.alloc (.cells #[.slice A1 qs.length c1, .slice A2 cs.length c2] 25)).alloc (.cells #[.slice A3 qs.length c3, .slice A4 cs.length c4] 25)).heap.size = w.heap.size + 1 + 1 := by simp
  generalize ((w.alloc (.cells #[.slice A1 qs.length c1, .slice A2 cs.length c2] 25)).alloc (.cells #[.slice A3 qs.length c3, .slice A4 cs.length c4] 25)) = v0 at *
  have HS0 : Hid (∀ W, Below v0.heap.size v0 W → W.cell? ⟨w.heap.size, 0, none⟩ = some (.slice A1 qs.length c1) ∧ W.cell? ⟨w.heap.size, 1, none⟩ = some (.slice A2 cs.length c2) ∧ W.cell? ⟨w.heap.size + 1, 0, none⟩ = some (.slice A3 qs.length c3) ∧ W.cell? ⟨w.heap.size + 1, 1, none⟩ = some (.slice A4 cs.length c4)) := fun W h => by
    have e : ∀ b k, b < v0.heap.size → W.cell? ⟨b, k, none⟩ = v0.cell? ⟨b, k, none⟩ := fun b k hk => h.cell (p := ⟨b, k, none⟩) hk
    exact ⟨(e _ _ (by omega)).trans m0, (e _ _ (by omega)).trans m1, (e _ _ (by omega)).trans n0, (e _ _ (by omega)).trans n1⟩
  clear m0 n0 m1 n1
  have br := Below.refl v0.heap.size v0
  go_loopw [5] (fun i wr => ∃ k : Nat, k ≤ qs.length ∧ i = .int .i64 k ∧ Below v0.heap.size v0 wr) (fun i _ => qs.length - (intOf i).toNat)
  case atStart => exact ⟨0, by omega, rfl, br⟩
  case round =>
    clear br
    obtain ⟨k, hk, rfl, br⟩ := hrel
    have hzr := br.size
    have hbw := hb0.trans (br.mono hb0.size)
    obtain ⟨q0, q1, r0, r1⟩ := HS0.out wr br
    by_cases hlt : k < qs.length
    · obtain ⟨b1, o1, rfl, hb1, hcell1⟩ := HA1.out (by omega)
      obtain ⟨b2, o2, rfl, hb2, hcell2⟩ := HA3.out (by omega)
      have y1 := (hbw.cell (p := ⟨b1, o1 + k, none⟩) hb1).trans (hcell1 k hlt)
      have y2 := (hbw.cell (p := ⟨b2, o2 + k, none⟩) hb2).trans (hcell2 k hlt)
      have ic1 : (0 : Int) ≤ k := by omega
      have ic2 : (k : Int) < qs.length := by omega
      have hb1r : b1 < wr.heap.size := by omega
      have hb2r : b2 < wr.heap.size := by omega
      clear hcell1 hcell2
      generalize qs.getD k 0 = c at *
      go_wp2_with fail
      go_quiet (fail)
      have br2 := below_drewN br
      go_wp2_with fail
      go_roundw
      case rel => exact ⟨k + 1, by omega, by go_num, below_drewN br _⟩
      case measure => simp [intOf]; omega
    · obtain rfl : k = qs.length := by omega
      go_wp2_with fail
      clear q0 r0 q1 r1 hzr hbw
      obtain ⟨wo, rfl⟩ : ∃ wo : World, wo = wr := ⟨_, rfl⟩
      go_loopw [6] (fun i wr => ∃ k : Nat, k ≤ cs.length ∧ i = .int .i64 k ∧ Below v0.heap.size v0 wr) (fun i _ => cs.length - (intOf i).toNat)
      case atStart => exact ⟨0, by omega, rfl, br⟩
      case round =>
        clear br
        obtain ⟨k, hk, rfl, br⟩ := hrel
        have hzr := br.size
        have hbw := hb0.trans (br.mono hb0.size)
        obtain ⟨q0, q1, r0, r1⟩ := HS0.out wr br
        by_cases hlt : k < cs.length
        · obtain ⟨b1, o1, rfl, hb1, hcell1⟩ := HA2.out (by omega)
          obtain ⟨b2, o2, rfl, hb2, hcell2⟩ := HA4.out (by omega)
          have y1 := (hcell1 k hlt).below hbw hb1
          have y2 := (hcell2 k hlt).below hbw hb2
          have ic1 : (0 : Int) ≤ k := by omega
          have ic2 : (k : Int) < cs.length := by omega
          have hb1r : b1 < wr.heap.size := by omega
          have hb2r : b2 < wr.heap.size := by omega
          clear hcell1 hcell2
          generalize cs.getD k Con.zero = c at *
          obtain ⟨y10, y11, y12, y13, y14, y15, y16⟩ := y1
          obtain ⟨y20, y21, y22, y23, y24, y25, y26⟩ := y2
          have hn := neq_con c
          go_wp2_with fail
          go_quiet (fail)
          have br2 := below_drewN br
          go_wp2_with fail
          go_roundw
          case rel => exact ⟨k + 1, by omega, by go_num, below_drewN br _⟩
          case measure => simp [intOf]; omega
        · obtain rfl : k = cs.length := by omega
          go_wp2_with fail
          go_ret
          exact ⟨rfl, hbw⟩
set_option maxHeartbeats 8000000 in
set_option maxRecDepth 100000 in
theorem same_eq (VQ VC VO VF VX UQ UC UO UF UX : Value) (m : Mis) (w : World) (hM : MisAt w w.heap.size VQ VC VO VF VX m) (hU : MisAt w w.heap.size UQ UC UO UF UX m) : Calls Tryz.prog 27 #[.agg #[VQ, VC, VO, VF, VX, .bool m.bd], .agg #[UQ, UC, UO, UF, UX, .bool m.bd]] w fun e w' => e = .returned (.bool true) ∧ Below w.heap.size w w' := by
  have HM := Lib.hid hM
  have HU := Lib.hid hU
  obtain ⟨hq, hc, ho, hf, hx⟩ := hM
  obtain ⟨A1, c1, rfl, _, hm1, -⟩ := hq
  obtain ⟨A2, c2, rfl, _, hm2, -⟩ := hc
  obtain ⟨A3, c3, rfl, _, hm3, -⟩ := ho
  obtain ⟨A4, c4, rfl, hc4, hm4, hA4⟩ := hf
  obtain ⟨A5, c5, rfl, hc5, hm5, hA5⟩ := hx
  obtain ⟨gq, gc, go, gf, gx⟩ := hU
  obtain ⟨D1, d1, rfl, _, hn1, -⟩ := gq
  obtain ⟨D2, d2, rfl, _, hn2, -⟩ := gc
  obtain ⟨D3, d3, rfl, _, hn3, -⟩ := go
  obtain ⟨D4, d4, rfl, hd4, hn4, hD4⟩ := gf
  obtain ⟨D5, d5, rfl, hd5, hn5, hD5⟩ := gx
  unfold maxLen at hm1 hm2 hm3 hm4 hm5 hn1 hn2 hn3 hn4 hn5
  have HA4 := Lib.hid hA4
  have HA5 := Lib.hid hA5
  have HD4 := Lib.hid hD4
  have HD5 := Lib.hid hD5
  clear hA4 hA5 hD4 hD5
  go_enter Tryz.func27, Tryz.ntmps27
  go_wp2_with fail
  have m0 : ((w.alloc (.cells #[.slice A1 m.q.length c1, .slice A2 m.cs.length c2, .slice A3 m.os.length c3, .slice A4 m.fs.length c4, .slice A5 m.xs.length c5, .bool m.bd] 30)).alloc (.cells #[.slice D1 m.q.length d1, .slice D2 m.cs.length d2, .slice D3 m.os.length d3, .slice D4 m.fs.length d4, .slice D5 m.xs.length d5, .bool m.bd] 30)).cell? ⟨w.heap.size, 0, none⟩ = some (.slice A1 m.q.length c1) := by simp [go_sem]
  have m1 : ((w.alloc (.cells #[.slice A1 m.q.length c1, .slice A2 m.cs.length c2, .slice A3 m.os.length c3, .slice A4 m.fs.length c4, .slice A5 m.xs.length c5, .bool m.bd] 30)).alloc (.cells #[.slice D1 m.q.length d1, .slice D2 m.cs.length d2, .slice D3 m.os.length d3, .slice D4 m.fs.length d4, .slice D5 m.xs.length d5, .bool m.bd] 30)).cell? ⟨w.heap.size, 1, none⟩ = some (.slice A2 m.cs.length c2) := by simp [go_sem]
  have m2 : ((w.alloc (.cells #[.slice A1 m.q.length c1, .slice A2 m.cs.length c2, .slice A3 m.os.length c3, .slice A4 m.fs.length c4, .slice A5 m.xs.length c5, .bool m.bd] 30)).alloc (.cells #[.slice D1 m.q.length d1, .slice D2 m.cs.length d2, .slice D3 m.os.length d3, .slice D4 m.fs.length d4, .slice D5 m.xs.length d5, .bool m.bd] 30)).cell? ⟨w.heap.size, 2, none⟩ = some (.slice A3 m.os.length c3) := by simp [go_sem]
  have m3 : ((w.alloc (.cells #[.slice A1 m.q.length c1, .slice A2 m.cs.length c2, .slice A3 m.os.length c3, .slice A4 m.fs.length c4, .slice A5 m.xs.length c5, .bool m.bd] 30)).alloc (.cells #[.slice D1 m.q.length d1, .slice D2 m.cs.length d2, .slice D3 m.os.length d3, .slice D4 m.fs.length d4, .slice D5 m.xs.length d5, .bool m.bd] 30)).cell? ⟨w.heap.size, 3, none⟩ = some (.slice A4 m.fs.length c4) := by simp [go_sem]
  have m4 : ((w.alloc (.cells #[.slice A1 m.q.length c1, .slice A2 m.cs.length c2, .slice A3 m.os.length c3, .slice A4 m.fs.length c4, .slice A5 m.xs.length c5, .bool m.bd] 30)).alloc (.cells #[.slice D1 m.q.length d1, .slice D2 m.cs.length d2, .slice D3 m.os.length d3, .slice D4 m.fs.length d4, .slice D5 m.xs.length d5, .bool m.bd] 30)).cell? ⟨w.heap.size, 4, none⟩ = some (.slice A5 m.xs.length c5) := by simp [go_sem]
  have m5 : ((w.alloc (.cells #[.slice A1 m.q.length c1, .slice A2 m.cs.length c2, .slice A3 m.os.length c3, .slice A4 m.fs.length c4, .slice A5 m.xs.length c5, .bool m.bd] 30)).alloc (.cells #[.slice D1 m.q.length d1, .slice D2 m.cs.length d2, .slice D3 m.os.length d3, .slice D4 m.fs.length d4, .slice D5 m.xs.length d5, .bool m.bd] 30)).cell? ⟨w.heap.size, 5, none⟩ = some (.bool m.bd) := by simp [go_sem]
  have n0 : ((w.alloc (.cells #[.slice A1 m.q.length c1, .slice A2 m.cs.length c2, .slice A3 m.os.length c3, .slice A4 m.fs.length c4, .slice A5 m.xs.length c5, .bool m.bd] 30)).alloc (.cells #[.slice D1 m.q.length d1, .slice D2 m.cs.length d2, .slice D3 m.os.length d3, .slice D4 m.fs.length d4, .slice D5 m.xs.length d5, .bool m.bd] 30)).cell? ⟨w.heap.size + 1, 0, none⟩ = some (.slice D1 m.q.length d1) := by simp [go_sem]
  have n1 : ((w.alloc (.cells #[.slice A1 m.q.length c1, .slice A2 m.cs.length c2, .slice A3 m.os.length c3, .slice A4 m.fs.length c4, .slice A5 m.xs.length c5, .bool m.bd] 30)).alloc (.cells #[.slice D1 m.q.length d1, .slice D2 m.cs.length d2, .slice D3 m.os.length d3, .slice D4 m.fs.length d4, .slice D5 m.xs.length d5, .bool m.bd] 30)).cell? ⟨w.heap.size + 1, 1, none⟩ = some (.slice D2 m.cs.length d2) := by simp [go_sem]
  have n2 : ((w.alloc (.cells #[.slice A1 m.q.length c1, .slice A2 m.cs.length c2, .slice A3 m.os.length c3, .slice A4 m.fs.length c4, .slice A5 m.xs.length c5, .bool m.bd] 30)).alloc (.cells #[.slice D1 m.q.length d1, .slice D2 m.cs.length d2, .slice D3 m.os.length d3, .slice D4 m.fs.length d4, .slice D5 m.xs.length d5, .bool m.bd] 30)).cell? ⟨w.heap.size + 1, 2, none⟩ = some (.slice D3 m.os.length d3) := by simp [go_sem]
  have n3 : ((w.alloc (.cells #[.slice A1 m.q.length c1, .slice A2 m.cs.length c2, .slice A3 m.os.length c3, .slice A4 m.fs.length c4, .slice A5 m.xs.length c5, .bool m.bd] 30)).alloc (.cells #[.slice D1 m.q.length d1, .slice D2 m.cs.length d2, .slice D3 m.os.length d3, .slice D4 m.fs.length d4, .slice D5 m.xs.length d5, .bool m.bd] 30)).cell? ⟨w.heap.size + 1, 3, none⟩ = some (.slice D4 m.fs.length d4) := by simp [go_sem]
  have n4 : ((w.alloc (.cells #[.slice A1 m.q.length c1, .slice A2 m.cs.length c2, .slice A3 m.os.length c3, .slice A4 m.fs.length c4, .slice A5 m.xs.length c5, .bool m.bd] 30)).alloc (.cells #[.slice D1 m.q.length d1, .slice D2 m.cs.length d2, .slice D3 m.os.length d3, .slice D4 m.fs.length d4, .slice D5 m.xs.length d5, .bool m.bd] 30)).cell? ⟨w.heap.size + 1, 4, none⟩ = some (.slice D5 m.xs.length d5) := by simp [go_sem]
  have n5 : ((w.alloc (.cells #[.slice A1 m.q.length c1, .slice A2 m.cs.length c2, .slice A3 m.os.length c3, .slice A4 m.fs.length c4, .slice A5 m.xs.length c5, .bool m.bd] 30)).alloc (.cells #[.slice D1 m.q.length d1, .slice D2 m.cs.length d2, .slice D3 m.os.length d3, .slice D4 m.fs.length d4, .slice D5 m.xs.length d5, .bool m.bd] 30)).cell? ⟨w.heap.size + 1, 5, none⟩ = some (.bool m.bd) := by simp [go_sem]
  have hb0 : Below w.heap.size w ((w.alloc (.cells #[.slice A1 m.q.length c1, .slice A2 m.cs.length c2, .slice A3 m.os.length c3, .slice A4 m.fs.length c4, .slice A5 m.xs.length c5, .bool m.bd] 30)).alloc (.cells #[.slice D1 m.q.length d1, .slice D2 m.cs.length d2, .slice D3 m.os.length d3, .slice D4 m.fs.length d4, .slice D5 m.xs.length d5, .bool m.bd] 30)) := by (repeat' (first | (with_reducible exact Below.refl _ _) | (with_reducible refine Below.alloc ?_ ?_ _) | (with_reducible refine Below.drew ?_) | (with_reducible refine below_drewN ?_ _) | (with_reducible refine Below.setCell ?_ ?_ _) | (with_reducible refine Below.trans ?_ (Below.mono (by assumption) ?_)) | (with_reducible exact Nat.le_refl _) | omega | (simp; omega) | (simp; done)))
  have hz0 : ((w.alloc (.cells #[.slice A1 m.q.length c1, .slice A2 m.cs.length c2, .slice A3 m.os.length c3, .slice A4 m.fs.length c4, .slice A5 m.xs.length c5, .bool m.bd] 30)).alloc (.cells #[.slice D1 m.q.length d1, .slice D2 m.cs.length d2, .slice D3 m.os.length d3, .slice D4 m.fs.length d4, .slice D5 m.xs.length d5, .bool m.bd] 30)).heap.size = w.heap.size + 1 + 1 := by simp
  generalize ((w.alloc (.cells #[.slice A1 m.q.length c1, .slice A2 m.cs.length c2, .slice A3 m.os.length c3, .slice A4 m.fs.length c4, .slice A5 m.xs.length c5, .bool m.bd] 30)).alloc (.cells #[.slice D1 m.q.length d1, .slice D2 m.cs.length d2, .slice D3 m.os.length d3, .slice D4 m.fs.length d4, .slice D5 m.xs.length d5, .bool m.bd] 30)) = v0 at *
  have HS0 : Hid (∀ W, Below v0.heap.size v0 W → W.cell? ⟨w.heap.size, 0, none⟩ = some (.slice A1 m.q.length c1) ∧ W.cell? ⟨w.heap.size, 1, none⟩ = some (.slice A2 m.cs.length c2) ∧ W.cell? ⟨w.heap.size, 2, none⟩ = some (.slice A3 m.os.length c3) ∧ W.cell? ⟨w.heap.size, 3, none⟩ = some (.slice A4 m.fs.length c4) ∧ W.cell? ⟨w.heap.size, 4, none⟩ = some (.slice A5 m.xs.length c5) ∧ W.cell? ⟨w.heap.size, 5, none⟩ = some (.bool m.bd) ∧ W.cell? ⟨w.heap.size + 1, 0, none⟩ = some (.slice D1 m.q.length d1) ∧ W.cell? ⟨w.heap.size + 1, 1, none⟩ = some (.slice D2 m.cs.length d2) ∧ W.cell? ⟨w.heap.size + 1, 2, none⟩ = some (.slice D3 m.os.length d3) ∧ W.cell? ⟨w.heap.size + 1, 3, none⟩ = some (.slice D4 m.fs.length d4) ∧ W.cell? ⟨w.heap.size + 1, 4, none⟩ = some (.slice D5 m.xs.length d5) ∧ W.cell? ⟨w.heap.size + 1, 5, none⟩ = some (.bool m.bd)) := fun W h => by
    have e : ∀ b k, b < v0.heap.size → W.cell? ⟨b, k, none⟩ = v0.cell? ⟨b, k, none⟩ := fun b k hk => h.cell (p := ⟨b, k, none⟩) hk
    exact ⟨(e _ _ (by omega)).trans m0, (e _ _ (by omega)).trans m1, (e _ _ (by omega)).trans m2, (e _ _ (by omega)).trans m3, (e _ _ (by omega)).trans m4, (e _ _ (by omega)).trans m5, (e _ _ (by omega)).trans n0, (e _ _ (by omega)).trans n1, (e _ _ (by omega)).trans n2, (e _ _ (by omega)).trans n3, (e _ _ (by omega)).trans n4, (e _ _ (by omega)).trans n5⟩
  clear m0 n0 m1 n1 m2 n2 m3 n3 m4 n4 m5 n5
  have M0 := HM.out.on hb0
  have U0 := HU.out.on hb0
  refine (same39 _ _ _ _ m.q m.cs v0 M0.q M0.c U0.q U0.c).mono ?_
  rintro e w1 ⟨rfl, br⟩
  obtain ⟨q0, q1, q2, q3, q4, q5, r0, r1, r2, r3, r4, r5⟩ := HS0.out w1 br
  have hzr := br.size
  have M1 := M0.on br
  have U1 := U0.on br
  clear M0 U0
  go_wp2_with fail
  refine (same40 _ _ m.os w1 M1.o U1.o).mono ?_
  rintro e w2 ⟨rfl, hb2⟩
  have br := br.trans (hb2.mono hzr)
  clear q0 r0 q1 r1 q2 r2 q3 r3 q4 r4 q5 r5 hb2 M1 U1 hzr
  obtain ⟨q0, q1, q2, q3, q4, q5, r0, r1, r2, r3, r4, r5⟩ := HS0.out w2 br
  have hzr := br.size
  go_wp2_with fail
  clear q0 r0 q1 r1 q2 r2 q3 r3 q4 r4 q5 r5 hzr
  go_loopw [5] (fun i wr => ∃ k : Nat, k ≤ m.fs.length ∧ i = .int .i64 k ∧ Below v0.heap.size v0 wr) (fun i _ => m.fs.length - (intOf i).toNat)
  case atStart => exact ⟨0, by omega, rfl, br⟩
  case round =>
    clear br
    obtain ⟨k, hk, rfl, br⟩ := hrel
    have hzr := br.size
    have hbw := hb0.trans (br.mono hb0.size)
    obtain ⟨q0, q1, q2, q3, q4, q5, r0, r1, r2, r3, r4, r5⟩ := HS0.out wr br
    by_cases hlt : k < m.fs.length
    · obtain ⟨b1, o1, rfl, hb1, hcell1⟩ := HA4.out (by omega)
      obtain ⟨b2, o2, rfl, hb2, hcell2⟩ := HD4.out (by omega)
      have y1 := (hcell1 k hlt).below (B' := 0) hbw hb1
      have y2 := (hcell2 k hlt).below (B' := 0) hbw hb2
      have ic1 : (0 : Int) ≤ k := by omega
      have ic2 : (k : Int) < m.fs.length := by omega
      have hb1r : b1 < wr.heap.size := by omega
      have hb2r : b2 < wr.heap.size := by omega
      clear hcell1 hcell2
      generalize m.fs.getD k Flt.zero = c at *
      obtain ⟨y10, y11, y12, y13⟩ := y1
      obtain ⟨y20, y21, y22, y23⟩ := y2
      have hn := neq_flt c
      go_wp2_with fail
      go_quiet (fail)
      have br2 := below_drewN br
      go_wp2_with fail
      go_roundw
      case rel => exact ⟨k + 1, by omega, by go_num, below_drewN br _⟩
      case measure => simp [intOf]; omega
    · obtain rfl : k = m.fs.length := by omega
      go_wp2_with fail
      clear q0 r0 q1 r1 q2 r2 q3 r3 q4 r4 q5 r5 hzr hbw
      obtain ⟨wo, rfl⟩ : ∃ wo : World, wo = wr := ⟨_, rfl⟩
      go_loopw [6] (fun i wr => ∃ k : Nat, k ≤ m.xs.length ∧ i = .int .i64 k ∧ Below v0.heap.size v0 wr) (fun i _ => m.xs.length - (intOf i).toNat)
      case atStart => exact ⟨0, by omega, rfl, br⟩
      case round =>
        clear br
        obtain ⟨k, hk, rfl, br⟩ := hrel
        have hzr := br.size
        have hbw := hb0.trans (br.mono hb0.size)
        obtain ⟨q0, q1, q2, q3, q4, q5, r0, r1, r2, r3, r4, r5⟩ := HS0.out wr br
        by_cases hlt : k < m.xs.length
        · obtain ⟨b1, o1, rfl, hb1, hcell1⟩ := HA5.out (by omega)
          obtain ⟨b2, o2, rfl, hb2, hcell2⟩ := HD5.out (by omega)
          have y1 := (hcell1 k hlt).below (B' := 0) hbw hb1
          have y2 := (hcell2 k hlt).below (B' := 0) hbw hb2
          have ic1 : (0 : Int) ≤ k := by omega
          have ic2 : (k : Int) < m.xs.length := by omega
          have hb1r : b1 < wr.heap.size := by omega
          have hb2r : b2 < wr.heap.size := by omega
          clear hcell1 hcell2
          generalize m.xs.getD k Otg.zero = c at *
          obtain ⟨y10, y11, y12⟩ := y1
          obtain ⟨y20, y21, y22⟩ := y2
          have hn := neq_otg c
          go_wp2_with fail
          go_quiet (fail)
          have br2 := below_drewN br
          go_wp2_with fail
          go_roundw
          case rel => exact ⟨k + 1, by omega, by go_num, below_drewN br _⟩
          case measure => simp [intOf]; omega
        · obtain rfl : k = m.xs.length := by omega
          go_wp2_with fail
          go_ret
          exact ⟨rfl, hbw⟩
end Go.Proofs.YtclkjjdfdndplaaGreatDoor

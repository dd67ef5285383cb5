/- Greatness. -/
import Derived.Test.YtclkjjdfdndplaaGreatDoorH5
namespace Go.Proofs.YtclkjjdfdndplaaGreatDoor
open Go.RowKit
/-- a boolean is answered -/
def Rb (e : Ending) : Prop := ∃ b : Bool, e = .returned (.bool b)
theorem rb_of {e : Ending} {b : Bool} (h : e = .returned (.bool b)) : Rb e := ⟨b, h⟩
set_option maxHeartbeats 4000000 in
set_option maxRecDepth 100000 in
theorem great51 (x : Bun) (V : Value) (w : World) (hV : Blks w w.heap.size V x.bl) : Calls Tryz.prog 13 #[.agg #[.int .i64 x.s, .int .i64 x.c, .int .i64 x.q, .int .i64 x.o, .int .i64 x.t, .int .i64 x.dk, .int .i64 x.dn, .int .i64 x.lf, .int .i64 x.pr, .int .i64 x.fl, V, .string x.py]] w fun e w' => Rb e ∧ Below w.heap.size w w' := by
  obtain ⟨A, c, rfl, hc, hm, hA⟩ := hV
  have HA := Lib.hid hA
  unfold maxLen at hm
  clear hA
  rcases (by omega : 12 < x.bl.length ∨ x.bl.length ≤ 12) with h | h
  · have i0 : (12 : Int) < x.bl.length := by omega
    go_enter Tryz.func13, Tryz.ntmps13
    go_wp2_with fail
    go_ret
    exact ⟨rb_of rfl, by (repeat' (first | (with_reducible exact Below.refl _ _) | (with_reducible refine Below.alloc ?_ ?_ _) | (with_reducible refine Below.drew ?_) | (with_reducible refine below_drewN ?_ _) | (with_reducible refine Below.setCell ?_ ?_ _) | (with_reducible refine Below.trans ?_ (Below.mono (by assumption) ?_)) | (with_reducible exact Nat.le_refl _) | omega | (simp; omega) | (simp; done)))⟩
  have i9 : ¬ (12 : Int) < x.bl.length := by omega
  rcases (by omega : x.py.size ≤ 200 ∨ (200 < x.py.size ∧ x.py.size ≤ 4096) ∨ (4096 < x.py.size ∧ x.py.size ≤ 4106) ∨ 4106 < x.py.size) with j | j | j | j
  · have i0 : ¬ (200 : Int) < x.py.size := by omega
    have i1 : ¬ (4106 : Int) < x.py.size := by omega
    clear j
    go_enter Tryz.func13, Tryz.ntmps13
    go_wp2_with fail
    have m10 : (w.alloc (.cells #[.int .i64 x.s, .int .i64 x.c, .int .i64 x.q, .int .i64 x.o, .int .i64 x.t, .int .i64 x.dk, .int .i64 x.dn, .int .i64 x.lf, .int .i64 x.pr, .int .i64 x.fl, .slice A x.bl.length c, .string x.py] 59)).cell? ⟨w.heap.size, 10, none⟩ = some (.slice A x.bl.length c) := by simp [go_sem]
    have hb0 : Below w.heap.size w (w.alloc (.cells #[.int .i64 x.s, .int .i64 x.c, .int .i64 x.q, .int .i64 x.o, .int .i64 x.t, .int .i64 x.dk, .int .i64 x.dn, .int .i64 x.lf, .int .i64 x.pr, .int .i64 x.fl, .slice A x.bl.length c, .string x.py] 59)) := (Below.refl _ w).alloc (Nat.le_refl _) _
    have hz0 : (w.alloc (.cells #[.int .i64 x.s, .int .i64 x.c, .int .i64 x.q, .int .i64 x.o, .int .i64 x.t, .int .i64 x.dk, .int .i64 x.dn, .int .i64 x.lf, .int .i64 x.pr, .int .i64 x.fl, .slice A x.bl.length c, .string x.py] 59)).heap.size = w.heap.size + 1 := by simp
    generalize w.alloc (.cells #[.int .i64 x.s, .int .i64 x.c, .int .i64 x.q, .int .i64 x.o, .int .i64 x.t, .int .i64 x.dk, .int .i64 x.dn, .int .i64 x.lf, .int .i64 x.pr, .int .i64 x.fl, .slice A x.bl.length c, .string x.py] 59) = v0 at *
    go_loopw [3] (fun i wr => ∃ k : Nat, k ≤ x.bl.length ∧ i = .int .i64 k ∧ wr = v0) (fun i _ => x.bl.length - (intOf i).toNat)
    case atStart => exact ⟨0, by omega, rfl, (by first | rfl | trivial)⟩
    case round =>
      obtain ⟨k, hk, rfl, rfl⟩ := hrel
      by_cases hlt : k < x.bl.length
      · obtain ⟨b, o, rfl, hb, hcell⟩ := HA.out (by omega)
        obtain ⟨x0, x1, x2⟩ := (hcell k hlt).below (B' := 0) hb0 hb
        have hbr : b < wr.heap.size := by omega
        clear hcell
        generalize x.bl.getD k Blk.zero = b at *
        rcases (by omega : b.d.size ≤ 200 ∨ (200 < b.d.size ∧ b.d.size ≤ 1024) ∨ (1024 < b.d.size ∧ b.d.size ≤ 1034) ∨ 1034 < b.d.size) with j | j | j | j
        · have i0 : ¬ (200 : Int) < b.d.size := by omega
          have i1 : ¬ (1034 : Int) < b.d.size := by omega
          clear j
          go_wp2_with fail
          go_roundw
          case rel => exact ⟨k + 1, by omega, by go_num, (by first | rfl | trivial)⟩
          case measure => simp [intOf]; omega
        · have i0 : (200 : Int) < b.d.size := by omega
          have i1 : (b.d.size : Int) ≤ 1024 := by omega
          clear j
          go_wp2_with fail
          go_ret
          exact ⟨rb_of rfl, hb0⟩
        · have i0 : (200 : Int) < b.d.size := by omega
          have i1 : ¬ (b.d.size : Int) ≤ 1024 := by omega
          have i2 : ¬ (1034 : Int) < b.d.size := by omega
          clear j
          go_wp2_with fail
          go_roundw
          case rel => exact ⟨k + 1, by omega, by go_num, (by first | rfl | trivial)⟩
          case measure => simp [intOf]; omega
        · have i0 : (200 : Int) < b.d.size := by omega
          have i1 : ¬ (b.d.size : Int) ≤ 1024 := by omega
          have i2 : (1034 : Int) < b.d.size := by omega
          clear j
          go_wp2_with fail
          go_ret
          exact ⟨rb_of rfl, hb0⟩
      · obtain rfl : k = x.bl.length := by omega
        go_wp2_with fail
        go_ret
        exact ⟨rb_of rfl, hb0⟩
  · have i0 : (200 : Int) < x.py.size := by omega
    have i1 : (x.py.size : Int) ≤ 4096 := by omega
    clear j
    go_enter Tryz.func13, Tryz.ntmps13
    go_wp2_with fail
    go_ret
    exact ⟨rb_of rfl, by (repeat' (first | (with_reducible exact Below.refl _ _) | (with_reducible refine Below.alloc ?_ ?_ _) | (with_reducible refine Below.drew ?_) | (with_reducible refine below_drewN ?_ _) | (with_reducible refine Below.setCell ?_ ?_ _) | (with_reducible refine Below.trans ?_ (Below.mono (by assumption) ?_)) | (with_reducible exact Nat.le_refl _) | omega | (simp; omega) | (simp; done)))⟩
  · have i0 : (200 : Int) < x.py.size := by omega
    have i1 : ¬ (x.py.size : Int) ≤ 4096 := by omega
    have i2 : ¬ (4106 : Int) < x.py.size := by omega
    clear j
    go_enter Tryz.func13, Tryz.ntmps13
    go_wp2_with fail
    have m10 : (w.alloc (.cells #[.int .i64 x.s, .int .i64 x.c, .int .i64 x.q, .int .i64 x.o, .int .i64 x.t, .int .i64 x.dk, .int .i64 x.dn, .int .i64 x.lf, .int .i64 x.pr, .int .i64 x.fl, .slice A x.bl.length c, .string x.py] 59)).cell? ⟨w.heap.size, 10, none⟩ = some (.slice A x.bl.length c) := by simp [go_sem]
    have hb0 : Below w.heap.size w (w.alloc (.cells #[.int .i64 x.s, .int .i64 x.c, .int .i64 x.q, .int .i64 x.o, .int .i64 x.t, .int .i64 x.dk, .int .i64 x.dn, .int .i64 x.lf, .int .i64 x.pr, .int .i64 x.fl, .slice A x.bl.length c, .string x.py] 59)) := (Below.refl _ w).alloc (Nat.le_refl _) _
    have hz0 : (w.alloc (.cells #[.int .i64 x.s, .int .i64 x.c, .int .i64 x.q, .int .i64 x.o, .int .i64 x.t, .int .i64 x.dk, .int .i64 x.dn, .int .i64 x.lf, .int .i64 x.pr, .int .i64 x.fl, .slice A x.bl.length c, .string x.py] 59)).heap.size = w.heap.size + 1 := by simp
    generalize w.alloc (.cells #[.int .i64 x.s, .int .i64 x.c, .int .i64 x.q, .int .i64 x.o, .int .i64 x.t, .int .i64 x.dk, .int .i64 x.dn, .int .i64 x.lf, .int .i64 x.pr, .int .i64 x.fl, .slice A x.bl.length c, .string x.py] 59) = v0 at *
    go_loopw [3] (fun i wr => ∃ k : Nat, k ≤ x.bl.length ∧ i = .int .i64 k ∧ wr = v0) (fun i _ => x.bl.length - (intOf i).toNat)
    case atStart => exact ⟨0, by omega, rfl, (by first | rfl | trivial)⟩
    case round =>
      obtain ⟨k, hk, rfl, rfl⟩ := hrel
      by_cases hlt : k < x.bl.length
      · obtain ⟨b, o, rfl, hb, hcell⟩ := HA.out (by omega)
        obtain ⟨x0, x1, x2⟩ := (hcell k hlt).below (B' := 0) hb0 hb
        have hbr : b < wr.heap.size := by omega
        clear hcell
        generalize x.bl.getD k Blk.zero = b at *
        rcases (by omega : b.d.size ≤ 200 ∨ (200 < b.d.size ∧ b.d.size ≤ 1024) ∨ (1024 < b.d.size ∧ b.d.size ≤ 1034) ∨ 1034 < b.d.size) with j | j | j | j
        · have i0 : ¬ (200 : Int) < b.d.size := by omega
          have i1 : ¬ (1034 : Int) < b.d.size := by omega
          clear j
          go_wp2_with fail
          go_roundw
          case rel => exact ⟨k + 1, by omega, by go_num, (by first | rfl | trivial)⟩
          case measure => simp [intOf]; omega
        · have i0 : (200 : Int) < b.d.size := by omega
          have i1 : (b.d.size : Int) ≤ 1024 := by omega
          clear j
          go_wp2_with fail
          go_ret
          exact ⟨rb_of rfl, hb0⟩
        · have i0 : (200 : Int) < b.d.size := by omega
          have i1 : ¬ (b.d.size : Int) ≤ 1024 := by omega
          have i2 : ¬ (1034 : Int) < b.d.size := by omega
          clear j
          go_wp2_with fail
          go_roundw
          case rel => exact ⟨k + 1, by omega, by go_num, (by first | rfl | trivial)⟩
          case measure => simp [intOf]; omega
        · have i0 : (200 : Int) < b.d.size := by omega
          have i1 : ¬ (b.d.size : Int) ≤ 1024 := by omega
          have i2 : (1034 : Int) < b.d.size := by omega
          clear j
          go_wp2_with fail
          go_ret
          exact ⟨rb_of rfl, hb0⟩
      · obtain rfl : k = x.bl.length := by omega
        go_wp2_with fail
        go_ret
        exact ⟨rb_of rfl, hb0⟩
  · have i0 : (200 : Int) < x.py.size := by omega
    have i1 : ¬ (x.py.size : Int) ≤ 4096 := by omega
    have i2 : (4106 : Int) < x.py.size := by omega
    clear j
    go_enter Tryz.func13, Tryz.ntmps13
    go_wp2_with fail
    go_ret
    exact ⟨rb_of rfl, by (repeat' (first | (with_reducible exact Below.refl _ _) | (with_reducible refine Below.alloc ?_ ?_ _) | (with_reducible refine Below.drew ?_) | (with_reducible refine below_drewN ?_ _) | (with_reducible refine Below.setCell ?_ ?_ _) | (with_reducible refine Below.trans ?_ (Below.mono (by assumption) ?_)) | (with_reducible exact Nat.le_refl _) | omega | (simp; omega) | (simp; done)))⟩
set_option maxHeartbeats 8000000 in
set_option maxRecDepth 100000 in
theorem great24 (VQ VC VO VF VX : Value) (m : Mis) (w : World) (hM : MisAt w w.heap.size VQ VC VO VF VX m) : Calls Tryz.prog 4 #[.agg #[VQ, VC, VO, VF, VX, .bool m.bd]] w fun e w' => Rb e ∧ Below w.heap.size w w' := by
  obtain ⟨hq, hc, ho, hf, hx⟩ := hM
  obtain ⟨A1, c1, rfl, hc1, hm1, -⟩ := hq
  obtain ⟨A2, c2, rfl, hc2, hm2, hA2⟩ := hc
  obtain ⟨A3, c3, rfl, hc3, hm3, hA3⟩ := ho
  obtain ⟨A4, c4, rfl, hc4, hm4, -⟩ := hf
  obtain ⟨A5, c5, rfl, hc5, hm5, -⟩ := hx
  have HA2 := Lib.hid hA2
  have HA3 := Lib.hid hA3
  clear hA2 hA3
  unfold maxLen at hm1 hm2 hm3 hm4 hm5
  rcases (by omega : (5 < m.q.length ∧ m.q.length ≤ 16) ∨ ¬ (5 < m.q.length ∧ m.q.length ≤ 16)) with hQ | hQ
  · have i0 : (5 : Int) < m.q.length := by omega
    have i1 : (m.q.length : Int) ≤ 16 := by omega
    clear hQ
    go_enter Tryz.func4, Tryz.ntmps4
    go_wp2_with fail
    go_ret
    exact ⟨rb_of rfl, by (repeat' (first | (with_reducible exact Below.refl _ _) | (with_reducible refine Below.alloc ?_ ?_ _) | (with_reducible refine Below.drew ?_) | (with_reducible refine below_drewN ?_ _) | (with_reducible refine Below.setCell ?_ ?_ _) | (with_reducible refine Below.trans ?_ (Below.mono (by assumption) ?_)) | (with_reducible exact Nat.le_refl _) | omega | (simp; omega) | (simp; done)))⟩
  rcases (by omega : (9 < m.cs.length ∧ m.cs.length ≤ 64) ∨ ¬ (9 < m.cs.length ∧ m.cs.length ≤ 64)) with hC | hC
  · have i2 : (9 : Int) < m.cs.length := by omega
    have i3 : (m.cs.length : Int) ≤ 64 := by omega
    clear hC
    rcases (by omega : (5 : Int) < m.q.length ∧ ¬ (m.q.length : Int) ≤ 16 ∨ ¬ (5 : Int) < m.q.length) with ⟨i0, i1⟩ | i0
    · clear hQ
      go_enter Tryz.func4, Tryz.ntmps4
      go_wp2_with fail
      go_ret
      exact ⟨rb_of rfl, by (repeat' (first | (with_reducible exact Below.refl _ _) | (with_reducible refine Below.alloc ?_ ?_ _) | (with_reducible refine Below.drew ?_) | (with_reducible refine below_drewN ?_ _) | (with_reducible refine Below.setCell ?_ ?_ _) | (with_reducible refine Below.trans ?_ (Below.mono (by assumption) ?_)) | (with_reducible exact Nat.le_refl _) | omega | (simp; omega) | (simp; done)))⟩
    · clear hQ
      go_enter Tryz.func4, Tryz.ntmps4
      go_wp2_with fail
      go_ret
      exact ⟨rb_of rfl, by (repeat' (first | (with_reducible exact Below.refl _ _) | (with_reducible refine Below.alloc ?_ ?_ _) | (with_reducible refine Below.drew ?_) | (with_reducible refine below_drewN ?_ _) | (with_reducible refine Below.setCell ?_ ?_ _) | (with_reducible refine Below.trans ?_ (Below.mono (by assumption) ?_)) | (with_reducible exact Nat.le_refl _) | omega | (simp; omega) | (simp; done)))⟩
  rcases (by omega : (4 < m.os.length ∧ m.os.length ≤ 8) ∨ ¬ (4 < m.os.length ∧ m.os.length ≤ 8)) with hO | hO
  · have i4 : (4 : Int) < m.os.length := by omega
    have i5 : (m.os.length : Int) ≤ 8 := by omega
    clear hO
    rcases (by omega : (5 : Int) < m.q.length ∧ ¬ (m.q.length : Int) ≤ 16 ∨ ¬ (5 : Int) < m.q.length) with ⟨i0, i1⟩ | i0 <;>
    rcases (by omega : (9 : Int) < m.cs.length ∧ ¬ (m.cs.length : Int) ≤ 64 ∨ ¬ (9 : Int) < m.cs.length) with ⟨i2, i3⟩ | i2
    all_goals
      clear hQ hC
      go_enter Tryz.func4, Tryz.ntmps4
      go_wp2_with fail
      go_ret
      exact ⟨rb_of rfl, by (repeat' (first | (with_reducible exact Below.refl _ _) | (with_reducible refine Below.alloc ?_ ?_ _) | (with_reducible refine Below.drew ?_) | (with_reducible refine below_drewN ?_ _) | (with_reducible refine Below.setCell ?_ ?_ _) | (with_reducible refine Below.trans ?_ (Below.mono (by assumption) ?_)) | (with_reducible exact Nat.le_refl _) | omega | (simp; omega) | (simp; done)))⟩
  rcases (by omega : (5 : Int) < m.q.length ∧ ¬ (m.q.length : Int) ≤ 16 ∨ ¬ (5 : Int) < m.q.length) with ⟨i0, i1⟩ | i0 <;>
  rcases (by omega : (9 : Int) < m.cs.length ∧ ¬ (m.cs.length : Int) ≤ 64 ∨ ¬ (9 : Int) < m.cs.length) with ⟨i2, i3⟩ | i2 <;>
  rcases (by omega : (4 : Int) < m.os.length ∧ ¬ (m.os.length : Int) ≤ 8 ∨ ¬ (4 : Int) < m.os.length) with ⟨i4, i5⟩ | i4
  all_goals
    clear hQ hC hO
    go_enter Tryz.func4, Tryz.ntmps4
    go_wp2_with fail
    have m0 : (w.alloc (.cells #[.slice A1 m.q.length c1, .slice A2 m.cs.length c2, .slice A3 m.os.length c3, .slice A4 m.fs.length c4, .slice A5 m.xs.length c5, .bool m.bd] 30)).cell? ⟨w.heap.size, 0, none⟩ = some (.slice A1 m.q.length c1) := by simp [go_sem]
    have m1 : (w.alloc (.cells #[.slice A1 m.q.length c1, .slice A2 m.cs.length c2, .slice A3 m.os.length c3, .slice A4 m.fs.length c4, .slice A5 m.xs.length c5, .bool m.bd] 30)).cell? ⟨w.heap.size, 1, none⟩ = some (.slice A2 m.cs.length c2) := by simp [go_sem]
    have m2 : (w.alloc (.cells #[.slice A1 m.q.length c1, .slice A2 m.cs.length c2, .slice A3 m.os.length c3, .slice A4 m.fs.length c4, .slice A5 m.xs.length c5, .bool m.bd] 30)).cell? ⟨w.heap.size, 2, none⟩ = some (.slice A3 m.os.length c3) := by simp [go_sem]
    have m3 : (w.alloc (.cells #[.slice A1 m.q.length c1, .slice A2 m.cs.length c2, .slice A3 m.os.length c3, .slice A4 m.fs.length c4, .slice A5 m.xs.length c5, .bool m.bd] 30)).cell? ⟨w.heap.size, 3, none⟩ = some (.slice A4 m.fs.length c4) := by simp [go_sem]
    have m4 : (w.alloc (.cells #[.slice A1 m.q.length c1, .slice A2 m.cs.length c2, .slice A3 m.os.length c3, .slice A4 m.fs.length c4, .slice A5 m.xs.length c5, .bool m.bd] 30)).cell? ⟨w.heap.size, 4, none⟩ = some (.slice A5 m.xs.length c5) := by simp [go_sem]
    have m5 : (w.alloc (.cells #[.slice A1 m.q.length c1, .slice A2 m.cs.length c2, .slice A3 m.os.length c3, .slice A4 m.fs.length c4, .slice A5 m.xs.length c5, .bool m.bd] 30)).cell? ⟨w.heap.size, 5, none⟩ = some (.bool m.bd) := by simp [go_sem]
    have hb0 : Below w.heap.size w (w.alloc (.cells #[.slice A1 m.q.length c1, .slice A2 m.cs.length c2, .slice A3 m.os.length c3, .slice A4 m.fs.length c4, .slice A5 m.xs.length c5, .bool m.bd] 30)) := (Below.refl _ w).alloc (Nat.le_refl _) _
    have hz0 : (w.alloc (.cells #[.slice A1 m.q.length c1, .slice A2 m.cs.length c2, .slice A3 m.os.length c3, .slice A4 m.fs.length c4, .slice A5 m.xs.length c5, .bool m.bd] 30)).heap.size = w.heap.size + 1 := by simp
    generalize w.alloc (.cells #[.slice A1 m.q.length c1, .slice A2 m.cs.length c2, .slice A3 m.os.length c3, .slice A4 m.fs.length c4, .slice A5 m.xs.length c5, .bool m.bd] 30) = v0 at *
    have HS0 : Hid (∀ W, Below v0.heap.size v0 W → W.cell? ⟨w.heap.size, 0, none⟩ = some (.slice A1 m.q.length c1) ∧ W.cell? ⟨w.heap.size, 1, none⟩ = some (.slice A2 m.cs.length c2) ∧ W.cell? ⟨w.heap.size, 2, none⟩ = some (.slice A3 m.os.length c3) ∧ W.cell? ⟨w.heap.size, 3, none⟩ = some (.slice A4 m.fs.length c4) ∧ W.cell? ⟨w.heap.size, 4, none⟩ = some (.slice A5 m.xs.length c5) ∧ W.cell? ⟨w.heap.size, 5, none⟩ = some (.bool m.bd)) := fun W h => by
      have e : ∀ k, W.cell? ⟨w.heap.size, k, none⟩ = v0.cell? ⟨w.heap.size, k, none⟩ := fun k => h.cell (p := ⟨w.heap.size, k, none⟩) (by show w.heap.size < v0.heap.size; omega)
      exact ⟨(e _).trans m0, (e _).trans m1, (e _).trans m2, (e _).trans m3, (e _).trans m4, (e _).trans m5⟩
    clear m0 m1 m2 m3 m4 m5
    have br := Below.refl v0.heap.size v0
    go_loopw [3] (fun i wx => ∃ k : Nat, k ≤ m.os.length ∧ i = .int .i64 k ∧ Below v0.heap.size v0 wx) (fun i _ => m.os.length - (intOf i).toNat)
    case atStart => exact ⟨0, by omega, rfl, br⟩
    case round =>
      clear br
      obtain ⟨k, hk, rfl, br⟩ := hrel
      obtain ⟨q0, q1, q2, q3, q4, q5⟩ := HS0.out wr br
      have hzr := br.size
      by_cases hlt : k < m.os.length
      · obtain ⟨b, o, rfl, hb, hcell⟩ := HA3.out (by omega)
        have hx := hcell k hlt
        have hbr : b < wr.heap.size := by omega
        clear hcell
        generalize m.os.getD k Bun.zero = x at *
        obtain ⟨x0, x1, x2, x3, x4, x5, x6, x7, x8, x9, ⟨V, x10, hV⟩, x11⟩ := hx.below (hb0.trans (br.mono hb0.size)) hb
        have hV2 := hV.blks_more (B' := wr.heap.size) (by omega)
        obtain ⟨AB, cB, rfl, hcB, hmB, -⟩ := hV
        rcases (by omega : 2000 < x.lf ∨ x.lf ≤ 2000) with j | j
        · have j' : (2000 : Int) < x.lf := j
          clear j
          go_wp2_with fail
          refine (great51 x _ _ hV2).mono ?_
          rintro e w4 ⟨⟨g, rfl⟩, hb4⟩
          have b5 := br.trans (hb4.mono hzr)
          have x7 := (hb4.cell (p := ⟨b, o + k * 12 + 7, none⟩) hbr).trans x7
          obtain ⟨q0, q1, q2, q3, q4, q5⟩ := HS0.out w4 b5
          have hz5 := b5.size
          have hbr4 : b < w4.heap.size := by omega
          cases g with
          | true =>
            go_wp2_with fail
            go_ret
            exact ⟨rb_of rfl, hb0.trans (b5.mono hb0.size)⟩
          | false =>
            go_wp2_with fail
            go_ret
            exact ⟨rb_of rfl, hb0.trans (b5.mono hb0.size)⟩
        · have j' : ¬ (2000 : Int) < x.lf := by omega
          clear j
          go_wp2_with fail
          refine (great51 x _ _ hV2).mono ?_
          rintro e w4 ⟨⟨g, rfl⟩, hb4⟩
          have b5 := br.trans (hb4.mono hzr)
          have x7 := (hb4.cell (p := ⟨b, o + k * 12 + 7, none⟩) hbr).trans x7
          obtain ⟨q0, q1, q2, q3, q4, q5⟩ := HS0.out w4 b5
          have hz5 := b5.size
          have hbr4 : b < w4.heap.size := by omega
          cases g with
          | true =>
            go_wp2_with fail
            go_ret
            exact ⟨rb_of rfl, hb0.trans (b5.mono hb0.size)⟩
          | false =>
            go_wp2_with fail
            go_roundw
            case rel => exact ⟨k + 1, by omega, by go_num, b5⟩
            case measure => simp [intOf]; omega
      · obtain rfl : k = m.os.length := by omega
        go_wp2_with fail
        obtain ⟨wo, rfl⟩ : ∃ wo : World, wo = wr := ⟨_, rfl⟩
        clear q0 q1 q2 q3 q4 q5 hzr
        go_loopw [4] (fun i wx => ∃ k : Nat, k ≤ m.cs.length ∧ i = .int .i64 k ∧ Below v0.heap.size v0 wx) (fun i _ => m.cs.length - (intOf i).toNat)
        case atStart => exact ⟨0, by omega, rfl, br⟩
        case round =>
          clear br
          obtain ⟨k, hk, rfl, br⟩ := hrel
          obtain ⟨q0, q1, q2, q3, q4, q5⟩ := HS0.out wr br
          have hzr := br.size
          by_cases hlt : k < m.cs.length
          · obtain ⟨b, o, rfl, hb, hcell⟩ := HA2.out (by omega)
            have hx := (hcell k hlt).below (hb0.trans (br.mono hb0.size)) hb
            have hbr : b < wr.heap.size := by omega
            clear hcell
            generalize m.cs.getD k Con.zero = c at *
            obtain ⟨x0, x1, x2, x3, x4, x5, x6⟩ := hx
            have b6 := br.alloc hzr (.cells #[.int .i64 c.a, .int .i64 c.b, .int .i64 c.s, .int .i64 c.e, .int .i64 c.r, .int .i64 c.g, .int .i64 c.l] 61)
            have hB6 := hb0.trans (b6.mono hb0.size)
            by_cases j : wrap64 (c.s + 400) < c.e
            · go_wp2_with fail
              go_ret
              exact ⟨rb_of rfl, hB6⟩
            · by_cases j2 : (40 : Int) < c.g
              · go_wp2_with fail
                go_ret
                exact ⟨rb_of rfl, hB6⟩
              · go_wp2_with fail
                go_roundw
                case rel => exact ⟨k + 1, by omega, by go_num, b6⟩
                case measure => simp [intOf]; omega
          · obtain rfl : k = m.cs.length := by omega
            go_wp2_with fail
            go_ret
            exact ⟨rb_of rfl, hb0.trans (br.mono hb0.size)⟩
end Go.Proofs.YtclkjjdfdndplaaGreatDoor

/- Plans: Horizon. -/
import Derived.Test.YtgnlanfpholdaaaDoorF6
import Derived.BigRegion
import Derived.RegionTactic
import Derived.Lib.MinMax
namespace Go.Proofs.YtgnlanfpholdaaaDoor
open Go.RowKit
/-- the interval of the first k contacts, and of the first one -/
def hor (cs : List Con) : Nat → Int × Int
  | 0 => ((cs.getD 0 Con.zero).s, (cs.getD 0 Con.zero).e)
  | k + 1 => (min (hor cs k).1 (cs.getD k Con.zero).s, max (hor cs k).2 (cs.getD k Con.zero).e)
def horE (qs : List Int) (cs : List Con) : Int := if planE qs cs ≠ 0 then 1 else if cs.length = 0 then 20 else 0
def horF (qs : List Int) (cs : List Con) : Int × Int := if horE qs cs ≠ 0 then (0, 0) else hor cs cs.length
def HorPost (qs : List Int) (cs : List Con) (w : World) (e : Ending) (w' : World) : Prop :=
  e = .returned (.tuple #[.agg #[.int .i64 (horF qs cs).1, .int .i64 (horF qs cs).2], .int .i64 (horE qs cs)]) ∧ Below w.heap.size w w'
theorem two_cells {W : World} {b : Nat} {u0 u1 : Value} (h0 : W.cell? ⟨b, 0, none⟩ = some u0) (h1 : W.cell? ⟨b, 1, none⟩ = some u1) (x y : Value) :
    ((W.setCell ⟨b, 0, none⟩ x).setCell ⟨b, 1, none⟩ y).cell? ⟨b, 0, none⟩ = some x ∧ ((W.setCell ⟨b, 0, none⟩ x).setCell ⟨b, 1, none⟩ y).cell? ⟨b, 1, none⟩ = some y := by
  refine ⟨?_, ?_⟩
  · rw [World.cell?_setCell_other _ _ _ _ (by simp)]; exact World.cell?_setCell_same _ _ _ h0
  · exact World.cell?_setCell_same _ _ _ ((World.cell?_setCell_other _ _ _ _ (by simp)).trans h1)
theorem below_two {B b : Nat} {w W : World} (h : Below B w W) (hb : B ≤ b) (x y : Value) : Below B w ((W.setCell ⟨b, 0, none⟩ x).setCell ⟨b, 1, none⟩ y) :=
  (h.setCell (p := ⟨b, 0, none⟩) hb x).setCell (p := ⟨b, 1, none⟩) hb y
set_option maxHeartbeats 4000000 in
set_option maxRecDepth 100000 in
theorem hor_any (qv cv : Value) (qs : List Int) (cs : List Con) (w : World) (hq : Ints w w.heap.size qv qs) (hc : Cons w w.heap.size cv cs) : Calls Tryd.prog 14 #[.agg #[qv, cv]] w (HorPost qs cs w) := by
  have hq0 := hq
  have hc0 := hc
  obtain ⟨A1, c1, rfl, hc1, hm1, _⟩ := hq
  obtain ⟨A2, c2, rfl, hc2, hm2, hA2⟩ := hc
  unfold maxLen at hm1 hm2
  have HA2 := Lib.hid hA2
  clear hA2
  by_cases hE : planE qs cs = 0
  · have HE := Lib.hid hE
    by_cases h0 : cs.length = 0
    · have HR : Hid (horE qs cs = 20 ∧ horF qs cs = (0, 0)) := by show _ ∧ _; simp [horE, horF, hE, h0]
      have h0b : ((cs.length : Int) == 0) = true := by simp [h0]
      clear hE h0
      go_enter Tryd.func14, Tryd.ntmps14
      go_wp2_with fail
      refine (pcheck_any _ _ qs cs _ ((hq0.below (by (repeat' (first | (with_reducible exact Below.refl _ _) | (with_reducible refine Below.alloc ?_ ?_ _) | (with_reducible refine Below.drew ?_) | (with_reducible refine below_drewN ?_ _) | (with_reducible refine Below.setCell ?_ ?_ _) | (with_reducible refine Below.trans ?_ (Below.mono (by assumption) ?_)) | (with_reducible exact Nat.le_refl _) | omega | (simp; omega) | (simp; done))))).more (by (first | omega | (simp; done) | (simp; omega)))) ((hc0.below (by (repeat' (first | (with_reducible exact Below.refl _ _) | (with_reducible refine Below.alloc ?_ ?_ _) | (with_reducible refine Below.drew ?_) | (with_reducible refine below_drewN ?_ _) | (with_reducible refine Below.setCell ?_ ?_ _) | (with_reducible refine Below.trans ?_ (Below.mono (by assumption) ?_)) | (with_reducible exact Nat.le_refl _) | omega | (simp; omega) | (simp; done))))).more (by (first | omega | (simp; done) | (simp; omega))))).mono ?_
      rw [HE.out]
      rintro e w1 ⟨rfl, hb1⟩
      have hW1 : Below (w.heap.size + 1 + 1) ((w.alloc (.cells #[.slice A1 qs.length c1, .slice A2 cs.length c2] 25)).alloc (.cells #[.int .i64 0, .int .i64 0] 31)) w1 := hb1.mono (by simp)
      have hB1 : Below w.heap.size w w1 := by (repeat' (first | (with_reducible exact Below.refl _ _) | (with_reducible refine Below.alloc ?_ ?_ _) | (with_reducible refine Below.drew ?_) | (with_reducible refine below_drewN ?_ _) | (with_reducible refine Below.setCell ?_ ?_ _) | (with_reducible refine Below.trans ?_ (Below.mono (by assumption) ?_)) | (with_reducible exact Nat.le_refl _) | omega | (simp; omega) | (simp; done)))
      have q1 : w1.cell? ⟨w.heap.size, 1, none⟩ = some (.slice A2 cs.length c2) := (hW1.cell (p := ⟨w.heap.size, 1, none⟩) (by show w.heap.size < _; omega)).trans (by simp [go_sem])
      have r0 : w1.cell? ⟨w.heap.size + 1, 0, none⟩ = some (.int .i64 0) := (hW1.cell (p := ⟨w.heap.size + 1, 0, none⟩) (by show w.heap.size + 1 < _; omega)).trans (by simp [go_sem])
      have r1 : w1.cell? ⟨w.heap.size + 1, 1, none⟩ = some (.int .i64 0) := (hW1.cell (p := ⟨w.heap.size + 1, 1, none⟩) (by show w.heap.size + 1 < _; omega)).trans (by simp [go_sem])
      have f0 : w1.frozen? ⟨w.heap.size + 1, 0, none⟩ = false := (hW1.frozen (p := ⟨w.heap.size + 1, 0, none⟩) (by show w.heap.size + 1 < _; omega)).trans (by simp [go_sem])
      have f1 : w1.frozen? ⟨w.heap.size + 1, 1, none⟩ = false := (hW1.frozen (p := ⟨w.heap.size + 1, 1, none⟩) (by show w.heap.size + 1 < _; omega)).trans (by simp [go_sem])
      clear hb1 hW1
      go_wp2_with fail
      obtain ⟨t0, t1⟩ := two_cells r0 r1 (.int .i64 0) (.int .i64 0)
      have hB5 := below_two hB1 (show w.heap.size ≤ w.heap.size + 1 by omega) (.int .i64 0) (.int .i64 0)
      generalize ((w1.setCell ⟨w.heap.size + 1, 0, none⟩ (.int .i64 0)).setCell ⟨w.heap.size + 1, 1, none⟩ (.int .i64 0)) = w5 at *
      refine bodyPost_ret (v := .tuple #[.agg #[.int .i64 0, .int .i64 0], .int .i64 20]) (by simp [results, Tryd.results14, go_sem, t0, t1]) rfl ⟨?_, hB5⟩
      rw [HR.out.1, HR.out.2]
    · have HR : Hid (horE qs cs = 0 ∧ horF qs cs = hor cs cs.length) := by show _ ∧ _; simp [horE, horF, hE, h0]
      have h0b : ((cs.length : Int) == 0) = false := by simpa using h0
      have hpos : 0 < cs.length := by omega
      have hlen := (planE_len hE).2.2
      clear hE h0
      obtain ⟨b2, o2, rfl, hb2, hcell2⟩ := HA2.out hpos
      have HC2 := Lib.hid hcell2
      clear hcell2 HA2
      go_enter Tryd.func14, Tryd.ntmps14
      go_wp2_with fail
      refine (pcheck_any _ _ qs cs _ ((hq0.below (by (repeat' (first | (with_reducible exact Below.refl _ _) | (with_reducible refine Below.alloc ?_ ?_ _) | (with_reducible refine Below.drew ?_) | (with_reducible refine below_drewN ?_ _) | (with_reducible refine Below.setCell ?_ ?_ _) | (with_reducible refine Below.trans ?_ (Below.mono (by assumption) ?_)) | (with_reducible exact Nat.le_refl _) | omega | (simp; omega) | (simp; done))))).more (by (first | omega | (simp; done) | (simp; omega)))) ((hc0.below (by (repeat' (first | (with_reducible exact Below.refl _ _) | (with_reducible refine Below.alloc ?_ ?_ _) | (with_reducible refine Below.drew ?_) | (with_reducible refine below_drewN ?_ _) | (with_reducible refine Below.setCell ?_ ?_ _) | (with_reducible refine Below.trans ?_ (Below.mono (by assumption) ?_)) | (with_reducible exact Nat.le_refl _) | omega | (simp; omega) | (simp; done))))).more (by (first | omega | (simp; done) | (simp; omega))))).mono ?_
      rw [HE.out]
      rintro e w1 ⟨rfl, hb1⟩
      have hW1 : Below (w.heap.size + 1 + 1) ((w.alloc (.cells #[.slice A1 qs.length c1, .slice (some ⟨b2, o2, none⟩) cs.length c2] 25)).alloc (.cells #[.int .i64 0, .int .i64 0] 31)) w1 := hb1.mono (by simp)
      have hz1 : w.heap.size + 1 + 1 ≤ w1.heap.size := Nat.le_trans (by simp) hW1.size
      have hB1 : Below w.heap.size w w1 := by (repeat' (first | (with_reducible exact Below.refl _ _) | (with_reducible refine Below.alloc ?_ ?_ _) | (with_reducible refine Below.drew ?_) | (with_reducible refine below_drewN ?_ _) | (with_reducible refine Below.setCell ?_ ?_ _) | (with_reducible refine Below.trans ?_ (Below.mono (by assumption) ?_)) | (with_reducible exact Nat.le_refl _) | omega | (simp; omega) | (simp; done)))
      have q1 : w1.cell? ⟨w.heap.size, 1, none⟩ = some (.slice (some ⟨b2, o2, none⟩) cs.length c2) := (hW1.cell (p := ⟨w.heap.size, 1, none⟩) (by show w.heap.size < _; omega)).trans (by simp [go_sem])
      have hx0 := (HC2.out 0 hpos).below hB1 hb2
      have HH0 : Hid (hor cs 0 = ((cs.getD 0 Con.zero).s, (cs.getD 0 Con.zero).e)) := by show _ = _; rfl
      generalize cs.getD 0 Con.zero = d0 at hx0 HH0
      obtain ⟨x0, x1, x2, x3, x4, x5, x6⟩ := hx0
      simp only [Nat.zero_mul, Nat.add_zero] at x0 x1 x2 x3 x4 x5 x6
      clear hb1 x0 x1 x4 x5 x6
      have hi1 : (0 : Int) < cs.length := by omega
      have n1 := World.new_ne w1 _ q1
      have n2 := World.new_ne w1 _ x2
      have n3 := World.new_ne w1 _ x3
      go_wp2_with fail
      go_region_held3 (fun w' => w'.cell? ⟨w.heap.size, 1, none⟩ = some (.slice (some ⟨b2, o2, none⟩) cs.length c2) ∧ w'.cell? ⟨b2, o2 + 2, none⟩ = some (.int .i64 d0.s) ∧ w'.cell? ⟨b2, o2 + 3, none⟩ = some (.int .i64 d0.e)) (go_keep) (fail)
      clear n1 n2 n3
      have hlw : w.heap.size < w1.heap.size := by omega
      have hbw : b2 < w1.heap.size := by omega
      go_wp2_with fail
      clear x2 x3
      go_loopw [30] (fun i wr => ∃ k : Nat, k ≤ cs.length ∧ i = .int .i64 k ∧ Below w1.heap.size w1 wr ∧ wr.cell? ⟨w1.heap.size, 0, none⟩ = some (.int .i64 (hor cs k).1) ∧ wr.cell? ⟨w1.heap.size, 1, none⟩ = some (.int .i64 (hor cs k).2) ∧ wr.frozen? ⟨w1.heap.size, 0, none⟩ = false ∧ wr.frozen? ⟨w1.heap.size, 1, none⟩ = false ∧ w1.heap.size < wr.heap.size) (fun i _ => cs.length - (intOf i).toNat)
      case atStart => exact ⟨0, by omega, rfl, by (repeat' (first | (with_reducible exact Below.refl _ _) | (with_reducible refine Below.alloc ?_ ?_ _) | (with_reducible refine Below.drew ?_) | (with_reducible refine below_drewN ?_ _) | (with_reducible refine Below.setCell ?_ ?_ _) | (with_reducible refine Below.trans ?_ (Below.mono (by assumption) ?_)) | (with_reducible exact Nat.le_refl _) | omega | (simp; omega) | (simp; done))), by rw [HH0.out]; simp [go_sem], by rw [HH0.out]; simp [go_sem], by simp [go_sem], by simp [go_sem], by simp⟩
      case round =>
        obtain ⟨k, hk, rfl, hBr, v0, v1, f0, f1, hzr⟩ := hrel
        have q2 := (hBr.cell (p := ⟨w.heap.size, 1, none⟩) hlw).trans q1
        by_cases hlt : k < cs.length
        · have hx := ((HC2.out k hlt).below hB1 hb2).below hBr hbw
          have HST : Hid (hor cs (k + 1) = (min (hor cs k).1 (cs.getD k Con.zero).s, max (hor cs k).2 (cs.getD k Con.zero).e)) := by show _ = _; rfl
          generalize cs.getD k Con.zero = d at hx HST
          generalize hor cs k = hk0 at *
          obtain ⟨h1, h2⟩ := hk0
          obtain ⟨x0, x1, x2, x3, x4, x5, x6⟩ := hx
          have ic1 : (0 : Int) ≤ k := by omega
          have ic2 : (k : Int) < cs.length := by omega
          go_wp2_with fail
          have e2 : (wr.alloc (.cells #[.int .i64 d.a, .int .i64 d.b, .int .i64 d.s, .int .i64 d.e, .int .i64 d.r, .int .i64 d.g, .int .i64 d.l] 40)).cell? ⟨wr.heap.size, 2, none⟩ = some (.int .i64 d.s) := by simp [go_sem]
          have e3 : (wr.alloc (.cells #[.int .i64 d.a, .int .i64 d.b, .int .i64 d.s, .int .i64 d.e, .int .i64 d.r, .int .i64 d.g, .int .i64 d.l] 40)).cell? ⟨wr.heap.size, 3, none⟩ = some (.int .i64 d.e) := by simp [go_sem]
          have v0' := (World.cell?_alloc_lt wr (.cells #[.int .i64 d.a, .int .i64 d.b, .int .i64 d.s, .int .i64 d.e, .int .i64 d.r, .int .i64 d.g, .int .i64 d.l] 40) ⟨w1.heap.size, 0, none⟩ hzr).trans v0
          have v1' := (World.cell?_alloc_lt wr (.cells #[.int .i64 d.a, .int .i64 d.b, .int .i64 d.s, .int .i64 d.e, .int .i64 d.r, .int .i64 d.g, .int .i64 d.l] 40) ⟨w1.heap.size, 1, none⟩ hzr).trans v1
          have f0' := (World.frozen?_of_block (a := ⟨w1.heap.size, 0, none⟩) (Below.heap_alloc wr (.cells #[.int .i64 d.a, .int .i64 d.b, .int .i64 d.s, .int .i64 d.e, .int .i64 d.r, .int .i64 d.g, .int .i64 d.l] 40) w1.heap.size hzr)).trans f0
          have f1' := (World.frozen?_of_block (a := ⟨w1.heap.size, 1, none⟩) (Below.heap_alloc wr (.cells #[.int .i64 d.a, .int .i64 d.b, .int .i64 d.s, .int .i64 d.e, .int .i64 d.r, .int .i64 d.g, .int .i64 d.l] 40) w1.heap.size hzr)).trans f1
          have hB' := hBr.alloc (by omega) (.cells #[.int .i64 d.a, .int .i64 d.b, .int .i64 d.s, .int .i64 d.e, .int .i64 d.r, .int .i64 d.g, .int .i64 d.l] 40)
          have hz' : w1.heap.size < (wr.alloc (.cells #[.int .i64 d.a, .int .i64 d.b, .int .i64 d.s, .int .i64 d.e, .int .i64 d.r, .int .i64 d.g, .int .i64 d.l] 40)).heap.size := by simp; omega
          have hne : w1.heap.size ≠ wr.heap.size := by omega
          clear v0 v1 f0 f1 hBr x0 x1 x2 x3 x4 x5 x6 q2
          generalize (wr.alloc (.cells #[.int .i64 d.a, .int .i64 d.b, .int .i64 d.s, .int .i64 d.e, .int .i64 d.r, .int .i64 d.g, .int .i64 d.l] 40)) = W at *
          go_region
          obtain ⟨t0, t1⟩ := two_cells v0' v1' (.int .i64 (min h1 d.s)) (.int .i64 (max h2 d.e))
          have hB5 := below_two hB' (Nat.le_refl _) (.int .i64 (min h1 d.s)) (.int .i64 (max h2 d.e))
          have g0 : ((W.setCell ⟨w1.heap.size, 0, none⟩ (.int .i64 (min h1 d.s))).setCell ⟨w1.heap.size, 1, none⟩ (.int .i64 (max h2 d.e))).frozen? ⟨w1.heap.size, 0, none⟩ = false := by rw [World.frozen?_setCell, World.frozen?_setCell]; exact f0'
          have g1 : ((W.setCell ⟨w1.heap.size, 0, none⟩ (.int .i64 (min h1 d.s))).setCell ⟨w1.heap.size, 1, none⟩ (.int .i64 (max h2 d.e))).frozen? ⟨w1.heap.size, 1, none⟩ = false := by rw [World.frozen?_setCell, World.frozen?_setCell]; exact f1'
          have hz5 : w1.heap.size < ((W.setCell ⟨w1.heap.size, 0, none⟩ (.int .i64 (min h1 d.s))).setCell ⟨w1.heap.size, 1, none⟩ (.int .i64 (max h2 d.e))).heap.size := by simpa using hz'
          generalize ((W.setCell ⟨w1.heap.size, 0, none⟩ (.int .i64 (min h1 d.s))).setCell ⟨w1.heap.size, 1, none⟩ (.int .i64 (max h2 d.e))) = W5 at *
          go_wp2_with fail
          go_roundw
          case rel => exact ⟨k + 1, by omega, by go_num, hB5.drew, by rw [HST.out]; exact t0, by rw [HST.out]; exact t1, g0, g1, hz5⟩
          case measure => simp [intOf]; omega
        · have hkk : Hid (k = cs.length) := by show _ = _; omega
          have hB2 : Below w.heap.size w wr := hB1.trans (hBr.mono (by omega))
          have r0 : wr.cell? ⟨w.heap.size + 1, 0, none⟩ = some (.int .i64 0) := (hBr.cell (p := ⟨w.heap.size + 1, 0, none⟩) (by show w.heap.size + 1 < _; omega)).trans ((hW1.cell (p := ⟨w.heap.size + 1, 0, none⟩) (by show w.heap.size + 1 < _; omega)).trans (by simp [go_sem]))
          have r1 : wr.cell? ⟨w.heap.size + 1, 1, none⟩ = some (.int .i64 0) := (hBr.cell (p := ⟨w.heap.size + 1, 1, none⟩) (by show w.heap.size + 1 < _; omega)).trans ((hW1.cell (p := ⟨w.heap.size + 1, 1, none⟩) (by show w.heap.size + 1 < _; omega)).trans (by simp [go_sem]))
          have g0 : wr.frozen? ⟨w.heap.size + 1, 0, none⟩ = false := (hBr.frozen (p := ⟨w.heap.size + 1, 0, none⟩) (by show w.heap.size + 1 < _; omega)).trans ((hW1.frozen (p := ⟨w.heap.size + 1, 0, none⟩) (by show w.heap.size + 1 < _; omega)).trans (by simp [go_sem]))
          have g1 : wr.frozen? ⟨w.heap.size + 1, 1, none⟩ = false := (hBr.frozen (p := ⟨w.heap.size + 1, 1, none⟩) (by show w.heap.size + 1 < _; omega)).trans ((hW1.frozen (p := ⟨w.heap.size + 1, 1, none⟩) (by show w.heap.size + 1 < _; omega)).trans (by simp [go_sem]))
          have HR2 : Hid (horF qs cs = hor cs k) := by show _ = _; rw [HR.out.2, ← hkk.out]
          generalize hor cs k = hk0 at *
          obtain ⟨h1, h2⟩ := hk0
          go_wp2_with fail
          obtain ⟨t0, t1⟩ := two_cells r0 r1 (.int .i64 h1) (.int .i64 h2)
          have hB5 := below_two hB2 (show w.heap.size ≤ w.heap.size + 1 by omega) (.int .i64 h1) (.int .i64 h2)
          generalize ((wr.setCell ⟨w.heap.size + 1, 0, none⟩ (.int .i64 h1)).setCell ⟨w.heap.size + 1, 1, none⟩ (.int .i64 h2)) = w5 at *
          refine bodyPost_ret (v := .tuple #[.agg #[.int .i64 h1, .int .i64 h2], .int .i64 0]) (by simp [results, Tryd.results14, go_sem, t0, t1]) rfl ⟨?_, hB5⟩
          rw [HR.out.1, HR2.out]
  · have HR : Hid (horE qs cs = 1 ∧ horF qs cs = (0, 0)) := by show _ ∧ _; simp [horE, horF, hE]
    have hEb : (planE qs cs != 0) = true := by simpa using hE
    clear hE
    go_enter Tryd.func14, Tryd.ntmps14
    go_wp2_with fail
    refine (pcheck_any _ _ qs cs _ ((hq0.below (by (repeat' (first | (with_reducible exact Below.refl _ _) | (with_reducible refine Below.alloc ?_ ?_ _) | (with_reducible refine Below.drew ?_) | (with_reducible refine below_drewN ?_ _) | (with_reducible refine Below.setCell ?_ ?_ _) | (with_reducible refine Below.trans ?_ (Below.mono (by assumption) ?_)) | (with_reducible exact Nat.le_refl _) | omega | (simp; omega) | (simp; done))))).more (by (first | omega | (simp; done) | (simp; omega)))) ((hc0.below (by (repeat' (first | (with_reducible exact Below.refl _ _) | (with_reducible refine Below.alloc ?_ ?_ _) | (with_reducible refine Below.drew ?_) | (with_reducible refine below_drewN ?_ _) | (with_reducible refine Below.setCell ?_ ?_ _) | (with_reducible refine Below.trans ?_ (Below.mono (by assumption) ?_)) | (with_reducible exact Nat.le_refl _) | omega | (simp; omega) | (simp; done))))).more (by (first | omega | (simp; done) | (simp; omega))))).mono ?_
    rintro e w1 ⟨rfl, hb1⟩
    have hW1 : Below (w.heap.size + 1 + 1) ((w.alloc (.cells #[.slice A1 qs.length c1, .slice A2 cs.length c2] 25)).alloc (.cells #[.int .i64 0, .int .i64 0] 31)) w1 := hb1.mono (by simp)
    have hB1 : Below w.heap.size w w1 := by (repeat' (first | (with_reducible exact Below.refl _ _) | (with_reducible refine Below.alloc ?_ ?_ _) | (with_reducible refine Below.drew ?_) | (with_reducible refine below_drewN ?_ _) | (with_reducible refine Below.setCell ?_ ?_ _) | (with_reducible refine Below.trans ?_ (Below.mono (by assumption) ?_)) | (with_reducible exact Nat.le_refl _) | omega | (simp; omega) | (simp; done)))
    have r0 : w1.cell? ⟨w.heap.size + 1, 0, none⟩ = some (.int .i64 0) := (hW1.cell (p := ⟨w.heap.size + 1, 0, none⟩) (by show w.heap.size + 1 < _; omega)).trans (by simp [go_sem])
    have r1 : w1.cell? ⟨w.heap.size + 1, 1, none⟩ = some (.int .i64 0) := (hW1.cell (p := ⟨w.heap.size + 1, 1, none⟩) (by show w.heap.size + 1 < _; omega)).trans (by simp [go_sem])
    have f0 : w1.frozen? ⟨w.heap.size + 1, 0, none⟩ = false := (hW1.frozen (p := ⟨w.heap.size + 1, 0, none⟩) (by show w.heap.size + 1 < _; omega)).trans (by simp [go_sem])
    have f1 : w1.frozen? ⟨w.heap.size + 1, 1, none⟩ = false := (hW1.frozen (p := ⟨w.heap.size + 1, 1, none⟩) (by show w.heap.size + 1 < _; omega)).trans (by simp [go_sem])
    clear hb1 hW1
    go_wp2_with fail
    obtain ⟨t0, t1⟩ := two_cells r0 r1 (.int .i64 0) (.int .i64 0)
    have hB5 := below_two hB1 (show w.heap.size ≤ w.heap.size + 1 by omega) (.int .i64 0) (.int .i64 0)
    generalize ((w1.setCell ⟨w.heap.size + 1, 0, none⟩ (.int .i64 0)).setCell ⟨w.heap.size + 1, 1, none⟩ (.int .i64 0)) = w5 at *
    refine bodyPost_ret (v := .tuple #[.agg #[.int .i64 0, .int .i64 0], .int .i64 1]) (by simp [results, Tryd.results14, go_sem, t0, t1]) rfl ⟨?_, hB5⟩
    rw [HR.out.1, HR.out.2]
end Go.Proofs.YtgnlanfpholdaaaDoor

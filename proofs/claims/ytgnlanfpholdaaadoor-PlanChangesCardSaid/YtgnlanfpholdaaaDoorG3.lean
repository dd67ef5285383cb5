/- The reference's From, Active and Between. -/
import Derived.Test.YtgnlanfpholdaaaDoorG1
import Derived.Test.YtgnlanfpholdaaaDoorP1
import Derived.BigQuiet
import Derived.Maps.AppendAt
namespace Go.Proofs.YtgnlanfpholdaaaDoor
open Go.RowKit
set_option maxHeartbeats 2000000 in
theorem rfrom_any (qv cv : Value) (qs : List Int) (cs : List Con) (x : Int) (w : World) (hq : Ints w w.heap.size qv qs) (hc : Cons w w.heap.size cv cs) : Calls Tryd.prog 20 #[.agg #[qv, cv], .int .i64 x] w (FilPost (fromB x) qs cs w) := by
  have hq0 := hq
  have hc0 := hc
  obtain ⟨A1, c1, rfl, hc1, hm1, _⟩ := hq
  obtain ⟨A2, c2, rfl, hc2, hm2, hA2⟩ := hc
  unfold maxLen at hm1 hm2
  have HA2 := Lib.hid hA2
  clear hA2
  by_cases hE : planE qs cs = 0
  · have HE := Lib.hid hE
    have HL : Hid (filL (fromB x) qs cs = selL (fromB x) cs cs.length) := by show _ = _; rw [filL, if_neg (by simp [hE])]
    have hlen := (planE_len hE).2.2
    clear hE
    obtain ⟨i0, hi, hz0, hz1, hz2⟩ := info_parts info3
    have HI : Hid ((Tryd.prog.info? 3 = some i0) ∧ i0.zero = some (.int .i64 0) ∧ i0.size = 1 ∧ i0.bytes = 8) := ⟨hi, hz0, hz1, hz2⟩
    clear hi hz0 hz1 hz2
    go_enter Tryd.func20, Tryd.ntmps20
    go_wp2_with fail
    refine (rpcheck_any _ _ qs cs _ ((hq0.below (by (repeat' (first | (with_reducible exact Below.refl _ _) | (with_reducible refine Below.alloc ?_ ?_ _) | (with_reducible refine Below.drew ?_) | (with_reducible refine below_drewN ?_ _) | (with_reducible refine Below.setCell ?_ ?_ _) | (with_reducible refine Below.trans ?_ (Below.mono (by assumption) ?_)) | (with_reducible exact Nat.le_refl _) | omega | (simp; omega) | (simp; done))))).more (by (first | omega | (simp; done) | (simp; omega)))) ((hc0.below (by (repeat' (first | (with_reducible exact Below.refl _ _) | (with_reducible refine Below.alloc ?_ ?_ _) | (with_reducible refine Below.drew ?_) | (with_reducible refine below_drewN ?_ _) | (with_reducible refine Below.setCell ?_ ?_ _) | (with_reducible refine Below.trans ?_ (Below.mono (by assumption) ?_)) | (with_reducible exact Nat.le_refl _) | omega | (simp; omega) | (simp; done))))).more (by (first | omega | (simp; done) | (simp; omega))))).mono ?_
    rw [HE.out]
    rintro e w1 ⟨rfl, hb1⟩
    have hW1 : Below (w.heap.size + 1) (w.alloc (.cells #[.slice A1 qs.length c1, .slice A2 cs.length c2] 25)) w1 := ((Below.refl _ _).alloc (by simp) _).trans (hb1.mono (by simp))
    have hz1 : w.heap.size + 1 ≤ w1.heap.size := Nat.le_trans (by simp) hW1.size
    have ho1 := own_below (World.ownsRow_lit (e := 3) (size := 1) (base := w.heap.size + 1) (w.alloc (.cells #[.slice A1 qs.length c1, .slice A2 cs.length c2] 25)) #[] 0 (by simp) (by simp [maxLen]) rfl) hb1
    have q1 : w1.cell? ⟨w.heap.size, 1, none⟩ = some (.slice A2 cs.length c2) := (hW1.cell (p := ⟨w.heap.size, 1, none⟩) (by show w.heap.size < _; omega)).trans (by simp [go_sem])
    clear hb1
    go_wp2_with fail
    go_loopw [5, 6] (fun u i wr => ∃ k : Nat, k ≤ cs.length ∧ i = .int .i64 k ∧ wr.ownsRow (w.heap.size + 1) 3 1 u (selL (fromB x) cs k).length (intCells (selL (fromB x) cs k)) ∧ Below (w.heap.size + 1) (w.alloc (.cells #[.slice A1 qs.length c1, .slice A2 cs.length c2] 25)) wr) (fun _ i _ => cs.length - (intOf i).toNat)
    case atStart => exact ⟨0, by omega, rfl, (by simpa using ho1 : w1.ownsRow (w.heap.size + 1) 3 1 (.slice (some ⟨w.heap.size + 1, 0, none⟩) 0 0) 0 []), hW1⟩
    case round =>
      obtain ⟨k, hk, rfl, hown, hWr⟩ := hrel
      clear q1
      have hzr : w.heap.size + 1 ≤ wr.heap.size := Nat.le_trans (by simp) hWr.size
      have hlw : w.heap.size < wr.heap.size := by omega
      have hBr : Below w.heap.size w wr := ((Below.refl _ w).alloc (Nat.le_refl _) _).trans (hWr.mono (by omega))
      have q1 : wr.cell? ⟨w.heap.size, 1, none⟩ = some (.slice A2 cs.length c2) := (hWr.cell (p := ⟨w.heap.size, 1, none⟩) (by show w.heap.size < _; omega)).trans (by simp [go_sem])
      have hle := selL_len (fromB x) cs k
      by_cases hlt : k < cs.length
      · obtain ⟨b2, o2, rfl, hb2, hcell2⟩ := HA2.out (by omega)
        have hx := (hcell2 k hlt).below hBr hb2
        have hb2r : b2 < wr.heap.size := by omega
        clear hcell2
        generalize hd : cs.getD k Con.zero = d at *
        have HD := Lib.hid hd
        clear hd
        obtain ⟨x0, x1, x2, x3, x4, x5, x6⟩ := hx
        clear x1 x2 x3 x4 x5 x6
        cases hpe : (d.a == x)
        · have hp : fromB x d = false := hpe
          have HM : Hid (selL (fromB x) cs (k + 1) = selL (fromB x) cs k) := selL_miss (by rw [HD.out]; exact hp)
          have HO := Lib.hid hown
          clear hp hown
          go_wp2_with fail
          go_roundw
          case rel => exact ⟨k + 1, by omega, by go_num, by rw [HM.out]; exact HO.out, by (repeat' (first | (with_reducible exact Below.refl _ _) | (with_reducible refine Below.alloc ?_ ?_ _) | (with_reducible refine Below.drew ?_) | (with_reducible refine below_drewN ?_ _) | (with_reducible refine Below.setCell ?_ ?_ _) | (with_reducible refine Below.trans ?_ (Below.mono (by assumption) ?_)) | (with_reducible exact Nat.le_refl _) | omega | (simp; omega) | (simp; done)))⟩
          case measure => simp [intOf]; omega
        · have hp : fromB x d = true := hpe
          have HM : Hid (selL (fromB x) cs (k + 1) = selL (fromB x) cs k ++ [(k : Int)]) := selL_hit (by rw [HD.out]; exact hp)
          clear hp
          go_wp2_with (at_builtin; refine wpList_append_own _ rfl _ _ 22 rfl (w.heap.size + 1) 3 i0 (.int .i64 0) 1 8 Tryd.underlying22 HI.out.1 HI.out.2.1 HI.out.2.2.1 HI.out.2.2.2 rfl (by decide) _ _ _ rfl (hown.alloc _) ⟨wr.heap.size, 0, none⟩ 1 1 [.int .i64 (k : Int)] rfl rfl ?c1 ?c2 ?c3 ?c4 ?c5 ?_)
          case c1 => exact cell_one_new _ _ _
          case c2 => simp [Value.oneCell']
          case c3 => unfold maxLen; omega
          case c4 => omega
          case c5 => simp; omega
          intro v' w4 hown' hgrow _
          have HO := Lib.hid (own_hit hown')
          have hW4 := Below.grown (hWr.alloc hzr _) hgrow (by simp; omega) (fun j e => (hown.lt j e).1)
          clear hown' hgrow hown
          go_wp2_with fail
          go_roundw
          case rel => exact ⟨k + 1, by omega, by go_num, by rw [HM.out]; exact HO.out, hW4⟩
          case measure => simp [intOf]; omega
      · have hkk : Hid (k = cs.length) := by show _ = _; omega
        have HO := Lib.hid hown
        clear hown
        go_wp2_with fail
        go_ret
        refine ⟨_, rfl, ?_, hBr⟩
        rw [HL.out, ← hkk.out]
        exact ints_of_own HO.out
  · have HL : Hid (filL (fromB x) qs cs = []) := by show _ = _; rw [filL, if_pos hE]
    have hEb : (planE qs cs != 0) = true := by simpa using hE
    clear hE
    go_enter Tryd.func20, Tryd.ntmps20
    go_wp2_with fail
    refine (rpcheck_any _ _ qs cs _ ((hq0.below (by (repeat' (first | (with_reducible exact Below.refl _ _) | (with_reducible refine Below.alloc ?_ ?_ _) | (with_reducible refine Below.drew ?_) | (with_reducible refine below_drewN ?_ _) | (with_reducible refine Below.setCell ?_ ?_ _) | (with_reducible refine Below.trans ?_ (Below.mono (by assumption) ?_)) | (with_reducible exact Nat.le_refl _) | omega | (simp; omega) | (simp; done))))).more (by (first | omega | (simp; done) | (simp; omega)))) ((hc0.below (by (repeat' (first | (with_reducible exact Below.refl _ _) | (with_reducible refine Below.alloc ?_ ?_ _) | (with_reducible refine Below.drew ?_) | (with_reducible refine below_drewN ?_ _) | (with_reducible refine Below.setCell ?_ ?_ _) | (with_reducible refine Below.trans ?_ (Below.mono (by assumption) ?_)) | (with_reducible exact Nat.le_refl _) | omega | (simp; omega) | (simp; done))))).more (by (first | omega | (simp; done) | (simp; omega))))).mono ?_
    rintro e w1 ⟨rfl, hb1⟩
    go_wp2_with fail
    go_ret
    refine ⟨_, rfl, ?_, by (repeat' (first | (with_reducible exact Below.refl _ _) | (with_reducible refine Below.alloc ?_ ?_ _) | (with_reducible refine Below.drew ?_) | (with_reducible refine below_drewN ?_ _) | (with_reducible refine Below.setCell ?_ ?_ _) | (with_reducible refine Below.trans ?_ (Below.mono (by assumption) ?_)) | (with_reducible exact Nat.le_refl _) | omega | (simp; omega) | (simp; done)))⟩
    rw [HL.out]
    exact ⟨_, 0, rfl, by simp, by simp [maxLen], fun h => by simp at h⟩
set_option maxHeartbeats 2000000 in
theorem ractive_any (qv cv : Value) (qs : List Int) (cs : List Con) (t : Int) (w : World) (hq : Ints w w.heap.size qv qs) (hc : Cons w w.heap.size cv cs) : Calls Tryd.prog 23 #[.agg #[qv, cv], .int .i64 t] w (FilPost (actB t) qs cs w) := by
  have hq0 := hq
  have hc0 := hc
  obtain ⟨A1, c1, rfl, hc1, hm1, _⟩ := hq
  obtain ⟨A2, c2, rfl, hc2, hm2, hA2⟩ := hc
  unfold maxLen at hm1 hm2
  have HA2 := Lib.hid hA2
  clear hA2
  by_cases hE : planE qs cs = 0
  · have HE := Lib.hid hE
    have HL : Hid (filL (actB t) qs cs = selL (actB t) cs cs.length) := by show _ = _; rw [filL, if_neg (by simp [hE])]
    have hlen := (planE_len hE).2.2
    clear hE
    obtain ⟨i0, hi, hz0, hz1, hz2⟩ := info_parts info3
    have HI : Hid ((Tryd.prog.info? 3 = some i0) ∧ i0.zero = some (.int .i64 0) ∧ i0.size = 1 ∧ i0.bytes = 8) := ⟨hi, hz0, hz1, hz2⟩
    clear hi hz0 hz1 hz2
    go_enter Tryd.func23, Tryd.ntmps23
    go_wp2_with fail
    refine (rpcheck_any _ _ qs cs _ ((hq0.below (by (repeat' (first | (with_reducible exact Below.refl _ _) | (with_reducible refine Below.alloc ?_ ?_ _) | (with_reducible refine Below.drew ?_) | (with_reducible refine below_drewN ?_ _) | (with_reducible refine Below.setCell ?_ ?_ _) | (with_reducible refine Below.trans ?_ (Below.mono (by assumption) ?_)) | (with_reducible exact Nat.le_refl _) | omega | (simp; omega) | (simp; done))))).more (by (first | omega | (simp; done) | (simp; omega)))) ((hc0.below (by (repeat' (first | (with_reducible exact Below.refl _ _) | (with_reducible refine Below.alloc ?_ ?_ _) | (with_reducible refine Below.drew ?_) | (with_reducible refine below_drewN ?_ _) | (with_reducible refine Below.setCell ?_ ?_ _) | (with_reducible refine Below.trans ?_ (Below.mono (by assumption) ?_)) | (with_reducible exact Nat.le_refl _) | omega | (simp; omega) | (simp; done))))).more (by (first | omega | (simp; done) | (simp; omega))))).mono ?_
    rw [HE.out]
    rintro e w1 ⟨rfl, hb1⟩
    have hW1 : Below (w.heap.size + 1) (w.alloc (.cells #[.slice A1 qs.length c1, .slice A2 cs.length c2] 25)) w1 := ((Below.refl _ _).alloc (by simp) _).trans (hb1.mono (by simp))
    have hz1 : w.heap.size + 1 ≤ w1.heap.size := Nat.le_trans (by simp) hW1.size
    have ho1 := own_below (World.ownsRow_lit (e := 3) (size := 1) (base := w.heap.size + 1) (w.alloc (.cells #[.slice A1 qs.length c1, .slice A2 cs.length c2] 25)) #[] 0 (by simp) (by simp [maxLen]) rfl) hb1
    have q1 : w1.cell? ⟨w.heap.size, 1, none⟩ = some (.slice A2 cs.length c2) := (hW1.cell (p := ⟨w.heap.size, 1, none⟩) (by show w.heap.size < _; omega)).trans (by simp [go_sem])
    clear hb1
    go_wp2_with fail
    go_loopw [5, 6] (fun u i wr => ∃ k : Nat, k ≤ cs.length ∧ i = .int .i64 k ∧ wr.ownsRow (w.heap.size + 1) 3 1 u (selL (actB t) cs k).length (intCells (selL (actB t) cs k)) ∧ Below (w.heap.size + 1) (w.alloc (.cells #[.slice A1 qs.length c1, .slice A2 cs.length c2] 25)) wr) (fun _ i _ => cs.length - (intOf i).toNat)
    case atStart => exact ⟨0, by omega, rfl, (by simpa using ho1 : w1.ownsRow (w.heap.size + 1) 3 1 (.slice (some ⟨w.heap.size + 1, 0, none⟩) 0 0) 0 []), hW1⟩
    case round =>
      obtain ⟨k, hk, rfl, hown, hWr⟩ := hrel
      clear q1
      have hzr : w.heap.size + 1 ≤ wr.heap.size := Nat.le_trans (by simp) hWr.size
      have hlw : w.heap.size < wr.heap.size := by omega
      have hBr : Below w.heap.size w wr := ((Below.refl _ w).alloc (Nat.le_refl _) _).trans (hWr.mono (by omega))
      have q1 : wr.cell? ⟨w.heap.size, 1, none⟩ = some (.slice A2 cs.length c2) := (hWr.cell (p := ⟨w.heap.size, 1, none⟩) (by show w.heap.size < _; omega)).trans (by simp [go_sem])
      have hle := selL_len (actB t) cs k
      by_cases hlt : k < cs.length
      · obtain ⟨b2, o2, rfl, hb2, hcell2⟩ := HA2.out (by omega)
        have hx := (hcell2 k hlt).below hBr hb2
        have hb2r : b2 < wr.heap.size := by omega
        clear hcell2
        generalize hd : cs.getD k Con.zero = d at *
        have HD := Lib.hid hd
        clear hd
        obtain ⟨x0, x1, x2, x3, x4, x5, x6⟩ := hx
        clear x0 x1 x4 x5 x6
        rcases (show ¬ d.s ≤ t ∨ (d.s ≤ t ∧ ¬ t < d.e) ∨ (d.s ≤ t ∧ t < d.e) by omega) with h1 | ⟨h1, h2⟩ | ⟨h1, h2⟩
        · have hp : actB t d = false := by simp [actB]; omega
          have t1 : t < d.s := by omega
          have HM : Hid (selL (actB t) cs (k + 1) = selL (actB t) cs k) := selL_miss (by rw [HD.out]; exact hp)
          have HO := Lib.hid hown
          clear hp hown
          go_wp2_with fail
          go_roundw
          case rel => exact ⟨k + 1, by omega, by go_num, by rw [HM.out]; exact HO.out, by (repeat' (first | (with_reducible exact Below.refl _ _) | (with_reducible refine Below.alloc ?_ ?_ _) | (with_reducible refine Below.drew ?_) | (with_reducible refine below_drewN ?_ _) | (with_reducible refine Below.setCell ?_ ?_ _) | (with_reducible refine Below.trans ?_ (Below.mono (by assumption) ?_)) | (with_reducible exact Nat.le_refl _) | omega | (simp; omega) | (simp; done)))⟩
          case measure => simp [intOf]; omega
        · have hp : actB t d = false := by simp [actB]; omega
          have t2 : d.e ≤ t := by omega
          have HM : Hid (selL (actB t) cs (k + 1) = selL (actB t) cs k) := selL_miss (by rw [HD.out]; exact hp)
          have HO := Lib.hid hown
          clear hp hown
          go_wp2_with fail
          go_roundw
          case rel => exact ⟨k + 1, by omega, by go_num, by rw [HM.out]; exact HO.out, by (repeat' (first | (with_reducible exact Below.refl _ _) | (with_reducible refine Below.alloc ?_ ?_ _) | (with_reducible refine Below.drew ?_) | (with_reducible refine below_drewN ?_ _) | (with_reducible refine Below.setCell ?_ ?_ _) | (with_reducible refine Below.trans ?_ (Below.mono (by assumption) ?_)) | (with_reducible exact Nat.le_refl _) | omega | (simp; omega) | (simp; done)))⟩
          case measure => simp [intOf]; omega
        · have hp : actB t d = true := by simp [actB]; omega
          have HM : Hid (selL (actB t) cs (k + 1) = selL (actB t) cs k ++ [(k : Int)]) := selL_hit (by rw [HD.out]; exact hp)
          clear hp
          go_wp2_with (at_builtin; refine wpList_append_own _ rfl _ _ 22 rfl (w.heap.size + 1) 3 i0 (.int .i64 0) 1 8 Tryd.underlying22 HI.out.1 HI.out.2.1 HI.out.2.2.1 HI.out.2.2.2 rfl (by decide) _ _ _ rfl (hown.alloc _) ⟨wr.heap.size, 0, none⟩ 1 1 [.int .i64 (k : Int)] rfl rfl ?c1 ?c2 ?c3 ?c4 ?c5 ?_)
          case c1 => exact cell_one_new _ _ _
          case c2 => simp [Value.oneCell']
          case c3 => unfold maxLen; omega
          case c4 => omega
          case c5 => simp; omega
          intro v' w4 hown' hgrow _
          have HO := Lib.hid (own_hit hown')
          have hW4 := Below.grown (hWr.alloc hzr _) hgrow (by simp; omega) (fun j e => (hown.lt j e).1)
          clear hown' hgrow hown
          go_wp2_with fail
          go_roundw
          case rel => exact ⟨k + 1, by omega, by go_num, by rw [HM.out]; exact HO.out, hW4⟩
          case measure => simp [intOf]; omega
      · have hkk : Hid (k = cs.length) := by show _ = _; omega
        have HO := Lib.hid hown
        clear hown
        go_wp2_with fail
        go_ret
        refine ⟨_, rfl, ?_, hBr⟩
        rw [HL.out, ← hkk.out]
        exact ints_of_own HO.out
  · have HL : Hid (filL (actB t) qs cs = []) := by show _ = _; rw [filL, if_pos hE]
    have hEb : (planE qs cs != 0) = true := by simpa using hE
    clear hE
    go_enter Tryd.func23, Tryd.ntmps23
    go_wp2_with fail
    refine (rpcheck_any _ _ qs cs _ ((hq0.below (by (repeat' (first | (with_reducible exact Below.refl _ _) | (with_reducible refine Below.alloc ?_ ?_ _) | (with_reducible refine Below.drew ?_) | (with_reducible refine below_drewN ?_ _) | (with_reducible refine Below.setCell ?_ ?_ _) | (with_reducible refine Below.trans ?_ (Below.mono (by assumption) ?_)) | (with_reducible exact Nat.le_refl _) | omega | (simp; omega) | (simp; done))))).more (by (first | omega | (simp; done) | (simp; omega)))) ((hc0.below (by (repeat' (first | (with_reducible exact Below.refl _ _) | (with_reducible refine Below.alloc ?_ ?_ _) | (with_reducible refine Below.drew ?_) | (with_reducible refine below_drewN ?_ _) | (with_reducible refine Below.setCell ?_ ?_ _) | (with_reducible refine Below.trans ?_ (Below.mono (by assumption) ?_)) | (with_reducible exact Nat.le_refl _) | omega | (simp; omega) | (simp; done))))).more (by (first | omega | (simp; done) | (simp; omega))))).mono ?_
    rintro e w1 ⟨rfl, hb1⟩
    go_wp2_with fail
    go_ret
    refine ⟨_, rfl, ?_, by (repeat' (first | (with_reducible exact Below.refl _ _) | (with_reducible refine Below.alloc ?_ ?_ _) | (with_reducible refine Below.drew ?_) | (with_reducible refine below_drewN ?_ _) | (with_reducible refine Below.setCell ?_ ?_ _) | (with_reducible refine Below.trans ?_ (Below.mono (by assumption) ?_)) | (with_reducible exact Nat.le_refl _) | omega | (simp; omega) | (simp; done)))⟩
    rw [HL.out]
    exact ⟨_, 0, rfl, by simp, by simp [maxLen], fun h => by simp at h⟩
/-- the sends of one node to another -/
theorem selL_two (x y : Int) (cs : List Con) (k : Nat) : (selL (fromB x) cs k).filter (fun i => (cs.getD i.toNat Con.zero).b == y) = selL (betB x y) cs k := by
  induction k with
  | zero => rfl
  | succ k ih =>
    cases h : fromB x (cs.getD k Con.zero)
    · rw [selL_miss h, ih, selL_miss (by show (fromB x _ && _) = false; rw [h]; rfl)]
    · rw [selL_hit h, List.filter_append, ih]
      cases h2 : ((cs.getD k Con.zero).b == y)
      · rw [selL_miss (by show (fromB x _ && _) = false; rw [h, h2]; rfl), List.filter_cons, if_neg (by rw [Int.toNat_natCast, h2]; exact Bool.false_ne_true)]; simp
      · rw [selL_hit (by show (fromB x _ && _) = true; rw [h, h2]; rfl), List.filter_cons, if_pos (by rw [Int.toNat_natCast, h2])]; rfl
/-- the numbers among the first k of a list of which the contact ends at y -/
def toL (cs : List Con) (y : Int) (L : List Int) (k : Nat) : List Int := (L.take k).filter fun i => (cs.getD i.toNat Con.zero).b == y
theorem take_int (l : List Int) (k : Nat) (h : k < l.length) : l.take (k + 1) = l.take k ++ [l.getD k 0] := by
  rw [List.take_succ_eq_append_getElem h]; simp [List.getD, h]
theorem toL_hit {cs : List Con} {y : Int} {L : List Int} {k : Nat} (h : k < L.length) (hp : ((cs.getD (L.getD k 0).toNat Con.zero).b == y) = true) : toL cs y L (k + 1) = toL cs y L k ++ [L.getD k 0] := by
  unfold toL; rw [take_int L k h, List.filter_append, List.filter_cons, if_pos hp]; rfl
theorem toL_miss {cs : List Con} {y : Int} {L : List Int} {k : Nat} (h : k < L.length) (hp : ((cs.getD (L.getD k 0).toNat Con.zero).b == y) = false) : toL cs y L (k + 1) = toL cs y L k := by
  unfold toL; rw [take_int L k h, List.filter_append, List.filter_cons, if_neg (by rw [hp]; exact Bool.false_ne_true)]; simp
theorem toL_len (cs : List Con) (y : Int) (L : List Int) (k : Nat) : (toL cs y L k).length ≤ k := by
  unfold toL; exact Nat.le_trans (List.length_filter_le _ _) (by rw [List.length_take]; omega)
theorem getD_mem_int {l : List Int} {j : Nat} (h : j < l.length) : l.getD j 0 ∈ l := by
  rw [List.getD_eq_getElem?_getD, List.getElem?_eq_getElem h]; exact List.getElem_mem h
theorem fil_in {p : Con → Bool} {qs : List Int} {cs : List Con} {j : Nat} (h : j < (filL p qs cs).length) : 0 ≤ (filL p qs cs).getD j 0 ∧ (filL p qs cs).getD j 0 < cs.length ∧ p (cs.getD ((filL p qs cs).getD j 0).toNat Con.zero) = true := by
  have hm := getD_mem_int h
  generalize (filL p qs cs).getD j 0 = x at *
  unfold filL at hm; split at hm
  · simp at hm
  · obtain ⟨i, hi, rfl, hp⟩ := selL_mem.1 hm
    exact ⟨by omega, by omega, by simpa using hp⟩
theorem toL_all (x y : Int) (qs : List Int) (cs : List Con) : toL cs y (filL (fromB x) qs cs) (filL (fromB x) qs cs).length = filL (betB x y) qs cs := by
  unfold toL; rw [List.take_length]
  unfold filL; split
  · rfl
  · exact selL_two x y cs _
theorem filL_len64 (p : Con → Bool) (qs : List Int) (cs : List Con) : (filL p qs cs).length ≤ 64 := by
  unfold filL; split
  · simp
  · rename_i h
    have := selL_len p cs cs.length
    have := (planE_len (show planE qs cs = 0 by simpa using h)).2.2
    omega
set_option maxHeartbeats 4000000 in
set_option maxRecDepth 100000 in
theorem rbet_any (qv cv : Value) (qs : List Int) (cs : List Con) (x y : Int) (w : World) (hq : Ints w w.heap.size qv qs) (hc : Cons w w.heap.size cv cs) : Calls Tryd.prog 22 #[.agg #[qv, cv], .int .i64 x, .int .i64 y] w (FilPost (betB x y) qs cs w) := by
  have hq0 := hq
  have hc0 := hc
  obtain ⟨A1, c1, rfl, hc1, hm1, _⟩ := hq
  obtain ⟨A2, c2, rfl, hc2, hm2, hA2⟩ := hc
  unfold maxLen at hm1 hm2
  have HA2 := Lib.hid hA2
  clear hA2
  have HT := Lib.hid (toL_all x y qs cs)
  have HF := Lib.hid (fun j => fil_in (p := fromB x) (qs := qs) (cs := cs) (j := j))
  have h64 := filL_len64 (fromB x) qs cs
  obtain ⟨i0, hi, hz0, hz1, hz2⟩ := info_parts info3
  have HI : Hid ((Tryd.prog.info? 3 = some i0) ∧ i0.zero = some (.int .i64 0) ∧ i0.size = 1 ∧ i0.bytes = 8) := ⟨hi, hz0, hz1, hz2⟩
  clear hi hz0 hz1 hz2
  go_enter Tryd.func22, Tryd.ntmps22
  go_wp2_with fail
  refine (rfrom_any _ _ qs cs x _ ((hq0.below (by (repeat' (first | (with_reducible exact Below.refl _ _) | (with_reducible refine Below.alloc ?_ ?_ _) | (with_reducible refine Below.drew ?_) | (with_reducible refine below_drewN ?_ _) | (with_reducible refine Below.setCell ?_ ?_ _) | (with_reducible refine Below.trans ?_ (Below.mono (by assumption) ?_)) | (with_reducible exact Nat.le_refl _) | omega | (simp; omega) | (simp; done))))).more (by (first | omega | (simp; done) | (simp; omega)))) ((hc0.below (by (repeat' (first | (with_reducible exact Below.refl _ _) | (with_reducible refine Below.alloc ?_ ?_ _) | (with_reducible refine Below.drew ?_) | (with_reducible refine below_drewN ?_ _) | (with_reducible refine Below.setCell ?_ ?_ _) | (with_reducible refine Below.trans ?_ (Below.mono (by assumption) ?_)) | (with_reducible exact Nat.le_refl _) | omega | (simp; omega) | (simp; done))))).more (by (first | omega | (simp; done) | (simp; omega))))).mono ?_
  rintro e w1 ⟨v, rfl, hv, hb1⟩
  have hW1 : Below (w.heap.size + 1) (w.alloc (.cells #[.slice A1 qs.length c1, .slice A2 cs.length c2] 25)) w1 := ((Below.refl _ _).alloc (by simp) _).trans (hb1.mono (by simp))
  have ho1 := own_below (World.ownsRow_lit (e := 3) (size := 1) (base := w.heap.size + 1) (w.alloc (.cells #[.slice A1 qs.length c1, .slice A2 cs.length c2] 25)) #[] 0 (by simp) (by simp [maxLen]) rfl) hb1
  have hb2 : ((w.alloc (.cells #[.slice A1 qs.length c1, .slice A2 cs.length c2] 25)).alloc (.cells #[] 3)).heap.size ≤ w1.heap.size := hb1.size
  have HB1 := Lib.hid hb1
  clear hb1
  generalize filL (fromB x) qs cs = L at *
  obtain ⟨A3, c3, rfl, hc3, hm3, hA3⟩ := hv
  unfold maxLen at hm3
  have HA3 := Lib.hid hA3
  clear hA3
  have hzz : w.heap.size + 1 + 1 ≤ w1.heap.size := Nat.le_trans (by simp) hb2
  clear hb2
  go_wp2_with fail
  go_loopw [7, 9] (fun u i wr => ∃ k : Nat, k ≤ L.length ∧ i = .int .i64 k ∧ wr.ownsRow (w.heap.size + 1) 3 1 u (toL cs y L k).length (intCells (toL cs y L k)) ∧ Below (w.heap.size + 1) (w.alloc (.cells #[.slice A1 qs.length c1, .slice A2 cs.length c2] 25)) wr ∧ w1.heap.size ≤ wr.heap.size ∧ (0 < L.length → ∃ b o, A3 = some ⟨b, o, none⟩ ∧ b < w1.heap.size ∧ u.ownBlock ≠ some b ∧ ∀ j, j < L.length → wr.cell? ⟨b, o + j, none⟩ = some (.int .i64 (L.getD j 0)))) (fun _ i _ => L.length - (intOf i).toNat)
  case atStart =>
    refine ⟨0, by omega, rfl, (by simpa using ho1 : w1.ownsRow (w.heap.size + 1) 3 1 (.slice (some ⟨w.heap.size + 1, 0, none⟩) 0 0) 0 []), hW1, Nat.le_refl _, fun hp => ?_⟩
    obtain ⟨b, o, h1, h2, h3⟩ := HA3.out hp
    refine ⟨b, o, h1, h2, ?_, h3⟩
    intro he
    have hb : b = w.heap.size + 1 := by simpa [Value.ownBlock] using he.symm
    have h4 := h3 0 hp
    subst hb
    have h5 : w1.cell? ⟨w.heap.size + 1, o + 0, none⟩ = none := (HB1.out.cell (p := ⟨w.heap.size + 1, o + 0, none⟩) (by simp)).trans (by simp [go_sem])
    rw [h5] at h4
    cases h4
  case round =>
    obtain ⟨k, hk, rfl, hown, hWr, hsz, hL⟩ := hrel
    have hzr : w.heap.size + 1 ≤ wr.heap.size := by omega
    have hlw : w.heap.size < wr.heap.size := by omega
    have hBr : Below w.heap.size w wr := ((Below.refl _ w).alloc (Nat.le_refl _) _).trans (hWr.mono (by omega))
    have q1 : wr.cell? ⟨w.heap.size, 1, none⟩ = some (.slice A2 cs.length c2) := (hWr.cell (p := ⟨w.heap.size, 1, none⟩) (by show w.heap.size < _; omega)).trans (by simp [go_sem])
    have hle := toL_len cs y L k
    by_cases hlt : k < L.length
    · obtain ⟨g1, g2, _⟩ := HF.out k hlt
      obtain ⟨b3, o3, rfl, hb3, hne, hL3⟩ := hL (by omega)
      have z3 := hL3 k hlt
      have HL3 := Lib.hid hL3
      have hb3r : b3 < wr.heap.size := by omega
      clear hL3 hL
      obtain ⟨m, hm⟩ : ∃ m : Nat, L.getD k 0 = m := ⟨(L.getD k 0).toNat, by omega⟩
      have hml : m < cs.length := by omega
      obtain ⟨b2, o2, rfl, hb2, hcell2⟩ := HA2.out (by omega)
      have hx := (hcell2 m hml).below hBr hb2
      have hb2r : b2 < wr.heap.size := by omega
      clear hcell2
      have HMM : Hid ((cs.getD (L.getD k 0).toNat Con.zero) = cs.getD m Con.zero ∧ L.getD k 0 = m) := ⟨by rw [hm, Int.toNat_natCast], hm⟩
      rw [hm] at z3
      clear hm g1 g2
      obtain ⟨x0, x1, x2, x3, x4, x5, x6⟩ := hx
      clear x0 x2 x3 x4 x5 x6
      have ic1 : (0 : Int) ≤ m := by omega
      have ic2 : (m : Int) < cs.length := by omega
      have ic3 : (0 : Int) ≤ k := by omega
      have ic4 : (k : Int) < L.length := by omega
      cases hp : ((cs.getD m Con.zero).b == y)
      · have HM : Hid (toL cs y L (k + 1) = toL cs y L k) := toL_miss hlt (by rw [HMM.out.1]; exact hp)
        have HO := Lib.hid hown
        clear hown
        generalize cs.getD m Con.zero = d at *
        go_wp2_with fail
        go_quiet (fail)
        go_wp2_with fail
        go_roundw
        case rel => exact ⟨k + 1, by omega, by go_num, by rw [HM.out]; exact own_below HO.out (below_drewN (Below.refl _ _) _), below_drewN hWr _, hsz, fun _ => ⟨b3, o3, rfl, hb3, hne, HL3.out⟩⟩
        case measure => simp [intOf]; omega
      · have HM : Hid (toL cs y L (k + 1) = toL cs y L k ++ [(m : Int)]) := by show _ = _; rw [toL_hit hlt (by rw [HMM.out.1]; exact hp), HMM.out.2]
        generalize cs.getD m Con.zero = d at *
        go_wp2_with fail
        go_quiet (fail)
        have z3W : (wr.drewN nq).cell? ⟨b3, o3 + k, none⟩ = some (.int .i64 m) := z3
        have HL3W : Hid (∀ j, j < L.length → (wr.drewN nq).cell? ⟨b3, o3 + j, none⟩ = some (.int .i64 (L.getD j 0))) := HL3.out
        have hownW := own_below hown (below_drewN (Below.refl _ wr) nq)
        have hWW := below_drewN hWr nq
        have hBW := below_drewN hBr nq
        have hzW : w.heap.size + 1 ≤ (wr.drewN nq).heap.size := hzr
        have hsW : w1.heap.size ≤ (wr.drewN nq).heap.size := hsz
        have hbW : b3 < (wr.drewN nq).heap.size := hb3r
        clear z3 hown hWr hBr hzr hsz hb3r HL3 x1 q1 hlw hb2r
        generalize wr.drewN nq = W at *
        go_wp2_with (at_builtin; refine wpList_append_own_at _ rfl _ _ 22 rfl (w.heap.size + 1) 3 i0 (.int .i64 0) 1 8 Tryd.underlying22 HI.out.1 HI.out.2.1 HI.out.2.2.1 HI.out.2.2.2 rfl (by decide) _ _ _ rfl (hownW.alloc _) ⟨W.heap.size, 0, none⟩ 1 1 [.int .i64 (m : Int)] rfl rfl ?c1 ?c2 ?c3 ?c4 ?c5 ?_)
        case c1 => exact cell_one_new _ _ _
        case c2 => simp [Value.oneCell']
        case c3 => unfold maxLen; omega
        case c4 => omega
        case c5 => simp; omega
        intro v' w4 hown' hgrow _ hat
        have HO := Lib.hid (own_hit hown')
        have hW4 := Below.grown (hWW.alloc hzW _) hgrow (by simp; omega) (fun j e => (hownW.lt j e).1)
        have hs4 : w1.heap.size ≤ w4.heap.size := Nat.le_trans hsW (Nat.le_trans (by simp) hgrow.size)
        have hne' : v'.ownBlock ≠ some b3 := by
          rcases hat with h | h
          · rw [h]; exact hne
          · rw [h]; simp; omega
        have HL4 : Hid (∀ j, j < L.length → w4.cell? ⟨b3, o3 + j, none⟩ = some (.int .i64 (L.getD j 0))) := fun j hj =>
          (World.cell?_of_block (a := ⟨b3, o3 + j, none⟩) (hgrow.block b3 (by simp; omega) (fun e => hne e.symm))).trans ((World.cell?_alloc_lt _ _ ⟨b3, o3 + j, none⟩ hbW).trans (HL3W.out j hj))
        clear hown' hgrow hownW hat
        go_wp2_with fail
        go_roundw
        case rel => exact ⟨k + 1, by omega, by go_num, by rw [HM.out]; exact HO.out, hW4, hs4, fun _ => ⟨b3, o3, rfl, hb3, hne', HL4.out⟩⟩
        case measure => simp [intOf]; omega
    · have hkk : Hid (k = L.length) := by show _ = _; omega
      have HO := Lib.hid hown
      clear hown
      go_wp2_with fail
      go_ret
      refine ⟨_, rfl, ?_, hBr⟩
      rw [← HT.out, ← hkk.out]
      exact ints_of_own HO.out
end Go.Proofs.YtgnlanfpholdaaaDoor

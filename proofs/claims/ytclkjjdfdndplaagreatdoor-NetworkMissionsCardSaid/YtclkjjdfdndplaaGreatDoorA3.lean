/- Agendas: place. -/
import Derived.Test.YtclkjjdfdndplaaGreatDoorA2
namespace Go.Proofs.YtclkjjdfdndplaaGreatDoor
open Go.RowKit
/-- the place of an event in an agenda -/
structure EvPos (l : List Ev) (x : Ev) (p : Nat) : Prop where
  le : p ≤ l.length
  lo : ∀ i, i < p → evL (l.getD i Ev.zero) x = true
  hi : ∀ i, p ≤ i → i < l.length → evL (l.getD i Ev.zero) x = false
theorem asc_lt {l : List Ev} (h : ∀ i, i + 1 < l.length → evL (l.getD i Ev.zero) (l.getD (i + 1) Ev.zero) = true) : ∀ (d i : Nat), i + d + 1 < l.length → evL (l.getD i Ev.zero) (l.getD (i + d + 1) Ev.zero) = true
  | 0, i, hi => h i hi
  | d + 1, i, hi => evL_trans (asc_lt h d i (by omega)) (h (i + d + 1) (by omega))
theorem asc_all {l : List Ev} (h : AgOk l) {i j : Nat} (hij : i < j) (hj : j < l.length) : evL (l.getD i Ev.zero) (l.getD j Ev.zero) = true := by
  have := asc_lt h.asc (j - i - 1) i (by omega)
  rwa [show i + (j - i - 1) + 1 = j by omega] at this
theorem lt_down {l : List Ev} (h : AgOk l) {i j : Nat} {x : Ev} (hij : i ≤ j) (hj : j < l.length) (hx : evL (l.getD j Ev.zero) x = true) : evL (l.getD i Ev.zero) x = true := by
  rcases Nat.lt_or_ge i j with h' | h'
  · exact evL_trans (asc_all h h' hj) hx
  · obtain rfl : i = j := by omega
    exact hx
def PlacePost (l : List Ev) (x : Ev) (w : World) (e : Ending) (w' : World) : Prop := ∃ p, EvPos l x p ∧ e = .returned (.tuple #[.int .i64 p, .bool (decide (p < l.length ∧ l.getD p Ev.zero = x))]) ∧ Below w.heap.size w w'
set_option maxRecDepth 100000 in
set_option maxHeartbeats 4000000 in
theorem place_any (v : Value) (l : List Ev) (x : Ev) (w : World) (hv : Evs w w.heap.size v l) (hl : AgOk l) : Calls Tryz.prog 66 #[v, .agg #[.int .i64 x.t, .int .i64 x.k, .int .i64 x.n]] w (PlacePost l x w) := by
  obtain ⟨A, c, rfl, hc, hm, hA⟩ := hv
  unfold maxLen at hm
  unfold PlacePost
  have hlen := hl.len
  have HL := Lib.hid hl
  have HA := Lib.hid hA
  clear hA hl
  go_enter Tryz.func66, Tryz.ntmps66
  go_wp2_with fail
  have hbw : Below w.heap.size w (w.alloc (.cells #[.int .i64 x.t, .int .i64 x.k, .int .i64 x.n] 49)) := by (repeat' (first | (with_reducible exact Below.refl _ _) | (with_reducible refine Below.alloc ?_ ?_ _) | (with_reducible refine Below.drew ?_) | (with_reducible refine below_drewN ?_ _) | (with_reducible refine Below.setCell ?_ ?_ _) | (with_reducible refine Below.trans ?_ (Below.mono (by assumption) ?_)) | (with_reducible exact Nat.le_refl _) | omega | (simp; omega) | (simp; done)))
  generalize w.alloc (.cells #[.int .i64 x.t, .int .i64 x.k, .int .i64 x.n] 49) = v0 at *
  go_loopw [7, 8] (fun i j wr => ∃ a b : Nat, a ≤ b ∧ b ≤ l.length ∧ i = .int .i64 a ∧ j = .int .i64 b ∧ Hid (∀ i, i < a → evL (l.getD i Ev.zero) x = true) ∧ Hid (∀ i, b ≤ i → i < l.length → evL (l.getD i Ev.zero) x = false) ∧ Below w.heap.size w wr) (fun i j _ => (intOf j - intOf i).toNat)
  case atStart => exact ⟨0, l.length, by omega, by omega, rfl, rfl, fun i hi => by omega, fun i hi hi2 => by omega, hbw⟩
  case round =>
    obtain ⟨a, b, hab, hbl, rfl, rfl, hlo, hhi, hbr⟩ := hrel
    have hzr := hbr.size
    by_cases hlt : a < b
    · obtain ⟨m, hmd⟩ : ∃ m, m = (a + b) / 2 := ⟨_, rfl⟩
      have i3 : m < b := by omega
      have i4 : a ≤ m := by omega
      have i5 : m < l.length := by omega
      have i6 : (m : Int) < l.length := by omega
      have hlt' : (a : Int) < b := by omega
      obtain ⟨bb, o, rfl, hb, hcell⟩ := HA.out (by omega)
      obtain ⟨x0, x1, x2⟩ := (hcell m i5).below (B' := 0) hbr hb
      clear hcell
      have hdn := fun (h : evL (l.getD m Ev.zero) x = true) => Lib.hid (fun i (hi : i < m + 1) => lt_down HL.out (x := x) (i := i) (j := m) (by omega) i5 h)
      have hup := fun (h : evL (l.getD m Ev.zero) x = false) => Lib.hid (fun i (hi : m ≤ i) (hi2 : i < l.length) => show evL (l.getD i Ev.zero) x = false by
        rcases Nat.lt_or_ge m i with h' | h'
        · cases hq : evL (l.getD i Ev.zero) x
          · rfl
          · have := lt_down HL.out (i := m) (j := i) (by omega) hi2 hq
            rw [this] at h; cases h
        · obtain rfl : i = m := by omega
          exact h)
      have hpos := evC_pos (x := x) (y := l.getD m Ev.zero)
      generalize l.getD m Ev.zero = d at *
      subst hmd
      by_cases hE : evL d x = true
      · have HD := hdn hE
        have q := hpos.2 hE
        clear hdn hup hpos hE
        go_wp2_with fail
        refine (evcmp_any x d _).mono ?_
        rintro e w5 ⟨rfl, hb5⟩
        have hB5 : Below w.heap.size w w5 := hbr.trans (hb5.mono hzr)
        clear hb5
        generalize evC x d = cc at *
        go_wp2_with fail
        go_roundw
        case rel => exact ⟨(a + b) / 2 + 1, b, by omega, by omega, by go_num, rfl, HD, hhi, hB5⟩
        case measure => simp [intOf]; omega
      · have HU := hup (by simpa using hE)
        have q : ¬ 0 < evC x d := fun h => hE (hpos.1 h)
        clear hdn hup hpos hE
        go_wp2_with fail
        refine (evcmp_any x d _).mono ?_
        rintro e w5 ⟨rfl, hb5⟩
        have hB5 : Below w.heap.size w w5 := hbr.trans (hb5.mono hzr)
        clear hb5
        generalize evC x d = cc at *
        go_wp2_with fail
        go_roundw
        case rel => exact ⟨a, (a + b) / 2, by omega, by omega, rfl, by go_num, hlo, HU, hB5⟩
        case measure => simp [intOf]; omega
    · obtain rfl : a = b := by omega
      have HP : Hid (EvPos l x a) := ⟨hbl, hlo.out, hhi.out⟩
      clear hlo hhi
      by_cases hal : a < l.length
      · have i1 : (a : Int) < l.length := by omega
        obtain ⟨bb, o, rfl, hb, hcell⟩ := HA.out (by omega)
        obtain ⟨x0, x1, x2⟩ := (hcell a hal).below (B' := 0) hbr hb
        clear hcell
        have hq : ∀ cc, cc = evC x (l.getD a Ev.zero) → decide (a < l.length ∧ l.getD a Ev.zero = x) = (cc == 0) := fun cc h => by
          subst h
          rw [Bool.eq_iff_iff, decide_eq_true_eq, beq_iff_eq, evC_eq]
          exact ⟨fun h => h.2.symm, fun h => ⟨hal, h.symm⟩⟩
        have HQ := Lib.hid hq
        clear hq
        generalize hd : l.getD a Ev.zero = d at *
        have HDD := Lib.hid hd
        clear hd
        go_wp2_with fail
        refine (evcmp_any x d _).mono ?_
        rintro e w5 ⟨rfl, hb5⟩
        have hB5 : Below w.heap.size w w5 := hbr.trans (hb5.mono hzr)
        clear hb5
        generalize hcc : evC x d = cc at *
        have HQ := Lib.hid (HQ.out cc rfl)
        go_wp2_with fail
        refine bodyPost_ret (v := .tuple #[.int .i64 a, .bool (cc == 0)]) (by simp [results, Tryz.results66, go_sem]) rfl ⟨a, HP.out, ?_, hB5⟩
        rw [HDD.out, HQ.out]
      · have i1 : ¬ (a : Int) < l.length := by omega
        go_wp2_with fail
        refine bodyPost_ret (v := .tuple #[.int .i64 a, .bool false]) (by simp [results, Tryz.results66, go_sem]) rfl ⟨a, HP.out, ?_, hbr⟩
        simp [hal]
end Go.Proofs.YtclkjjdfdndplaaGreatDoor

/- Plans: From, Between, Active. -/
import Derived.Test.YtgnlanfpholdaaaDoorF5
namespace Go.Proofs.YtgnlanfpholdaaaDoor
open Go.RowKit
/-- the numbers below k of the contacts that meet a condition -/
def selL (p : Con → Bool) (cs : List Con) (k : Nat) : List Int := ((List.range k).filter fun i => p (cs.getD i Con.zero)).map fun i : Nat => (i : Int)
theorem selL_hit {p : Con → Bool} {cs : List Con} {k : Nat} (h : p (cs.getD k Con.zero) = true) : selL p cs (k + 1) = selL p cs k ++ [(k : Int)] := by
  simp only [selL, List.range_succ, List.filter_append, List.map_append]
  rw [List.filter_cons, if_pos h]; rfl
theorem selL_miss {p : Con → Bool} {cs : List Con} {k : Nat} (h : p (cs.getD k Con.zero) = false) : selL p cs (k + 1) = selL p cs k := by
  simp only [selL, List.range_succ, List.filter_append, List.map_append]
  rw [List.filter_cons, if_neg (by rw [h]; exact Bool.false_ne_true)]; simp
theorem selL_len (p : Con → Bool) (cs : List Con) (k : Nat) : (selL p cs k).length ≤ k := by
  have := List.length_filter_le (fun i => p (cs.getD i Con.zero)) (List.range k)
  simpa [selL] using this
def filL (p : Con → Bool) (qs : List Int) (cs : List Con) : List Int := if planE qs cs ≠ 0 then [] else selL p cs cs.length
def FilPost (p : Con → Bool) (qs : List Int) (cs : List Con) (w : World) (e : Ending) (w' : World) : Prop :=
  ∃ v, e = .returned v ∧ Ints w' w'.heap.size v (filL p qs cs) ∧ Below w.heap.size w w'
theorem planE_len {qs : List Int} {cs : List Con} (h : planE qs cs = 0) : 1 ≤ qs.length ∧ qs.length ≤ 16 ∧ cs.length ≤ 64 := by
  unfold planE at h; split at h
  · cases h
  · omega
theorem info3 : (Tryd.prog.info? 3).map (fun i => (i.zero, i.size, i.bytes)) = some (some (.int .i64 0), 1, 8) := by kernel_rfl
theorem own_below {w w' : World} {base : Nat} {e : TypeId} {size : Nat} {v : Value} {n : Nat} {xs : List Value} (h : w.ownsRow base e size v n xs) (hb : Below w.heap.size w w') : w'.ownsRow base e size v n xs :=
  h.kept (row := none) ⟨hb.os, hb.tape, hb.output, hb.size, fun j hj _ => hb.block j hj⟩ (by cases h' : v.ownBlock <;> simp)
def intCells (l : List Int) : List Value := l.map (Value.int .i64)
theorem ints_of_own {w : World} {base : Nat} {v : Value} {l : List Int} (h : w.ownsRow base 3 1 v l.length (intCells l)) : Ints w w.heap.size v l := by
  rcases h.2 with ⟨rfl, h0⟩ | ⟨g, cap, cur, rfl, hb, hg, hn, hm, hs, ht⟩
  · obtain rfl : l = [] := List.eq_nil_of_length_eq_zero h0
    exact ints_nil _ _
  · refine ⟨_, cap, rfl, hn, hm, fun _ => ⟨g, 0, rfl, (Array.getElem?_eq_some_iff.1 hg).1, fun j hj => ?_⟩⟩
    have ha : ∀ n, (⟨g, 0, none⟩ : Addr).add n = ⟨g, 0 + n, none⟩ := fun n => by unfold Addr.add; split <;> simp_all
    have := h.cells (g := g) rfl j (.int .i64 (l.getD j 0)) (by simp [intCells, List.getD, hj])
    rwa [ha] at this
theorem own_hit {w1 : World} {n0 : Nat} {v' : Value} {l : List Int} {k : Int} (ho : w1.ownsRow n0 3 1 v' (l.length + 1) (intCells l ++ [.int .i64 k])) : w1.ownsRow n0 3 1 v' (l ++ [k]).length (intCells (l ++ [k])) := by
  rw [List.length_append, show intCells (l ++ [k]) = intCells l ++ [.int .i64 k] by simp [intCells]]
  exact ho
set_option maxHeartbeats 2000000 in
theorem fr_fil (qv cv : Value) (qs : List Int) (cs : List Con) (p1b : Nat) (p : Con → Bool) (w : World) (hq : Ints w w.heap.size qv qs) (hc : Cons w w.heap.size cv cs) (hcl : ∀ (c : Con) (W : World), Below w.heap.size w W → Calls Tryd.prog 45 #[.agg #[.int .i64 c.a, .int .i64 c.b, .int .i64 c.s, .int .i64 c.e, .int .i64 c.r, .int .i64 c.g, .int .i64 c.l], .pointer (some ⟨p1b, 0, none⟩)] W fun e W' => e = .returned (.bool (p c)) ∧ Below W.heap.size W W') :
    Calls Tryd.prog 41 #[.agg #[qv, cv], .func (.func 45) #[] #[.pointer (some ⟨p1b, 0, none⟩)]] w (FilPost p qs cs w) := by
  have HCL := Lib.hid hcl
  clear hcl
  have hq0 := hq
  have hc0 := hc
  obtain ⟨A1, c1, rfl, hc1, hm1, _⟩ := hq
  obtain ⟨A2, c2, rfl, hc2, hm2, hA2⟩ := hc
  unfold maxLen at hm1 hm2
  have HA2 := Lib.hid hA2
  clear hA2
  by_cases hE : planE qs cs = 0
  · have HE := Lib.hid hE
    have HL : Hid (filL p qs cs = selL p cs cs.length) := by show _ = _; rw [filL, if_neg (by simp [hE])]
    have hlen := (planE_len hE).2.2
    clear hE
    obtain ⟨i0, hi, hz0, hz1, hz2⟩ := info_parts info3
    have HI : Hid ((Tryd.prog.info? 3 = some i0) ∧ i0.zero = some (.int .i64 0) ∧ i0.size = 1 ∧ i0.bytes = 8) := ⟨hi, hz0, hz1, hz2⟩
    clear hi hz0 hz1 hz2
    go_enter Tryd.func41, Tryd.ntmps41
    go_wp2_with fail
    refine (pcheck_any _ _ qs cs _ ((hq0.below (by (repeat' (first | (with_reducible exact Below.refl _ _) | (with_reducible refine Below.alloc ?_ ?_ _) | (with_reducible refine Below.drew ?_) | (with_reducible refine below_drewN ?_ _) | (with_reducible refine Below.setCell ?_ ?_ _) | (with_reducible refine Below.trans ?_ (Below.mono (by assumption) ?_)) | (with_reducible exact Nat.le_refl _) | omega | (simp; omega) | (simp; done))))).more (by (first | omega | (simp; done) | (simp; omega)))) ((hc0.below (by (repeat' (first | (with_reducible exact Below.refl _ _) | (with_reducible refine Below.alloc ?_ ?_ _) | (with_reducible refine Below.drew ?_) | (with_reducible refine below_drewN ?_ _) | (with_reducible refine Below.setCell ?_ ?_ _) | (with_reducible refine Below.trans ?_ (Below.mono (by assumption) ?_)) | (with_reducible exact Nat.le_refl _) | omega | (simp; omega) | (simp; done))))).more (by (first | omega | (simp; done) | (simp; omega))))).mono ?_
    rw [HE.out]
    rintro e w1 ⟨rfl, hb1⟩
    have hW1 : Below (w.heap.size + 1) (w.alloc (.cells #[.slice A1 qs.length c1, .slice A2 cs.length c2] 25)) w1 := hb1.mono (by simp)
    have hz1 : w.heap.size + 1 ≤ w1.heap.size := Nat.le_trans (by simp) hb1.size
    have q1 : w1.cell? ⟨w.heap.size, 1, none⟩ = some (.slice A2 cs.length c2) := (hW1.cell (p := ⟨w.heap.size, 1, none⟩) (by show w.heap.size < _; omega)).trans (by simp [go_sem])
    clear hb1
    go_wp2_with fail
    go_loopw [5, 14] (fun u i wr => ∃ k : Nat, k ≤ cs.length ∧ i = .int .i64 k ∧ wr.ownsRow (w.heap.size + 1) 3 1 u (selL p cs k).length (intCells (selL p cs k)) ∧ Below (w.heap.size + 1) (w.alloc (.cells #[.slice A1 qs.length c1, .slice A2 cs.length c2] 25)) wr) (fun _ i _ => cs.length - (intOf i).toNat)
    case atStart => exact ⟨0, by omega, rfl, World.ownsRow_nil _ _ _ _, hW1⟩
    case round =>
      obtain ⟨k, hk, rfl, hown, hWr⟩ := hrel
      have hzr : w.heap.size + 1 ≤ wr.heap.size := Nat.le_trans (by simp) hWr.size
      have hBr : Below w.heap.size w wr := ((Below.refl _ w).alloc (Nat.le_refl _) _).trans (hWr.mono (by omega))
      have hle := selL_len p cs k
      by_cases hlt : k < cs.length
      · obtain ⟨b2, o2, rfl, hb2, hcell2⟩ := HA2.out (by omega)
        have hx := (hcell2 k hlt).below hBr hb2
        have HH : Hid (∀ b : Bool, p (cs.getD k Con.zero) = b → p (cs.getD k Con.zero) = b) := fun b h => h
        clear hcell2
        generalize hd : cs.getD k Con.zero = d at *
        have HD := Lib.hid hd
        clear hd
        obtain ⟨x0, x1, x2, x3, x4, x5, x6⟩ := hx
        cases hp : p d
        · have HP := Lib.hid hp
          have HM : Hid (selL p cs (k + 1) = selL p cs k) := selL_miss (by rw [HD.out]; exact hp)
          clear hp
          go_wp2_with fail
          refine (HCL.out d _ (hBr.alloc (by omega) (.cells #[.int .i64 d.a, .int .i64 d.b, .int .i64 d.s, .int .i64 d.e, .int .i64 d.r, .int .i64 d.g, .int .i64 d.l] 40))).mono ?_
          rw [HP.out]
          rintro e w3 ⟨rfl, hb3⟩
          have hW3 := bt' (hWr.alloc (by omega) (.cells #[.int .i64 d.a, .int .i64 d.b, .int .i64 d.s, .int .i64 d.e, .int .i64 d.r, .int .i64 d.g, .int .i64 d.l] 40)) hb3 (by simp; omega)
          have HO := Lib.hid (own_below (hown.alloc (.cells #[.int .i64 d.a, .int .i64 d.b, .int .i64 d.s, .int .i64 d.e, .int .i64 d.r, .int .i64 d.g, .int .i64 d.l] 40)) hb3)
          clear hb3 hown
          go_wp2_with fail
          go_roundw
          case rel => exact ⟨k + 1, by omega, by go_num, by rw [HM.out]; exact HO.out, hW3⟩
          case measure => simp [intOf]; omega
        · have HP := Lib.hid hp
          have HM : Hid (selL p cs (k + 1) = selL p cs k ++ [(k : Int)]) := selL_hit (by rw [HD.out]; exact hp)
          clear hp
          go_wp2_with fail
          refine (HCL.out d _ (hBr.alloc (by omega) (.cells #[.int .i64 d.a, .int .i64 d.b, .int .i64 d.s, .int .i64 d.e, .int .i64 d.r, .int .i64 d.g, .int .i64 d.l] 40))).mono ?_
          rw [HP.out]
          rintro e w3 ⟨rfl, hb3⟩
          have hW3 := bt' (hWr.alloc (by omega) (.cells #[.int .i64 d.a, .int .i64 d.b, .int .i64 d.s, .int .i64 d.e, .int .i64 d.r, .int .i64 d.g, .int .i64 d.l] 40)) hb3 (by simp; omega)
          have hz3 : w.heap.size + 1 ≤ w3.heap.size := Nat.le_trans (by simp) hW3.size
          have hown3 := own_below (hown.alloc (.cells #[.int .i64 d.a, .int .i64 d.b, .int .i64 d.s, .int .i64 d.e, .int .i64 d.r, .int .i64 d.g, .int .i64 d.l] 40)) hb3
          clear hb3 hown
          go_wp2_with (at_builtin; refine wpList_append_own _ rfl _ _ 22 rfl (w.heap.size + 1) 3 i0 (.int .i64 0) 1 8 Tryd.underlying22 HI.out.1 HI.out.2.1 HI.out.2.2.1 HI.out.2.2.2 rfl (by decide) _ _ _ rfl (hown3.alloc _) ⟨w3.heap.size, 0, none⟩ 1 1 [.int .i64 (k : Int)] rfl rfl ?c1 ?c2 ?c3 ?c4 ?c5 ?_)
          case c1 => exact cell_one_new _ _ _
          case c2 => simp [Value.oneCell']
          case c3 => unfold maxLen; omega
          case c4 => omega
          case c5 => simp; omega
          intro v' w4 hown' hgrow _
          have HO := Lib.hid (own_hit hown')
          have hW4 := Below.grown (hW3.alloc hz3 _) hgrow (by simp; omega) (fun j e => (hown3.lt j e).1)
          clear hown' hgrow hown3
          go_wp2_with fail
          go_roundw
          case rel => exact ⟨k + 1, by omega, by go_num, by rw [HM.out]; exact HO.out, hW4⟩
          case measure => simp [intOf]; omega
      · have hkk : Hid (k = cs.length) := by show _ = _; omega
        have HO := Lib.hid hown
        clear hown
        go_wp2_with fail
        go_ret
        refine ⟨_, rfl, ?_, hBr⟩
        rw [HL.out, ← hkk.out]
        exact ints_of_own HO.out
  · have HL : Hid (filL p qs cs = []) := by show _ = _; rw [filL, if_pos hE]
    have hEb : (planE qs cs != 0) = true := by simpa using hE
    clear hE
    go_enter Tryd.func41, Tryd.ntmps41
    go_wp2_with fail
    refine (pcheck_any _ _ qs cs _ ((hq0.below (by (repeat' (first | (with_reducible exact Below.refl _ _) | (with_reducible refine Below.alloc ?_ ?_ _) | (with_reducible refine Below.drew ?_) | (with_reducible refine below_drewN ?_ _) | (with_reducible refine Below.setCell ?_ ?_ _) | (with_reducible refine Below.trans ?_ (Below.mono (by assumption) ?_)) | (with_reducible exact Nat.le_refl _) | omega | (simp; omega) | (simp; done))))).more (by (first | omega | (simp; done) | (simp; omega)))) ((hc0.below (by (repeat' (first | (with_reducible exact Below.refl _ _) | (with_reducible refine Below.alloc ?_ ?_ _) | (with_reducible refine Below.drew ?_) | (with_reducible refine below_drewN ?_ _) | (with_reducible refine Below.setCell ?_ ?_ _) | (with_reducible refine Below.trans ?_ (Below.mono (by assumption) ?_)) | (with_reducible exact Nat.le_refl _) | omega | (simp; omega) | (simp; done))))).more (by (first | omega | (simp; done) | (simp; omega))))).mono ?_
    rintro e w1 ⟨rfl, hb1⟩
    go_wp2_with fail
    go_ret
    exact ⟨_, rfl, by rw [HL.out]; exact ints_nil _ _, by (repeat' (first | (with_reducible exact Below.refl _ _) | (with_reducible refine Below.alloc ?_ ?_ _) | (with_reducible refine Below.drew ?_) | (with_reducible refine below_drewN ?_ _) | (with_reducible refine Below.setCell ?_ ?_ _) | (with_reducible refine Below.trans ?_ (Below.mono (by assumption) ?_)) | (with_reducible exact Nat.le_refl _) | omega | (simp; omega) | (simp; done)))⟩
set_option maxHeartbeats 2000000 in
theorem be_fil (qv cv : Value) (qs : List Int) (cs : List Con) (p1b p2b : Nat) (p : Con → Bool) (w : World) (hq : Ints w w.heap.size qv qs) (hc : Cons w w.heap.size cv cs) (hcl : ∀ (c : Con) (W : World), Below w.heap.size w W → Calls Tryd.prog 46 #[.agg #[.int .i64 c.a, .int .i64 c.b, .int .i64 c.s, .int .i64 c.e, .int .i64 c.r, .int .i64 c.g, .int .i64 c.l], .pointer (some ⟨p1b, 0, none⟩), .pointer (some ⟨p2b, 0, none⟩)] W fun e W' => e = .returned (.bool (p c)) ∧ Below W.heap.size W W') :
    Calls Tryd.prog 41 #[.agg #[qv, cv], .func (.func 46) #[] #[.pointer (some ⟨p1b, 0, none⟩), .pointer (some ⟨p2b, 0, none⟩)]] w (FilPost p qs cs w) := by
  have HCL := Lib.hid hcl
  clear hcl
  have hq0 := hq
  have hc0 := hc
  obtain ⟨A1, c1, rfl, hc1, hm1, _⟩ := hq
  obtain ⟨A2, c2, rfl, hc2, hm2, hA2⟩ := hc
  unfold maxLen at hm1 hm2
  have HA2 := Lib.hid hA2
  clear hA2
  by_cases hE : planE qs cs = 0
  · have HE := Lib.hid hE
    have HL : Hid (filL p qs cs = selL p cs cs.length) := by show _ = _; rw [filL, if_neg (by simp [hE])]
    have hlen := (planE_len hE).2.2
    clear hE
    obtain ⟨i0, hi, hz0, hz1, hz2⟩ := info_parts info3
    have HI : Hid ((Tryd.prog.info? 3 = some i0) ∧ i0.zero = some (.int .i64 0) ∧ i0.size = 1 ∧ i0.bytes = 8) := ⟨hi, hz0, hz1, hz2⟩
    clear hi hz0 hz1 hz2
    go_enter Tryd.func41, Tryd.ntmps41
    go_wp2_with fail
    refine (pcheck_any _ _ qs cs _ ((hq0.below (by (repeat' (first | (with_reducible exact Below.refl _ _) | (with_reducible refine Below.alloc ?_ ?_ _) | (with_reducible refine Below.drew ?_) | (with_reducible refine below_drewN ?_ _) | (with_reducible refine Below.setCell ?_ ?_ _) | (with_reducible refine Below.trans ?_ (Below.mono (by assumption) ?_)) | (with_reducible exact Nat.le_refl _) | omega | (simp; omega) | (simp; done))))).more (by (first | omega | (simp; done) | (simp; omega)))) ((hc0.below (by (repeat' (first | (with_reducible exact Below.refl _ _) | (with_reducible refine Below.alloc ?_ ?_ _) | (with_reducible refine Below.drew ?_) | (with_reducible refine below_drewN ?_ _) | (with_reducible refine Below.setCell ?_ ?_ _) | (with_reducible refine Below.trans ?_ (Below.mono (by assumption) ?_)) | (with_reducible exact Nat.le_refl _) | omega | (simp; omega) | (simp; done))))).more (by (first | omega | (simp; done) | (simp; omega))))).mono ?_
    rw [HE.out]
    rintro e w1 ⟨rfl, hb1⟩
    have hW1 : Below (w.heap.size + 1) (w.alloc (.cells #[.slice A1 qs.length c1, .slice A2 cs.length c2] 25)) w1 := hb1.mono (by simp)
    have hz1 : w.heap.size + 1 ≤ w1.heap.size := Nat.le_trans (by simp) hb1.size
    have q1 : w1.cell? ⟨w.heap.size, 1, none⟩ = some (.slice A2 cs.length c2) := (hW1.cell (p := ⟨w.heap.size, 1, none⟩) (by show w.heap.size < _; omega)).trans (by simp [go_sem])
    clear hb1
    go_wp2_with fail
    go_loopw [5, 14] (fun u i wr => ∃ k : Nat, k ≤ cs.length ∧ i = .int .i64 k ∧ wr.ownsRow (w.heap.size + 1) 3 1 u (selL p cs k).length (intCells (selL p cs k)) ∧ Below (w.heap.size + 1) (w.alloc (.cells #[.slice A1 qs.length c1, .slice A2 cs.length c2] 25)) wr) (fun _ i _ => cs.length - (intOf i).toNat)
    case atStart => exact ⟨0, by omega, rfl, World.ownsRow_nil _ _ _ _, hW1⟩
    case round =>
      obtain ⟨k, hk, rfl, hown, hWr⟩ := hrel
      have hzr : w.heap.size + 1 ≤ wr.heap.size := Nat.le_trans (by simp) hWr.size
      have hBr : Below w.heap.size w wr := ((Below.refl _ w).alloc (Nat.le_refl _) _).trans (hWr.mono (by omega))
      have hle := selL_len p cs k
      by_cases hlt : k < cs.length
      · obtain ⟨b2, o2, rfl, hb2, hcell2⟩ := HA2.out (by omega)
        have hx := (hcell2 k hlt).below hBr hb2
        have HH : Hid (∀ b : Bool, p (cs.getD k Con.zero) = b → p (cs.getD k Con.zero) = b) := fun b h => h
        clear hcell2
        generalize hd : cs.getD k Con.zero = d at *
        have HD := Lib.hid hd
        clear hd
        obtain ⟨x0, x1, x2, x3, x4, x5, x6⟩ := hx
        cases hp : p d
        · have HP := Lib.hid hp
          have HM : Hid (selL p cs (k + 1) = selL p cs k) := selL_miss (by rw [HD.out]; exact hp)
          clear hp
          go_wp2_with fail
          refine (HCL.out d _ (hBr.alloc (by omega) (.cells #[.int .i64 d.a, .int .i64 d.b, .int .i64 d.s, .int .i64 d.e, .int .i64 d.r, .int .i64 d.g, .int .i64 d.l] 40))).mono ?_
          rw [HP.out]
          rintro e w3 ⟨rfl, hb3⟩
          have hW3 := bt' (hWr.alloc (by omega) (.cells #[.int .i64 d.a, .int .i64 d.b, .int .i64 d.s, .int .i64 d.e, .int .i64 d.r, .int .i64 d.g, .int .i64 d.l] 40)) hb3 (by simp; omega)
          have HO := Lib.hid (own_below (hown.alloc (.cells #[.int .i64 d.a, .int .i64 d.b, .int .i64 d.s, .int .i64 d.e, .int .i64 d.r, .int .i64 d.g, .int .i64 d.l] 40)) hb3)
          clear hb3 hown
          go_wp2_with fail
          go_roundw
          case rel => exact ⟨k + 1, by omega, by go_num, by rw [HM.out]; exact HO.out, hW3⟩
          case measure => simp [intOf]; omega
        · have HP := Lib.hid hp
          have HM : Hid (selL p cs (k + 1) = selL p cs k ++ [(k : Int)]) := selL_hit (by rw [HD.out]; exact hp)
          clear hp
          go_wp2_with fail
          refine (HCL.out d _ (hBr.alloc (by omega) (.cells #[.int .i64 d.a, .int .i64 d.b, .int .i64 d.s, .int .i64 d.e, .int .i64 d.r, .int .i64 d.g, .int .i64 d.l] 40))).mono ?_
          rw [HP.out]
          rintro e w3 ⟨rfl, hb3⟩
          have hW3 := bt' (hWr.alloc (by omega) (.cells #[.int .i64 d.a, .int .i64 d.b, .int .i64 d.s, .int .i64 d.e, .int .i64 d.r, .int .i64 d.g, .int .i64 d.l] 40)) hb3 (by simp; omega)
          have hz3 : w.heap.size + 1 ≤ w3.heap.size := Nat.le_trans (by simp) hW3.size
          have hown3 := own_below (hown.alloc (.cells #[.int .i64 d.a, .int .i64 d.b, .int .i64 d.s, .int .i64 d.e, .int .i64 d.r, .int .i64 d.g, .int .i64 d.l] 40)) hb3
          clear hb3 hown
          go_wp2_with (at_builtin; refine wpList_append_own _ rfl _ _ 22 rfl (w.heap.size + 1) 3 i0 (.int .i64 0) 1 8 Tryd.underlying22 HI.out.1 HI.out.2.1 HI.out.2.2.1 HI.out.2.2.2 rfl (by decide) _ _ _ rfl (hown3.alloc _) ⟨w3.heap.size, 0, none⟩ 1 1 [.int .i64 (k : Int)] rfl rfl ?c1 ?c2 ?c3 ?c4 ?c5 ?_)
          case c1 => exact cell_one_new _ _ _
          case c2 => simp [Value.oneCell']
          case c3 => unfold maxLen; omega
          case c4 => omega
          case c5 => simp; omega
          intro v' w4 hown' hgrow _
          have HO := Lib.hid (own_hit hown')
          have hW4 := Below.grown (hW3.alloc hz3 _) hgrow (by simp; omega) (fun j e => (hown3.lt j e).1)
          clear hown' hgrow hown3
          go_wp2_with fail
          go_roundw
          case rel => exact ⟨k + 1, by omega, by go_num, by rw [HM.out]; exact HO.out, hW4⟩
          case measure => simp [intOf]; omega
      · have hkk : Hid (k = cs.length) := by show _ = _; omega
        have HO := Lib.hid hown
        clear hown
        go_wp2_with fail
        go_ret
        refine ⟨_, rfl, ?_, hBr⟩
        rw [HL.out, ← hkk.out]
        exact ints_of_own HO.out
  · have HL : Hid (filL p qs cs = []) := by show _ = _; rw [filL, if_pos hE]
    have hEb : (planE qs cs != 0) = true := by simpa using hE
    clear hE
    go_enter Tryd.func41, Tryd.ntmps41
    go_wp2_with fail
    refine (pcheck_any _ _ qs cs _ ((hq0.below (by (repeat' (first | (with_reducible exact Below.refl _ _) | (with_reducible refine Below.alloc ?_ ?_ _) | (with_reducible refine Below.drew ?_) | (with_reducible refine below_drewN ?_ _) | (with_reducible refine Below.setCell ?_ ?_ _) | (with_reducible refine Below.trans ?_ (Below.mono (by assumption) ?_)) | (with_reducible exact Nat.le_refl _) | omega | (simp; omega) | (simp; done))))).more (by (first | omega | (simp; done) | (simp; omega)))) ((hc0.below (by (repeat' (first | (with_reducible exact Below.refl _ _) | (with_reducible refine Below.alloc ?_ ?_ _) | (with_reducible refine Below.drew ?_) | (with_reducible refine below_drewN ?_ _) | (with_reducible refine Below.setCell ?_ ?_ _) | (with_reducible refine Below.trans ?_ (Below.mono (by assumption) ?_)) | (with_reducible exact Nat.le_refl _) | omega | (simp; omega) | (simp; done))))).more (by (first | omega | (simp; done) | (simp; omega))))).mono ?_
    rintro e w1 ⟨rfl, hb1⟩
    go_wp2_with fail
    go_ret
    exact ⟨_, rfl, by rw [HL.out]; exact ints_nil _ _, by (repeat' (first | (with_reducible exact Below.refl _ _) | (with_reducible refine Below.alloc ?_ ?_ _) | (with_reducible refine Below.drew ?_) | (with_reducible refine below_drewN ?_ _) | (with_reducible refine Below.setCell ?_ ?_ _) | (with_reducible refine Below.trans ?_ (Below.mono (by assumption) ?_)) | (with_reducible exact Nat.le_refl _) | omega | (simp; omega) | (simp; done)))⟩
set_option maxHeartbeats 2000000 in
theorem ac_fil (qv cv : Value) (qs : List Int) (cs : List Con) (p1b : Nat) (p : Con → Bool) (w : World) (hq : Ints w w.heap.size qv qs) (hc : Cons w w.heap.size cv cs) (hcl : ∀ (c : Con) (W : World), Below w.heap.size w W → Calls Tryd.prog 42 #[.agg #[.int .i64 c.a, .int .i64 c.b, .int .i64 c.s, .int .i64 c.e, .int .i64 c.r, .int .i64 c.g, .int .i64 c.l], .pointer (some ⟨p1b, 0, none⟩)] W fun e W' => e = .returned (.bool (p c)) ∧ Below W.heap.size W W') :
    Calls Tryd.prog 41 #[.agg #[qv, cv], .func (.func 42) #[] #[.pointer (some ⟨p1b, 0, none⟩)]] w (FilPost p qs cs w) := by
  have HCL := Lib.hid hcl
  clear hcl
  have hq0 := hq
  have hc0 := hc
  obtain ⟨A1, c1, rfl, hc1, hm1, _⟩ := hq
  obtain ⟨A2, c2, rfl, hc2, hm2, hA2⟩ := hc
  unfold maxLen at hm1 hm2
  have HA2 := Lib.hid hA2
  clear hA2
  by_cases hE : planE qs cs = 0
  · have HE := Lib.hid hE
    have HL : Hid (filL p qs cs = selL p cs cs.length) := by show _ = _; rw [filL, if_neg (by simp [hE])]
    have hlen := (planE_len hE).2.2
    clear hE
    obtain ⟨i0, hi, hz0, hz1, hz2⟩ := info_parts info3
    have HI : Hid ((Tryd.prog.info? 3 = some i0) ∧ i0.zero = some (.int .i64 0) ∧ i0.size = 1 ∧ i0.bytes = 8) := ⟨hi, hz0, hz1, hz2⟩
    clear hi hz0 hz1 hz2
    go_enter Tryd.func41, Tryd.ntmps41
    go_wp2_with fail
    refine (pcheck_any _ _ qs cs _ ((hq0.below (by (repeat' (first | (with_reducible exact Below.refl _ _) | (with_reducible refine Below.alloc ?_ ?_ _) | (with_reducible refine Below.drew ?_) | (with_reducible refine below_drewN ?_ _) | (with_reducible refine Below.setCell ?_ ?_ _) | (with_reducible refine Below.trans ?_ (Below.mono (by assumption) ?_)) | (with_reducible exact Nat.le_refl _) | omega | (simp; omega) | (simp; done))))).more (by (first | omega | (simp; done) | (simp; omega)))) ((hc0.below (by (repeat' (first | (with_reducible exact Below.refl _ _) | (with_reducible refine Below.alloc ?_ ?_ _) | (with_reducible refine Below.drew ?_) | (with_reducible refine below_drewN ?_ _) | (with_reducible refine Below.setCell ?_ ?_ _) | (with_reducible refine Below.trans ?_ (Below.mono (by assumption) ?_)) | (with_reducible exact Nat.le_refl _) | omega | (simp; omega) | (simp; done))))).more (by (first | omega | (simp; done) | (simp; omega))))).mono ?_
    rw [HE.out]
    rintro e w1 ⟨rfl, hb1⟩
    have hW1 : Below (w.heap.size + 1) (w.alloc (.cells #[.slice A1 qs.length c1, .slice A2 cs.length c2] 25)) w1 := hb1.mono (by simp)
    have hz1 : w.heap.size + 1 ≤ w1.heap.size := Nat.le_trans (by simp) hb1.size
    have q1 : w1.cell? ⟨w.heap.size, 1, none⟩ = some (.slice A2 cs.length c2) := (hW1.cell (p := ⟨w.heap.size, 1, none⟩) (by show w.heap.size < _; omega)).trans (by simp [go_sem])
    clear hb1
    go_wp2_with fail
    go_loopw [5, 14] (fun u i wr => ∃ k : Nat, k ≤ cs.length ∧ i = .int .i64 k ∧ wr.ownsRow (w.heap.size + 1) 3 1 u (selL p cs k).length (intCells (selL p cs k)) ∧ Below (w.heap.size + 1) (w.alloc (.cells #[.slice A1 qs.length c1, .slice A2 cs.length c2] 25)) wr) (fun _ i _ => cs.length - (intOf i).toNat)
    case atStart => exact ⟨0, by omega, rfl, World.ownsRow_nil _ _ _ _, hW1⟩
    case round =>
      obtain ⟨k, hk, rfl, hown, hWr⟩ := hrel
      have hzr : w.heap.size + 1 ≤ wr.heap.size := Nat.le_trans (by simp) hWr.size
      have hBr : Below w.heap.size w wr := ((Below.refl _ w).alloc (Nat.le_refl _) _).trans (hWr.mono (by omega))
      have hle := selL_len p cs k
      by_cases hlt : k < cs.length
      · obtain ⟨b2, o2, rfl, hb2, hcell2⟩ := HA2.out (by omega)
        have hx := (hcell2 k hlt).below hBr hb2
        have HH : Hid (∀ b : Bool, p (cs.getD k Con.zero) = b → p (cs.getD k Con.zero) = b) := fun b h => h
        clear hcell2
        generalize hd : cs.getD k Con.zero = d at *
        have HD := Lib.hid hd
        clear hd
        obtain ⟨x0, x1, x2, x3, x4, x5, x6⟩ := hx
        cases hp : p d
        · have HP := Lib.hid hp
          have HM : Hid (selL p cs (k + 1) = selL p cs k) := selL_miss (by rw [HD.out]; exact hp)
          clear hp
          go_wp2_with fail
          refine (HCL.out d _ (hBr.alloc (by omega) (.cells #[.int .i64 d.a, .int .i64 d.b, .int .i64 d.s, .int .i64 d.e, .int .i64 d.r, .int .i64 d.g, .int .i64 d.l] 40))).mono ?_
          rw [HP.out]
          rintro e w3 ⟨rfl, hb3⟩
          have hW3 := bt' (hWr.alloc (by omega) (.cells #[.int .i64 d.a, .int .i64 d.b, .int .i64 d.s, .int .i64 d.e, .int .i64 d.r, .int .i64 d.g, .int .i64 d.l] 40)) hb3 (by simp; omega)
          have HO := Lib.hid (own_below (hown.alloc (.cells #[.int .i64 d.a, .int .i64 d.b, .int .i64 d.s, .int .i64 d.e, .int .i64 d.r, .int .i64 d.g, .int .i64 d.l] 40)) hb3)
          clear hb3 hown
          go_wp2_with fail
          go_roundw
          case rel => exact ⟨k + 1, by omega, by go_num, by rw [HM.out]; exact HO.out, hW3⟩
          case measure => simp [intOf]; omega
        · have HP := Lib.hid hp
          have HM : Hid (selL p cs (k + 1) = selL p cs k ++ [(k : Int)]) := selL_hit (by rw [HD.out]; exact hp)
          clear hp
          go_wp2_with fail
          refine (HCL.out d _ (hBr.alloc (by omega) (.cells #[.int .i64 d.a, .int .i64 d.b, .int .i64 d.s, .int .i64 d.e, .int .i64 d.r, .int .i64 d.g, .int .i64 d.l] 40))).mono ?_
          rw [HP.out]
          rintro e w3 ⟨rfl, hb3⟩
          have hW3 := bt' (hWr.alloc (by omega) (.cells #[.int .i64 d.a, .int .i64 d.b, .int .i64 d.s, .int .i64 d.e, .int .i64 d.r, .int .i64 d.g, .int .i64 d.l] 40)) hb3 (by simp; omega)
          have hz3 : w.heap.size + 1 ≤ w3.heap.size := Nat.le_trans (by simp) hW3.size
          have hown3 := own_below (hown.alloc (.cells #[.int .i64 d.a, .int .i64 d.b, .int .i64 d.s, .int .i64 d.e, .int .i64 d.r, .int .i64 d.g, .int .i64 d.l] 40)) hb3
          clear hb3 hown
          go_wp2_with (at_builtin; refine wpList_append_own _ rfl _ _ 22 rfl (w.heap.size + 1) 3 i0 (.int .i64 0) 1 8 Tryd.underlying22 HI.out.1 HI.out.2.1 HI.out.2.2.1 HI.out.2.2.2 rfl (by decide) _ _ _ rfl (hown3.alloc _) ⟨w3.heap.size, 0, none⟩ 1 1 [.int .i64 (k : Int)] rfl rfl ?c1 ?c2 ?c3 ?c4 ?c5 ?_)
          case c1 => exact cell_one_new _ _ _
          case c2 => simp [Value.oneCell']
          case c3 => unfold maxLen; omega
          case c4 => omega
          case c5 => simp; omega
          intro v' w4 hown' hgrow _
          have HO := Lib.hid (own_hit hown')
          have hW4 := Below.grown (hW3.alloc hz3 _) hgrow (by simp; omega) (fun j e => (hown3.lt j e).1)
          clear hown' hgrow hown3
          go_wp2_with fail
          go_roundw
          case rel => exact ⟨k + 1, by omega, by go_num, by rw [HM.out]; exact HO.out, hW4⟩
          case measure => simp [intOf]; omega
      · have hkk : Hid (k = cs.length) := by show _ = _; omega
        have HO := Lib.hid hown
        clear hown
        go_wp2_with fail
        go_ret
        refine ⟨_, rfl, ?_, hBr⟩
        rw [HL.out, ← hkk.out]
        exact ints_of_own HO.out
  · have HL : Hid (filL p qs cs = []) := by show _ = _; rw [filL, if_pos hE]
    have hEb : (planE qs cs != 0) = true := by simpa using hE
    clear hE
    go_enter Tryd.func41, Tryd.ntmps41
    go_wp2_with fail
    refine (pcheck_any _ _ qs cs _ ((hq0.below (by (repeat' (first | (with_reducible exact Below.refl _ _) | (with_reducible refine Below.alloc ?_ ?_ _) | (with_reducible refine Below.drew ?_) | (with_reducible refine below_drewN ?_ _) | (with_reducible refine Below.setCell ?_ ?_ _) | (with_reducible refine Below.trans ?_ (Below.mono (by assumption) ?_)) | (with_reducible exact Nat.le_refl _) | omega | (simp; omega) | (simp; done))))).more (by (first | omega | (simp; done) | (simp; omega)))) ((hc0.below (by (repeat' (first | (with_reducible exact Below.refl _ _) | (with_reducible refine Below.alloc ?_ ?_ _) | (with_reducible refine Below.drew ?_) | (with_reducible refine below_drewN ?_ _) | (with_reducible refine Below.setCell ?_ ?_ _) | (with_reducible refine Below.trans ?_ (Below.mono (by assumption) ?_)) | (with_reducible exact Nat.le_refl _) | omega | (simp; omega) | (simp; done))))).more (by (first | omega | (simp; done) | (simp; omega))))).mono ?_
    rintro e w1 ⟨rfl, hb1⟩
    go_wp2_with fail
    go_ret
    exact ⟨_, rfl, by rw [HL.out]; exact ints_nil _ _, by (repeat' (first | (with_reducible exact Below.refl _ _) | (with_reducible refine Below.alloc ?_ ?_ _) | (with_reducible refine Below.drew ?_) | (with_reducible refine below_drewN ?_ _) | (with_reducible refine Below.setCell ?_ ?_ _) | (with_reducible refine Below.trans ?_ (Below.mono (by assumption) ?_)) | (with_reducible exact Nat.le_refl _) | omega | (simp; omega) | (simp; done)))⟩
def fromB (x : Int) (c : Con) : Bool := c.a == x
def betB (x y : Int) (c : Con) : Bool := c.a == x && c.b == y
def actB (t : Int) (c : Con) : Bool := decide (c.s ≤ t) && decide (t < c.e)
theorem from_cl (c : Con) (x : Int) (pb : Nat) (W : World) (h : W.cell? ⟨pb, 0, none⟩ = some (.int .i64 x)) (hlt : pb < W.heap.size) : Calls Tryd.prog 45 #[.agg #[.int .i64 c.a, .int .i64 c.b, .int .i64 c.s, .int .i64 c.e, .int .i64 c.r, .int .i64 c.g, .int .i64 c.l], .pointer (some ⟨pb, 0, none⟩)] W fun e W' => e = .returned (.bool (fromB x c)) ∧ Below W.heap.size W W' := by
  go_enter Tryd.func45, Tryd.ntmps45
  go_wp2_with fail
  go_ret
  exact ⟨rfl, by (repeat' (first | (with_reducible exact Below.refl _ _) | (with_reducible refine Below.alloc ?_ ?_ _) | (with_reducible refine Below.drew ?_) | (with_reducible refine below_drewN ?_ _) | (with_reducible refine Below.setCell ?_ ?_ _) | (with_reducible refine Below.trans ?_ (Below.mono (by assumption) ?_)) | (with_reducible exact Nat.le_refl _) | omega | (simp; omega) | (simp; done)))⟩
theorem bet_cl (c : Con) (x y : Int) (pb pc : Nat) (W : World) (h : W.cell? ⟨pb, 0, none⟩ = some (.int .i64 x)) (h2 : W.cell? ⟨pc, 0, none⟩ = some (.int .i64 y)) (hlt : pb < W.heap.size) (hlt2 : pc < W.heap.size) : Calls Tryd.prog 46 #[.agg #[.int .i64 c.a, .int .i64 c.b, .int .i64 c.s, .int .i64 c.e, .int .i64 c.r, .int .i64 c.g, .int .i64 c.l], .pointer (some ⟨pb, 0, none⟩), .pointer (some ⟨pc, 0, none⟩)] W fun e W' => e = .returned (.bool (betB x y c)) ∧ Below W.heap.size W W' := by
  cases hq : (c.a == x)
  · have HT : Hid (betB x y c = false) := by show _ = _; simp [betB, hq]
    go_enter Tryd.func46, Tryd.ntmps46
    go_wp2_with fail
    go_ret
    exact ⟨by rw [HT.out]; rfl, by (repeat' (first | (with_reducible exact Below.refl _ _) | (with_reducible refine Below.alloc ?_ ?_ _) | (with_reducible refine Below.drew ?_) | (with_reducible refine below_drewN ?_ _) | (with_reducible refine Below.setCell ?_ ?_ _) | (with_reducible refine Below.trans ?_ (Below.mono (by assumption) ?_)) | (with_reducible exact Nat.le_refl _) | omega | (simp; omega) | (simp; done)))⟩
  · have HT : Hid (betB x y c = (c.b == y)) := by show _ = _; simp [betB, hq]
    go_enter Tryd.func46, Tryd.ntmps46
    go_wp2_with fail
    go_ret
    exact ⟨by rw [HT.out]; rfl, by (repeat' (first | (with_reducible exact Below.refl _ _) | (with_reducible refine Below.alloc ?_ ?_ _) | (with_reducible refine Below.drew ?_) | (with_reducible refine below_drewN ?_ _) | (with_reducible refine Below.setCell ?_ ?_ _) | (with_reducible refine Below.trans ?_ (Below.mono (by assumption) ?_)) | (with_reducible exact Nat.le_refl _) | omega | (simp; omega) | (simp; done)))⟩
theorem act_cl (c : Con) (t : Int) (pb : Nat) (W : World) (h : W.cell? ⟨pb, 0, none⟩ = some (.int .i64 t)) (hlt : pb < W.heap.size) : Calls Tryd.prog 42 #[.agg #[.int .i64 c.a, .int .i64 c.b, .int .i64 c.s, .int .i64 c.e, .int .i64 c.r, .int .i64 c.g, .int .i64 c.l], .pointer (some ⟨pb, 0, none⟩)] W fun e W' => e = .returned (.bool (actB t c)) ∧ Below W.heap.size W W' := by
  by_cases hq : c.s ≤ t
  · have HT : Hid (actB t c = decide (t < c.e)) := by show _ = _; simp [actB, hq]
    go_enter Tryd.func42, Tryd.ntmps42
    go_wp2_with fail
    go_ret
    exact ⟨by rw [HT.out]; rfl, by (repeat' (first | (with_reducible exact Below.refl _ _) | (with_reducible refine Below.alloc ?_ ?_ _) | (with_reducible refine Below.drew ?_) | (with_reducible refine below_drewN ?_ _) | (with_reducible refine Below.setCell ?_ ?_ _) | (with_reducible refine Below.trans ?_ (Below.mono (by assumption) ?_)) | (with_reducible exact Nat.le_refl _) | omega | (simp; omega) | (simp; done)))⟩
  · have HT : Hid (actB t c = false) := by show _ = _; simp [actB, hq]
    go_enter Tryd.func42, Tryd.ntmps42
    go_wp2_with fail
    go_ret
    exact ⟨by rw [HT.out]; rfl, by (repeat' (first | (with_reducible exact Below.refl _ _) | (with_reducible refine Below.alloc ?_ ?_ _) | (with_reducible refine Below.drew ?_) | (with_reducible refine below_drewN ?_ _) | (with_reducible refine Below.setCell ?_ ?_ _) | (with_reducible refine Below.trans ?_ (Below.mono (by assumption) ?_)) | (with_reducible exact Nat.le_refl _) | omega | (simp; omega) | (simp; done)))⟩
theorem from_any (qv cv : Value) (qs : List Int) (cs : List Con) (x : Int) (w : World) (hq : Ints w w.heap.size qv qs) (hc : Cons w w.heap.size cv cs) : Calls Tryd.prog 19 #[.agg #[qv, cv], .int .i64 x] w (FilPost (fromB x) qs cs w) := by
  have hq0 := hq
  have hc0 := hc
  obtain ⟨A1, c1, rfl, _⟩ := hq
  obtain ⟨A2, c2, rfl, _⟩ := hc
  go_enter Tryd.func19, Tryd.ntmps19
  go_wp2_with fail
  refine (fr_fil _ _ qs cs (w.heap.size + 1) (fromB x) _ ((hq0.below (by (repeat' (first | (with_reducible exact Below.refl _ _) | (with_reducible refine Below.alloc ?_ ?_ _) | (with_reducible refine Below.drew ?_) | (with_reducible refine below_drewN ?_ _) | (with_reducible refine Below.setCell ?_ ?_ _) | (with_reducible refine Below.trans ?_ (Below.mono (by assumption) ?_)) | (with_reducible exact Nat.le_refl _) | omega | (simp; omega) | (simp; done))))).more (by (first | omega | (simp; done) | (simp; omega)))) ((hc0.below (by (repeat' (first | (with_reducible exact Below.refl _ _) | (with_reducible refine Below.alloc ?_ ?_ _) | (with_reducible refine Below.drew ?_) | (with_reducible refine below_drewN ?_ _) | (with_reducible refine Below.setCell ?_ ?_ _) | (with_reducible refine Below.trans ?_ (Below.mono (by assumption) ?_)) | (with_reducible exact Nat.le_refl _) | omega | (simp; omega) | (simp; done))))).more (by (first | omega | (simp; done) | (simp; omega)))) (fun c W hW => from_cl c x (w.heap.size + 1) W ((hW.cell (p := ⟨w.heap.size + 1, 0, none⟩) (by simp)).trans (by simp [go_sem])) (Nat.lt_of_lt_of_le (by simp) hW.size))).mono ?_
  rintro e w1 ⟨v, rfl, hv, hb1⟩
  go_wp2_with fail
  go_ret
  exact ⟨_, rfl, hv, by (repeat' (first | (with_reducible exact Below.refl _ _) | (with_reducible refine Below.alloc ?_ ?_ _) | (with_reducible refine Below.drew ?_) | (with_reducible refine below_drewN ?_ _) | (with_reducible refine Below.setCell ?_ ?_ _) | (with_reducible refine Below.trans ?_ (Below.mono (by assumption) ?_)) | (with_reducible exact Nat.le_refl _) | omega | (simp; omega) | (simp; done)))⟩
theorem bet_any (qv cv : Value) (qs : List Int) (cs : List Con) (x y : Int) (w : World) (hq : Ints w w.heap.size qv qs) (hc : Cons w w.heap.size cv cs) : Calls Tryd.prog 21 #[.agg #[qv, cv], .int .i64 x, .int .i64 y] w (FilPost (betB x y) qs cs w) := by
  have hq0 := hq
  have hc0 := hc
  obtain ⟨A1, c1, rfl, _⟩ := hq
  obtain ⟨A2, c2, rfl, _⟩ := hc
  go_enter Tryd.func21, Tryd.ntmps21
  go_wp2_with fail
  refine (be_fil _ _ qs cs (w.heap.size + 1) (w.heap.size + 1 + 1) (betB x y) _ ((hq0.below (by (repeat' (first | (with_reducible exact Below.refl _ _) | (with_reducible refine Below.alloc ?_ ?_ _) | (with_reducible refine Below.drew ?_) | (with_reducible refine below_drewN ?_ _) | (with_reducible refine Below.setCell ?_ ?_ _) | (with_reducible refine Below.trans ?_ (Below.mono (by assumption) ?_)) | (with_reducible exact Nat.le_refl _) | omega | (simp; omega) | (simp; done))))).more (by (first | omega | (simp; done) | (simp; omega)))) ((hc0.below (by (repeat' (first | (with_reducible exact Below.refl _ _) | (with_reducible refine Below.alloc ?_ ?_ _) | (with_reducible refine Below.drew ?_) | (with_reducible refine below_drewN ?_ _) | (with_reducible refine Below.setCell ?_ ?_ _) | (with_reducible refine Below.trans ?_ (Below.mono (by assumption) ?_)) | (with_reducible exact Nat.le_refl _) | omega | (simp; omega) | (simp; done))))).more (by (first | omega | (simp; done) | (simp; omega)))) (fun c W hW => bet_cl c x y (w.heap.size + 1) (w.heap.size + 1 + 1) W ((hW.cell (p := ⟨w.heap.size + 1, 0, none⟩) (by simp)).trans (by simp [go_sem])) ((hW.cell (p := ⟨w.heap.size + 1 + 1, 0, none⟩) (by simp)).trans (by simp [go_sem])) (Nat.lt_of_lt_of_le (by simp) hW.size) (Nat.lt_of_lt_of_le (by simp) hW.size))).mono ?_
  rintro e w1 ⟨v, rfl, hv, hb1⟩
  go_wp2_with fail
  go_ret
  exact ⟨_, rfl, hv, by (repeat' (first | (with_reducible exact Below.refl _ _) | (with_reducible refine Below.alloc ?_ ?_ _) | (with_reducible refine Below.drew ?_) | (with_reducible refine below_drewN ?_ _) | (with_reducible refine Below.setCell ?_ ?_ _) | (with_reducible refine Below.trans ?_ (Below.mono (by assumption) ?_)) | (with_reducible exact Nat.le_refl _) | omega | (simp; omega) | (simp; done)))⟩
theorem act_any (qv cv : Value) (qs : List Int) (cs : List Con) (x : Int) (w : World) (hq : Ints w w.heap.size qv qs) (hc : Cons w w.heap.size cv cs) : Calls Tryd.prog 15 #[.agg #[qv, cv], .int .i64 x] w (FilPost (actB x) qs cs w) := by
  have hq0 := hq
  have hc0 := hc
  obtain ⟨A1, c1, rfl, _⟩ := hq
  obtain ⟨A2, c2, rfl, _⟩ := hc
  go_enter Tryd.func15, Tryd.ntmps15
  go_wp2_with fail
  refine (ac_fil _ _ qs cs (w.heap.size + 1) (actB x) _ ((hq0.below (by (repeat' (first | (with_reducible exact Below.refl _ _) | (with_reducible refine Below.alloc ?_ ?_ _) | (with_reducible refine Below.drew ?_) | (with_reducible refine below_drewN ?_ _) | (with_reducible refine Below.setCell ?_ ?_ _) | (with_reducible refine Below.trans ?_ (Below.mono (by assumption) ?_)) | (with_reducible exact Nat.le_refl _) | omega | (simp; omega) | (simp; done))))).more (by (first | omega | (simp; done) | (simp; omega)))) ((hc0.below (by (repeat' (first | (with_reducible exact Below.refl _ _) | (with_reducible refine Below.alloc ?_ ?_ _) | (with_reducible refine Below.drew ?_) | (with_reducible refine below_drewN ?_ _) | (with_reducible refine Below.setCell ?_ ?_ _) | (with_reducible refine Below.trans ?_ (Below.mono (by assumption) ?_)) | (with_reducible exact Nat.le_refl _) | omega | (simp; omega) | (simp; done))))).more (by (first | omega | (simp; done) | (simp; omega)))) (fun c W hW => act_cl c x (w.heap.size + 1) W ((hW.cell (p := ⟨w.heap.size + 1, 0, none⟩) (by simp)).trans (by simp [go_sem])) (Nat.lt_of_lt_of_le (by simp) hW.size))).mono ?_
  rintro e w1 ⟨v, rfl, hv, hb1⟩
  go_wp2_with fail
  go_ret
  exact ⟨_, rfl, hv, by (repeat' (first | (with_reducible exact Below.refl _ _) | (with_reducible refine Below.alloc ?_ ?_ _) | (with_reducible refine Below.drew ?_) | (with_reducible refine below_drewN ?_ _) | (with_reducible refine Below.setCell ?_ ?_ _) | (with_reducible refine Below.trans ?_ (Below.mono (by assumption) ?_)) | (with_reducible exact Nat.le_refl _) | omega | (simp; omega) | (simp; done)))⟩
end Go.Proofs.YtgnlanfpholdaaaDoor

/- Agendas: Add (36). -/
import Derived.Test.YtclkjjdfdndplaaGreatDoorA4
import Derived.Test.YtclkjjdfdndplaaGreatDoorRK
namespace Go.Proofs.YtclkjjdfdndplaaGreatDoor
open Go.RowKit
section
variable {P : Program} {ops : Array Oper} {Q : Exit → Act → World → Prop} {md : Region.Mode} {S : World → Prop} {k : Nat}
theorem wpAnyK_two {i j : Nat} {oi oj : Oper} {fuel : Nat} {listed : Array Bool} {a : Act} {w : World} (hr : Region.ready md ops listed = [i, j]) (hi : ops[i]? = some oi) (hj : ops[j]? = some oj)
    (h1 : ∀ K' : Act → World → Prop, Shut (∀ a w, (i = k ∨ S w) → wpAnyK P md ops Q S k fuel (listed.setIfInBounds i true) a w → K' a w) → if Region.wanted oi (yielded ops a.tmps) = true then Oper.wp P oi a w K' Q else K' (a.put oi.dst undef) w)
    (h2 : ∀ K' : Act → World → Prop, Shut (∀ a w, (j = k ∨ S w) → wpAnyK P md ops Q S k fuel (listed.setIfInBounds j true) a w → K' a w) → if Region.wanted oj (yielded ops a.tmps) = true then Oper.wp P oj a w K' Q else K' (a.put oj.dst undef) w) :
    wpAnyK P md ops Q S k (fuel + 1) listed a w := by
  refine ⟨fun h0 => (by rw [hr] at h0; cases h0), ?_⟩
  rw [hr]
  intro n hn
  rcases List.mem_cons.1 hn with rfl | hn
  · exact wpOp_step hi (fun K' hK => h1 K' (fun a w hS hW => hK a w ⟨hS, hW⟩))
  · rw [List.mem_singleton.1 hn]
    exact wpOp_step hj (fun K' hK => h2 K' (fun a w hS hW => hK a w ⟨hS, hW⟩))
end
/-- the agenda with an event that is not in it -/
def insL (l : List Ev) (x : Ev) : List Ev := l.filter (fun y => evL y x) ++ x :: l.filter (fun y => !evL y x)
theorem pos_take {l : List Ev} {x : Ev} {p : Nat} (h : EvPos l x p) : l.filter (fun y => evL y x) = l.take p ∧ l.filter (fun y => !evL y x) = l.drop p := by
  have a : ∀ y ∈ l.take p, evL y x = true := fun y hy => by
    obtain ⟨i, hi, e⟩ := List.getElem_of_mem hy
    rw [List.length_take] at hi
    have := h.lo i (by omega)
    rw [List.getElem_take] at e
    rw [← e]
    simpa [List.getD, List.getElem?_eq_getElem (show i < l.length by omega)] using this
  have b : ∀ y ∈ l.drop p, evL y x = false := fun y hy => by
    obtain ⟨i, hi, e⟩ := List.getElem_of_mem hy
    rw [List.length_drop] at hi
    have := h.hi (p + i) (by omega) (by omega)
    rw [List.getElem_drop] at e
    rw [← e]
    simpa [List.getD, List.getElem?_eq_getElem (show p + i < l.length by omega)] using this
  have hs : l = l.take p ++ l.drop p := (List.take_append_drop p l).symm
  constructor
  · rw [hs, List.filter_append, List.filter_eq_self.2 a, List.filter_eq_nil_iff.2 (fun y hy => by rw [b y hy]; simp), List.append_nil]
    rw [← hs]
  · rw [hs, List.filter_append, List.filter_eq_nil_iff.2 (fun y hy => by rw [a y hy]; simp), List.filter_eq_self.2 (fun y hy => by rw [b y hy]; rfl), List.nil_append]
    rw [← hs]
theorem pos_ins {l : List Ev} {x : Ev} {p : Nat} (h : EvPos l x p) : l.take p ++ x :: l.drop p = insL l x := by
  rw [insL, (pos_take h).1, (pos_take h).2]
theorem pos_mem {l : List Ev} {x : Ev} {p : Nat} (hl : AgOk l) (h : EvPos l x p) : (p < l.length ∧ l.getD p Ev.zero = x) ↔ x ∈ l := by
  constructor
  · rintro ⟨h1, rfl⟩
    simp [List.getD, List.getElem?_eq_getElem h1]
  · intro hx
    obtain ⟨i, hi, e⟩ := List.getElem_of_mem hx
    have e' : l.getD i Ev.zero = x := by simpa [List.getD, List.getElem?_eq_getElem hi] using e
    rcases Nat.lt_trichotomy i p with hlt | rfl | hgt
    · have := h.lo i hlt
      rw [e', evL_irr] at this; cases this
    · exact ⟨hi, e'⟩
    · have h1 := h.hi p (Nat.le_refl _) (by omega)
      have h2 := asc_all hl hgt hi
      rw [e'] at h2
      rw [h2] at h1; cases h1
def AddPost (l : List Ev) (x : Ev) (w : World) (e : Ending) (w' : World) : Prop := if x ∈ l then ∃ v0, e = .returned (.tuple #[v0, .int .i64 6]) ∧ Below w.heap.size w w' else ∃ v', e = .returned (.tuple #[v', .int .i64 0]) ∧ Evs w' w'.heap.size v' (insL l x) ∧ (∀ k, v'.ownBlock = some k → w.heap.size ≤ k) ∧ Below w.heap.size w w'
set_option maxRecDepth 100000 in
set_option maxHeartbeats 4000000 in
theorem add_any (v : Value) (l : List Ev) (x : Ev) (w : World) (hv : Evs w w.heap.size v l) (hl : AgOk l) (hx : evV x = true) (h9 : l.length < 1000) : Calls Tryz.prog 36 #[v, .agg #[.int .i64 x.t, .int .i64 x.k, .int .i64 x.n]] w (AddPost l x w) := by
  have HV := Lib.hid hv
  obtain ⟨A, c, rfl, hc, hm, -⟩ := hv
  unfold maxLen at hm
  have HL := Lib.hid hl
  have HX := Lib.hid hx
  have q9 : ((l.length : Int) == 1000) = false := by simp; omega
  clear hl hx
  go_enter Tryz.func36, Tryz.ntmps36
  go_wp2_with fail
  have m0 : (w.alloc (.cells #[.int .i64 x.t, .int .i64 x.k, .int .i64 x.n] 49)).cell? ⟨w.heap.size, 0, none⟩ = some (.int .i64 x.t) := by simp [go_sem]
  have m1 : (w.alloc (.cells #[.int .i64 x.t, .int .i64 x.k, .int .i64 x.n] 49)).cell? ⟨w.heap.size, 1, none⟩ = some (.int .i64 x.k) := by simp [go_sem]
  have m2 : (w.alloc (.cells #[.int .i64 x.t, .int .i64 x.k, .int .i64 x.n] 49)).cell? ⟨w.heap.size, 2, none⟩ = some (.int .i64 x.n) := by simp [go_sem]
  have hbw : Below w.heap.size w (w.alloc (.cells #[.int .i64 x.t, .int .i64 x.k, .int .i64 x.n] 49)) := by (repeat' (first | (with_reducible exact Below.refl _ _) | (with_reducible refine Below.alloc ?_ ?_ _) | (with_reducible refine Below.drew ?_) | (with_reducible refine below_drewN ?_ _) | (with_reducible refine Below.setCell ?_ ?_ _) | (with_reducible refine Below.trans ?_ (Below.mono (by assumption) ?_)) | (with_reducible exact Nat.le_refl _) | omega | (simp; omega) | (simp; done)))
  have hsz : w.heap.size < (w.alloc (.cells #[.int .i64 x.t, .int .i64 x.k, .int .i64 x.n] 49)).heap.size := by simp
  generalize w.alloc (.cells #[.int .i64 x.t, .int .i64 x.k, .int .i64 x.n] 49) = v0 at *
  have HV0 := Lib.hid ((HV.out.below hbw).more hbw.size)
  refine (agcheck_ok _ l v0 HV0.out HL.out).mono ?_
  rintro e w1 ⟨rfl, hb1⟩
  have n0 := (hb1.cell (p := ⟨w.heap.size, 0, none⟩) hsz).trans m0
  have n1 := (hb1.cell (p := ⟨w.heap.size, 1, none⟩) hsz).trans m1
  have n2 := (hb1.cell (p := ⟨w.heap.size, 2, none⟩) hsz).trans m2
  have hs1 : w.heap.size < w1.heap.size := Nat.lt_of_lt_of_le hsz hb1.size
  have hB1 := hbw.trans (hb1.mono hbw.size)
  clear m0 m1 m2 hb1 hbw hsz HV0
  go_wp2_with fail
  refine (evalid_ok x HX.out w1).mono ?_
  rintro e w2 ⟨rfl, hb2⟩
  have m0 := (hb2.cell (p := ⟨w.heap.size, 0, none⟩) hs1).trans n0
  have m1 := (hb2.cell (p := ⟨w.heap.size, 1, none⟩) hs1).trans n1
  have m2 := (hb2.cell (p := ⟨w.heap.size, 2, none⟩) hs1).trans n2
  have hs2 : w.heap.size < w2.heap.size := Nat.lt_of_lt_of_le hs1 hb2.size
  have hB2 := hB1.trans (hb2.mono hB1.size)
  clear n0 n1 n2 hb2 hB1 hs1
  have HV2 := Lib.hid ((HV.out.below hB2).more hB2.size)
  go_wp2_with fail
  refine (place_any _ l x w2 HV2.out HL.out).mono ?_
  rintro e w3 ⟨p, hp, rfl, hb3⟩
  have n0 := (hb3.cell (p := ⟨w.heap.size, 0, none⟩) hs2).trans m0
  have n1 := (hb3.cell (p := ⟨w.heap.size, 1, none⟩) hs2).trans m1
  have n2 := (hb3.cell (p := ⟨w.heap.size, 2, none⟩) hs2).trans m2
  have hs3 : w.heap.size < w3.heap.size := Nat.lt_of_lt_of_le hs2 hb3.size
  have hB3 := hB2.trans (hb3.mono hB2.size)
  have HM := Lib.hid (pos_mem HL.out hp)
  have HI := Lib.hid (pos_ins hp)
  have HPL := Lib.hid hp.le
  clear m0 m1 m2 hb3 hB2 hs2 HV2 hp
  by_cases hmem : x ∈ l
  · have qd : decide (p < l.length ∧ l.getD p Ev.zero = x) = true := decide_eq_true (HM.out.2 hmem)
    have HPP : Hid (∀ e w', (e = .returned (.tuple #[.slice none 0 0, .int .i64 6]) ∧ Below w.heap.size w w') → AddPost l x w e w') := fun e w' h => by unfold AddPost; rw [if_pos hmem]; exact ⟨_, h.1, h.2⟩
    rw [qd]
    clear qd HM hmem
    go_wp2_with fail
    refine bodyPost_ret (v := .tuple #[.slice none 0 0, .int .i64 6]) (by simp [results, Tryz.results36, go_sem]) rfl (HPP.out _ _ ⟨rfl, hB3⟩)
  · have qd : decide (p < l.length ∧ l.getD p Ev.zero = x) = false := decide_eq_false (fun h => hmem (HM.out.1 h))
    have HPP : Hid (∀ e w', (∃ v', e = .returned (.tuple #[v', .int .i64 0]) ∧ Evs w' w'.heap.size v' (insL l x) ∧ (∀ k, v'.ownBlock = some k → w.heap.size ≤ k) ∧ Below w.heap.size w w') → AddPost l x w e w') := fun e w' h => by unfold AddPost; rw [if_neg hmem]; exact h
    rw [qd]
    clear qd HM hmem
    have HV3 := Lib.hid ((HV.out.below hB3).more hB3.size)
    clear HV
    go_wp2_with fail
    refine wp_region_last (fun w' => w'.cell? ⟨w.heap.size, 0, none⟩ = some (.int .i64 x.t) ∧ w'.cell? ⟨w.heap.size, 1, none⟩ = some (.int .i64 x.k) ∧ w'.cell? ⟨w.heap.size, 2, none⟩ = some (.int .i64 x.n)) 7 (by kernel_rfl) ⟨n0, n1, n2⟩ (fun hHeld => ?_)
    (refine wpAnyK_take (i := 0) (v := ?_) rfl rfl (by kernel_rfl) (by kernel_rfl) (by kernel_rfl) (by kernel_rfl) (fun _ _ _ h => h) (Or.inl ⟨by kernel_rfl, fun w0 hSw => ?_⟩) hHeld ?_; rotate_left; (focus ((try dsimp only at hSw); (try obtain ⟨s0, s1, s2⟩ := hSw); simp only [List.getElem_toArray, List.getElem_cons_zero]; (first | (go_simp; done) | (go_simp; with_reducible rfl)))); (try simp only [List.getElem_toArray, List.getElem_cons_zero, Act.put, List.setIfInBounds_toArray, List.set_cons_zero, List.set_cons_succ]))
    (refine wpAnyK_take (i := 2) (v := ?_) rfl rfl (by kernel_rfl) (by kernel_rfl) (by kernel_rfl) (by kernel_rfl) (fun _ _ _ h => h) (Or.inl ⟨by kernel_rfl, fun w0 hSw => ?_⟩) hHeld ?_; rotate_left; (focus ((try dsimp only at hSw); (try obtain ⟨s0, s1, s2⟩ := hSw); simp only [List.getElem_toArray, List.getElem_cons_zero, List.getElem_cons_succ]; (first | (go_simp; done) | (go_simp; with_reducible rfl)))); (try simp only [List.getElem_toArray, List.getElem_cons_zero, List.getElem_cons_succ, Act.put, List.setIfInBounds_toArray, List.set_cons_zero, List.set_cons_succ]))
    (refine wpAnyK_take (i := 3) (v := ?_) rfl rfl (by kernel_rfl) (by kernel_rfl) (by kernel_rfl) (by kernel_rfl) (fun _ _ _ h => h) (Or.inl ⟨by kernel_rfl, fun w0 hSw => ?_⟩) hHeld ?_; rotate_left; (focus ((try dsimp only at hSw); (try obtain ⟨s0, s1, s2⟩ := hSw); simp only [List.getElem_toArray, List.getElem_cons_zero, List.getElem_cons_succ]; (first | (go_simp; done) | (go_simp; with_reducible rfl)))); (try simp only [List.getElem_toArray, List.getElem_cons_zero, List.getElem_cons_succ, Act.put, List.setIfInBounds_toArray, List.set_cons_zero, List.set_cons_succ]))
    have HSS : Hid (∀ W, Below w3.heap.size w3 W → W.cell? ⟨w.heap.size, 0, none⟩ = some (.int .i64 x.t) ∧ W.cell? ⟨w.heap.size, 1, none⟩ = some (.int .i64 x.k) ∧ W.cell? ⟨w.heap.size, 2, none⟩ = some (.int .i64 x.n)) := fun W h => ⟨(h.cell (p := ⟨w.heap.size, 0, none⟩) hs3).trans n0, (h.cell (p := ⟨w.heap.size, 1, none⟩) hs3).trans n1, (h.cell (p := ⟨w.heap.size, 2, none⟩) hs3).trans n2⟩
    refine wpAnyK_two (i := 1) (j := 4) (by kernel_rfl) rfl rfl (fun K hK => ?_) (fun K hK => ?_)
    · (try simp only [List.getElem_toArray, List.getElem_cons_zero, List.getElem_cons_succ])
      go_simp
      refine (evclone_any _ l w3.drew w3.heap.size HV3.out (by omega)).mono ?_
      rintro e w4 ⟨v4, rfl, ho4, hb4⟩
      have h4 : Below w3.heap.size w3 w4 := (Below.drew (Below.refl _ _)).trans hb4
      go_wp2_with fail
      refine hK.out _ _ (.inr (HSS.out _ h4)) ?_
      clear hK K
      (try simp only [List.getElem_toArray, List.getElem_cons_zero, List.getElem_cons_succ, Act.put, List.setIfInBounds_toArray, List.set_cons_zero, List.set_cons_succ])
      (refine wpAnyK_one (j := 4) (by kernel_rfl) rfl (fun K hK => ?_); (try simp only [List.getElem_toArray, List.getElem_cons_zero, List.getElem_cons_succ]))
      go_simp
      have h5 : Below w3.heap.size w3 (w4.alloc (.cells #[.int .i64 x.t, .int .i64 x.k, .int .i64 x.n] 49)) := h4.alloc h4.size _
      refine hK.out _ _ (.inr (HSS.out _ h5)) ?_
      clear hK K
      (try simp only [List.getElem_toArray, List.getElem_cons_zero, List.getElem_cons_succ, Act.put, List.setIfInBounds_toArray, List.set_cons_zero, List.set_cons_succ])
      (refine wpAnyK_one (j := 5) (by kernel_rfl) rfl (fun K hK => ?_); (try simp only [List.getElem_toArray, List.getElem_cons_zero, List.getElem_cons_succ]))
      go_simp
      have ho5 : (w4.alloc (.cells #[.int .i64 x.t, .int .i64 x.k, .int .i64 x.n] 49)).ownsRow w3.heap.size 49 3 v4 l.length (evCells l) := World.ownsRow.alloc ho4 _
      refine (evins_any v4 l p HPL.out x w4.heap.size w3.heap.size _ ho5 (by omega) (fun t u ht => ?_) (fun e => ?_) (by simp) (by have := h5.size; exact this)).mono ?_
      · match t, ht with
        | 0, ht => simpa [go_sem, evVals] using ht
        | 1, ht => simpa [go_sem, evVals] using ht
        | 2, ht => simpa [go_sem, evVals] using ht
        | n + 3, ht => simp [evVals] at ht
      · have := (ho4.lt _ e).2
        exact Nat.lt_irrefl _ this
      rintro e w6 ⟨v6, rfl, hv6, hf6, hb6⟩
      have h6 : Below w3.heap.size w3 w6 := h5.trans hb6
      rw [HI.out] at hv6
      have HFIN := Lib.hid (HPP.out _ _ ⟨v6, rfl, hv6, (fun k hk => Nat.le_trans (Nat.le_trans hB3.size (Nat.le_refl _)) (hf6 k hk)), hB3.trans (h6.mono hB3.size)⟩)
      clear hv6 hb6 hf6
      go_wp2_with fail
      refine hK.out _ _ (.inr (HSS.out _ h6)) ?_
      clear hK K
      (try simp only [List.getElem_toArray, List.getElem_cons_zero, List.getElem_cons_succ, Act.put, List.setIfInBounds_toArray, List.set_cons_zero, List.set_cons_succ])
      (refine wpAnyK_one (j := 6) (by kernel_rfl) rfl (fun K hK => ?_); (try simp only [List.getElem_toArray, List.getElem_cons_zero, List.getElem_cons_succ]))
      go_simp
      refine hK.out _ _ (.inr (HSS.out _ h6)) ?_
      clear hK K
      (try simp only [List.getElem_toArray, List.getElem_cons_zero, List.getElem_cons_succ, Act.put, List.setIfInBounds_toArray, List.set_cons_zero, List.set_cons_succ])
      (refine wpAnyK_one (j := 7) (by kernel_rfl) rfl (fun K hK => ?_); (try simp only [List.getElem_toArray, List.getElem_cons_zero, List.getElem_cons_succ]))
      go_simp
      refine hK.out _ _ (.inl rfl) ?_
      clear hK K
      (try simp only [List.getElem_toArray, List.getElem_cons_zero, List.getElem_cons_succ, Act.put, List.setIfInBounds_toArray, List.set_cons_zero, List.set_cons_succ])
      refine wpAnyK_done (by kernel_rfl) ?_ _
      go_wp2_with fail
      refine bodyPost_ret (v := .tuple #[v6, .int .i64 0]) (by simp [results, Tryz.results36, go_sem]) rfl HFIN.out
    · (try simp only [List.getElem_toArray, List.getElem_cons_zero, List.getElem_cons_succ])
      go_simp
      have h4 : Below w3.heap.size w3 (w3.alloc (.cells #[.int .i64 x.t, .int .i64 x.k, .int .i64 x.n] 49)).drew := Below.drew ((Below.refl _ _).alloc (Nat.le_refl _) _)
      have e0 : (w3.alloc (.cells #[.int .i64 x.t, .int .i64 x.k, .int .i64 x.n] 49)).drew.cell? ⟨w3.heap.size, 0, none⟩ = some (.int .i64 x.t) := by simp [go_sem]
      have e1 : (w3.alloc (.cells #[.int .i64 x.t, .int .i64 x.k, .int .i64 x.n] 49)).drew.cell? ⟨w3.heap.size, 1, none⟩ = some (.int .i64 x.k) := by simp [go_sem]
      have e2 : (w3.alloc (.cells #[.int .i64 x.t, .int .i64 x.k, .int .i64 x.n] 49)).drew.cell? ⟨w3.heap.size, 2, none⟩ = some (.int .i64 x.n) := by simp [go_sem]
      have el : w3.heap.size < (w3.alloc (.cells #[.int .i64 x.t, .int .i64 x.k, .int .i64 x.n] 49)).drew.heap.size := by simp
      refine hK.out _ _ (.inr (HSS.out _ h4)) ?_
      clear hK K
      (try simp only [List.getElem_toArray, List.getElem_cons_zero, List.getElem_cons_succ, Act.put, List.setIfInBounds_toArray, List.set_cons_zero, List.set_cons_succ])
      (refine wpAnyK_one (j := 1) (by kernel_rfl) rfl (fun K hK => ?_); (try simp only [List.getElem_toArray, List.getElem_cons_zero, List.getElem_cons_succ]))
      go_simp
      refine (evclone_any _ l (w3.alloc (.cells #[.int .i64 x.t, .int .i64 x.k, .int .i64 x.n] 49)).drew _ ((HV3.out.below h4).more h4.size) (by omega)).mono ?_
      rintro e w5 ⟨v4, rfl, ho4, hb4⟩
      have h5 : Below w3.heap.size w3 w5 := h4.trans (hb4.mono h4.size)
      have i0 := (hb4.cell (p := ⟨w3.heap.size, 0, none⟩) el).trans e0
      have i1 := (hb4.cell (p := ⟨w3.heap.size, 1, none⟩) el).trans e1
      have i2 := (hb4.cell (p := ⟨w3.heap.size, 2, none⟩) el).trans e2
      have el5 : w3.heap.size < w5.heap.size := Nat.lt_of_lt_of_le el hb4.size
      clear e0 e1 e2
      go_wp2_with fail
      refine hK.out _ _ (.inr (HSS.out _ h5)) ?_
      clear hK K
      (try simp only [List.getElem_toArray, List.getElem_cons_zero, List.getElem_cons_succ, Act.put, List.setIfInBounds_toArray, List.set_cons_zero, List.set_cons_succ])
      (refine wpAnyK_one (j := 5) (by kernel_rfl) rfl (fun K hK => ?_); (try simp only [List.getElem_toArray, List.getElem_cons_zero, List.getElem_cons_succ]))
      go_simp
      refine (evins_any v4 l p HPL.out x w3.heap.size (w3.alloc (.cells #[.int .i64 x.t, .int .i64 x.k, .int .i64 x.n] 49)).drew.heap.size _ ho4 (by omega) (fun t u ht => ?_) (fun e => ?_) el5 hb4.size).mono ?_
      · match t, ht with
        | 0, ht => simpa [evVals, ← ht] using i0
        | 1, ht => simpa [evVals, ← ht] using i1
        | 2, ht => simpa [evVals, ← ht] using i2
        | n + 3, ht => simp [evVals] at ht
      · have := (ho4.lt _ e).1
        exact Nat.lt_irrefl _ (Nat.lt_of_lt_of_le el this)
      rintro e w6 ⟨v6, rfl, hv6, hf6, hb6⟩
      have h6 : Below w3.heap.size w3 w6 := h5.trans (hb6.mono h4.size)
      rw [HI.out] at hv6
      have HFIN := Lib.hid (HPP.out _ _ ⟨v6, rfl, hv6, (fun k hk => Nat.le_trans (Nat.le_trans hB3.size h4.size) (hf6 k hk)), hB3.trans (h6.mono hB3.size)⟩)
      clear hv6 hb6 hf6
      go_wp2_with fail
      refine hK.out _ _ (.inr (HSS.out _ h6)) ?_
      clear hK K
      (try simp only [List.getElem_toArray, List.getElem_cons_zero, List.getElem_cons_succ, Act.put, List.setIfInBounds_toArray, List.set_cons_zero, List.set_cons_succ])
      (refine wpAnyK_one (j := 6) (by kernel_rfl) rfl (fun K hK => ?_); (try simp only [List.getElem_toArray, List.getElem_cons_zero, List.getElem_cons_succ]))
      go_simp
      refine hK.out _ _ (.inr (HSS.out _ h6)) ?_
      clear hK K
      (try simp only [List.getElem_toArray, List.getElem_cons_zero, List.getElem_cons_succ, Act.put, List.setIfInBounds_toArray, List.set_cons_zero, List.set_cons_succ])
      (refine wpAnyK_one (j := 7) (by kernel_rfl) rfl (fun K hK => ?_); (try simp only [List.getElem_toArray, List.getElem_cons_zero, List.getElem_cons_succ]))
      go_simp
      refine hK.out _ _ (.inl rfl) ?_
      clear hK K
      (try simp only [List.getElem_toArray, List.getElem_cons_zero, List.getElem_cons_succ, Act.put, List.setIfInBounds_toArray, List.set_cons_zero, List.set_cons_succ])
      refine wpAnyK_done (by kernel_rfl) ?_ _
      go_wp2_with fail
      refine bodyPost_ret (v := .tuple #[v6, .int .i64 0]) (by simp [results, Tryz.results36, go_sem]) rfl HFIN.out
end Go.Proofs.YtclkjjdfdndplaaGreatDoor

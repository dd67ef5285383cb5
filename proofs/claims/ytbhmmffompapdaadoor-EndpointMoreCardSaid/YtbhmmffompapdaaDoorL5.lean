/- Walk of the law EndpointMore. -/
import Derived.Test.YtbhmmffompapdaaDoorR0
import Derived.Test.YtbhmmffompapdaaDoorP1
import Derived.SizedLaws
namespace Go.Proofs.YtbhmmffompapdaaDoor
open Go.RowKit Go.WideShapes Go.ChangeShapes
section
variable {H : Type} {enc : TypeId × Value → H} {w : World} {base : Nat} {held : Bool}
set_option maxRecDepth 100000 in
theorem open_grps_sized {r : Reach} {b0 : Nat} {v : Value} {d : DataW H} {p : List MemPlace} (hv : Value.okWide Tryd.prog w r b0 29 v) (h : DataW.Trod enc Tryd.prog w base (fun _ => true) held 29 v d p) :
    ∃ gs, Grps w w.heap.size v gs ∧ (gs = [] ∨ ∃ elems spare, d = .slice elems spare ∧ elems.length = gs.length) := by
  obtain ⟨gs, hg⟩ := open_grps hv h
  refine ⟨gs, hg, ?_⟩
  obtain ⟨A, c, rfl, _, _, _⟩ := hg
  obtain ⟨fuel, hf⟩ := h
  rcases Deep.open_int_rows Tryd.underlying29 Tryd.underlying31 Tryd.underlying3 Tryd.cells31 Tryd.cells3 hf with ⟨h0, _⟩ | ⟨a, len', cap', A', L, C, Z, h0, _, hl, hm, hx, hr⟩
  · simp [Value.cells] at h0
    exact .inl h0.2.1
  · simp [Value.cells] at h0
    obtain ⟨_, rfl, _⟩ := h0
    refine .inr ⟨_, _, (Prod.mk.inj hx).1, by simp⟩
end
theorem Tryd.bytes31 : Tryd.prog.bytesOf 31 = 24 := by kernel_rfl
theorem len_of {H : Type} {ts : List TypeId} {ds : List (DataW H)} {d : DataW H} {gs : List (List Int)} (h : (DataW.weightsEach Tryd.prog ts ds).all (· ≤ reachBytes) = true) (ht : ts[0]? = some 29) (hd : ds[0]? = some d)
    (hs : gs = [] ∨ ∃ elems spare, d = .slice elems spare ∧ elems.length = gs.length) : gs.length * 24 ≤ 140737488351232 := by
  rcases hs with rfl | ⟨elems, spare, rfl, hl⟩
  · simp
  · have := sized_slice h ht hd Tryd.underlying29
    rw [Tryd.bytes31] at this
    have e : reachBytes = 140737488351232 := rfl
    rw [e] at this
    rw [← hl]
    have h2 : elems.length * 24 ≤ (elems.length + spare.length) * 24 := Nat.mul_le_mul_right _ (by omega)
    omega
/-- the values of a slice of slices -/
def GVals (w : World) (B : Nat) (vals : List Value) (gs : List (List Int)) : Prop := vals.length = gs.length ∧ ∀ j, j < gs.length → ∃ u, vals[j]? = some u ∧ u.oneCell' = true ∧ Ints w B u (gs.getD j [])
theorem Ints.one {w : World} {B : Nat} {v : Value} {xs : List Int} (h : Ints w B v xs) : v.oneCell' = true := by
  obtain ⟨A, c, rfl, _⟩ := h; rfl
theorem GVals.below {w w' : World} {B : Nat} {vals : List Value} {gs : List (List Int)} (h : GVals w B vals gs) (hb : Below B w w') : GVals w' B vals gs :=
  ⟨h.1, fun j hj => by obtain ⟨u, h1, h2, h3⟩ := h.2 j hj; exact ⟨u, h1, h2, h3.below hb⟩⟩
theorem GVals.more {w : World} {B B' : Nat} {vals : List Value} {gs : List (List Int)} (h : GVals w B vals gs) (hb : B ≤ B') : GVals w B' vals gs :=
  ⟨h.1, fun j hj => by obtain ⟨u, h1, h2, h3⟩ := h.2 j hj; exact ⟨u, h1, h2, h3.more hb⟩⟩
theorem GVals.snoc {w : World} {B : Nat} {vals : List Value} {gs : List (List Int)} {v : Value} {xs : List Int} (h : GVals w B vals gs) (hv : Ints w B v xs) : GVals w B (vals ++ [v]) (gs ++ [xs]) := by
  refine ⟨by simp [h.1], fun j hj => ?_⟩
  simp only [List.length_append, List.length_cons, List.length_nil] at hj
  by_cases hl : j < gs.length
  · obtain ⟨u, h1, h2, h3⟩ := h.2 j hl
    refine ⟨u, by rw [List.getElem?_append_left (by rw [h.1]; exact hl)]; exact h1, h2, ?_⟩
    have : (gs ++ [xs]).getD j [] = gs.getD j [] := by simp [List.getD, List.getElem?_append_left hl]
    rw [this]; exact h3
  · have e : j = gs.length := by omega
    subst e
    refine ⟨v, by rw [← h.1]; simp, hv.one, ?_⟩
    have : (gs ++ [xs]).getD gs.length [] = xs := by simp [List.getD]
    rw [this]; exact hv
theorem GVals.of {w : World} {B : Nat} {A : Option Addr} {c : Nat} {gs : List (List Int)} (h : Grps w B (.slice A gs.length c) gs) : ∃ vals, GVals w B vals gs ∧ ∀ b o, A = some ⟨b, o, none⟩ → ∀ j u, vals[j]? = some u → w.cell? ⟨b, o + j, none⟩ = some u := by
  obtain ⟨A', c', e, _, _, hA⟩ := h
  simp only [Value.slice.injEq, true_and] at e
  obtain ⟨rfl, rfl⟩ := e
  by_cases h0 : 0 < gs.length
  · obtain ⟨b, o, rfl, hb, hc⟩ := hA h0
    refine ⟨(List.range gs.length).map fun j => (w.cell? ⟨b, o + j, none⟩).getD undef, ⟨by simp, fun j hj => ?_⟩, fun b' o' e' j u hu => ?_⟩
    · obtain ⟨u, h1, h2⟩ := hc j hj
      exact ⟨u, by simp [hj, h1], h2.one, h2⟩
    · simp only [Option.some.injEq, Addr.mk.injEq, and_true] at e'
      obtain ⟨rfl, rfl⟩ := e'
      have hj : j < gs.length := by
        have := (List.getElem?_eq_some_iff.1 hu).1
        simpa using this
      obtain ⟨u', h1, _⟩ := hc j hj
      simp [hj, h1] at hu
      rw [h1, hu]
  · obtain rfl : gs = [] := by cases gs <;> simp_all
    exact ⟨[], ⟨rfl, fun j hj => by simp at hj⟩, fun b o e j u hu => by simp at hu⟩
theorem grps_of_own {w : World} {base B : Nat} {v : Value} {vals : List Value} {gs : List (List Int)} (h : w.ownsRow base 31 1 v gs.length vals) (hv : GVals w B vals gs) (hB : B ≤ w.heap.size) : Grps w w.heap.size v gs := by
  rcases h.2 with ⟨rfl, h0⟩ | ⟨g, cap, cur, rfl, hb, hg, hn, hm, hs, ht⟩
  · obtain rfl : gs = [] := List.eq_nil_of_length_eq_zero h0
    exact ⟨none, 0, rfl, by simp, by simp [maxLen], fun h => by simp at h⟩
  · refine ⟨_, cap, rfl, hn, hm, fun _ => ⟨g, 0, rfl, (Array.getElem?_eq_some_iff.1 hg).1, fun j hj => ?_⟩⟩
    obtain ⟨u, h1, _, h3⟩ := hv.2 j hj
    have hc := h.cells (g := g) rfl j u h1
    rw [add_eq rfl] at hc
    exact ⟨u, hc, h3.more hB⟩
theorem info31 : (Tryd.prog.info? 31).map (fun i => (i.zero, i.size, i.bytes)) = some (some (.slice none 0 0), 1, 24) := by kernel_rfl
def ClPost (gs : List (List Int)) (vals : List Value) (w : World) (e : Ending) (w' : World) : Prop := ∃ v', e = .returned v' ∧ w'.ownsRow w.heap.size 31 1 v' gs.length vals ∧ Below w.heap.size w w'
set_option maxRecDepth 100000 in
theorem clone_some (a : Addr) (n c : Nat) (gs : List (List Int)) (vals : List Value) (w : World) (hn : n = gs.length) (hv : vals.length = gs.length) (hl : gs.length * 24 ≤ 140737488351232) (hc : ∀ j u, vals[j]? = some u → w.cell? (a.add j) = some u) (h1 : ∀ u ∈ vals, u.oneCell' = true) :
    Calls Tryd.prog 25 #[.slice (some a) n c] w (ClPost gs vals w) := by
  obtain ⟨i0, hi, hz0, hz1, hz2⟩ := info_parts info31
  have HI : Hid ((Tryd.prog.info? 31 = some i0) ∧ i0.zero = some (.slice none 0 0) ∧ i0.size = 1 ∧ i0.bytes = 24) := ⟨hi, hz0, hz1, hz2⟩
  clear hi hz0 hz1 hz2
  have hc' : ∀ (o : Obj) (j : Nat) (u : Value), vals[j]? = some u → (w.alloc o).cell? (a.add j) = some u := fun o j u hu => by
    have := hc j u hu
    rw [World.cell?_alloc_lt _ _ _ (World.block_lt_of_cell? _ _ this)]; exact this
  have HC := Lib.hid hc'
  have H1 := Lib.hid h1
  have HN := Lib.hid hn
  have HV := Lib.hid hv
  have HLE : Hid (n * 24 ≤ 140737488351232) := by show _ ≤ _; omega
  clear hc hc' h1 hn hv hl
  have he : ∀ w, (binOp .eql 29 (.slice (some a) n c) (.slice none 0 0)).run Tryd.prog w = .ok (.bool false) w := fun w => Lib.run_eql_slice_nil (P := Tryd.prog) w 29 31 (some a) n c 0 0 Tryd.underlying29
  go_enter Tryd.func25, Tryd.ntmps25
  go_wp2_with (at_builtin; refine wpList_append_own _ rfl _ _ 29 rfl w.heap.size 31 i0 (.slice none 0 0) 1 24 Tryd.underlying29 HI.out.1 HI.out.2.1 HI.out.2.2.1 HI.out.2.2.2 rfl (by decide) _ _ _ rfl (World.ownsRow_lit (e := 31) (size := 1) w #[] 0 (Nat.le_refl _) (by simp [maxLen]) rfl) a n c vals rfl ?c0 ?c1 ?c2 ?c3 ?c4 ?c5 ?_)
  case c0 => rw [HV.out, HN.out]; simp
  case c1 => exact HC.out _
  case c2 => exact H1.out
  case c3 => have := HLE.out; unfold maxLen; omega
  case c4 => have := HLE.out; omega
  case c5 => simp
  intro v' w1 hown hgrow _
  have HO := Lib.hid hown
  have hB1 : Below w.heap.size w w1 := ((Below.refl _ w).alloc (Nat.le_refl _) _).grown hgrow (by simp) (fun j e => by simp [Value.ownBlock] at e; omega)
  clear hown hgrow
  go_wp2_with fail
  go_ret
  refine ⟨v', rfl, ?_, hB1⟩
  have := HO.out
  rw [HN.out] at this
  exact this
theorem clone_any (v : Value) (gs : List (List Int)) (w : World) (B : Nat) (hg : Grps w B v gs) (hl : gs.length * 24 ≤ 140737488351232) : ∃ vals, GVals w B vals gs ∧ Calls Tryd.prog 25 #[v] w (ClPost gs vals w) := by
  have hg2 := hg
  obtain ⟨A, c, rfl, hc, hm, _⟩ := hg2
  obtain ⟨vals, hv, hcell⟩ := GVals.of hg
  refine ⟨vals, hv, ?_⟩
  obtain ⟨i0, hi, hz0, hz1, hz2⟩ := info_parts info31
  have hone : ∀ u ∈ vals, u.oneCell' = true := fun u hu => by
    obtain ⟨j, hj, rfl⟩ := List.mem_iff_getElem.1 hu
    obtain ⟨u', h1, h2, _⟩ := hv.2 j (by rw [← hv.1]; exact hj)
    rw [List.getElem?_eq_getElem hj] at h1
    cases h1; exact h2
  cases A with
  | none =>
    have h0 : gs = [] := by
      cases gs with
      | nil => rfl
      | cons a t =>
        obtain ⟨A', c', e, _, _, hA⟩ := hg
        obtain ⟨b, o, rfl, _⟩ := hA (by simp)
        simp at e
    subst h0
    obtain rfl : vals = [] := List.eq_nil_of_length_eq_zero hv.1
    refine (Tryd.slices_Clone_nil 0 c w).mono ?_
    rintro e w' ⟨rfl, rfl⟩
    exact ⟨_, rfl, World.ownsRow_nil _ _ _ _, Below.refl _ _⟩
  | some a =>
    have hc2 : ∀ j u, vals[j]? = some u → w.cell? (a.add j) = some u := fun j u hu => by
      have hj : j < gs.length := by rw [← hv.1]; exact (List.getElem?_eq_some_iff.1 hu).1
      obtain ⟨A', c', e, _, _, hA⟩ := hg
      obtain ⟨b, o, rfl, _⟩ := hA (by omega)
      simp only [Value.slice.injEq, true_and, Option.some.injEq] at e
      obtain ⟨rfl, _⟩ := e
      rw [add_eq rfl]
      exact hcell b o rfl j u hu
    exact clone_some a gs.length c gs vals w rfl hv.1 hl hc2 hone
/-- plain: a group that is added -/
theorem grpsE_snoc (xs : List Int) : ∀ gs : List (List Int), grpsE (gs ++ [xs]) = if grpsE gs ≠ 0 then grpsE gs else rowE none xs
  | [] => by
    simp only [List.nil_append, grpsE]
    by_cases h : rowE none xs = 0 <;> simp [h]
  | a :: t => by
    simp only [List.cons_append, grpsE, grpsE_snoc xs t]
    by_cases h : rowE none a = 0 <;> simp [h]
theorem groupsE_init {gs : List (List Int)} {xs : List Int} (h : groupsE (gs ++ [xs]) = 0) : groupsE gs = 0 ∧ gs.length < 8 := by
  have hl := groupsE_len h
  simp only [List.length_append, List.length_cons, List.length_nil] at hl
  unfold groupsE at h ⊢
  rw [if_neg (by simp; omega), grpsE_snoc] at h
  refine ⟨?_, by omega⟩
  rw [if_neg (by omega)]
  split at h
  · rename_i h1; exact absurd h h1
  · rename_i h1; exact Classical.not_not.1 h1
theorem more_own {gs : List (List Int)} {xs : List Int} (h : groupsE (gs ++ [xs]) = 0) : memE (gs ++ [xs]) 2 gs.length = 0 ∧ memL (gs ++ [xs]) 2 gs.length = xs := by
  obtain ⟨_, h8⟩ := groupsE_init h
  have he : epE 2 gs.length = 0 := by
    unfold epE; rw [if_neg (by omega), if_neg (by omega)]
  have h1 : memE (gs ++ [xs]) 2 gs.length = 0 := by
    unfold memE
    rw [if_neg (by simp [h]), if_neg (by simp [he]), if_neg (by omega), if_neg (by simp; omega)]
  refine ⟨h1, ?_⟩
  rw [memL_ok h1, if_neg (by omega)]
  simp [List.getD]
theorem more_other {gs : List (List Int)} {xs : List Int} {k n : Int} (h : groupsE (gs ++ [xs]) = 0) (hm : memE gs k n = 0) : memE (gs ++ [xs]) k n = 0 ∧ memL (gs ++ [xs]) k n = memL gs k n := by
  obtain ⟨h1, h2, h3⟩ := memE_ok hm
  have e : memE (gs ++ [xs]) k n = 0 := by
    unfold memE
    rw [if_neg (by simp [h]), if_neg (by simp [h2])]
    rcases h3 with h3 | ⟨_, h4, h5⟩
    · rw [if_pos h3]
    · rw [if_neg (by omega), if_neg (by simp; omega)]
  refine ⟨e, ?_⟩
  rw [memL_ok e, memL_ok hm]
  by_cases hk : k = 1
  · rw [if_pos hk, if_pos hk]
  · rw [if_neg hk, if_neg hk]
    rcases h3 with h3 | ⟨_, h4, h5⟩
    · exact absurd h3 hk
    · simp [List.getD, List.getElem?_append_left (show n.toNat < gs.length by omega)]
theorem equal_self' (va vb : Value) (a : List Int) (w : World) (B : Nat) (ha : Ints w B va a) (hb : Ints w B vb a) : Calls Tryd.prog 22 #[va, vb] w fun e w' => e = .returned (.bool true) ∧ ∃ q, w' = w.drewN q := by
  have := equal_any va vb a a w B ha hb
  rwa [decide_eq_true rfl] at this
/-- the first statement: more := append(slices.Clone(l), group) -/
theorem Tryd.cells29 : Tryd.prog.cellsOf 29 = 1 := by kernel_rfl
set_option maxRecDepth 100000 in
set_option maxHeartbeats 1000000 in
theorem more_any (v : Value) (gs : List (List Int)) (v1 : Value) (xs : List Int) (k n : Int) (w : World) (hg : Grps w w.heap.size v gs) (hx : Ints w w.heap.size v1 xs) (hl : gs.length * 24 ≤ 140737488351232) :
    Calls Tryd.prog 7 #[v, v1, .agg #[.int .i64 k, .int .i64 n]] w fun e w' => e = .returned (.bool true) ∧ Below w.heap.size w w' := by
  obtain ⟨vals, hv, hcl⟩ := clone_any v gs (w.alloc (.cells #[.int .i64 k, .int .i64 n] 23)) w.heap.size (hg.below (by (repeat' (first | (with_reducible exact Below.refl _ _) | (with_reducible refine Below.alloc ?_ ?_ _) | (with_reducible refine Below.drew ?_) | (with_reducible refine below_drewN ?_ _) | (with_reducible refine Below.setCell ?_ ?_ _) | (with_reducible refine Below.trans ?_ (Below.mono (by assumption) ?_)) | (with_reducible exact Nat.le_refl _) | omega | (simp; omega) | (simp; done))))) hl
  have HCL := Lib.hid hcl
  have HLE := Lib.hid hl
  have hg2 := hg
  obtain ⟨A, c, rfl, hc, hm, _⟩ := hg2
  have hx2 := hx
  obtain ⟨A1, c1, rfl, hc1, hm1, _⟩ := hx2
  obtain ⟨i0, hi, hz0, hz1, hz2⟩ := info_parts info31
  have HI : Hid ((Tryd.prog.info? 31 = some i0) ∧ i0.zero = some (.slice none 0 0) ∧ i0.size = 1 ∧ i0.bytes = 24) := ⟨hi, hz0, hz1, hz2⟩
  clear hi hz0 hz1 hz2 hcl hl
  have hlx : gs.length ≤ 9223372036854775806 := by have := HLE.out; omega
  have HLX := Lib.hid hlx
  unfold maxLen at hm hm1
  clear hlx
  go_enter Tryd.func7, Tryd.ntmps7
  go_wp2_with fail
  refine HCL.out.mono ?_
  rintro e w1 ⟨u, rfl, hown, hb1⟩
  have hz1 : w.heap.size + 1 ≤ w1.heap.size := Nat.le_trans (by (first | omega | (simp; done) | (simp; omega))) hb1.size
  have hk1 := bc (B := w.heap.size + 1) hb1 (by (first | omega | (simp; done) | (simp; omega)))
  have hB1 : Below w.heap.size w w1 := by (repeat' (first | (with_reducible exact Below.refl _ _) | (with_reducible refine Below.alloc ?_ ?_ _) | (with_reducible refine Below.drew ?_) | (with_reducible refine below_drewN ?_ _) | (with_reducible refine Below.setCell ?_ ?_ _) | (with_reducible refine Below.trans ?_ (Below.mono (by assumption) ?_)) | (with_reducible exact Nat.le_refl _) | omega | (simp; omega) | (simp; done)))
  have c0 : w1.cell? ⟨w.heap.size, 0, none⟩ = some (.int .i64 k) := by simp [*, go_sem]
  have d0 : w1.cell? ⟨w.heap.size, 1, none⟩ = some (.int .i64 n) := by simp [*, go_sem]
  have hv1 := Lib.hid (hv.below (w' := w1) (hb1.mono (by simp)))
  have hx1 := Lib.hid (hx.below hB1)
  have hg1 := Lib.hid (hg.below hB1)
  simp only [World.size_alloc] at hown
  clear hb1 hk1 hg hx hv
  go_wp2_with (at_builtin; refine wpList_append_own _ rfl _ _ 29 rfl (w.heap.size + 1) 31 i0 (.slice none 0 0) 1 24 Tryd.underlying29 HI.out.1 HI.out.2.1 HI.out.2.2.1 HI.out.2.2.2 rfl (by decide) _ _ _ rfl (hown.alloc _) ⟨w1.heap.size, 0, none⟩ 1 1 [.slice A1 xs.length c1] rfl rfl ?c1 ?c2 ?c3 ?c4 ?c5 ?_)
  case c1 => exact cell_one_new _ _ _
  case c2 => simp [Value.oneCell']
  case c3 => have := HLE.out; unfold maxLen; omega
  case c4 => have := HLE.out; omega
  case c5 => simp; omega
  intro v' w2 hown' hgrow _
  have hB2 : Below (w.heap.size + 1) w1 w2 := ((Below.refl _ w1).alloc hz1 _).grown hgrow (by simp; omega) (fun j e => (hown.lt j e).1)
  have hz2 : w1.heap.size + 1 ≤ w2.heap.size := Nat.le_trans (by simp) hgrow.size
  have c2 : w2.cell? ⟨w.heap.size, 0, none⟩ = some (.int .i64 k) := (hB2.cell (p := ⟨w.heap.size, 0, none⟩) (by show w.heap.size < _; omega)).trans c0
  have d2 : w2.cell? ⟨w.heap.size, 1, none⟩ = some (.int .i64 n) := (hB2.cell (p := ⟨w.heap.size, 1, none⟩) (by show w.heap.size < _; omega)).trans d0
  have hx2 := Lib.hid (hx1.out.below (hB2.mono (by omega)))
  have hg2 := Lib.hid (hg1.out.below (hB2.mono (by omega)))
  have hG : Grps w2 w2.heap.size v' (gs ++ [xs]) := grps_of_own (by simpa using hown') ((hv1.out.below (hB2.mono (by omega))).snoc hx2.out) (by omega)
  have hBw : Below w.heap.size w w2 := hB1.trans (hB2.mono (by omega))
  clear hown' hgrow hown c0 d0 hB2 hB1 hv1 hx1 hg1
  have hzw : w.heap.size < w2.heap.size := by omega
  clear hz1 hz2
  cases hgr : greatB (gs ++ [xs])
  · have HGR := Lib.hid hgr
    clear hgr
    by_cases hge : groupsE (gs ++ [xs]) = 0
    · obtain ⟨o1, o2⟩ := more_own hge
      have O1 := Lib.hid o1
      have O2 := Lib.hid o2
      have HGE := Lib.hid hge
      clear o1 o2
      go_wp2_with fail
      refine (great_any _ _ _ _ hG).mono ?_
      rw [HGR.out]
      rintro e w3 ⟨rfl, rfl⟩
      go_wp2_with fail
      refine (groups_any _ _ _ _ hG).mono ?_
      rw [HGE.out]
      rintro e w3 ⟨rfl, rfl⟩
      go_wp2_with fail
      refine (members_any _ _ _ _ _ hG).mono ?_
      rintro e w4 ⟨u4, rfl, hu4, hb4⟩
      rw [O1.out]
      rw [O2.out] at hu4
      have hz4 : w2.heap.size ≤ w4.heap.size := hb4.size
      have c4 := (hb4.cell (p := ⟨w.heap.size, 0, none⟩) hzw).trans c2
      have d4 := (hb4.cell (p := ⟨w.heap.size, 1, none⟩) hzw).trans d2
      go_wp2_with fail
      refine (members_any _ gs _ _ _ ((hg2.out.below (hb4.mono (by omega))).more (by omega))).mono ?_
      rintro e w5 ⟨u5, rfl, hu5, hb5⟩
      have hz5 : w4.heap.size ≤ w5.heap.size := hb5.size
      have c5 := (hb5.cell (p := ⟨w.heap.size, 0, none⟩) (show w.heap.size < w4.heap.size by omega)).trans c4
      have d5 := (hb5.cell (p := ⟨w.heap.size, 1, none⟩) (show w.heap.size < w4.heap.size by omega)).trans d4
      have hb45 : Below w2.heap.size w2 w5 := hb4.trans (hb5.mono (by omega))
      go_wp2_with fail
      refine (members_any _ (gs ++ [xs]) _ _ _ ((hG.below hb45).more (by omega))).mono ?_
      rintro e w6 ⟨u6, rfl, hu6, hb6⟩
      have hz6 : w5.heap.size ≤ w6.heap.size := hb6.size
      have hb46 : Below w2.heap.size w2 w6 := hb45.trans (hb6.mono (by omega))
      by_cases hm0 : memE gs k n = 0
      · obtain ⟨p1, p2⟩ := more_other hge hm0
        rw [p1]
        rw [p2] at hu6
        have HM0 := Lib.hid hm0
        rw [HM0.out]
        clear p1 p2 hm0 hge
        go_wp2_with fail
        refine (equal_self' _ _ xs _ w6.heap.size (((hu4.below (hb5.trans (hb6.mono (by omega)))).more (by omega))) ((hx2.out.below (hb46.mono (by omega))).more (by omega))).mono ?_
        rintro e w7 ⟨rfl, q, rfl⟩
        go_wp2_with fail
        refine (equal_self' _ _ (memL gs k n) _ w6.heap.size ((hu5.below (hb6.trans (below_drewN (Below.refl _ _) _))).more (by omega)) (hu6.below (below_drewN (Below.refl _ _) _))).mono ?_
        rintro e w8 ⟨rfl, q2, rfl⟩
        go_wp2_with fail
        refine (awake_any _).mono ?_
        rintro e w9 ⟨rfl, hb9⟩
        go_wp2_with fail
        go_ret
        exact ⟨rfl, hBw.trans ((hb46.mono (by omega)).trans ((below_drewN (Below.refl _ _) _).trans (hb9.mono (by simp; omega))))⟩
      · have h5 : (memE gs k n != 0) = true := by simpa using hm0
        clear hm0 hge
        go_wp2_with fail
        refine (equal_self' _ _ xs _ w6.heap.size (((hu4.below (hb5.trans (hb6.mono (by omega)))).more (by omega))) ((hx2.out.below (hb46.mono (by omega))).more (by omega))).mono ?_
        rintro e w7 ⟨rfl, q, rfl⟩
        go_wp2_with fail
        refine (awake_any _).mono ?_
        rintro e w9 ⟨rfl, hb9⟩
        go_wp2_with fail
        go_ret
        exact ⟨rfl, hBw.trans ((hb46.mono (by omega)).trans ((below_drewN (Below.refl _ _) _).trans (hb9.mono (by simp; omega))))⟩
    · have h5 : (groupsE (gs ++ [xs]) != 0) = true := by simpa using hge
      clear hge
      go_wp2_with fail
      refine (great_any _ _ _ _ hG).mono ?_
      rw [HGR.out]
      rintro e w3 ⟨rfl, rfl⟩
      go_wp2_with fail
      refine (groups_any _ _ _ _ hG).mono ?_
      rintro e w3 ⟨rfl, rfl⟩
      go_wp2_with fail
      refine (awake_any _).mono ?_
      rintro e w9 ⟨rfl, hb9⟩
      go_wp2_with fail
      go_ret
      exact ⟨rfl, hBw.trans (hb9.mono (by omega))⟩
  · have HGR := Lib.hid hgr
    clear hgr
    go_wp2_with fail
    refine (great_any _ _ _ _ hG).mono ?_
    rw [HGR.out]
    rintro e w3 ⟨rfl, rfl⟩
    go_wp2_with fail
    refine (awake_any _).mono ?_
    rintro e w9 ⟨rfl, hb9⟩
    go_wp2_with fail
    go_ret
    exact ⟨rfl, hBw.trans (hb9.mono (by omega))⟩
end Go.Proofs.YtbhmmffompapdaaDoor

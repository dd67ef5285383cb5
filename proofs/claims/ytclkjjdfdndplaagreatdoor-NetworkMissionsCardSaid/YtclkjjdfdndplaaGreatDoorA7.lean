/- The reference's Add (37); events put into the agenda of a network (19, 22); node.New (18, 21); ledger.New (17, 20). -/
import Derived.Test.YtclkjjdfdndplaaGreatDoorA6
import Derived.Test.YtclkjjdfdndplaaGreatDoorF5
namespace Go.Proofs.YtclkjjdfdndplaaGreatDoor
open Go.RowKit
set_option maxRecDepth 100000 in
set_option maxHeartbeats 4000000 in
theorem radd_any (v : Value) (l : List Ev) (x : Ev) (w : World) (hv : Evs w w.heap.size v l) (hl : AgOk l) (hx : evV x = true) (h9 : l.length < 1000) : Calls Tryz.prog 37 #[v, .agg #[.int .i64 x.t, .int .i64 x.k, .int .i64 x.n]] w (AddPost l x w) := by
  have HV := Lib.hid hv
  obtain ⟨A, c, rfl, hc, hm, -⟩ := hv
  unfold maxLen at hm
  have HL := Lib.hid hl
  have HX := Lib.hid hx
  have q9 : ((l.length : Int) == 1000) = false := by simp; omega
  clear hl hx
  go_enter Tryz.func37, Tryz.ntmps37
  go_wp2_with fail
  have m0 : (w.alloc (.cells #[.int .i64 x.t, .int .i64 x.k, .int .i64 x.n] 49)).cell? ⟨w.heap.size, 0, none⟩ = some (.int .i64 x.t) := by simp [go_sem]
  have m1 : (w.alloc (.cells #[.int .i64 x.t, .int .i64 x.k, .int .i64 x.n] 49)).cell? ⟨w.heap.size, 1, none⟩ = some (.int .i64 x.k) := by simp [go_sem]
  have m2 : (w.alloc (.cells #[.int .i64 x.t, .int .i64 x.k, .int .i64 x.n] 49)).cell? ⟨w.heap.size, 2, none⟩ = some (.int .i64 x.n) := by simp [go_sem]
  have hbw : Below w.heap.size w (w.alloc (.cells #[.int .i64 x.t, .int .i64 x.k, .int .i64 x.n] 49)) := by (repeat' (first | (with_reducible exact Below.refl _ _) | (with_reducible refine Below.alloc ?_ ?_ _) | (with_reducible refine Below.drew ?_) | (with_reducible refine below_drewN ?_ _) | (with_reducible refine Below.setCell ?_ ?_ _) | (with_reducible refine Below.trans ?_ (Below.mono (by assumption) ?_)) | (with_reducible exact Nat.le_refl _) | omega | (simp; omega) | (simp; done)))
  have hsz : w.heap.size < (w.alloc (.cells #[.int .i64 x.t, .int .i64 x.k, .int .i64 x.n] 49)).heap.size := by simp
  generalize w.alloc (.cells #[.int .i64 x.t, .int .i64 x.k, .int .i64 x.n] 49) = v0 at *
  refine (ragcheck_ok _ l v0 ((HV.out.below hbw).more hbw.size) HL.out).mono ?_
  rintro e w1 ⟨rfl, hb1⟩
  have n0 := (hb1.cell (p := ⟨w.heap.size, 0, none⟩) hsz).trans m0
  have n1 := (hb1.cell (p := ⟨w.heap.size, 1, none⟩) hsz).trans m1
  have n2 := (hb1.cell (p := ⟨w.heap.size, 2, none⟩) hsz).trans m2
  have hs1 : w.heap.size < w1.heap.size := Nat.lt_of_lt_of_le hsz hb1.size
  have hB1 := hbw.trans (hb1.mono hbw.size)
  clear m0 m1 m2 hb1 hbw hsz
  go_wp2_with fail
  refine (revalid_ok x HX.out w1).mono ?_
  rintro e w2 ⟨rfl, hb2⟩
  have m0 := (hb2.cell (p := ⟨w.heap.size, 0, none⟩) hs1).trans n0
  have m1 := (hb2.cell (p := ⟨w.heap.size, 1, none⟩) hs1).trans n1
  have m2 := (hb2.cell (p := ⟨w.heap.size, 2, none⟩) hs1).trans n2
  have hs2 : w.heap.size < w2.heap.size := Nat.lt_of_lt_of_le hs1 hb2.size
  have hB2 := hB1.trans (hb2.mono hB1.size)
  clear n0 n1 n2 hb2 hB1 hs1
  have HV2 := Lib.hid ((HV.out.below hB2).more hB2.size)
  go_wp2_with fail
  refine (rhas_any _ l x w2 HV2.out).mono ?_
  rintro e w3 ⟨rfl, hb3⟩
  have n0 := (hb3.cell (p := ⟨w.heap.size, 0, none⟩) hs2).trans m0
  have n1 := (hb3.cell (p := ⟨w.heap.size, 1, none⟩) hs2).trans m1
  have n2 := (hb3.cell (p := ⟨w.heap.size, 2, none⟩) hs2).trans m2
  have hs3 : w.heap.size < w3.heap.size := Nat.lt_of_lt_of_le hs2 hb3.size
  have hB3 := hB2.trans (hb3.mono hB2.size)
  clear m0 m1 m2 hb3 hB2 hs2 HV2
  by_cases hmem : x ∈ l
  · have qd : decide (x ∈ l) = true := decide_eq_true hmem
    have HPP : Hid (∀ e w' v0, (e = .returned (.tuple #[v0, .int .i64 6]) ∧ Below w.heap.size w w') → AddPost l x w e w') := fun e w' v0 h => by unfold AddPost; rw [if_pos hmem]; exact ⟨v0, h.1, h.2⟩
    rw [qd]
    clear qd hmem
    go_wp2_with fail
    refine bodyPost_ret (v := .tuple #[.slice (some ⟨w3.heap.size, 0, none⟩) 0 0, .int .i64 6]) (by simp [results, Tryz.results37, go_sem]) rfl (HPP.out _ _ _ ⟨rfl, by (repeat' (first | (with_reducible exact Below.refl _ _) | (with_reducible refine Below.alloc ?_ ?_ _) | (with_reducible refine Below.drew ?_) | (with_reducible refine below_drewN ?_ _) | (with_reducible refine Below.setCell ?_ ?_ _) | (with_reducible refine Below.trans ?_ (Below.mono (by assumption) ?_)) | (with_reducible exact Nat.le_refl _) | omega | (simp; omega) | (simp; done)))⟩)
  · have qd : decide (x ∈ l) = false := decide_eq_false hmem
    have HPP : Hid (∀ e w', (∃ v', e = .returned (.tuple #[v', .int .i64 0]) ∧ Evs w' w'.heap.size v' (insL l x) ∧ (∀ k, v'.ownBlock = some k → w.heap.size ≤ k) ∧ Below w.heap.size w w') → AddPost l x w e w') := fun e w' h => by unfold AddPost; rw [if_neg hmem]; exact h
    have HMM := Lib.hid hmem
    rw [qd]
    clear qd hmem
    have HV3 := Lib.hid ((HV.out.below hB3).more hB3.size)
    clear HV
    go_wp2_with fail
    refine (rins_any _ l x w3 HV3.out HL.out HMM.out).mono ?_
    rintro e w4 ⟨v4, rfl, hv4, hf4, hb4⟩
    have HFIN := Lib.hid (HPP.out _ _ ⟨v4, rfl, hv4, (fun k hk => Nat.le_trans hB3.size (hf4 k hk)), hB3.trans (hb4.mono hB3.size)⟩)
    clear hv4 hb4 hf4
    go_wp2_with fail
    refine bodyPost_ret (v := .tuple #[v4, .int .i64 0]) (by simp [results, Tryz.results37, go_sem]) rfl HFIN.out
/-- what stood below B stands, but for the block pb -/
structure Frb (B pb : Nat) (w w' : World) : Prop where
  os : w'.os = w.os
  tape : w'.tape = w.tape
  output : w'.output = w.output
  size : w.heap.size ≤ w'.heap.size
  block : ∀ k, k < B → k ≠ pb → w'.heap[k]? = w.heap[k]?
theorem Frb.refl (B pb : Nat) (w : World) : Frb B pb w w := ⟨rfl, rfl, rfl, Nat.le_refl _, fun _ _ _ => rfl⟩
theorem Frb.trans {B pb : Nat} {w w1 w2 : World} (h : Frb B pb w w1) (k : Frb B pb w1 w2) : Frb B pb w w2 :=
  ⟨k.os.trans h.os, k.tape.trans h.tape, k.output.trans h.output, Nat.le_trans h.size k.size, fun j hj hn => (k.block j hj hn).trans (h.block j hj hn)⟩
theorem Frb.less {B B' pb : Nat} {w w' : World} (h : Frb B pb w w') (hB : B' ≤ B) : Frb B' pb w w' := ⟨h.os, h.tape, h.output, h.size, fun k hk hn => h.block k (by omega) hn⟩
theorem Frb.of_below {B pb : Nat} {w w' : World} (h : Below B w w') : Frb B pb w w' := ⟨h.os, h.tape, h.output, h.size, fun k hk _ => h.block k hk⟩
theorem Frb.below {pb B B' : Nat} {w0 w w' : World} (h : Frb B' pb w w') (hb : Below B w0 w) (h1 : B ≤ pb) (h2 : B ≤ B') : Below B w0 w' :=
  ⟨h.os.trans hb.os, h.tape.trans hb.tape, h.output.trans hb.output, Nat.le_trans hb.size h.size, fun k hk => (h.block k (by omega) (by omega)).trans (hb.block k hk)⟩
abbrev Fr (pb : Nat) (w w' : World) : Prop := Frb w.heap.size pb w w'
theorem heap_set {w : World} {g i : Nat} {cs : Array Value} {t : TypeId} (h : w.heap[g]? = some (.cells cs t (0, 0))) (v : Value) : (w.setCell ⟨g, i, none⟩ v).heap[g]? = some (.cells (cs.setIfInBounds i v) t (0, 0)) := by
  simp [World.setCell, Array.getElem?_modify, h]
theorem cell_blk {w : World} {g : Nat} {cs : Array Value} {t : TypeId} (h : w.heap[g]? = some (.cells cs t (0, 0))) (i : Nat) : w.cell? ⟨g, i, none⟩ = cs[i]? := Eng.World.cell_of h i
theorem frozen_blk {w : World} {g : Nat} {cs : Array Value} {t : TypeId} (h : w.heap[g]? = some (.cells cs t (0, 0))) (i : Nat) : w.frozen? ⟨g, i, none⟩ = false := by simp [World.frozen?, h]
theorem blk_lt {w : World} {g : Nat} {o : Obj} (h : w.heap[g]? = some o) : g < w.heap.size := (Array.getElem?_eq_some_iff.1 h).1
theorem frb_setCell (B : Nat) (w : World) (pb i : Nat) (v : Value) : Frb B pb w (w.setCell ⟨pb, i, none⟩ v) := by
  refine ⟨rfl, rfl, rfl, by simp, fun k _ hn => ?_⟩
  simp [World.setCell, Array.getElem?_modify, Ne.symm hn]
/-- the slice lies behind a block -/
def Aft (pb : Nat) (v : Value) : Prop := ∀ k, v.ownBlock = some k → pb < k
/-- the slice lies elsewhere -/
def NotAt (pb : Nat) (v : Value) : Prop := ∀ k, v.ownBlock = some k → k ≠ pb
theorem Aft.notAt {pb pb' : Nat} {v : Value} (h : Aft pb v) (hp : pb' ≤ pb) : NotAt pb' v := fun k hk e => by have := h k hk; omega
theorem Sl.fr {α : Type} {At : World → Nat → Nat → Nat → α → Prop} {z : α} {st : Nat} {w w' : World} {B pb : Nat} {v : Value} {xs : List α} (h : Sl At z st w B v xs) (hn : NotAt pb v) (_hB : B ≤ w.heap.size) (_hf : Fr pb w w') (hA : ∀ b o x, b < B → b ≠ pb → At w B b o x → At w' B b o x) : Sl At z st w' B v xs := by
  obtain ⟨A, c, rfl, h1, h2, h3⟩ := h
  refine ⟨A, c, rfl, h1, h2, fun hp => ?_⟩
  obtain ⟨b, o, rfl, h4, h5⟩ := h3 hp
  exact ⟨b, o, rfl, h4, fun j hj => hA _ _ _ h4 (hn b rfl) (h5 j hj)⟩
theorem Frb.cell {pb : Nat} {w w' : World} (h : Fr pb w w') {b : Nat} (hb : b < w.heap.size) (hn : b ≠ pb) (o : Nat) : w'.cell? ⟨b, o, none⟩ = w.cell? ⟨b, o, none⟩ := World.cell?_of_block (h.block b hb hn)
theorem Evs.fr {w w' : World} {pb : Nat} {v : Value} {xs : List Ev} (h : Evs w w.heap.size v xs) (hn : NotAt pb v) (hf : Fr pb w w') : Evs w' w'.heap.size v xs :=
  Evs.more (Sl.fr h hn (Nat.le_refl _) hf fun _b _o _x hb hne ⟨h0, h1, h2⟩ => ⟨(hf.cell hb hne _).trans h0, (hf.cell hb hne _).trans h1, (hf.cell hb hne _).trans h2⟩) hf.size
/-- the eighteen cells of a network that is made, and of its picks -/
def mcs (M : Array Value) (VL : Array Value) (VN VE VA : Value) : Array Value := M ++ #[.int .i64 0, .int .i64 0] ++ VL ++ #[VN, VE, .slice none 0 0, VA, .slice none 0 0, .slice none 0 0]
set_option maxRecDepth 100000 in
set_option maxHeartbeats 4000000 in
theorem sched_any (mb : Nat) (a0 a1 a2 a3 a4 a5 a6 a7 a8 a9 a10 a11 a12 a13 a14 VA a16 a17 : Value) (l : List Ev) (t k n : Int) (w : World) (hb : w.heap[mb]? = some (.cells #[a0, a1, a2, a3, a4, a5, a6, a7, a8, a9, a10, a11, a12, a13, a14, VA, a16, a17] 81 (0, 0))) (hv : Evs w w.heap.size VA l) (hn : Aft mb VA) (hl : AgOk l) (hx : evV ⟨t, k, n⟩ = true) (h9 : l.length < 1000) :
    Calls Tryz.prog 19 #[.pointer (some ⟨mb, 0, none⟩), .int .i64 t, .int .i64 k, .int .i64 n] w fun e w' => ∃ V r, e = .returned r ∧ w'.heap[mb]? = some (.cells #[a0, a1, a2, a3, a4, a5, a6, a7, a8, a9, a10, a11, a12, a13, a14, V, a16, a17] 81 (0, 0)) ∧ Evs w' w'.heap.size V (addL l ⟨t, k, n⟩) ∧ Aft mb V ∧ Fr mb w w' := by
  have hc := cell_blk hb 15
  have HB := Lib.hid hb
  have hlt := blk_lt hb
  have HN := Lib.hid hn
  have HV := Lib.hid hv
  simp only [List.getElem?_toArray, List.getElem?_cons_succ, List.getElem?_cons_zero] at hc
  clear hb hn hv
  go_enter Tryz.func19, Tryz.ntmps19
  go_wp2_with fail
  refine (add_any VA l ⟨t, k, n⟩ w HV.out hl hx h9).mono ?_
  intro e w1 h
  unfold AddPost at h
  by_cases hm : (⟨t, k, n⟩ : Ev) ∈ l
  · rw [if_pos hm] at h
    obtain ⟨v0, rfl, hb1⟩ := h
    have HA : Hid (addL l ⟨t, k, n⟩ = l) := if_pos hm
    have HF := Lib.hid (Frb.of_below (pb := mb) hb1)
    have HB1 := Lib.hid ((hb1.block mb hlt).trans HB.out)
    clear hb1 hm hc
    go_wp2_with fail
    refine bodyPost_end (results_none rfl _ _ _) rfl ?_
    refine ⟨VA, _, rfl, HB1.out, ?_, HN.out, HF.out⟩
    rw [HA.out]
    exact Evs.fr HV.out (HN.out.notAt (Nat.le_refl _)) HF.out
  · rw [if_neg hm] at h
    obtain ⟨V, rfl, hV, hfV, hb1⟩ := h
    have HA : Hid (addL l ⟨t, k, n⟩ = insL l ⟨t, k, n⟩) := if_neg hm
    have HF := Lib.hid (Frb.of_below (pb := mb) hb1)
    have HB1 := Lib.hid ((hb1.block mb hlt).trans HB.out)
    have HVV := Lib.hid hV
    obtain ⟨A2, c2, rfl, -, -, -⟩ := hV
    have HNV : Hid (Aft mb _) := fun k hk => by have := hfV k hk; omega
    have hc1 := cell_blk HB1.out 15
    have hf1 := frozen_blk HB1.out 15
    have hl1 := blk_lt HB1.out
    simp only [List.getElem?_toArray, List.getElem?_cons_succ, List.getElem?_cons_zero] at hc1
    clear hb1 hm hc hfV
    go_wp2_with fail
    refine bodyPost_end (results_none rfl _ _ _) rfl ?_
    refine ⟨_, _, rfl, ?_, ?_, HNV.out, HF.out.trans (frb_setCell _ w1 mb 15 _)⟩
    · rw [heap_set HB1.out]
      simp
    · rw [HA.out]
      exact Evs.fr HVV.out (HNV.out.notAt (Nat.le_refl _)) (frb_setCell _ w1 mb 15 _)
set_option maxRecDepth 100000 in
set_option maxHeartbeats 4000000 in
theorem at_any (mb : Nat) (a0 a1 a2 a3 a4 a5 a6 a7 a8 a9 a10 a11 a12 a13 a14 VA a16 a17 : Value) (l : List Ev) (t k n : Int) (w : World) (hb : w.heap[mb]? = some (.cells #[a0, a1, a2, a3, a4, a5, a6, a7, a8, a9, a10, a11, a12, a13, a14, VA, a16, a17] 89 (0, 0))) (hv : Evs w w.heap.size VA l) (hn : Aft mb VA) (hl : AgOk l) (hx : evV ⟨t, k, n⟩ = true) (h9 : l.length < 1000) :
    Calls Tryz.prog 22 #[.pointer (some ⟨mb, 0, none⟩), .int .i64 t, .int .i64 k, .int .i64 n] w fun e w' => ∃ V r, e = .returned r ∧ w'.heap[mb]? = some (.cells #[a0, a1, a2, a3, a4, a5, a6, a7, a8, a9, a10, a11, a12, a13, a14, V, a16, a17] 89 (0, 0)) ∧ Evs w' w'.heap.size V (addL l ⟨t, k, n⟩) ∧ Aft mb V ∧ Fr mb w w' := by
  have hc := cell_blk hb 15
  have HB := Lib.hid hb
  have hlt := blk_lt hb
  have HN := Lib.hid hn
  have HV := Lib.hid hv
  simp only [List.getElem?_toArray, List.getElem?_cons_succ, List.getElem?_cons_zero] at hc
  clear hb hn hv
  go_enter Tryz.func22, Tryz.ntmps22
  go_wp2_with fail
  refine (radd_any VA l ⟨t, k, n⟩ w HV.out hl hx h9).mono ?_
  intro e w1 h
  unfold AddPost at h
  by_cases hm : (⟨t, k, n⟩ : Ev) ∈ l
  · rw [if_pos hm] at h
    obtain ⟨v0, rfl, hb1⟩ := h
    have HA : Hid (addL l ⟨t, k, n⟩ = l) := if_pos hm
    have HF := Lib.hid (Frb.of_below (pb := mb) hb1)
    have HB1 := Lib.hid ((hb1.block mb hlt).trans HB.out)
    clear hb1 hm hc
    go_wp2_with fail
    refine bodyPost_end (results_none rfl _ _ _) rfl ?_
    refine ⟨VA, _, rfl, HB1.out, ?_, HN.out, HF.out⟩
    rw [HA.out]
    exact Evs.fr HV.out (HN.out.notAt (Nat.le_refl _)) HF.out
  · rw [if_neg hm] at h
    obtain ⟨V, rfl, hV, hfV, hb1⟩ := h
    have HA : Hid (addL l ⟨t, k, n⟩ = insL l ⟨t, k, n⟩) := if_neg hm
    have HF := Lib.hid (Frb.of_below (pb := mb) hb1)
    have HB1 := Lib.hid ((hb1.block mb hlt).trans HB.out)
    have HVV := Lib.hid hV
    obtain ⟨A2, c2, rfl, -, -, -⟩ := hV
    have HNV : Hid (Aft mb _) := fun k hk => by have := hfV k hk; omega
    have hc1 := cell_blk HB1.out 15
    have hf1 := frozen_blk HB1.out 15
    have hl1 := blk_lt HB1.out
    simp only [List.getElem?_toArray, List.getElem?_cons_succ, List.getElem?_cons_zero] at hc1
    clear hb1 hm hc hfV
    go_wp2_with fail
    refine bodyPost_end (results_none rfl _ _ _) rfl ?_
    refine ⟨_, _, rfl, ?_, ?_, HNV.out, HF.out.trans (frb_setCell _ w1 mb 15 _)⟩
    · rw [heap_set HB1.out]
      simp
    · rw [HA.out]
      exact Evs.fr HVV.out (HNV.out.notAt (Nat.le_refl _)) (frb_setCell _ w1 mb 15 _)
end Go.Proofs.YtclkjjdfdndplaaGreatDoor

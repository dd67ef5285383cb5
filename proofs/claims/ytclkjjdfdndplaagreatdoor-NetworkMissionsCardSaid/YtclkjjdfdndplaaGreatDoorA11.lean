/- The reference's New (7). -/
import Derived.Test.YtclkjjdfdndplaaGreatDoorA10
import Derived.Test.YtclkjjdfdndplaaGreatDoorB3
namespace Go.Proofs.YtclkjjdfdndplaaGreatDoor
open Go.RowKit
set_option maxRecDepth 100000 in
set_option maxHeartbeats 8000000 in
theorem rnew_bad (VQ VC VO VF VX : Value) (m : Mis) (w : World) (hM : MisAt w w.heap.size VQ VC VO VF VX m) (hE : misE m ≠ 0) : Calls Tryz.prog 7 #[.agg #[VQ, VC, VO, VF, VX, .bool m.bd]] w fun e w' => e = .returned (.tuple #[netZ, .int .i64 (misE m)]) ∧ Below w.heap.size w w' := by
  have HM := Lib.hid hM
  have hEb : (misE m != 0) = true := by simpa using hE
  obtain ⟨⟨A1, c1, rfl, -⟩, ⟨A2, c2, rfl, -⟩, ⟨A3, c3, rfl, -⟩, ⟨A4, c4, rfl, -⟩, ⟨A5, c5, rfl, -⟩⟩ := hM
  clear hE
  go_enter Tryz.func7, Tryz.ntmps7
  go_wp2_with fail
  refine (rmis_any _ _ _ _ _ m _ (HM.out.on (by (repeat' (first | (with_reducible exact Below.refl _ _) | (with_reducible refine Below.alloc ?_ ?_ _) | (with_reducible refine Below.drew ?_) | (with_reducible refine below_drewN ?_ _) | (with_reducible refine Below.setCell ?_ ?_ _) | (with_reducible refine Below.trans ?_ (Below.mono (by assumption) ?_)) | (with_reducible exact Nat.le_refl _) | omega | (simp; omega) | (simp; done)))))).mono ?_
  rintro e w1 ⟨rfl, hb1⟩
  generalize hee : misE m = er at *
  have HEE := Lib.hid hee
  clear hee
  have hsz : w.heap.size + 1 + 1 ≤ w1.heap.size := Nat.le_trans (by simp) hb1.size
  have r0 : w1.heap[w.heap.size + 1]? = some (.cells #[.slice none 0 0, .slice none 0 0, .slice none 0 0, .slice none 0 0, .slice none 0 0, .bool false, .int .i64 0, .int .i64 0, .slice none 0 0, .slice none 0 0, .slice none 0 0, .slice none 0 0, .slice none 0 0, .slice none 0 0, .slice none 0 0, .slice none 0 0, .slice none 0 0] 42 (0, 0)) := (hb1.block (w.heap.size + 1) (by simp)).trans (by rw [← show (w.alloc (.cells #[.slice A1 m.q.length c1, .slice A2 m.cs.length c2, .slice A3 m.os.length c3, .slice A4 m.fs.length c4, .slice A5 m.xs.length c5, .bool m.bd] 30)).heap.size = w.heap.size + 1 by simp]; exact heap_alloc_last _ _)
  have hB : Below w.heap.size w w1 := by (repeat' (first | (with_reducible exact Below.refl _ _) | (with_reducible refine Below.alloc ?_ ?_ _) | (with_reducible refine Below.drew ?_) | (with_reducible refine below_drewN ?_ _) | (with_reducible refine Below.setCell ?_ ?_ _) | (with_reducible refine Below.trans ?_ (Below.mono (by assumption) ?_)) | (with_reducible exact Nat.le_refl _) | omega | (simp; omega) | (simp; done)))
  clear hb1
  go_wp2_with (refine wpList_store_row rfl 42 (.tmp 2) (.tmp 17) rfl (w.heap.size + 1) #[.slice none 0 0, .slice none 0 0, .slice none 0 0, .slice none 0 0, .slice none 0 0, .bool false, .int .i64 0, .int .i64 0, .slice none 0 0, .slice none 0 0, .slice none 0 0, .slice none 0 0, .slice none 0 0, .slice none 0 0, .slice none 0 0, .slice none 0 0, .slice none 0 0] rfl rfl 42 _ r0 (by kernel_rfl) (by kernel_rfl) (by simp [Value.oneCell']) ?_)
  have HB : Hid (Below w.heap.size w (w1.setRow (w.heap.size + 1) #[.slice none 0 0, .slice none 0 0, .slice none 0 0, .slice none 0 0, .slice none 0 0, .bool false, .int .i64 0, .int .i64 0, .slice none 0 0, .slice none 0 0, .slice none 0 0, .slice none 0 0, .slice none 0 0, .slice none 0 0, .slice none 0 0, .slice none 0 0, .slice none 0 0])) := below_setRow hB (by omega) _
  have hr := setRow_heap w1 (w.heap.size + 1) _ #[.slice none 0 0, .slice none 0 0, .slice none 0 0, .slice none 0 0, .slice none 0 0, .bool false, .int .i64 0, .int .i64 0, .slice none 0 0, .slice none 0 0, .slice none 0 0, .slice none 0 0, .slice none 0 0, .slice none 0 0, .slice none 0 0, .slice none 0 0, .slice none 0 0] 42 (0, 0) r0
  clear r0 hB HM hsz
  have HR := Lib.hid hr
  clear hr
  generalize w1.setRow (w.heap.size + 1) #[.slice none 0 0, .slice none 0 0, .slice none 0 0, .slice none 0 0, .slice none 0 0, .bool false, .int .i64 0, .int .i64 0, .slice none 0 0, .slice none 0 0, .slice none 0 0, .slice none 0 0, .slice none 0 0, .slice none 0 0, .slice none 0 0, .slice none 0 0, .slice none 0 0] = w2 at *
  go_wp2_with fail
  exact bodyPost_ret (results_row_tmp rfl _ _ _ (w.heap.size + 1) 42 #[.slice none 0 0, .slice none 0 0, .slice none 0 0, .slice none 0 0, .slice none 0 0, .bool false, .int .i64 0, .int .i64 0, .slice none 0 0, .slice none 0 0, .slice none 0 0, .slice none 0 0, .slice none 0 0, .slice none 0 0, .slice none 0 0, .slice none 0 0, .slice none 0 0] (0, 0) _ rfl HR.out Tryz.underlying42 rfl (by kernel_rfl) _ rfl) rfl ⟨by rw [HEE.out]; rfl, HB.out⟩
theorem own_ne_own {w : World} {B B' : Nat} {e e' : TypeId} {size size' : Nat} {v u : Value} {n n' : Nat} {xs ys : List Value} (h : w.ownsRow B e size v n xs) (h' : w.ownsRow B' e' size' u n' ys) (he : e ≠ e') : v.ownBlock = none ∨ v.ownBlock ≠ u.ownBlock := by
  rcases h.2 with ⟨rfl, _⟩ | ⟨g, cap, cur, rfl, _, hg, _⟩
  · exact .inl rfl
  · rcases h'.2 with ⟨rfl, _⟩ | ⟨g', cap', cur', rfl, _, hg', _⟩
    · exact .inr (fun e => by cases e)
    · refine .inr (fun e1 => ?_)
      have : g = g' := by injection e1
      subst this
      rw [hg] at hg'
      injection hg' with h1
      injection h1 with _ h2 _
      exact he h2
theorem app_zero {ops : Array Oper} {rest : List Oper} {o : Oper} {a : Act} {Q : Exit → Act → World → Prop} (Wp : World) (hgd : o.guard = none) (s x : Operand) (ho : o.op = .call { callee := .builtin .append, args := #[s, x], argTypes := #[22, 22] })
    (base : Nat) (v : Value) (n : Nat) (xs : List Value) (hs : a.eval s = v) (hx : a.eval x = .slice (some ⟨Wp.heap.size, 0, none⟩) 1 1) (hown : Wp.ownsRow base 3 1 v n xs) (hl : n ≤ 70000) (hbase : base ≤ Wp.heap.size)
    (h : ∀ g c w', w'.ownsRow base 3 1 (.slice (some ⟨g, 0, none⟩) (n + 1) c) (n + 1) (xs ++ [.int .i64 0]) → (Wp.alloc (.cells #[.int .i64 0] 3)).grownBy w' v.ownBlock →
      wpList Tryz.prog ops Q rest (a.put o.dst (.slice (some ⟨g, 0, none⟩) (n + 1) c)) w') : wpList Tryz.prog ops Q (o :: rest) a (Wp.alloc (.cells #[.int .i64 0] 3)) := by
  obtain ⟨i0, hi, hz0, hz1, hz2⟩ : ∃ i0, Tryz.prog.info? 3 = some i0 ∧ i0.zero = some (.int .i64 0) ∧ i0.size = 1 ∧ i0.bytes = 8 := by
    have h : (Tryz.prog.info? 3).map (fun i => (i.zero, i.size, i.bytes)) = some (some (.int .i64 0), 1, 8) := by kernel_rfl
    obtain ⟨j, hj, hjs⟩ := Option.map_eq_some_iff.1 h
    injection hjs with hz hjs; injection hjs with hs hby
    exact ⟨j, hj, hz, hs, hby⟩
  refine wpList_append_own_at _ hgd s x 22 ho base 3 i0 _ 1 8 Tryz.underlying22 hi hz0 hz1 hz2 rfl (by decide) v n xs hs (hown.alloc _) ⟨Wp.heap.size, 0, none⟩ 1 1 [.int .i64 0] hx rfl (World.news_of_block (heap_alloc_last Wp _)) (by simp [Value.oneCell']) (by unfold maxLen; omega) (by omega) (by simp; omega) ?_
  intro v' w' hown' hgrow _ hat
  obtain ⟨g, c, rfl⟩ := own_shape hown' (by omega)
  exact h g c w' hown' hgrow
set_option maxRecDepth 100000 in
set_option maxHeartbeats 16000000 in
theorem rnew_ok (VQ VC VO VF VX : Value) (m : Mis) (w : World) (hM : MisAt w w.heap.size VQ VC VO VF VX m) (hE : misE m = 0) : Calls Tryz.prog 7 #[.agg #[VQ, VC, VO, VF, VX, .bool m.bd]] w fun e w' => ∃ VN VE VA, e = .returned (.tuple #[netV VQ VC VO VF VX m.bd VN VE VA, .int .i64 0]) ∧ Nds w' w'.heap.size VN m.q ∧ Ints w' w'.heap.size VE (List.replicate m.q.length 0) ∧ Evs w' w'.heap.size VA (agL m) ∧ Below w.heap.size w w' := by
  have HM := Lib.hid hM
  have HK := Lib.hid (mis_ok1 hE)
  have HE := Lib.hid hE
  obtain ⟨⟨A1, c1, rfl, hc1, hm1, -⟩, ⟨A2, c2, rfl, hc2, hm2, -⟩, ⟨A3, c3, rfl, hc3, hm3, -⟩, ⟨A4, c4, rfl, hc4, hm4, -⟩, ⟨A5, c5, rfl, -⟩⟩ := hM
  unfold maxLen at hm1 hm2 hm3 hm4
  have hn1 := HK.out.nq
  clear hE
  go_enter Tryz.func7, Tryz.ntmps7
  go_wp2_with fail
  refine (rmis_any _ _ _ _ _ m _ (HM.out.on (by (repeat' (first | (with_reducible exact Below.refl _ _) | (with_reducible refine Below.alloc ?_ ?_ _) | (with_reducible refine Below.drew ?_) | (with_reducible refine below_drewN ?_ _) | (with_reducible refine Below.setCell ?_ ?_ _) | (with_reducible refine Below.trans ?_ (Below.mono (by assumption) ?_)) | (with_reducible exact Nat.le_refl _) | omega | (simp; omega) | (simp; done)))))).mono ?_
  rw [HE.out]
  rintro e w1 ⟨rfl, hb1⟩
  have hs1 : w.heap.size + 1 + 1 ≤ w1.heap.size := Nat.le_trans (by simp) hb1.size
  have r0 : w1.heap[w.heap.size]? = some (.cells #[.slice A1 m.q.length c1, .slice A2 m.cs.length c2, .slice A3 m.os.length c3, .slice A4 m.fs.length c4, .slice A5 m.xs.length c5, .bool m.bd] 30 (0, 0)) := (hb1.block w.heap.size (by simp; omega)).trans ((Below.refl (w.heap.size + 1) _).alloc (by simp) _ |>.block w.heap.size (by omega) |>.trans (heap_alloc_last _ _))
  have r1 : w1.heap[w.heap.size + 1]? = some (.cells #[.slice none 0 0, .slice none 0 0, .slice none 0 0, .slice none 0 0, .slice none 0 0, .bool false, .int .i64 0, .int .i64 0, .slice none 0 0, .slice none 0 0, .slice none 0 0, .slice none 0 0, .slice none 0 0, .slice none 0 0, .slice none 0 0, .slice none 0 0, .slice none 0 0] 42 (0, 0)) := (hb1.block (w.heap.size + 1) (by simp)).trans (by rw [← show (w.alloc (.cells #[.slice A1 m.q.length c1, .slice A2 m.cs.length c2, .slice A3 m.os.length c3, .slice A4 m.fs.length c4, .slice A5 m.xs.length c5, .bool m.bd] 30)).heap.size = w.heap.size + 1 by simp]; exact heap_alloc_last _ _)
  have hB1 : Below w.heap.size w w1 := by (repeat' (first | (with_reducible exact Below.refl _ _) | (with_reducible refine Below.alloc ?_ ?_ _) | (with_reducible refine Below.drew ?_) | (with_reducible refine below_drewN ?_ _) | (with_reducible refine Below.setCell ?_ ?_ _) | (with_reducible refine Below.trans ?_ (Below.mono (by assumption) ?_)) | (with_reducible exact Nat.le_refl _) | omega | (simp; omega) | (simp; done)))
  have m0 := cell_blk r0 0
  have m1 := cell_blk r0 1
  simp only [List.getElem?_toArray, List.getElem?_cons_succ, List.getElem?_cons_zero] at m0 m1
  clear hb1
  have HM1 := Lib.hid (HM.out.on hB1)
  go_wp2_with fail
  refine (rledger_new _ _ m.q m.cs _ HM1.out.q HM1.out.c HK.out.plan).mono ?_
  rintro e w2 ⟨rfl, hb2⟩
  have R0 := Lib.hid ((hb2.block w.heap.size (by omega)).trans r0)
  have R1 := Lib.hid ((hb2.block (w.heap.size + 1) (by omega)).trans r1)
  have hB2 : Below w.heap.size w w2 := hB1.trans (hb2.mono (by omega))
  have hs2 : w.heap.size + 1 + 1 ≤ w2.heap.size := Nat.le_trans hs1 hb2.size
  clear r0 r1 m0 m1 hb2 HM1 hs1 hB1
  have M0 : ∀ i, (w2.alloc (.cells #[.slice A1 m.q.length c1, .slice A2 m.cs.length c2, .slice none 0 0, .slice none 0 0] 36)).cell? ⟨w.heap.size, i, none⟩ = (#[.slice A1 m.q.length c1, .slice A2 m.cs.length c2, .slice A3 m.os.length c3, .slice A4 m.fs.length c4, .slice A5 m.xs.length c5, .bool m.bd] : Array Value)[i]? := fun i => (World.cell?_alloc_lt w2 _ ⟨w.heap.size, i, none⟩ (by show w.heap.size < w2.heap.size; omega)).trans (cell_blk R0.out i)
  have a0 := M0 0
  have a1 := M0 1
  have a2 := M0 2
  have a3 := M0 3
  have a4 := M0 4
  have a5 := M0 5
  simp only [List.getElem?_toArray, List.getElem?_cons_succ, List.getElem?_cons_zero] at a0 a1 a2 a3 a4 a5
  clear M0
  go_wp2_with fail
  have hw3 : (w2.alloc (.cells #[.slice A1 m.q.length c1, .slice A2 m.cs.length c2, .slice none 0 0, .slice none 0 0] 36)).heap.size = w2.heap.size + 1 := by simp
  have hz5 : ((w2.alloc (.cells #[.slice A1 m.q.length c1, .slice A2 m.cs.length c2, .slice none 0 0, .slice none 0 0] 36)).alloc (.cells #[.slice A1 m.q.length c1, .slice A2 m.cs.length c2, .slice A3 m.os.length c3, .slice A4 m.fs.length c4, .slice A5 m.xs.length c5, .bool m.bd, .int .i64 0, .int .i64 0, .slice A1 m.q.length c1, .slice A2 m.cs.length c2, .slice none 0 0, .slice none 0 0, .slice none 0 0, .slice none 0 0, .slice none 0 0, .slice none 0 0, .slice none 0 0, .slice none 0 0] 89)).heap.size = w2.heap.size + 1 + 1 := by simp
  have RM : Hid (((w2.alloc (.cells #[.slice A1 m.q.length c1, .slice A2 m.cs.length c2, .slice none 0 0, .slice none 0 0] 36)).alloc (.cells #[.slice A1 m.q.length c1, .slice A2 m.cs.length c2, .slice A3 m.os.length c3, .slice A4 m.fs.length c4, .slice A5 m.xs.length c5, .bool m.bd, .int .i64 0, .int .i64 0, .slice A1 m.q.length c1, .slice A2 m.cs.length c2, .slice none 0 0, .slice none 0 0, .slice none 0 0, .slice none 0 0, .slice none 0 0, .slice none 0 0, .slice none 0 0, .slice none 0 0] 89)).heap[w2.heap.size + 1]? = some (.cells #[.slice A1 m.q.length c1, .slice A2 m.cs.length c2, .slice A3 m.os.length c3, .slice A4 m.fs.length c4, .slice A5 m.xs.length c5, .bool m.bd, .int .i64 0, .int .i64 0, .slice A1 m.q.length c1, .slice A2 m.cs.length c2, .slice none 0 0, .slice none 0 0, .slice none 0 0, .slice none 0 0, .slice none 0 0, .slice none 0 0, .slice none 0 0, .slice none 0 0] 89 (0, 0))) := by show _ = _; rw [← hw3]; exact heap_alloc_last _ _
  have h5 : Below w2.heap.size w2 ((w2.alloc (.cells #[.slice A1 m.q.length c1, .slice A2 m.cs.length c2, .slice none 0 0, .slice none 0 0] 36)).alloc (.cells #[.slice A1 m.q.length c1, .slice A2 m.cs.length c2, .slice A3 m.os.length c3, .slice A4 m.fs.length c4, .slice A5 m.xs.length c5, .bool m.bd, .int .i64 0, .int .i64 0, .slice A1 m.q.length c1, .slice A2 m.cs.length c2, .slice none 0 0, .slice none 0 0, .slice none 0 0, .slice none 0 0, .slice none 0 0, .slice none 0 0, .slice none 0 0, .slice none 0 0] 89)) := ((Below.refl _ w2).alloc (Nat.le_refl _) _).alloc (by simp) _
  have hB5 : Below w.heap.size w ((w2.alloc (.cells #[.slice A1 m.q.length c1, .slice A2 m.cs.length c2, .slice none 0 0, .slice none 0 0] 36)).alloc (.cells #[.slice A1 m.q.length c1, .slice A2 m.cs.length c2, .slice A3 m.os.length c3, .slice A4 m.fs.length c4, .slice A5 m.xs.length c5, .bool m.bd, .int .i64 0, .int .i64 0, .slice A1 m.q.length c1, .slice A2 m.cs.length c2, .slice none 0 0, .slice none 0 0, .slice none 0 0, .slice none 0 0, .slice none 0 0, .slice none 0 0, .slice none 0 0, .slice none 0 0] 89)) := hB2.trans (h5.mono (by omega))
  have R0' := Lib.hid ((h5.block w.heap.size (by omega)).trans R0.out)
  have R1' := Lib.hid ((h5.block (w.heap.size + 1) (by omega)).trans R1.out)
  clear R0 R1 a0 a1 a2 a3 a4 a5 h5 hw3
  generalize ((w2.alloc (.cells #[.slice A1 m.q.length c1, .slice A2 m.cs.length c2, .slice none 0 0, .slice none 0 0] 36)).alloc (.cells #[.slice A1 m.q.length c1, .slice A2 m.cs.length c2, .slice A3 m.os.length c3, .slice A4 m.fs.length c4, .slice A5 m.xs.length c5, .bool m.bd, .int .i64 0, .int .i64 0, .slice A1 m.q.length c1, .slice A2 m.cs.length c2, .slice none 0 0, .slice none 0 0, .slice none 0 0, .slice none 0 0, .slice none 0 0, .slice none 0 0, .slice none 0 0, .slice none 0 0] 89)) = w5 at *
  have R0 := R0'
  have R1 := R1'
  clear R0' R1'
  have hle : w.heap.size ≤ w2.heap.size + 1 := by omega
  have hlw5 : w.heap.size ≤ w5.heap.size := by omega
  go_loopw [8] (fun i wr => ∃ (k : Nat) (VN VE : Value), k ≤ m.q.length ∧ i = .int .i64 k ∧ wr.heap[w2.heap.size + 1]? = some (.cells #[.slice A1 m.q.length c1, .slice A2 m.cs.length c2, .slice A3 m.os.length c3, .slice A4 m.fs.length c4, .slice A5 m.xs.length c5, .bool m.bd, .int .i64 0, .int .i64 0, .slice A1 m.q.length c1, .slice A2 m.cs.length c2, .slice none 0 0, .slice none 0 0, VN, VE, .slice none 0 0, .slice none 0 0, .slice none 0 0, .slice none 0 0] 89 (0, 0)) ∧ wr.ownsRow w5.heap.size 69 8 VN k (ndCells 0 (m.q.take k)) ∧ wr.ownsRow w5.heap.size 3 1 VE k ((List.replicate k (0 : Int)).map (fun q => .int .i64 q)) ∧ Frb w5.heap.size (w2.heap.size + 1) w5 wr) (fun i _ => m.q.length - (intOf i).toNat)
  case atStart => exact ⟨0, _, _, by omega, rfl, RM.out, World.ownsRow_nil _ _ _ _, World.ownsRow_nil _ _ _ _, Frb.refl _ _ _⟩
  case round =>
    obtain ⟨k, VN, VE, hk, rfl, hrm, hown, howe, hF⟩ := hrel
    have hBw : Below w.heap.size w wr := hF.below hB5 hle hlw5
    have hzr := hF.size
    have hwr : w.heap.size < wr.heap.size := by omega
    have p0 := (hF.cell (b := w.heap.size) (by omega) (by omega) 0).trans (cell_blk R0.out 0)
    simp only [List.getElem?_toArray, List.getElem?_cons_zero] at p0
    by_cases hlt : k < m.q.length
    · obtain ⟨A0, c0, e0, -, -, hA0⟩ := (HM.out.below hBw).q
      obtain ⟨b, o, rfl, hb, hcell⟩ : ∃ b o, A1 = some ⟨b, o, none⟩ ∧ b < w.heap.size ∧ ∀ j, j < m.q.length → wr.cell? ⟨b, o + j, none⟩ = some (.int .i64 (m.q.getD j 0)) := by
        injection e0 with e0
        subst e0
        exact hA0 (by omega)
      have hx := hcell k hlt
      have HQ := Lib.hid (HK.out.qs k hlt)
      have htk : m.q.take (k + 1) = m.q.take k ++ [m.q.getD k 0] := take_get m.q 0 k hlt
      have htl : (m.q.take k).length = k := by rw [List.length_take]; omega
      have HCC : Hid (ndCells 0 (m.q.take (k + 1)) = ndCells 0 (m.q.take k) ++ ndVals k (m.q.getD k 0)) := by show _ = _; rw [htk, ndCells_snoc, htl, Nat.zero_add]
      have HRM := Lib.hid hrm
      have HOW := Lib.hid hown
      have HOE := Lib.hid howe
      clear hcell htk htl e0 hA0 hrm hown howe
      generalize m.q.getD k 0 = q at *
      go_wp2_with fail
      refine (rnode_new k q (by omega) (by omega) HQ.out.1 HQ.out.2 wr).mono ?_
      rintro e w6 ⟨rfl, hb6⟩
      dsimp only [nodeV]
      have hz6 := hb6.size
      go_wp2_with fail
      have hb7 : Below wr.heap.size wr (w6.alloc (.cells (ndVals k q).toArray 69)) := hb6.alloc hz6 _
      have L7 : ∀ i, (w6.alloc (.cells (ndVals k q).toArray 69)).cell? ⟨w6.heap.size, i, none⟩ = (ndVals k q)[i]? := fun i => (cell_blk (heap_alloc_last w6 _) i).trans (by simp)
      have hz7 : w6.heap.size < (w6.alloc (.cells (ndVals k q).toArray 69)).heap.size := by simp
      dsimp only [ndVals] at L7 hb7 hz7
      generalize w6.alloc (.cells _ 69) = w7 at *
      have l0 := L7 0
      have l1 := L7 1
      have l2 := L7 2
      have l3 := L7 3
      have l4 := L7 4
      have l5 := L7 5
      have l6 := L7 6
      have l7 := L7 7
      simp only [List.getElem?_cons_succ, List.getElem?_cons_zero] at l0 l1 l2 l3 l4 l5 l6 l7
      have hmb : (w2.heap.size + 1) < wr.heap.size := blk_lt HRM.out
      have HR7 := Lib.hid ((hb7.block (w2.heap.size + 1) hmb).trans HRM.out)
      have HO7 := Lib.hid (own_below HOW.out hb7)
      have HE7 := Lib.hid (own_below HOE.out hb7)
      obtain ⟨AN, cN, rfl⟩ := own_slice HOW.out
      have y12 := cell_blk HR7.out 12
      simp only [List.getElem?_toArray, List.getElem?_cons_succ, List.getElem?_cons_zero] at y12
      have HOL : Hid (∀ j, (Value.slice AN k cN).ownBlock = some j → w5.heap.size ≤ j ∧ j < wr.heap.size) := fun j hj => HOW.out.lt j hj
      clear L7 HRM HOW HOE
      refine wp_region_last (fun w' => w'.cell? ⟨w2.heap.size + 1, 12, none⟩ = some (.slice AN k cN) ∧ w'.cell? ⟨w6.heap.size, 0, none⟩ = some (.int .i64 k) ∧ w'.cell? ⟨w6.heap.size, 1, none⟩ = some (.int .i64 q) ∧ w'.cell? ⟨w6.heap.size, 2, none⟩ = some (.bool true) ∧ w'.cell? ⟨w6.heap.size, 3, none⟩ = some (.string ⟨#[]⟩) ∧ w'.cell? ⟨w6.heap.size, 4, none⟩ = some (.int .i64 0) ∧ w'.cell? ⟨w6.heap.size, 5, none⟩ = some (.slice none 0 0) ∧ w'.cell? ⟨w6.heap.size, 6, none⟩ = some (.slice none 0 0) ∧ w'.cell? ⟨w6.heap.size, 7, none⟩ = some (.slice none 0 0)) 12 (by kernel_rfl) ⟨y12, l0, l1, l2, l3, l4, l5, l6, l7⟩ (fun hHeld => ?_)
      (refine wpAnyK_take (i := 0) (v := ?_) rfl rfl (by kernel_rfl) (by kernel_rfl) (by kernel_rfl) (by kernel_rfl) (fun _ _ _ h => h) (Or.inl ⟨by kernel_rfl, fun w0 hSw => ?_⟩) hHeld ?_; rotate_left; (focus ((try dsimp only at hSw); (try obtain ⟨s0, s1, s2, s3, s4, s5, s6, s7, s8, s9⟩ := hSw); (try obtain ⟨s0, s1, s2, s3, s4, s5, s6, s7, s8⟩ := hSw); simp only [List.getElem_toArray, List.getElem_cons_zero]; (first | (go_simp; done) | (go_simp; with_reducible rfl)))); (try simp only [List.getElem_toArray, List.getElem_cons_zero, Act.put, List.setIfInBounds_toArray, List.set_cons_zero, List.set_cons_succ]))
      (refine wpAnyK_take (i := 1) (v := ?_) rfl rfl (by kernel_rfl) (by kernel_rfl) (by kernel_rfl) (by kernel_rfl) (fun _ _ _ h => h) (Or.inl ⟨by kernel_rfl, fun w0 hSw => ?_⟩) hHeld ?_; rotate_left; (focus ((try dsimp only at hSw); (try obtain ⟨s0, s1, s2, s3, s4, s5, s6, s7, s8, s9⟩ := hSw); (try obtain ⟨s0, s1, s2, s3, s4, s5, s6, s7, s8⟩ := hSw); simp only [List.getElem_toArray, List.getElem_cons_zero, List.getElem_cons_succ]; (first | (go_simp; done) | (go_simp; with_reducible rfl)))); (try simp only [List.getElem_toArray, List.getElem_cons_zero, List.getElem_cons_succ, Act.put, List.setIfInBounds_toArray, List.set_cons_zero, List.set_cons_succ]))
      (refine wpAnyK_take (i := 2) (v := ?_) rfl rfl (by kernel_rfl) (by kernel_rfl) (by kernel_rfl) (by kernel_rfl) (fun _ _ _ h => h) (Or.inl ⟨by kernel_rfl, fun w0 hSw => ?_⟩) hHeld ?_; rotate_left; (focus ((try dsimp only at hSw); (try obtain ⟨s0, s1, s2, s3, s4, s5, s6, s7, s8, s9⟩ := hSw); (try obtain ⟨s0, s1, s2, s3, s4, s5, s6, s7, s8⟩ := hSw); simp only [List.getElem_toArray, List.getElem_cons_zero, List.getElem_cons_succ]; (first | (go_simp; done) | (go_simp; with_reducible rfl)))); (try simp only [List.getElem_toArray, List.getElem_cons_zero, List.getElem_cons_succ, Act.put, List.setIfInBounds_toArray, List.set_cons_zero, List.set_cons_succ]))
      (refine wpAnyK_take (i := 3) (v := ?_) rfl rfl (by kernel_rfl) (by kernel_rfl) (by kernel_rfl) (by kernel_rfl) (fun _ _ _ h => h) (Or.inl ⟨by kernel_rfl, fun w0 hSw => ?_⟩) hHeld ?_; rotate_left; (focus ((try dsimp only at hSw); (try obtain ⟨s0, s1, s2, s3, s4, s5, s6, s7, s8, s9⟩ := hSw); (try obtain ⟨s0, s1, s2, s3, s4, s5, s6, s7, s8⟩ := hSw); simp only [List.getElem_toArray, List.getElem_cons_zero, List.getElem_cons_succ]; (first | (go_simp; done) | (go_simp; with_reducible rfl)))); (try simp only [List.getElem_toArray, List.getElem_cons_zero, List.getElem_cons_succ, Act.put, List.setIfInBounds_toArray, List.set_cons_zero, List.set_cons_succ]))
      (refine wpAnyK_take (i := 4) (v := ?_) rfl rfl (by kernel_rfl) (by kernel_rfl) (by kernel_rfl) (by kernel_rfl) (fun _ _ _ h => h) (Or.inl ⟨by kernel_rfl, fun w0 hSw => ?_⟩) hHeld ?_; rotate_left; (focus ((try dsimp only at hSw); (try obtain ⟨s0, s1, s2, s3, s4, s5, s6, s7, s8, s9⟩ := hSw); (try obtain ⟨s0, s1, s2, s3, s4, s5, s6, s7, s8⟩ := hSw); simp only [List.getElem_toArray, List.getElem_cons_zero, List.getElem_cons_succ]; (first | (go_simp; done) | (go_simp; with_reducible rfl)))); (try simp only [List.getElem_toArray, List.getElem_cons_zero, List.getElem_cons_succ, Act.put, List.setIfInBounds_toArray, List.set_cons_zero, List.set_cons_succ]))
      (refine wpAnyK_take (i := 5) (v := ?_) rfl rfl (by kernel_rfl) (by kernel_rfl) (by kernel_rfl) (by kernel_rfl) (fun _ _ _ h => h) (Or.inl ⟨by kernel_rfl, fun w0 hSw => ?_⟩) hHeld ?_; rotate_left; (focus ((try dsimp only at hSw); (try obtain ⟨s0, s1, s2, s3, s4, s5, s6, s7, s8, s9⟩ := hSw); (try obtain ⟨s0, s1, s2, s3, s4, s5, s6, s7, s8⟩ := hSw); simp only [List.getElem_toArray, List.getElem_cons_zero, List.getElem_cons_succ]; (first | (go_simp; done) | (go_simp; with_reducible rfl)))); (try simp only [List.getElem_toArray, List.getElem_cons_zero, List.getElem_cons_succ, Act.put, List.setIfInBounds_toArray, List.set_cons_zero, List.set_cons_succ]))
      (refine wpAnyK_take (i := 6) (v := ?_) rfl rfl (by kernel_rfl) (by kernel_rfl) (by kernel_rfl) (by kernel_rfl) (fun _ _ _ h => h) (Or.inl ⟨by kernel_rfl, fun w0 hSw => ?_⟩) hHeld ?_; rotate_left; (focus ((try dsimp only at hSw); (try obtain ⟨s0, s1, s2, s3, s4, s5, s6, s7, s8, s9⟩ := hSw); (try obtain ⟨s0, s1, s2, s3, s4, s5, s6, s7, s8⟩ := hSw); simp only [List.getElem_toArray, List.getElem_cons_zero, List.getElem_cons_succ]; (first | (go_simp; done) | (go_simp; with_reducible rfl)))); (try simp only [List.getElem_toArray, List.getElem_cons_zero, List.getElem_cons_succ, Act.put, List.setIfInBounds_toArray, List.set_cons_zero, List.set_cons_succ]))
      have HSS : Hid (∀ W, Below w7.heap.size w7 W → W.cell? ⟨w2.heap.size + 1, 12, none⟩ = some (.slice AN k cN) ∧ W.cell? ⟨w6.heap.size, 0, none⟩ = some (.int .i64 k) ∧ W.cell? ⟨w6.heap.size, 1, none⟩ = some (.int .i64 q) ∧ W.cell? ⟨w6.heap.size, 2, none⟩ = some (.bool true) ∧ W.cell? ⟨w6.heap.size, 3, none⟩ = some (.string ⟨#[]⟩) ∧ W.cell? ⟨w6.heap.size, 4, none⟩ = some (.int .i64 0) ∧ W.cell? ⟨w6.heap.size, 5, none⟩ = some (.slice none 0 0) ∧ W.cell? ⟨w6.heap.size, 6, none⟩ = some (.slice none 0 0) ∧ W.cell? ⟨w6.heap.size, 7, none⟩ = some (.slice none 0 0)) := fun W h =>
        have e1 : ∀ i, W.cell? ⟨w6.heap.size, i, none⟩ = w7.cell? ⟨w6.heap.size, i, none⟩ := fun i => h.cell (p := ⟨w6.heap.size, i, none⟩) hz7
        ⟨(h.cell (p := ⟨w2.heap.size + 1, 12, none⟩) (by show (w2.heap.size + 1) < w7.heap.size; omega)).trans y12, (e1 _).trans l0, (e1 _).trans l1, (e1 _).trans l2, (e1 _).trans l3, (e1 _).trans l4, (e1 _).trans l5, (e1 _).trans l6, (e1 _).trans l7⟩
      obtain ⟨i0, hi, hz0, hz1, hz2⟩ := infoNd
      have HI : Hid ((Tryz.prog.info? 69 = some i0) ∧ i0.zero = some (.agg #[.int .i64 0, .int .i64 0, .bool false, .string ⟨#[]⟩, .int .i64 0, .slice none 0 0, .slice none 0 0, .slice none 0 0]) ∧ i0.size = 8 ∧ i0.bytes = 120) := ⟨hi, hz0, hz1, hz2⟩
      clear hi hz0 hz1 hz2
      (refine wpAnyK_one (j := 7) (by kernel_rfl) rfl (fun K hK => ?_); (try simp only [List.getElem_toArray, List.getElem_cons_zero, List.getElem_cons_succ]))
      go_simp
      have h8 : Below w7.heap.size w7 (w7.alloc (.cells #[.int .i64 k, .int .i64 q, .bool true, .string ⟨#[]⟩, .int .i64 0, .slice none 0 0, .slice none 0 0, .slice none 0 0] 69)).drew := Below.drew ((Below.refl _ _).alloc (Nat.le_refl _) _)
      have HO8 : Hid ((w7.alloc (.cells #[.int .i64 k, .int .i64 q, .bool true, .string ⟨#[]⟩, .int .i64 0, .slice none 0 0, .slice none 0 0, .slice none 0 0] 69)).drew.ownsRow w5.heap.size 69 8 (.slice AN k cN) k (ndCells 0 (m.q.take k))) := own_below HO7.out h8
      have HN8 : Hid (∀ j u, (ndVals k q)[j]? = some u → (w7.alloc (.cells #[.int .i64 k, .int .i64 q, .bool true, .string ⟨#[]⟩, .int .i64 0, .slice none 0 0, .slice none 0 0, .slice none 0 0] 69)).drew.cell? ((⟨w7.heap.size, 0, none⟩ : Addr).add j) = some u) := World.news_of_block (heap_alloc_last w7 (.cells #[.int .i64 k, .int .i64 q, .bool true, .string ⟨#[]⟩, .int .i64 0, .slice none 0 0, .slice none 0 0, .slice none 0 0] 69))
      have hs8 : w7.heap.size ≤ (w7.alloc (.cells #[.int .i64 k, .int .i64 q, .bool true, .string ⟨#[]⟩, .int .i64 0, .slice none 0 0, .slice none 0 0, .slice none 0 0] 69)).drew.heap.size := h8.size
      have HS8 : Hid ((w7.alloc (.cells #[.int .i64 k, .int .i64 q, .bool true, .string ⟨#[]⟩, .int .i64 0, .slice none 0 0, .slice none 0 0, .slice none 0 0] 69)).drew.heap.size = w7.heap.size + 1) := by show _ = _; show (w7.alloc (.cells #[.int .i64 k, .int .i64 q, .bool true, .string ⟨#[]⟩, .int .i64 0, .slice none 0 0, .slice none 0 0, .slice none 0 0] 69)).heap.size = _; simp
      refine hK.out _ _ (.inr (HSS.out _ h8)) ?_
      clear hK K
      (try simp only [List.getElem_toArray, List.getElem_cons_zero, List.getElem_cons_succ, Act.put, List.setIfInBounds_toArray, List.set_cons_zero, List.set_cons_succ])
      (refine wpAnyK_one (j := 8) (by kernel_rfl) rfl (fun K hK => ?_); (try simp only [List.getElem_toArray, List.getElem_cons_zero, List.getElem_cons_succ]))
      rw [if_pos (by simp [Region.wanted])]
      refine wp_append_lies (w7.alloc (.cells #[.int .i64 k, .int .i64 q, .bool true, .string ⟨#[]⟩, .int .i64 0, .slice none 0 0, .slice none 0 0, .slice none 0 0] 69)).drew (.tmp 54) (.tmp 56) 37 rfl w5.heap.size 69 i0 (.agg #[.int .i64 0, .int .i64 0, .bool false, .string ⟨#[]⟩, .int .i64 0, .slice none 0 0, .slice none 0 0, .slice none 0 0]) 8 120 Tryz.underlying37 HI.out.1 HI.out.2.1 HI.out.2.2.1 HI.out.2.2.2 rfl (by decide) (.slice AN k cN) k (ndCells 0 (m.q.take k)) (by kernel_rfl) HO8.out ⟨w7.heap.size, 0, none⟩ 1 1 (ndVals k q) (by kernel_rfl) rfl HN8.out (ndVals_one k q) (by decide) (by unfold maxLen; omega) (by omega) (by rw [HS8.out]; have := hb7.size; omega) (w7.heap.size + 1) HS8.out ?_
      intro g cap w9 hown9 hgrow9 hat9 hlt9
      have S8 := HSS.out _ h8
      have nr : ∀ b', (b' < w5.heap.size ∨ wr.heap.size ≤ b') → some b' ≠ (Value.slice AN k cN).ownBlock := fun b' hb' e => by have := HOL.out b' e.symm; omega
      have k9 : ∀ i u, (w7.alloc (.cells #[.int .i64 k, .int .i64 q, .bool true, .string ⟨#[]⟩, .int .i64 0, .slice none 0 0, .slice none 0 0, .slice none 0 0] 69)).drew.cell? ⟨w6.heap.size, i, none⟩ = some u → w9.cell? ⟨w6.heap.size, i, none⟩ = some u := fun i u h => hgrow9.cell h (nr _ (.inr hz6))
      have y9 : w9.cell? ⟨w2.heap.size + 1, 12, none⟩ = some (.slice AN k cN) := hgrow9.cell S8.1 (nr (w2.heap.size + 1) (.inl (by omega)))
      have S9 : Hid (w9.cell? ⟨w2.heap.size + 1, 12, none⟩ = some (.slice AN k cN) ∧ w9.cell? ⟨w6.heap.size, 0, none⟩ = some (.int .i64 k) ∧ w9.cell? ⟨w6.heap.size, 1, none⟩ = some (.int .i64 q) ∧ w9.cell? ⟨w6.heap.size, 2, none⟩ = some (.bool true) ∧ w9.cell? ⟨w6.heap.size, 3, none⟩ = some (.string ⟨#[]⟩) ∧ w9.cell? ⟨w6.heap.size, 4, none⟩ = some (.int .i64 0) ∧ w9.cell? ⟨w6.heap.size, 5, none⟩ = some (.slice none 0 0) ∧ w9.cell? ⟨w6.heap.size, 6, none⟩ = some (.slice none 0 0) ∧ w9.cell? ⟨w6.heap.size, 7, none⟩ = some (.slice none 0 0)) :=
        ⟨y9, k9 _ _ S8.2.1, k9 _ _ S8.2.2.1, k9 _ _ S8.2.2.2.1, k9 _ _ S8.2.2.2.2.1, k9 _ _ S8.2.2.2.2.2.1, k9 _ _ S8.2.2.2.2.2.2.1, k9 _ _ S8.2.2.2.2.2.2.2.1, k9 _ _ S8.2.2.2.2.2.2.2.2⟩
      have HF9 : Hid (Frb w5.heap.size (w2.heap.size + 1) w5 w9) := hF.trans ((Frb.of_below ((hb7.trans (h8.mono hb7.size)).mono hzr)).trans ⟨hgrow9.os, hgrow9.tape, hgrow9.output, hgrow9.size, fun j hj _ => hgrow9.block j (by rw [HS8.out]; have := hb7.size; omega) (nr j (.inl hj))⟩)
      have HM9 := Lib.hid ((hgrow9.block (w2.heap.size + 1) (by rw [HS8.out]; have := hb7.size; omega) (nr (w2.heap.size + 1) (.inl (by omega)))).trans ((h8.block (w2.heap.size + 1) (by have := hb7.size; omega)).trans HR7.out))
      have f9 : w9.frozen? ⟨w2.heap.size + 1, 12, none⟩ = false := frozen_blk HM9.out 12
      have HE9 := Lib.hid ((own_below HE7.out h8).kept hgrow9 (own_ne_own (own_below HE7.out h8) HO8.out (by decide)))
      have HO9 : Hid (w9.ownsRow w5.heap.size 69 8 (.slice (some ⟨g, 0, none⟩) (k + 1) cap) (k + 1) (ndCells 0 (m.q.take (k + 1)))) := by show World.ownsRow _ _ _ _ _ _ _; rw [HCC.out]; exact hown9
      clear hown9 hgrow9 hat9 k9 nr S8 HO8 HN8 HI HSS h8 hs8 HOL HO7 HE7 HR7 l0 l1 l2 l3 l4 l5 l6 l7 y12
      refine hK.out _ _ (.inr S9.out) ?_
      clear hK K
      (try simp only [Act.put, List.setIfInBounds_toArray, List.set_cons_zero, List.set_cons_succ])
      (refine wpAnyK_one (j := 9) (by kernel_rfl) rfl (fun K hK => ?_); (try simp only [List.getElem_toArray, List.getElem_cons_zero, List.getElem_cons_succ]))
      go_simp
      refine hK.out _ _ (.inr S9.out) ?_
      clear hK K
      (try simp only [List.getElem_toArray, List.getElem_cons_zero, List.getElem_cons_succ, Act.put, List.setIfInBounds_toArray, List.set_cons_zero, List.set_cons_succ])
      (refine wpAnyK_one (j := 10) (by kernel_rfl) rfl (fun K hK => ?_); (try simp only [List.getElem_toArray, List.getElem_cons_zero, List.getElem_cons_succ]))
      go_simp
      refine hK.out _ _ (.inr S9.out) ?_
      clear hK K
      (try simp only [List.getElem_toArray, List.getElem_cons_zero, List.getElem_cons_succ, Act.put, List.setIfInBounds_toArray, List.set_cons_zero, List.set_cons_succ])
      (refine wpAnyK_one (j := 11) (by kernel_rfl) rfl (fun K hK => ?_); (try simp only [List.getElem_toArray, List.getElem_cons_zero, List.getElem_cons_succ]))
      go_simp
      refine hK.out _ _ (.inr S9.out) ?_
      clear hK K
      (try simp only [List.getElem_toArray, List.getElem_cons_zero, List.getElem_cons_succ, Act.put, List.setIfInBounds_toArray, List.set_cons_zero, List.set_cons_succ])
      (refine wpAnyK_one (j := 12) (by kernel_rfl) rfl (fun K hK => ?_); (try simp only [List.getElem_toArray, List.getElem_cons_zero, List.getElem_cons_succ]))
      go_simp
      refine hK.out _ _ (.inl rfl) ?_
      clear hK K
      (try simp only [List.getElem_toArray, List.getElem_cons_zero, List.getElem_cons_succ, Act.put, List.setIfInBounds_toArray, List.set_cons_zero, List.set_cons_succ])
      refine wpAnyK_done (by kernel_rfl) ?_ _
      have hm10 := heap_set HM9.out (i := 12) (.slice (some ⟨g, 0, none⟩) (k + 1) cap)
      simp only [List.setIfInBounds_toArray, List.set_cons_succ, List.set_cons_zero] at hm10
      have HM10 := Lib.hid hm10
      have HO10 := Lib.hid (ownsRow_setCell_below HO9.out (a := ⟨w2.heap.size + 1, 12, none⟩) (by show w2.heap.size + 1 < w5.heap.size; omega) (.slice (some ⟨g, 0, none⟩) (k + 1) cap))
      have HE10 := Lib.hid (ownsRow_setCell_below HE9.out (a := ⟨w2.heap.size + 1, 12, none⟩) (by show w2.heap.size + 1 < w5.heap.size; omega) (.slice (some ⟨g, 0, none⟩) (k + 1) cap))
      have HF10 := Lib.hid (HF9.out.trans (frb_setCell w5.heap.size w9 (w2.heap.size + 1) 12 (.slice (some ⟨g, 0, none⟩) (k + 1) cap)))
      clear hm10 HM9 HO9 HE9 HF9 S9 y9 f9 hHeld hF hBw p0
      generalize w9.setCell ⟨w2.heap.size + 1, 12, none⟩ (.slice (some ⟨g, 0, none⟩) (k + 1) cap) = w10 at *
      obtain ⟨AE, cE, rfl⟩ := own_slice HE10.out
      have y13 := cell_blk HM10.out 13
      simp only [List.getElem?_toArray, List.getElem?_cons_succ, List.getElem?_cons_zero] at y13
      have hz10 := HF10.out.size
      go_wp2_with (at_builtin; refine app_zero w10 rfl (.tmp 66) (.tmp 67) rfl w5.heap.size (.slice AE k cE) k _ rfl ?q1_1 HE10.out ?q1_2 hz10 ?_)
      case q1_1 => simp [go_sem]
      case q1_2 => omega
      intro g2 cap2 w12 hown12 hgrow12
      have h11 : Below w10.heap.size w10 (w10.alloc (.cells #[.int .i64 0] 3)) := (Below.refl _ _).alloc (Nat.le_refl _) _
      have nr : ∀ b', b' < w5.heap.size → some b' ≠ (Value.slice AE k cE).ownBlock := fun b' hb' e => by have := (HE10.out.lt b' e.symm).1; omega
      have HM12 := Lib.hid ((hgrow12.block (w2.heap.size + 1) (by have := h11.size; omega) (nr (w2.heap.size + 1) (by omega))).trans ((h11.block (w2.heap.size + 1) (by omega)).trans HM10.out))
      have HO12 := Lib.hid ((HO10.out.alloc (.cells #[.int .i64 0] 3)).kept hgrow12 (own_ne_own HO10.out HE10.out (by decide)))
      have HE12 : Hid (w12.ownsRow w5.heap.size 3 1 (.slice (some ⟨g2, 0, none⟩) (k + 1) cap2) (k + 1) ((List.replicate (k + 1) (0 : Int)).map (fun q => .int .i64 q))) := by
        show World.ownsRow _ _ _ _ _ _ _
        rw [hz5, List.replicate_succ', List.map_append, List.map_replicate]
        exact hown12
      have HF12 : Hid (Frb w5.heap.size (w2.heap.size + 1) w5 w12) := HF10.out.trans ((Frb.of_below (h11.mono hz10)).trans ⟨hgrow12.os, hgrow12.tape, hgrow12.output, hgrow12.size, fun j hj _ => hgrow12.block j (by have := h11.size; omega) (nr j hj)⟩)
      have c13 := cell_blk HM12.out 13
      have f13 := frozen_blk HM12.out 13
      simp only [List.getElem?_toArray, List.getElem?_cons_succ, List.getElem?_cons_zero] at c13
      clear hown12 hgrow12 h11 nr HM10 HO10 HE10 HF10 y13 hz10
      go_wp2_with fail
      have hm13 := heap_set HM12.out (i := 13) (.slice (some ⟨g2, 0, none⟩) (k + 1) cap2)
      simp only [List.setIfInBounds_toArray, List.set_cons_succ, List.set_cons_zero] at hm13
      go_roundw
      case rel => exact ⟨k + 1, _, _, by omega, by go_num, hm13, ownsRow_setCell_below HO12.out (a := ⟨w2.heap.size + 1, 13, none⟩) (by show w2.heap.size + 1 < w5.heap.size; omega) _, ownsRow_setCell_below HE12.out (a := ⟨w2.heap.size + 1, 13, none⟩) (by show w2.heap.size + 1 < w5.heap.size; omega) _, HF12.out.trans (frb_setCell w5.heap.size w12 (w2.heap.size + 1) 13 _)⟩
      case measure => simp [intOf]; omega
    · obtain rfl : k = m.q.length := by omega
      obtain ⟨w6, rfl⟩ : ∃ w6 : World, w6 = wr := ⟨_, rfl⟩
      have HO6 : Hid (w6.ownsRow w5.heap.size 69 8 VN m.q.length (ndCells 0 m.q)) := by show World.ownsRow _ _ _ _ _ _ _; rw [List.take_length] at hown; exact hown
      have HE6 := Lib.hid howe
      have HMC := Lib.hid hrm
      have HF6 := Lib.hid hF
      have HB6 := Lib.hid hBw
      have hz6 := hzr
      have P2 := Lib.hid ((hF.cell (b := w.heap.size) (by omega) (by omega) 2).trans (cell_blk R0.out 2))
      have P3 := Lib.hid ((hF.cell (b := w.heap.size) (by omega) (by omega) 3).trans (cell_blk R0.out 3))
      have hn2 := HK.out.no
      have hmb6 : w2.heap.size + 1 < w6.heap.size := blk_lt hrm
      clear hown howe hrm hF hBw hzr RM hlt hwr
      go_wp2_with fail
      clear p0
      go_loopw [11] (fun i wr => ∃ (k : Nat) (l : List Ev) (VA : Value), k ≤ m.os.length ∧ i = .int .i64 k ∧ wr.heap[w2.heap.size + 1]? = some (.cells #[.slice A1 m.q.length c1, .slice A2 m.cs.length c2, .slice A3 m.os.length c3, .slice A4 m.fs.length c4, .slice A5 m.xs.length c5, .bool m.bd, .int .i64 0, .int .i64 0, .slice A1 m.q.length c1, .slice A2 m.cs.length c2, .slice none 0 0, .slice none 0 0, VN, VE, .slice none 0 0, VA, .slice none 0 0, .slice none 0 0] 89 (0, 0)) ∧ Evs wr wr.heap.size VA l ∧ Aft (w2.heap.size + 1) VA ∧ AgOk l ∧ l.length ≤ k ∧ Hid (agO l k (m.os.drop k) = agO [] 0 m.os) ∧ Frb w6.heap.size (w2.heap.size + 1) w6 wr) (fun i _ => m.os.length - (intOf i).toNat)
      case atStart => exact ⟨0, [], _, by omega, rfl, HMC.out, Sl.nil _ _ _ _ _, fun _ h => (by cases h), ⟨by simp, fun i hi => by simp at hi, fun i hi => by simp at hi⟩, by simp, rfl, Frb.refl _ _ _⟩
      case round =>
        obtain ⟨k, l, VA, hk, rfl, hrm, hev, haf, hag, hll, hgo, hF⟩ := hrel
        have hBw : Below w.heap.size w wr := hF.below HB6.out hle (by omega)
        have hzr := hF.size
        have p2 := (hF.cell (b := w.heap.size) (by omega) (by omega) 2).trans P2.out
        simp only [List.getElem?_toArray, List.getElem?_cons_succ, List.getElem?_cons_zero] at p2
        by_cases hlt : k < m.os.length
        · obtain ⟨A0, c0, e0, -, -, hA0⟩ := (HM.out.below hBw).o
          obtain ⟨b, o, rfl, hb, hcell⟩ : ∃ b o, A3 = some ⟨b, o, none⟩ ∧ b < w.heap.size ∧ ∀ j, j < m.os.length → BunAt wr w.heap.size b (o + j * 12) (m.os.getD j Bun.zero) := by
            injection e0 with e0
            subst e0
            exact hA0 (by omega)
          obtain ⟨-, x1, -⟩ := hcell k hlt
          have HQ := Lib.hid (HK.out.oc k hlt)
          have HST := Lib.hid (agO_step l m.os k hlt)
          have HRM := Lib.hid hrm
          have HEV := Lib.hid hev
          have HAF := Lib.hid haf
          have HAG := Lib.hid hag
          clear hcell e0 hA0 hrm hev haf hag
          generalize m.os.getD k Bun.zero = d at *
          go_wp2_with fail
          refine (at_any (w2.heap.size + 1) _ _ _ _ _ _ _ _ _ _ _ _ _ _ _ VA _ _ l d.c 7 k wr HRM.out HEV.out HAF.out HAG.out (ev_ok HQ.out.1 HQ.out.2 (by decide) (by decide) (by omega) (by omega)) (by omega)).mono ?_
          rintro e w8 ⟨VA', r, rfl, hm8, hev8, haf8, hf8⟩
          have HM8 := Lib.hid hm8
          have HEV8 := Lib.hid hev8
          have HAF8 := Lib.hid haf8
          have HAG8 := Lib.hid (ag_add HAG.out (x := ⟨d.c, 7, k⟩) (ev_ok HQ.out.1 HQ.out.2 (by decide) (by decide) (by omega) (by omega)) (by omega))
          have hl8 := addL_len l ⟨d.c, 7, k⟩
          have HF8 := Lib.hid (hF.trans (hf8.less hzr))
          have HG8 : Hid (agO (addL l ⟨d.c, 7, k⟩) (k + 1) (m.os.drop (k + 1)) = agO [] 0 m.os) := by show _ = _; rw [← hgo.out, HST.out]
          clear hm8 hev8 haf8 hf8 hF hgo HST HEV HAF HAG HRM hBw x1 p2
          go_wp2_with fail
          go_roundw
          case rel => exact ⟨k + 1, _, _, by omega, by go_num, HM8.out, HEV8.out, HAF8.out, HAG8.out, by omega, HG8, HF8.out⟩
          case measure => simp [intOf]; omega
        · obtain rfl : k = m.os.length := by omega
          obtain ⟨w7, rfl⟩ : ∃ w7 : World, w7 = wr := ⟨_, rfl⟩
          have HG7 : Hid (l = agO [] 0 m.os) := by show _ = _; rw [← hgo.out, List.drop_of_length_le (by omega)]; rfl
          have HMD := Lib.hid hrm
          have HV7 := Lib.hid hev
          have HA7 := Lib.hid haf
          have HP7 := Lib.hid hag
          have HF7 := Lib.hid hF
          have HB7 := Lib.hid hBw
          have hz7 := hzr
          have hl7 : l.length ≤ 8 := by omega
          have P37 := Lib.hid ((hF.cell (b := w.heap.size) (by omega) (by omega) 3).trans P3.out)
          have hn3 := HK.out.nf
          have hmb7 : w2.heap.size + 1 < w7.heap.size := blk_lt hrm
          clear hrm hev haf hag hF hBw hzr hlt hgo hll hk P3 P2
          go_wp2_with fail
          clear p2
          go_loopw [12] (fun i wr => ∃ (k : Nat) (l' : List Ev) (VA : Value), k ≤ m.fs.length ∧ i = .int .i64 k ∧ wr.heap[w2.heap.size + 1]? = some (.cells #[.slice A1 m.q.length c1, .slice A2 m.cs.length c2, .slice A3 m.os.length c3, .slice A4 m.fs.length c4, .slice A5 m.xs.length c5, .bool m.bd, .int .i64 0, .int .i64 0, .slice A1 m.q.length c1, .slice A2 m.cs.length c2, .slice none 0 0, .slice none 0 0, VN, VE, .slice none 0 0, VA, .slice none 0 0, .slice none 0 0] 89 (0, 0)) ∧ Evs wr wr.heap.size VA l' ∧ Aft (w2.heap.size + 1) VA ∧ AgOk l' ∧ l'.length ≤ 8 + 2 * k ∧ Hid (agF l' k (m.fs.drop k) = agF l 0 m.fs) ∧ Frb w7.heap.size (w2.heap.size + 1) w7 wr) (fun i _ => m.fs.length - (intOf i).toNat)
          case atStart => exact ⟨0, l, _, by omega, rfl, HMD.out, HV7.out, HA7.out, HP7.out, by omega, rfl, Frb.refl _ _ _⟩
          case round =>
            obtain ⟨k, l', VA', hk, rfl, hrm, hev, haf, hag, hll, hgo, hF⟩ := hrel
            have hBw : Below w.heap.size w wr := hF.below HB7.out hle (by omega)
            have hzr := hF.size
            have p3 := (hF.cell (b := w.heap.size) (by omega) (by omega) 3).trans P37.out
            simp only [List.getElem?_toArray, List.getElem?_cons_succ, List.getElem?_cons_zero] at p3
            by_cases hlt : k < m.fs.length
            · obtain ⟨A0, c0, e0, -, -, hA0⟩ := (HM.out.below hBw).f
              obtain ⟨b, o, rfl, hb, hcell⟩ : ∃ b o, A4 = some ⟨b, o, none⟩ ∧ b < w.heap.size ∧ ∀ j, j < m.fs.length → FltAt wr w.heap.size b (o + j * 4) (m.fs.getD j Flt.zero) := by
                injection e0 with e0
                subst e0
                exact hA0 (by omega)
              obtain ⟨-, x1, -, x3⟩ := hcell k hlt
              have HQ := Lib.hid (HK.out.fa k hlt)
              have HU := Lib.hid (HK.out.fu k hlt)
              have HST := Lib.hid (agF_step l' m.fs k hlt)
              have HRM := Lib.hid hrm
              have HEV := Lib.hid hev
              have HAF := Lib.hid haf
              have HAG := Lib.hid hag
              clear hcell e0 hA0 hrm hev haf hag
              generalize m.fs.getD k Flt.zero = d at *
              go_wp2_with fail
              refine (at_any (w2.heap.size + 1) _ _ _ _ _ _ _ _ _ _ _ _ _ _ _ VA' _ _ l' d.a 9 k wr HRM.out HEV.out HAF.out HAG.out (ev_ok HQ.out.1 HQ.out.2 (by decide) (by decide) (by omega) (by omega)) (by omega)).mono ?_
              rintro e w9 ⟨VB, r, rfl, hm9, hev9, haf9, hf9⟩
              have HM9 := Lib.hid hm9
              have HEV9 := Lib.hid hev9
              have HAF9 := Lib.hid haf9
              have HAG9 := Lib.hid (ag_add HAG.out (x := ⟨d.a, 9, k⟩) (ev_ok HQ.out.1 HQ.out.2 (by decide) (by decide) (by omega) (by omega)) (by omega))
              have hl9 := addL_len l' ⟨d.a, 9, k⟩
              have HF9 := Lib.hid (hF.trans (hf9.less hzr))
              have e3 := (hf9.cell (b := b) (by omega) (by omega) (o + k * 4 + 3)).trans x3
              have q3 := (hf9.cell (b := w.heap.size) (by omega) (by omega) 3).trans p3
              have hz9 := HF9.out.size
              have hmb9 := blk_lt hm9
              clear hm9 hev9 haf9 hf9 hF HEV HAF HAG HRM hBw x1 x3 p3
              by_cases hu : d.u = -1
              · have HG9 : Hid (agF (addL l' ⟨d.a, 9, k⟩) (k + 1) (m.fs.drop (k + 1)) = agF l 0 m.fs) := by show _ = _; rw [← hgo.out, HST.out, agF1, if_neg (by simp [hu])]
                have qu : ¬ 0 ≤ d.u := by omega
                clear hgo HST hu
                go_wp2_with fail
                go_roundw
                case rel => exact ⟨k + 1, _, _, by omega, by go_num, HM9.out, HEV9.out, HAF9.out, HAG9.out, by omega, HG9, HF9.out⟩
                case measure => simp [intOf]; omega
              · have HG9 : Hid (agF (addL (addL l' ⟨d.a, 9, k⟩) ⟨d.u, 1, k⟩) (k + 1) (m.fs.drop (k + 1)) = agF l 0 m.fs) := by show _ = _; rw [← hgo.out, HST.out, agF1, if_pos hu]
                have HU2 : Hid (0 ≤ d.u ∧ d.u ≤ 1099511627776) := HU.out.resolve_left hu
                have qu : 0 ≤ d.u := HU2.out.1
                clear hgo HST hu
                go_wp2_with fail
                refine (at_any (w2.heap.size + 1) _ _ _ _ _ _ _ _ _ _ _ _ _ _ _ VB _ _ (addL l' ⟨d.a, 9, k⟩) d.u 1 k w9 HM9.out HEV9.out HAF9.out HAG9.out (ev_ok HU2.out.1 HU2.out.2 (by decide) (by decide) (by omega) (by omega)) (by omega)).mono ?_
                rintro e w10 ⟨VC, r2, rfl, hm10, hev10, haf10, hf10⟩
                have HM10 := Lib.hid hm10
                have HEV10 := Lib.hid hev10
                have HAF10 := Lib.hid haf10
                have HAG10 := Lib.hid (ag_add HAG9.out (x := ⟨d.u, 1, k⟩) (ev_ok HU2.out.1 HU2.out.2 (by decide) (by decide) (by omega) (by omega)) (by omega))
                have hl10 := addL_len (addL l' ⟨d.a, 9, k⟩) ⟨d.u, 1, k⟩
                have HF10 := Lib.hid (HF9.out.trans (hf10.less hz9))
                clear hm10 hev10 haf10 hf10 e3 q3 HM9 HEV9 HAF9 HAG9 HF9
                go_wp2_with fail
                go_roundw
                case rel => exact ⟨k + 1, _, _, by omega, by go_num, HM10.out, HEV10.out, HAF10.out, HAG10.out, by omega, HG9, HF10.out⟩
                case measure => simp [intOf]; omega
            · obtain rfl : k = m.fs.length := by omega
              obtain ⟨w8, rfl⟩ : ∃ w8 : World, w8 = wr := ⟨_, rfl⟩
              have HG8 : Hid (l' = agL m) := by show _ = _; rw [agL, ← HG7.out, ← hgo.out, List.drop_of_length_le (by omega)]; rfl
              have HN8 : Hid (w8.ownsRow w5.heap.size 69 8 VN m.q.length (ndCells 0 m.q)) := own_frb (own_frb HO6.out HF7.out (by omega) (by omega)) hF (by omega) (by omega)
              have HE8 : Hid (w8.ownsRow w5.heap.size 3 1 VE m.q.length ((List.replicate m.q.length (0 : Int)).map (fun q => .int .i64 q))) := own_frb (own_frb HE6.out HF7.out (by omega) (by omega)) hF (by omega) (by omega)
              have R8 := (hF.block (w.heap.size + 1) (by omega) (by omega)).trans ((HF7.out.block (w.heap.size + 1) (by omega) (by omega)).trans ((HF6.out.block (w.heap.size + 1) (by omega) (by omega)).trans R1.out))
              obtain ⟨AN, cN, rfl⟩ := own_slice HN8.out
              obtain ⟨AE, cE, rfl⟩ := own_slice HE8.out
              have HV8 := Lib.hid hev
              have HA8 := Lib.hid haf
              obtain ⟨AA, cA, rfl, -⟩ := hev
              have HRM := Lib.hid hrm
              clear hrm haf hag hlt hgo hll hk HO6 HE6 HMC HMD HV7 HA7 HP7 HG7
              have hml : w8.rangeAt (w2.heap.size + 1) 0 (#[.slice A1 m.q.length c1, .slice A2 m.cs.length c2, .slice A3 m.os.length c3, .slice A4 m.fs.length c4, .slice A5 m.xs.length c5, .bool m.bd, .int .i64 0, .int .i64 0, .slice A1 m.q.length c1, .slice A2 m.cs.length c2, .slice none 0 0, .slice none 0 0, .slice AN m.q.length cN, .slice AE m.q.length cE, .slice none 0 0, .slice AA l'.length cA, .slice none 0 0] : Array Value).toList := fun j v hv => by
                rw [Nat.zero_add, cell_blk HRM.out]
                match j, hv with
                | 0, hv => simpa using hv
                | 1, hv => simpa using hv
                | 2, hv => simpa using hv
                | 3, hv => simpa using hv
                | 4, hv => simpa using hv
                | 5, hv => simpa using hv
                | 6, hv => simpa using hv
                | 7, hv => simpa using hv
                | 8, hv => simpa using hv
                | 9, hv => simpa using hv
                | 10, hv => simpa using hv
                | 11, hv => simpa using hv
                | 12, hv => simpa using hv
                | 13, hv => simpa using hv
                | 14, hv => simpa using hv
                | 15, hv => simpa using hv
                | 16, hv => simpa using hv
                | n + 17, hv => simp at hv
              go_wp2_with (first | (refine wpList_load_mid rfl 42 (.tmp 123) rfl (w2.heap.size + 1) 0 rfl (#[.slice A1 m.q.length c1, .slice A2 m.cs.length c2, .slice A3 m.os.length c3, .slice A4 m.fs.length c4, .slice A5 m.xs.length c5, .bool m.bd, .int .i64 0, .int .i64 0, .slice A1 m.q.length c1, .slice A2 m.cs.length c2, .slice none 0 0, .slice none 0 0, .slice AN m.q.length cN, .slice AE m.q.length cE, .slice none 0 0, .slice AA l'.length cA, .slice none 0 0] : Array Value).toList _ hml Tryz.underlying42 rfl (by kernel_rfl) ?_) | refine wpList_store_row rfl 42 (.tmp 2) (.tmp 124) rfl (w.heap.size + 1) #[.slice A1 m.q.length c1, .slice A2 m.cs.length c2, .slice A3 m.os.length c3, .slice A4 m.fs.length c4, .slice A5 m.xs.length c5, .bool m.bd, .int .i64 0, .int .i64 0, .slice A1 m.q.length c1, .slice A2 m.cs.length c2, .slice none 0 0, .slice none 0 0, .slice AN m.q.length cN, .slice AE m.q.length cE, .slice none 0 0, .slice AA l'.length cA, .slice none 0 0] rfl rfl 42 _ R8 (by kernel_rfl) (by kernel_rfl) (by simp [Value.oneCell']) ?_)
              have hr := setRow_heap w8 (w.heap.size + 1) _ #[.slice A1 m.q.length c1, .slice A2 m.cs.length c2, .slice A3 m.os.length c3, .slice A4 m.fs.length c4, .slice A5 m.xs.length c5, .bool m.bd, .int .i64 0, .int .i64 0, .slice A1 m.q.length c1, .slice A2 m.cs.length c2, .slice none 0 0, .slice none 0 0, .slice AN m.q.length cN, .slice AE m.q.length cE, .slice none 0 0, .slice AA l'.length cA, .slice none 0 0] 42 (0, 0) R8
              have hfr := frb_setRow w8.heap.size w8 (w.heap.size + 1) #[.slice A1 m.q.length c1, .slice A2 m.cs.length c2, .slice A3 m.os.length c3, .slice A4 m.fs.length c4, .slice A5 m.xs.length c5, .bool m.bd, .int .i64 0, .int .i64 0, .slice A1 m.q.length c1, .slice A2 m.cs.length c2, .slice none 0 0, .slice none 0 0, .slice AN m.q.length cN, .slice AE m.q.length cE, .slice none 0 0, .slice AA l'.length cA, .slice none 0 0]
              have HN9 := Lib.hid (nds_of_own rfl (own_frb HN8.out hfr (Nat.le_refl _) (by omega)))
              have HE9 := Lib.hid (ints_of_own (by simp) (own_frb HE8.out hfr (Nat.le_refl _) (by omega)))
              have HV9 := Lib.hid (Evs.fr HV8.out (HA8.out.notAt (by omega)) hfr)
              have HB9 := Lib.hid (below_setRow hBw (g := w.heap.size + 1) (by omega) #[.slice A1 m.q.length c1, .slice A2 m.cs.length c2, .slice A3 m.os.length c3, .slice A4 m.fs.length c4, .slice A5 m.xs.length c5, .bool m.bd, .int .i64 0, .int .i64 0, .slice A1 m.q.length c1, .slice A2 m.cs.length c2, .slice none 0 0, .slice none 0 0, .slice AN m.q.length cN, .slice AE m.q.length cE, .slice none 0 0, .slice AA l'.length cA, .slice none 0 0])
              have HR9 := Lib.hid hr
              clear hr hfr R8 HRM HN8 HE8 HV8 HA8 hml
              generalize w8.setRow (w.heap.size + 1) #[.slice A1 m.q.length c1, .slice A2 m.cs.length c2, .slice A3 m.os.length c3, .slice A4 m.fs.length c4, .slice A5 m.xs.length c5, .bool m.bd, .int .i64 0, .int .i64 0, .slice A1 m.q.length c1, .slice A2 m.cs.length c2, .slice none 0 0, .slice none 0 0, .slice AN m.q.length cN, .slice AE m.q.length cE, .slice none 0 0, .slice AA l'.length cA, .slice none 0 0] = w9 at *
              go_wp2_with fail
              refine bodyPost_ret (results_row_tmp rfl _ _ _ (w.heap.size + 1) 42 #[.slice A1 m.q.length c1, .slice A2 m.cs.length c2, .slice A3 m.os.length c3, .slice A4 m.fs.length c4, .slice A5 m.xs.length c5, .bool m.bd, .int .i64 0, .int .i64 0, .slice A1 m.q.length c1, .slice A2 m.cs.length c2, .slice none 0 0, .slice none 0 0, .slice AN m.q.length cN, .slice AE m.q.length cE, .slice none 0 0, .slice AA l'.length cA, .slice none 0 0] (0, 0) _ rfl HR9.out Tryz.underlying42 rfl (by kernel_rfl) _ rfl) rfl ⟨_, _, _, rfl, HN9.out, HE9.out, ?_, HB9.out⟩
              rw [← HG8.out]
              exact HV9.out
end Go.Proofs.YtclkjjdfdndplaaGreatDoor

/- number, split, numbers. -/
import Derived.Test.YtmcgddlblhinlaaGreatDoorH8
import Derived.Test.YtmcgddlblhinlaaGreatDoorP2
namespace Go.Proofs.YtmcgddlblhinlaaGreatDoor
open Go.RowKit
def NumPost (s : ByteArray) (w : World) (e : Ending) (w' : World) : Prop := (∃ v b, e = .returned (.tuple #[.int .i64 v, .bool b]) ∧ (b = true → numOf s.data.toList = some v) ∧ (b = false → numOf s.data.toList = none)) ∧ Below w.heap.size w w'
set_option maxHeartbeats 1000000 in
theorem number_any (s : ByteArray) (hs : s.size ≤ 70000) (w : World) (hG : Glob w) : Calls Tryz.prog 104 #[.string s] w (NumPost s w) := by
  have HG := Lib.hid hG
  by_cases hk : ∃ v, Lib.atoiAll s.data.toList = .ok v
  · obtain ⟨v, hv⟩ := hk
    have HN : Hid (numOf s.data.toList = if 0 ≤ v ∧ v ≤ 1099511627776 ∧ Lib.itoa v = s.data.toList then some v else none) := by show _ = _; unfold numOf; rw [hv]
    have HV := Lib.hid hv
    clear hv hG
    by_cases h0 : 0 ≤ v
    · by_cases h1 : v ≤ 1099511627776
      · have q0 : decide (0 ≤ v) = true := decide_eq_true h0
        have q1 : decide (v ≤ 1099511627776) = true := decide_eq_true h1
        by_cases hi : Lib.itoa v = s.data.toList
        · have HR : Hid (numOf s.data.toList = some v) := HN.out.trans (if_pos ⟨h0, h1, hi⟩)
          have HI : Hid ((⟨(Lib.itoa v).toArray⟩ : ByteArray) = s) := (bs_ext hi.symm).symm
          clear HN hi
          go_enter Tryz.func104, Tryz.ntmps104
          go_wp2_with fail
          refine (atoi_ok s hs v HV.out w).mono ?_
          rintro e w1 ⟨rfl, b1⟩
          go_wp2_with fail
          refine (itoa_any v (by omega) (by omega) w1 (HG.out.below b1)).mono ?_
          rw [HI.out]
          rintro e w2 ⟨rfl, b2⟩
          have b2 := b1.trans (b2.mono b1.size)
          go_wp2_with fail
          go_ret2
          exact ⟨⟨v, true, rfl, fun _ => HR.out, fun h => by cases h⟩, b2⟩
        · have HR : Hid (numOf s.data.toList = none) := HN.out.trans (if_neg fun h => hi h.2.2)
          have hq : ((⟨(Lib.itoa v).toArray⟩ : ByteArray).toList == s.toList) = false := by
            rw [beq_eq_false_iff_ne, ByteArray.toList_eq, ByteArray.toList_eq]; exact hi
          clear HN hi
          go_enter Tryz.func104, Tryz.ntmps104
          go_wp2_with fail
          refine (atoi_ok s hs v HV.out w).mono ?_
          rintro e w1 ⟨rfl, b1⟩
          go_wp2_with fail
          refine (itoa_any v (by omega) (by omega) w1 (HG.out.below b1)).mono ?_
          generalize (⟨(Lib.itoa v).toArray⟩ : ByteArray) = is at *
          rintro e w2 ⟨rfl, b2⟩
          have b2 := b1.trans (b2.mono b1.size)
          go_wp2_with fail
          go_ret2
          exact ⟨⟨v, false, rfl, fun h => (by cases h), fun _ => HR.out⟩, b2⟩
      · have HR : Hid (numOf s.data.toList = none) := HN.out.trans (if_neg fun h => h1 h.2.1)
        have q0 : decide (0 ≤ v) = true := decide_eq_true h0
        have q1 : decide (v ≤ 1099511627776) = false := decide_eq_false h1
        clear HN
        go_enter Tryz.func104, Tryz.ntmps104
        go_wp2_with fail
        refine (atoi_ok s hs v HV.out w).mono ?_
        rintro e w1 ⟨rfl, b1⟩
        go_wp2_with fail
        go_ret2
        exact ⟨⟨v, false, rfl, fun h => (by cases h), fun _ => HR.out⟩, b1⟩
    · have HR : Hid (numOf s.data.toList = none) := HN.out.trans (if_neg fun h => h0 h.1)
      have q0 : decide (0 ≤ v) = false := decide_eq_false h0
      clear HN
      go_enter Tryz.func104, Tryz.ntmps104
      go_wp2_with fail
      refine (atoi_ok s hs v HV.out w).mono ?_
      rintro e w1 ⟨rfl, b1⟩
      go_wp2_with fail
      go_ret2
      exact ⟨⟨v, false, rfl, fun h => (by cases h), fun _ => HR.out⟩, b1⟩
  · have HB : Hid (∀ v, Lib.atoiAll s.data.toList ≠ .ok v) := fun v h => hk ⟨v, h⟩
    have HR : Hid (numOf s.data.toList = none) := by
      show _ = _
      unfold numOf
      cases ha : Lib.atoiAll s.data.toList with
      | ok v => exact absurd ha (HB.out v)
      | «syntax» => rfl
      | range => rfl
    clear hk hG
    go_enter Tryz.func104, Tryz.ntmps104
    go_wp2_with fail
    refine (atoi_bad s hs HB.out w HG.out).mono ?_
    rintro e w1 ⟨⟨n, t, P, rfl⟩, b1⟩
    go_wp2_with fail
    go_ret2
    exact ⟨⟨n, false, rfl, fun h => (by cases h), fun _ => HR.out⟩, b1⟩
/-- the words behind the first one -/
theorem split_any (s : ByteArray) (n : Nat) (hn : 1 ≤ n) (hn9 : n ≤ 9) (hs0 : 1 ≤ s.size) (hs : s.size ≤ 70000) (w : World) (hG : Glob w) : Calls Tryz.prog 83 #[.string s, .int .i64 n] w fun e w' =>
    e = .returned (.slice (some ⟨w.heap.size, 1, none⟩) ((wsK (min (n + 1) (s.size + 1) - 1) s).length - 1) (min (n + 1) (s.size + 1) - 1)) ∧ w' = w.alloc (.cells (Lib.cellsOf (wsK (min (n + 1) (s.size + 1) - 1) s) (min (n + 1) (s.size + 1))) 9) := by
  obtain ⟨⟨m, h1⟩, _⟩ := hG
  have HC := Lib.hid (Tryz.strings_SplitN s ⟨#[32]⟩ (n + 1) m w (by omega) h1 (by decide) (by omega) (by omega))
  have hk2 : 2 ≤ min (n + 1) (s.size + 1) := by omega
  have hle : (wsK (min (n + 1) (s.size + 1) - 1) s).length ≤ min (n + 1) (s.size + 1) := by have := Lib.splitB_length_le ⟨#[32]⟩ 0 (min (n + 1) (s.size + 1) - 1) s; unfold wsK; omega
  have hl1 : 1 ≤ (wsK (min (n + 1) (s.size + 1) - 1) s).length := by
    obtain ⟨x, t, e, _⟩ := wsK_got (min (n + 1) (s.size + 1) - 1) s.data.toList
    have e2 : (⟨s.data.toList.toArray⟩ : ByteArray) = s := rfl
    rw [e2] at e; rw [e]; simp
  have hcap : min (n + 1) (s.size + 1) ≤ 10 := by omega
  have hw : Hid (wsK (min (n + 1) (s.size + 1) - 1) s = Lib.splitB ⟨#[32]⟩ 0 (min (n + 1) (s.size + 1) - 1) s) := rfl
  clear h1
  rw [← hw.out] at HC
  generalize wsK (min (n + 1) (s.size + 1) - 1) s = ws at *
  generalize min (n + 1) (s.size + 1) = cap at *
  clear hw
  go_enter Tryz.func83, Tryz.ntmps83
  go_wp2_with fail
  rw [show ((n : Int) + 1) = ((n + 1 : Nat) : Int) by omega]
  refine HC.out.mono ?_
  rintro e w1 ⟨rfl, rfl⟩
  have k1 : (1 : Int) ≤ ws.length := by omega
  have k2 : (ws.length : Int) ≤ cap := by omega
  have k3 : (1 : Int) < cap := by omega
  go_wp2_with fail
  go_ret
  exact ⟨rfl, rfl⟩
theorem numsOf_snoc : ∀ {l : List ByteArray} {x : ByteArray} {vs : List Int} {v : Int}, numsOf l = some vs → numOf x.data.toList = some v → numsOf (l ++ [x]) = some (vs ++ [v])
  | [], x, vs, v, h, hx => by cases h; simp [numsOf, hx]
  | a :: t, x, vs, v, h, hx => by
    unfold numsOf at h
    split at h
    · rename_i u m hu hm
      cases h
      have := numsOf_snoc hm hx
      show numsOf (a :: (t ++ [x])) = _
      unfold numsOf
      rw [hu, this]; rfl
    · cases h
theorem numsOf_none : ∀ {l : List ByteArray} (k : Nat), k < l.length → numOf (l.getD k ⟨#[]⟩).data.toList = none → numsOf l = none
  | a :: t, 0, _, h => by
    simp at h
    unfold numsOf; rw [h]
  | a :: t, k + 1, hk, h => by
    have := numsOf_none (l := t) k (by simpa using hk) (by simpa using h)
    unfold numsOf; rw [this]
    cases numOf a.data.toList <;> rfl
/-- numbers stored behind pointers -/
structure NSt (w0 W : World) (ps : List (Nat × Nat)) (vs : List Int) : Prop where
  len : vs.length = ps.length
  at_ : ∀ j, j < ps.length → W.cell? ⟨(ps.getD j (0, 0)).1, (ps.getD j (0, 0)).2, none⟩ = some (.int .i64 (vs.getD j 0))
  oth : ∀ b o, b < w0.heap.size → (∀ j, j < ps.length → (b, o) ≠ ps.getD j (0, 0)) → W.cell? ⟨b, o, none⟩ = w0.cell? ⟨b, o, none⟩
  fz : ∀ b o, b < w0.heap.size → W.frozen? ⟨b, o, none⟩ = w0.frozen? ⟨b, o, none⟩
  blk : ∀ b, b < w0.heap.size → (∀ j, j < ps.length → b ≠ (ps.getD j (0, 0)).1) → W.heap[b]? = w0.heap[b]?
  sz : w0.heap.size ≤ W.heap.size
  os : W.os = w0.os
  tape : W.tape = w0.tape
  output : W.output = w0.output
/-- where numbers can be stored -/
structure PsOk (w : World) (ps : List (Nat × Nat)) : Prop where
  lt : ∀ j, j < ps.length → (ps.getD j (0, 0)).1 < w.heap.size
  ge : ∀ j, j < ps.length → 8 ≤ (ps.getD j (0, 0)).1
  fz : ∀ j, j < ps.length → w.frozen? ⟨(ps.getD j (0, 0)).1, (ps.getD j (0, 0)).2, none⟩ = false
  ne : ∀ i j, i < ps.length → j < ps.length → i ≠ j → ps.getD i (0, 0) ≠ ps.getD j (0, 0)
theorem NSt.start {w : World} {ps : List (Nat × Nat)} {vs : List Int} (hl : vs.length = ps.length) (h : ∀ j, j < ps.length → w.cell? ⟨(ps.getD j (0, 0)).1, (ps.getD j (0, 0)).2, none⟩ = some (.int .i64 (vs.getD j 0))) : NSt w w ps vs :=
  ⟨hl, h, fun _ _ _ _ => rfl, fun _ _ _ => rfl, fun _ _ _ => rfl, Nat.le_refl _, rfl, rfl, rfl⟩
theorem NSt.below {w0 W W' : World} {ps : List (Nat × Nat)} {vs : List Int} (h : NSt w0 W ps vs) (hp : PsOk w0 ps) (hb : Below W.heap.size W W') : NSt w0 W' ps vs := by
  have hc : ∀ b o, b < w0.heap.size → W'.cell? ⟨b, o, none⟩ = W.cell? ⟨b, o, none⟩ := fun b o hlt => hb.cell (p := ⟨b, o, none⟩) (Nat.lt_of_lt_of_le hlt h.sz)
  exact ⟨h.len, fun j hj => (hc _ _ (hp.lt j hj)).trans (h.at_ j hj), fun b o hlt hn => (hc b o hlt).trans (h.oth b o hlt hn), fun b o hlt => (hb.frozen (p := ⟨b, o, none⟩) (Nat.lt_of_lt_of_le hlt h.sz)).trans (h.fz b o hlt), fun b hlt hn => (hb.block b (Nat.lt_of_lt_of_le hlt h.sz)).trans (h.blk b hlt hn), Nat.le_trans h.sz hb.size, hb.os.trans h.os, hb.tape.trans h.tape, hb.output.trans h.output⟩
theorem NSt.set {w0 W : World} {ps : List (Nat × Nat)} {vs : List Int} (h : NSt w0 W ps vs) (hp : PsOk w0 ps) {k : Nat} (hk : k < ps.length) (v : Int) : NSt w0 (W.setCell ⟨(ps.getD k (0, 0)).1, (ps.getD k (0, 0)).2, none⟩ (.int .i64 v)) ps (vs.set k v) := by
  have hlt := hp.lt k hk
  have hcell := h.at_ k hk
  have hself : (W.setCell ⟨(ps.getD k (0, 0)).1, (ps.getD k (0, 0)).2, none⟩ (.int .i64 v)).cell? ⟨(ps.getD k (0, 0)).1, (ps.getD k (0, 0)).2, none⟩ = some (.int .i64 v) := by
    exact World.cell?_setCell_same _ _ _ hcell
  have hoth : ∀ b o, (b, o) ≠ ps.getD k (0, 0) → (W.setCell ⟨(ps.getD k (0, 0)).1, (ps.getD k (0, 0)).2, none⟩ (.int .i64 v)).cell? ⟨b, o, none⟩ = W.cell? ⟨b, o, none⟩ := fun b o hne => by
    refine World.cell?_setCell_other _ _ _ _ fun e => hne ?_
    simp only [Addr.mk.injEq, and_true] at e
    exact Prod.ext e.1.symm e.2.symm
  refine ⟨by simp [h.len], fun j hj => ?_, fun b o hb hn => (hoth b o (hn k hk)).trans (h.oth b o hb hn), fun b o hb => ?_, fun b hb hn => ?_, by simpa using h.sz, h.os, h.tape, h.output⟩
  · by_cases hjk : j = k
    · subst hjk
      rw [hself]
      have : j < vs.length := by rw [h.len]; exact hk
      simp [List.getD, this]
    · have e := hp.ne j k hj hk hjk
      rw [hoth _ _ (by simpa using e), h.at_ j hj]
      congr 2
      simp [List.getD, show ¬ k = j from fun e => hjk e.symm]
  · have hf := h.fz b o hb
    simpa using hf
  · exact (Below.heap_setCell W ⟨(ps.getD k (0, 0)).1, (ps.getD k (0, 0)).2, none⟩ _ b (by have := hn k hk; simpa using this)).trans (h.blk b hb hn)
theorem Glob.nst {w0 W : World} {ps : List (Nat × Nat)} {vs : List Int} (h : Glob w0) (hn : NSt w0 W ps vs) (hp : PsOk w0 ps) : Glob W :=
  h.gw fun k hk => hn.blk k (by have := h.lt; omega) fun j hj e => by have := hp.ge j hj; omega
/-- what numbers leaves -/
def NumsPost (ws : List ByteArray) (ps : List (Nat × Nat)) (w : World) (e : Ending) (w' : World) : Prop :=
  ∃ ok vs, e = .returned (.bool ok) ∧ NSt w w' ps vs ∧ (ok = true → numsOf ws = some vs) ∧ (ok = false → ∀ ns, numsOf ws = some ns → ns.length ≠ ps.length)
set_option maxRecDepth 100000 in
set_option maxHeartbeats 4000000 in
theorem numbers_any (wb wo cap tb : Nat) (ws : List ByteArray) (ps : List (Nat × Nat)) (vs0 : List Int) (w : World) (hG : Glob w) (hws : ∀ j, j < ws.length → (ws.getD j ⟨#[]⟩).size ≤ 70000 ∧ w.cell? ⟨wb, wo + j, none⟩ = some (.string (ws.getD j ⟨#[]⟩)))
    (hwl : wb < w.heap.size) (hwc : ws.length ≤ 100) (hpl : ps.length ≤ 100) (hp : PsOk w ps) (h0 : NSt w w ps vs0) (htl : tb < w.heap.size) (htc : ∀ j, j < ps.length → w.cell? ⟨tb, j, none⟩ = some (.pointer (some ⟨(ps.getD j (0, 0)).1, (ps.getD j (0, 0)).2, none⟩)))
    (hwn : ∀ j, j < ps.length → wb ≠ (ps.getD j (0, 0)).1) (htn : ∀ j, j < ps.length → tb ≠ (ps.getD j (0, 0)).1) :
    Calls Tryz.prog 82 #[.slice (some ⟨wb, wo, none⟩) ws.length cap, .slice (some ⟨tb, 0, none⟩) ps.length ps.length] w (NumsPost ws ps w) := by
  by_cases hl : ws.length = ps.length
  rotate_left
  · have hli : ((ws.length : Int) != ps.length) = true := by simp; omega
    have HL := Lib.hid hl
    clear hl hws htc
    go_enter Tryz.func82, Tryz.ntmps82
    go_wp2_with fail
    go_ret
    exact ⟨false, vs0, rfl, h0, fun h => (by cases h), fun _ ns hns e => HL.out (by rw [← numsOf_len hns, e])⟩
  have hli : ((ws.length : Int) != ps.length) = false := by simp; omega
  have HWS := Lib.hid hws
  have HTC := Lib.hid htc
  have HP := Lib.hid hp
  have HG := Lib.hid hG
  have HWN := Lib.hid hwn
  have HTN := Lib.hid htn
  have HL := Lib.hid hl
  have hpl2 : ws.length ≤ ps.length := by omega
  clear hws htc hp hwn htn hl hG
  go_enter Tryz.func82, Tryz.ntmps82
  go_wp2_with fail
  go_loopw [16] (fun i wr => ∃ (k : Nat) (vs : List Int), k ≤ ws.length ∧ i = .int .i64 k ∧ NSt w wr ps vs ∧ Hid (numsOf (ws.take k) = some (vs.take k))) (fun i _ => ws.length - (intOf i).toNat)
  case atStart => exact ⟨0, vs0, by omega, rfl, h0, rfl⟩
  case round =>
    obtain ⟨k, vs, hk, rfl, hn, hr⟩ := hrel
    have HN := Lib.hid hn
    have hzr := hn.sz
    by_cases hlt : k < ws.length
    · have hltp : k < ps.length := by omega
      have hgl : (ps.getD k (0, 0)).1 < wr.heap.size := Nat.lt_of_lt_of_le (HP.out.lt k hltp) hzr
      have x0 := (hn.oth wb (wo + k) hwl (fun j hj e => HWN.out j hj (by rw [← e]))).trans (HWS.out k hlt).2
      have y0 := (hn.oth tb k htl (fun j hj e => HTN.out j hj (by rw [← e]))).trans (HTC.out k hltp)
      have hsz := (HWS.out k hlt).1
      have HNO := Lib.hid (fun h => numsOf_none (l := ws) k hlt h)
      have hts : ws.take (k + 1) = ws.take k ++ [ws.getD k ⟨#[]⟩] := take_get ws ⟨#[]⟩ k hlt
      have HSN : Hid (∀ v, numOf (ws.getD k ⟨#[]⟩).data.toList = some v → numsOf (ws.take (k + 1)) = some (vs.take k ++ [v])) := fun v hv => by rw [hts]; exact numsOf_snoc hr.out hv
      have hgz := HG.out.nst hn HP.out
      have hvl : k < vs.length := by rw [hn.len]; exact hltp
      have HVT : Hid (∀ v, (vs.set k v).take (k + 1) = vs.take k ++ [v]) := fun v => by
        rw [take_get _ 0 k (by simpa using hvl)]
        congr 1
        · rw [List.take_set_of_le (Nat.le_refl _)]
        · simp [List.getD, hvl]
      have hat := hn.at_ k hltp
      have hfz := (hn.fz (ps.getD k (0, 0)).1 (ps.getD k (0, 0)).2 (HP.out.lt k hltp)).trans (HP.out.fz k hltp)
      have HST := Lib.hid (fun (W : World) (hb : Below wr.heap.size wr W) (v : Int) => (HN.out.below HP.out hb).set HP.out hltp v)
      clear hts hn
      generalize hpk : ps.getD k (0, 0) = pk at hgl y0 hat hfz HST
      clear hpk
      obtain ⟨g, o⟩ := pk
      dsimp only at hgl y0 hat hfz HST
      generalize ws.getD k ⟨#[]⟩ = word at *
      go_wp2_with fail
      refine (number_any word hsz _ hgz).mono ?_
      rintro e w2 ⟨⟨v, b, rfl, hy, hno⟩, b2⟩
      have z0 := (b2.cell (p := ⟨tb, k, none⟩) (by show tb < _; omega)).trans y0
      have za := (b2.cell (p := ⟨g, o, none⟩) hgl).trans hat
      have zf := (b2.frozen (p := ⟨g, o, none⟩) hgl).trans hfz
      have HZ := Lib.hid (HST.out w2 b2 v)
      have HB2 := Lib.hid (HN.out.below HP.out b2)
      cases b with
      | false =>
        have HR := Lib.hid (HNO.out (hno rfl))
        clear hy hno b2
        go_wp2_with fail
        go_ret
        exact ⟨false, vs, rfl, HB2.out, fun h => (by cases h), fun _ ns hns => by rw [HR.out] at hns; cases hns⟩
      | true =>
        have HR := Lib.hid (HSN.out v (hy rfl))
        have hpi : (k : Int) < ps.length := by omega
        have hz2 := b2.size
        clear hy hno b2
        go_wp2_with fail
        go_roundw
        case rel => exact ⟨k + 1, vs.set k v, by omega, by go_num, HZ.out, by show _ = _; rw [HR.out, HVT.out]⟩
        case measure => simp [intOf]; omega
    · have hke : k = ws.length := by omega
      have HR : Hid (numsOf ws = some vs) := by
        have h := hr.out
        rw [List.take_of_length_le (by omega), List.take_of_length_le (by rw [hn.len]; have := HL.out; omega)] at h
        exact h
      have hge : ¬ (k : Int) < ws.length := by omega
      clear hn hke hr
      go_wp2_with fail
      go_ret
      exact ⟨true, vs, rfl, HN.out, fun _ => HR.out, fun h => by cases h⟩
end Go.Proofs.YtmcgddlblhinlaaGreatDoor

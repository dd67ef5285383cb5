/- Print and the reference's Print. -/
import Derived.Test.YtgnlanfpholdaaaDoorG2
import Derived.Test.YtgnlanfpholdaaaDoorG11
import Derived.Test.YtgnlanfpholdaaaDoorG12
import Derived.Test.YtgnlanfpholdaaaDoorP1
namespace Go.Proofs.YtgnlanfpholdaaaDoor
open Go.RowKit
theorem PB.belowB {w W W' : World} {qv cv : Value} {B : Nat} (h : PB w W qv cv) (hb : Below B W W') (hB : w.heap.size < B) : PB w W' qv cv :=
  ⟨⟨Nat.lt_of_lt_of_le h.two.lt hb.size, (hb.cell (p := ⟨w.heap.size, 0, none⟩) hB).trans h.two.c0, (hb.cell (p := ⟨w.heap.size, 1, none⟩) hB).trans h.two.c1⟩, h.bel.trans (hb.mono (by omega))⟩
/-- what Print answers -/
def printE (qs : List Int) (cs : List Con) : Int := if planE qs cs = 0 then 0 else 1
def planL (qs : List Int) (cs : List Con) : List UInt8 := nodesL qs qs.length ++ consL cs cs.length
def printS (qs : List Int) (cs : List Con) : ByteArray := if planE qs cs = 0 then ⟨(planL qs cs).toArray⟩ else ⟨#[]⟩
/-- a builder under way -/
def Bl (W : World) (n : Nat) (l : List UInt8) : Prop := n ≤ W.heap.size ∧ Lib.IsBuilder 67 5 n n (Lib.byteCells l) W
theorem Bl.below {W W' : World} {n : Nat} {l : List UInt8} (h : Bl W n l) (hb : Below W.heap.size W W') : Bl W' n l := by
  refine ⟨Nat.le_trans h.1 hb.size, ?_⟩
  have step : ∀ p, Lib.BuilderAt 67 5 n n p (Lib.byteCells l) W → Lib.BuilderAt 67 5 n n p (Lib.byteCells l) W' := fun p hp => by
    have hlt := hp.lt
    obtain ⟨h1, v, h2, h3, h4⟩ := hp
    exact ⟨h1, v, (hb.block n hlt).trans h2, own_below h3 hb, h4⟩
  exact h.2.imp (step _) (step _)
theorem Bl.new (w : World) : Bl (w.alloc (.cells #[.pointer none, .slice none 0 0] 67)) w.heap.size [] := ⟨by simp, Lib.fresh_isBuilder 67 5 w⟩
theorem write_any (n : Nat) (l l' : List UInt8) (s : ByteArray) (hs : s = ⟨l'.toArray⟩) (W : World) (h : Bl W n l) (hlen : l.length + l'.length ≤ 140737488355328) :
    Calls Tryd.prog 50 #[.pointer (some ⟨n, 0, none⟩), .string s] W fun e w' => (∃ k, e = .returned (.tuple #[.int .i64 k, .nilIface])) ∧ Bl w' n (l ++ l') ∧ Below n W w' := by
  subst hs
  refine (bu_write n n l _ W h.2 (by rw [mk_size]; exact hlen) h.1).mono ?_
  rintro e w' ⟨rfl, hb, hw⟩
  exact ⟨⟨_, rfl⟩, ⟨Nat.le_trans h.1 hw.size, hb⟩, hw⟩
theorem node_ok {qs : List Int} (h : qs.length ≤ 16) (hq : ∀ j, j < qs.length → 0 ≤ qs.getD j 0 ∧ qs.getD j 0 ≤ 1099511627776) {k : Nat} (hk : k < qs.length) : Okn [(k : Int), qs.getD k 0] := ⟨by simp, fun j hj => by
  match j, hj with
  | 0, _ => show 0 ≤ (k : Int) ∧ (k : Int) ≤ _; omega
  | 1, _ => exact hq k hk
  | j + 2, hj => simp at hj; omega⟩
theorem quE_mem : ∀ {qs : List Int}, quE qs = 0 → ∀ q ∈ qs, 0 ≤ q ∧ q ≤ 1073741824
  | [], _, q, hq => by simp at hq
  | x :: t, h, q, hq => by
    rw [quE] at h
    by_cases hx : x < 0 ∨ 1073741824 < x
    · rw [if_pos hx] at h; cases h
    · rw [if_neg hx] at h
      rcases List.mem_cons.1 hq with rfl | hq
      · omega
      · exact quE_mem h q hq
theorem nodesL_succ (qs : List Int) (k : Nat) : nodesL qs (k + 1) = nodesL qs k ++ lineL nodeW [(k : Int), qs.getD k 0] := rfl
theorem planL_eq (qs : List Int) (cs : List Con) : planL qs cs = nodesL qs qs.length ++ consL cs cs.length := rfl
theorem plan_nums {qs : List Int} {cs : List Con} (h : planE qs cs = 0) : (∀ j, j < qs.length → 0 ≤ qs.getD j 0 ∧ qs.getD j 0 ≤ 1099511627776) ∧ ∀ j, j < cs.length → conE (cs.getD j Con.zero) = 0 := by
  obtain ⟨_, _, _, h4, h5, _⟩ := (planE_iff qs cs).1 h
  constructor
  · intro j hj
    have := quE_mem h4 (qs.getD j 0) (by simp [List.getD, hj])
    omega
  · intro j hj
    exact (h5 (cs.getD j Con.zero) (by simp [List.getD, hj])).1
theorem ints_two (W : World) (x y : Int) : Ints (W.alloc (.cells #[.int .i64 x, .int .i64 y] 3)) (W.alloc (.cells #[.int .i64 x, .int .i64 y] 3)).heap.size (.slice (some ⟨W.heap.size, 0, none⟩) 2 2) [x, y] :=
  ⟨_, 2, rfl, by simp, by unfold maxLen; omega, fun _ => ⟨W.heap.size, 0, rfl, by simp, fun j hj => by
    match j, hj with
    | 0, _ => simp [go_sem]
    | 1, _ => simp [go_sem]
    | j + 2, hj => simp at hj; omega⟩⟩
theorem ints_seven (W : World) (c : Con) (n : Nat) (hn : n = W.heap.size) : Ints (W.alloc (.cells #[.int .i64 c.a, .int .i64 c.b, .int .i64 c.s, .int .i64 c.e, .int .i64 c.r, .int .i64 c.g, .int .i64 c.l] 3)) (W.alloc (.cells #[.int .i64 c.a, .int .i64 c.b, .int .i64 c.s, .int .i64 c.e, .int .i64 c.r, .int .i64 c.g, .int .i64 c.l] 3)).heap.size (.slice (some ⟨n, 0, none⟩) 7 7) (conNums c) := by
  subst hn
  exact ⟨_, 7, rfl, by simp [conNums], by unfold maxLen; omega, fun _ => ⟨W.heap.size, 0, rfl, by simp, fun j hj => by
    match j, hj with
    | 0, _ => simp [go_sem, conNums]
    | 1, _ => simp [go_sem, conNums]
    | 2, _ => simp [go_sem, conNums]
    | 3, _ => simp [go_sem, conNums]
    | 4, _ => simp [go_sem, conNums]
    | 5, _ => simp [go_sem, conNums]
    | 6, _ => simp [go_sem, conNums]
    | j + 7, hj => simp [conNums] at hj; omega⟩⟩
set_option maxHeartbeats 4000000 in
set_option maxRecDepth 100000 in
theorem print_ok (qv cv : Value) (qs : List Int) (cs : List Con) (w : World) (hq : Ints w w.heap.size qv qs) (hc : Cons w w.heap.size cv cs) (hG : Glob w) (hE : planE qs cs = 0) :
    Calls Tryd.prog 29 #[.agg #[qv, cv]] w fun e w' => e = .returned (.tuple #[.string ⟨(planL qs cs).toArray⟩, .int .i64 0]) ∧ Below w.heap.size w w' := by
  have HE := Lib.hid hE
  have hlen := (planE_len hE).2.2
  have hqlen := (planE_len hE).2.1
  have HNq := Lib.hid (plan_nums hE).1
  have HNc := Lib.hid (plan_nums hE).2
  have HLq := Lib.hid (nodesL_len hqlen (plan_nums hE).1)
  have HLc := Lib.hid (consL_len (plan_nums hE).2)
  have HPl := Lib.hid (planL_eq qs cs)
  clear hE
  have hq0 := hq
  have hc0 := hc
  obtain ⟨A1, c1, rfl, hc1, hm1, hA1⟩ := hq
  obtain ⟨A2, c2, rfl, hc2, hm2, hA2⟩ := hc
  unfold maxLen at hm1 hm2
  have HA1 := Lib.hid hA1
  have HA2 := Lib.hid hA2
  clear hA1 hA2
  go_enter Tryd.func29, Tryd.ntmps29
  go_wp2_with fail
  have b0 := PB.new w (.slice A1 qs.length c1) (.slice A2 cs.length c2) 25
  refine (pcheck_any _ _ qs cs _ (b0.ints hq0) (b0.cons hc0)).mono ?_
  rw [HE.out]
  rintro e w1 ⟨rfl, hb1⟩
  have b1 := b0.below hb1
  have q0 := b1.two.c0
  have q1 := b1.two.c1
  have hl := b1.two.lt
  clear hb1 b0
  go_wp2_with fail
  have b2 := b1.alloc (.cells #[.pointer none, .slice none 0 0] 67)
  have l2 := Bl.new w1
  have hnw : w.heap.size < w1.heap.size := hl
  clear b1 q0 q1 hl
  generalize (w1.alloc (.cells #[.pointer none, .slice none 0 0] 67)) = w2 at *
  generalize w1.heap.size = n1 at *
  go_loopw [15] (fun i wr => ∃ k : Nat, k ≤ qs.length ∧ i = .int .i64 k ∧ PB w wr (.slice A1 qs.length c1) (.slice A2 cs.length c2) ∧ Bl wr n1 (nodesL qs k)) (fun i _ => qs.length - (intOf i).toNat)
  case atStart => exact ⟨0, by omega, rfl, b2, l2⟩
  case round =>
    obtain ⟨k, hk, rfl, br, lr⟩ := hrel
    have q0 := br.two.c0
    have q1 := br.two.c1
    have hl := br.two.lt
    have hnr := lr.1
    by_cases hlt : k < qs.length
    · obtain ⟨b, o, rfl, hb, hcell⟩ := HA1.out (by omega)
      have hx := (br.bel.cell (p := ⟨b, o + k, none⟩) hb).trans (hcell k hlt)
      have hbr : b < wr.heap.size := Nat.lt_of_lt_of_le hb br.bel.size
      have hok := Lib.hid (node_ok hqlen HNq.out hlt)
      have hln := HLq.out k hk
      have hll : (lineL nodeW [(k : Int), qs.getD k 0]).length ≤ 201 := lineL_len (by simp [nodeW]) hok.out
      have HST := Lib.hid (nodesL_succ qs k)
      clear hcell
      generalize qs.getD k 0 = x at *
      go_wp2_with fail
      have hI := ints_two wr (k : Int) x
      have b3 := br.alloc (.cells #[.int .i64 k, .int .i64 x] 3)
      have l3 := lr.below ((Below.refl _ wr).alloc (Nat.le_refl _) (.cells #[.int .i64 k, .int .i64 x] 3))
      refine (line_any nodeW (by simp [nodeW]) _ _ hok.out _ hI (b3.glob hG)).mono ?_
      rintro e w4 ⟨rfl, hb4⟩
      have b4 := b3.below hb4
      have l4 := l3.below hb4
      clear hI b3 l3 hb4 q0 q1 hl hx
      go_wp2_with fail
      refine (write_any n1 _ _ _ rfl w4 l4 (by omega)).mono ?_
      rintro e w5 ⟨⟨y, rfl⟩, l5, hb5⟩
      have b5 := b4.belowB hb5 hnw
      rw [← HST.out] at l5
      clear hb5 l4 b4
      go_wp2_with fail
      go_roundw
      case rel => exact ⟨k + 1, by omega, by go_num, b5, l5⟩
      case measure => simp [intOf]; omega
    · obtain rfl : k = qs.length := by omega
      go_wp2_with fail
      have hlq := HLq.out qs.length (Nat.le_refl _)
      generalize nodesL qs qs.length = L0 at *
      clear q0 q1 hl
      obtain ⟨wo, rfl⟩ : ∃ wo : World, wo = wr := ⟨_, rfl⟩
      go_loopw [29] (fun i wx => ∃ k : Nat, k ≤ cs.length ∧ i = .int .i64 k ∧ PB w wx (.slice A1 qs.length c1) (.slice A2 cs.length c2) ∧ Bl wx n1 (L0 ++ consL cs k)) (fun i _ => cs.length - (intOf i).toNat)
      case atStart => exact ⟨0, by omega, rfl, br, by simpa [consL] using lr⟩
      case round =>
        clear br lr
        obtain ⟨k, hk, rfl, br, lr⟩ := hrel
        have q0 := br.two.c0
        have q1 := br.two.c1
        have hl := br.two.lt
        have hnr := lr.1
        by_cases hlt : k < cs.length
        · obtain ⟨b, o, rfl, hb, hcell⟩ := HA2.out (by omega)
          have hx := (hcell k hlt).below br.bel hb
          have hok := Lib.hid (conNums_ok (HNc.out k hlt))
          have hln := HLc.out k hk
          have hll : (lineL conW (conNums (cs.getD k Con.zero))).length ≤ 201 := lineL_len (by simp [conW]) hok.out
          have HST : Hid ((L0 ++ consL cs k) ++ lineL conW (conNums (cs.getD k Con.zero)) = L0 ++ consL cs (k + 1)) := by show _ = _; rw [consL, List.append_assoc]
          have hll2 : (L0 ++ consL cs k).length ≤ 201 * 16 + 201 * 64 := by rw [List.length_append]; omega
          clear hcell
          generalize cs.getD k Con.zero = c at *
          obtain ⟨x0, x1, x2, x3, x4, x5, x6⟩ := hx
          go_wp2_with fail
          have b3 := br.alloc (.cells #[.int .i64 c.a, .int .i64 c.b, .int .i64 c.s, .int .i64 c.e, .int .i64 c.r, .int .i64 c.g, .int .i64 c.l] 40)
          have l3 := lr.below ((Below.refl _ wr).alloc (Nat.le_refl _) (.cells #[.int .i64 c.a, .int .i64 c.b, .int .i64 c.s, .int .i64 c.e, .int .i64 c.r, .int .i64 c.g, .int .i64 c.l] 40))
          have hI := ints_seven (wr.alloc (.cells #[.int .i64 c.a, .int .i64 c.b, .int .i64 c.s, .int .i64 c.e, .int .i64 c.r, .int .i64 c.g, .int .i64 c.l] 40)) c (wr.heap.size + 1) (by simp)
          have b4 := b3.alloc (.cells #[.int .i64 c.a, .int .i64 c.b, .int .i64 c.s, .int .i64 c.e, .int .i64 c.r, .int .i64 c.g, .int .i64 c.l] 3)
          have l4 := l3.below ((Below.refl _ _).alloc (Nat.le_refl _) (.cells #[.int .i64 c.a, .int .i64 c.b, .int .i64 c.s, .int .i64 c.e, .int .i64 c.r, .int .i64 c.g, .int .i64 c.l] 3))
          refine (line_any conW (by simp [conW]) _ _ hok.out _ hI (b4.glob hG)).mono ?_
          rintro e w4 ⟨rfl, hb4⟩
          have b5 := b4.below hb4
          have l5 := l4.below hb4
          clear hI b3 l3 hb4 q0 q1 hl x0 x1 x2 x3 x4 x5 x6 b4 l4
          go_wp2_with fail
          refine (write_any n1 _ _ _ rfl w4 l5 (by omega)).mono ?_
          rintro e w5 ⟨⟨y, rfl⟩, l6, hb6⟩
          have b6 := b5.belowB hb6 hnw
          rw [HST.out] at l6
          clear hb6 l5 b5
          go_wp2_with fail
          go_roundw
          case rel => exact ⟨k + 1, by omega, by go_num, b6, l6⟩
          case measure => simp [intOf]; omega
        · obtain rfl : k = cs.length := by omega
          rw [← HPl.out] at lr
          go_wp2_with fail
          refine (Tryd.Builder_String_any n1 n1 _ wr lr.2 hnr).mono ?_
          rintro e w6 ⟨rfl, hb6⟩
          have b6 := br.belowB hb6 hnw
          go_wp2_with fail
          go_ret2
          exact ⟨rfl, b6.bel⟩
set_option maxHeartbeats 2000000 in
theorem print_any (qv cv : Value) (qs : List Int) (cs : List Con) (w : World) (hq : Ints w w.heap.size qv qs) (hc : Cons w w.heap.size cv cs) (hG : Glob w) :
    Calls Tryd.prog 29 #[.agg #[qv, cv]] w fun e w' => e = .returned (.tuple #[.string (printS qs cs), .int .i64 (printE qs cs)]) ∧ Below w.heap.size w w' := by
  by_cases hE : planE qs cs = 0
  · rw [printS, printE, if_pos hE, if_pos hE]
    exact print_ok qv cv qs cs w hq hc hG hE
  · rw [printS, printE, if_neg hE, if_neg hE]
    have hEb : (planE qs cs != 0) = true := by simpa using hE
    clear hE
    have hq0 := hq
    have hc0 := hc
    obtain ⟨A1, c1, rfl, hc1, hm1, _⟩ := hq
    obtain ⟨A2, c2, rfl, hc2, hm2, _⟩ := hc
    go_enter Tryd.func29, Tryd.ntmps29
    go_wp2_with fail
    have b0 := PB.new w (.slice A1 qs.length c1) (.slice A2 cs.length c2) 25
    refine (pcheck_any _ _ qs cs _ (b0.ints hq0) (b0.cons hc0)).mono ?_
    rintro e w1 ⟨rfl, hb1⟩
    have b1 := b0.below hb1
    clear hb1 b0
    go_wp2_with fail
    go_ret2
    exact ⟨rfl, b1.bel⟩
def nodesS (qs : List Int) (k : Nat) : ByteArray := ⟨(nodesL qs k).toArray⟩
def planS (qs : List Int) (cs : List Con) (k : Nat) : ByteArray := ⟨(nodesL qs qs.length ++ consL cs k).toArray⟩
theorem nodesS_succ (qs : List Int) (k : Nat) : nodesS qs (k + 1) = nodesS qs k ++ lineS nodeW [(k : Int), qs.getD k 0] := by
  rw [nodesS, nodesL, nodesS, lineS, ByteArray.mk_append_mk]
theorem planS_zero (qs : List Int) (cs : List Con) : planS qs cs 0 = nodesS qs qs.length := by rw [planS, consL, List.append_nil, nodesS]
theorem planS_succ (qs : List Int) (cs : List Con) (k : Nat) : planS qs cs (k + 1) = planS qs cs k ++ lineS conW (conNums (cs.getD k Con.zero)) := by
  rw [planS, consL, planS, lineS, ByteArray.mk_append_mk, List.append_assoc]
set_option maxHeartbeats 4000000 in
set_option maxRecDepth 100000 in
theorem rprint_ok (qv cv : Value) (qs : List Int) (cs : List Con) (w : World) (hq : Ints w w.heap.size qv qs) (hc : Cons w w.heap.size cv cs) (hE : planE qs cs = 0) :
    Calls Tryd.prog 30 #[.agg #[qv, cv]] w fun e w' => e = .returned (.tuple #[.string (planS qs cs cs.length), .int .i64 0]) ∧ Below w.heap.size w w' := by
  have HE := Lib.hid hE
  have hlen := (planE_len hE).2.2
  have hqlen := (planE_len hE).2.1
  have HNq := Lib.hid (plan_nums hE).1
  have HNc := Lib.hid (plan_nums hE).2
  have HLq := Lib.hid (nodesL_len hqlen (plan_nums hE).1)
  have HLc := Lib.hid (consL_len (plan_nums hE).2)
  have HPz := Lib.hid (planS_zero qs cs)
  have HN0 : Hid (nodesS qs 0 = ⟨#[]⟩) := rfl
  clear hE
  have hq0 := hq
  have hc0 := hc
  obtain ⟨A1, c1, rfl, hc1, hm1, hA1⟩ := hq
  obtain ⟨A2, c2, rfl, hc2, hm2, hA2⟩ := hc
  unfold maxLen at hm1 hm2
  have HA1 := Lib.hid hA1
  have HA2 := Lib.hid hA2
  clear hA1 hA2
  go_enter Tryd.func30, Tryd.ntmps30
  go_wp2_with fail
  have b0 := PB.new w (.slice A1 qs.length c1) (.slice A2 cs.length c2) 25
  refine (rpcheck_any _ _ qs cs _ (b0.ints hq0) (b0.cons hc0)).mono ?_
  rw [HE.out]
  rintro e w1 ⟨rfl, hb1⟩
  have b1 := b0.below hb1
  have q0 := b1.two.c0
  have q1 := b1.two.c1
  have hl := b1.two.lt
  clear hb1 b0
  go_wp2_with fail
  clear q0 q1 hl
  go_loopw [4, 5] (fun s i wr => ∃ k : Nat, k ≤ qs.length ∧ i = .int .i64 k ∧ s = .string (nodesS qs k) ∧ PB w wr (.slice A1 qs.length c1) (.slice A2 cs.length c2)) (fun _ i _ => qs.length - (intOf i).toNat)
  case atStart => exact ⟨0, by omega, rfl, by rw [HN0.out], b1⟩
  case round =>
    obtain ⟨k, hk, rfl, rfl, br⟩ := hrel
    have q0 := br.two.c0
    have q1 := br.two.c1
    have hl := br.two.lt
    have hln := HLq.out k hk
    have hsz : (nodesS qs k).size ≤ 201 * 16 := by rw [nodesS, mk_size]; omega
    by_cases hlt : k < qs.length
    · obtain ⟨b, o, rfl, hb, hcell⟩ := HA1.out (by omega)
      have hx := (br.bel.cell (p := ⟨b, o + k, none⟩) hb).trans (hcell k hlt)
      have hbr : b < wr.heap.size := Nat.lt_of_lt_of_le hb br.bel.size
      have hok := Lib.hid (node_ok hqlen HNq.out hlt)
      have hll : (lineS nodeW [(k : Int), qs.getD k 0]).size ≤ 201 := by rw [lineS, mk_size]; exact lineL_len (by simp [nodeW]) hok.out
      have HST := Lib.hid (nodesS_succ qs k)
      have HNW : Hid (ByteArray.mk #[110, 111, 100, 101] = ⟨nodeW.toArray⟩) := rfl
      clear hcell
      generalize qs.getD k 0 = x at *
      go_wp2_with fail
      have hI := ints_two wr (k : Int) x
      have b3 := br.alloc (.cells #[.int .i64 k, .int .i64 x] 3)
      refine (rline_any nodeW (by simp [nodeW]) _ _ hok.out _ hI).mono ?_
      rintro e w4 ⟨rfl, hb4⟩
      have b4 := b3.below hb4
      clear hI b3 hb4 q0 q1 hl hx
      go_wp2_with fail
      go_roundw
      case rel => exact ⟨k + 1, by omega, by go_num, by rw [HST.out], b4⟩
      case measure => simp [intOf]; omega
    · obtain rfl : k = qs.length := by omega
      go_wp2_with fail
      clear q0 q1 hl
      obtain ⟨wo, rfl⟩ : ∃ wo : World, wo = wr := ⟨_, rfl⟩
      go_loopw [4, 6] (fun s i wx => ∃ k : Nat, k ≤ cs.length ∧ i = .int .i64 k ∧ s = .string (planS qs cs k) ∧ PB w wx (.slice A1 qs.length c1) (.slice A2 cs.length c2)) (fun _ i _ => cs.length - (intOf i).toNat)
      case atStart => exact ⟨0, by omega, rfl, by rw [HPz.out], br⟩
      case round =>
        clear br hsz
        obtain ⟨k, hk, rfl, rfl, br⟩ := hrel
        have q0 := br.two.c0
        have q1 := br.two.c1
        have hl := br.two.lt
        have hln2 := HLc.out k hk
        have hsz : (planS qs cs k).size ≤ 201 * 16 + 201 * 64 := by rw [planS, mk_size, List.length_append]; omega
        by_cases hlt : k < cs.length
        · obtain ⟨b, o, rfl, hb, hcell⟩ := HA2.out (by omega)
          have hx := (hcell k hlt).below br.bel hb
          have hbr : b < wr.heap.size := Nat.lt_of_lt_of_le hb br.bel.size
          have hok := Lib.hid (conNums_ok (HNc.out k hlt))
          have hll : (lineS conW (conNums (cs.getD k Con.zero))).size ≤ 201 := by rw [lineS, mk_size]; exact lineL_len (by simp [conW]) hok.out
          have HST := Lib.hid (planS_succ qs cs k)
          clear hcell
          generalize cs.getD k Con.zero = c at *
          obtain ⟨x0, x1, x2, x3, x4, x5, x6⟩ := hx
          go_wp2_with fail
          refine (numbers_any c _).mono ?_
          rintro e w3 ⟨v3, rfl, hI, hb3⟩
          have b3 := br.below hb3
          obtain ⟨A3, c3, rfl, h3⟩ := hI
          have hI : Ints w3 w3.heap.size (.slice A3 (conNums c).length c3) (conNums c) := ⟨A3, c3, rfl, h3⟩
          clear h3 hb3 q0 q1 hl x0 x1 x2 x3 x4 x5 x6
          go_wp2_with fail
          refine (rline_any conW (by simp [conW]) _ _ hok.out _ hI).mono ?_
          rintro e w4 ⟨rfl, hb4⟩
          have b4 := b3.below hb4
          clear hI b3 hb4
          go_wp2_with fail
          go_roundw
          case rel => exact ⟨k + 1, by omega, by go_num, by rw [HST.out], b4⟩
          case measure => simp [intOf]; omega
        · obtain rfl : k = cs.length := by omega
          go_wp2_with fail
          go_ret2
          exact ⟨rfl, br.bel⟩
theorem rprint_any (qv cv : Value) (qs : List Int) (cs : List Con) (w : World) (hq : Ints w w.heap.size qv qs) (hc : Cons w w.heap.size cv cs) :
    Calls Tryd.prog 30 #[.agg #[qv, cv]] w fun e w' => e = .returned (.tuple #[.string (printS qs cs), .int .i64 (printE qs cs)]) ∧ Below w.heap.size w w' := by
  by_cases hE : planE qs cs = 0
  · rw [printS, printE, if_pos hE, if_pos hE]
    exact rprint_ok qv cv qs cs w hq hc hE
  · rw [printS, printE, if_neg hE, if_neg hE]
    have hEb : (planE qs cs != 0) = true := by simpa using hE
    clear hE
    have hq0 := hq
    have hc0 := hc
    obtain ⟨A1, c1, rfl, hc1, hm1, _⟩ := hq
    obtain ⟨A2, c2, rfl, hc2, hm2, _⟩ := hc
    go_enter Tryd.func30, Tryd.ntmps30
    go_wp2_with fail
    have b0 := PB.new w (.slice A1 qs.length c1) (.slice A2 cs.length c2) 25
    refine (rpcheck_any _ _ qs cs _ (b0.ints hq0) (b0.cons hc0)).mono ?_
    rintro e w1 ⟨rfl, hb1⟩
    have b1 := b0.below hb1
    clear hb1 b0
    go_wp2_with fail
    go_ret2
    exact ⟨rfl, b1.bel⟩
end Go.Proofs.YtgnlanfpholdaaaDoor

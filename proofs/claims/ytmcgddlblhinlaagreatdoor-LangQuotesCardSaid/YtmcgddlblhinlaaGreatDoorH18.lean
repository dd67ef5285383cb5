/- A plan's lines are printed. -/
import Derived.Test.YtmcgddlblhinlaaGreatDoorH17
namespace Go.Proofs.YtmcgddlblhinlaaGreatDoor
open Go.RowKit
/-- the text of the first k elements -/
def segT {α : Type} (f : α → List Item) (l : List α) (k : Nat) : List UInt8 := linesL ((l.take k).flatMap f)
theorem segT_zero {α : Type} (f : α → List Item) (l : List α) : segT f l 0 = [] := rfl
theorem segT_succ {α : Type} (f : α → List Item) (l : List α) (z : α) (k : Nat) (h : k < l.length) : segT f l (k + 1) = segT f l k ++ linesL (f (l.getD k z)) := by
  rw [segT, take_get l z k h]; simp [segT, linesL]
theorem segT_all {α : Type} (f : α → List Item) (l : List α) : segT f l l.length = linesL (l.flatMap f) := by rw [segT, List.take_length]
theorem segT_len {α : Type} (f : α → List Item) (l : List α) (c : Nat) (h : ∀ x ∈ l, (linesL (f x)).length ≤ c) (k : Nat) : (segT f l k).length ≤ c * l.length := by
  have key : ∀ l : List α, (∀ x ∈ l, (linesL (f x)).length ≤ c) → (linesL (l.flatMap f)).length ≤ c * l.length := by
    intro l
    induction l with
    | nil => intro _; simp [linesL]
    | cons x t ih =>
      intro h
      have h1 := h x (by simp)
      have h2 := ih fun y hy => h y (by simp [hy])
      rw [List.flatMap_cons, linesL_append, List.length_append, List.length_cons, Nat.mul_add]
      omega
  have h1 := key (l.take k) fun x hx => h x (List.mem_of_mem_take hx)
  have h2 : (l.take k).length ≤ l.length := by rw [List.length_take]; omega
  exact Nat.le_trans h1 (Nat.mul_le_mul_left c h2)
theorem linesL_one (x : Item) : linesL [x] = lineI x := by simp [linesL]
theorem map_fm {α β : Type} (g : α → β) (l : List α) : l.map g = l.flatMap fun x => [g x] := by
  induction l with
  | nil => rfl
  | cons x t ih => simp [ih]
theorem node_line (k : Nat) (q : Int) : joinS nodeS ([(k : Int), q].map itoaS) ++ ⟨#[10]⟩ = ⟨(lineI (.node k q)).toArray⟩ := line_eq _ _
theorem con_line (c : Con) : joinS conS ((conNums c).map itoaS) ++ ⟨#[10]⟩ = ⟨(lineI (.con c)).toArray⟩ := line_eq _ _
theorem num_sz {word : ByteArray} (hw : word.size ≤ 20) {l : List Int} (h : InR l) (hl : l.length ≤ 10) {t : List UInt8} (e : joinS word (l.map itoaS) ++ ⟨#[10]⟩ = ⟨t.toArray⟩) : t.length ≤ 800000 :=
  line_sz hw (l := l.map Arg.num) (fun a ha => by obtain ⟨n, hn, rfl⟩ := List.mem_map.1 ha; exact h n hn) (by simpa using hl) (by rw [nums_args]; exact e)
def nodesT (qs : List Int) (k : Nat) : List UInt8 := linesL (nodeItems 0 (qs.take k))
theorem nodesT_succ (qs : List Int) (k : Nat) (h : k < qs.length) : nodesT qs (k + 1) = nodesT qs k ++ lineI (.node k (qs.getD k 0)) := by
  rw [nodesT, take_get qs 0 k h, nodeItems_snoc, linesL_append, linesL_one, nodesT]
  have e : (qs.take k).length = k := by rw [List.length_take]; omega
  rw [e, Nat.zero_add]
theorem nodesT_len {qs : List Int} (hl : qs.length ≤ 16) (hq : ∀ q ∈ qs, 0 ≤ q ∧ q ≤ 1099511627776) : ∀ k, k ≤ qs.length → (nodesT qs k).length ≤ 800000 * k
  | 0, _ => by simp [nodesT, nodeItems, linesL]
  | k + 1, hk => by
    have h1 := nodesT_len hl hq k (by omega)
    have hm : qs.getD k 0 ∈ qs := by simp [List.getD, show k < qs.length by omega]
    have := hq _ hm
    have h2 := num_sz (by decide) (l := [(k : Int), qs.getD k 0]) (fun n hn => by
      simp only [List.mem_cons, List.not_mem_nil, or_false] at hn
      rcases hn with rfl | rfl <;> omega) (by simp) (node_line k (qs.getD k 0))
    rw [nodesT_succ qs k (by omega), List.length_append]
    omega
theorem ints_two (W : World) (x y : Int) : Ints (W.alloc (.cells #[.int .i64 x, .int .i64 y] 3)) (W.alloc (.cells #[.int .i64 x, .int .i64 y] 3)).heap.size (.slice (some ⟨W.heap.size, 0, none⟩) 2 2) [x, y] :=
  ⟨_, 2, rfl, by simp, by unfold maxLen; omega, fun _ => ⟨W.heap.size, 0, rfl, by simp, fun j hj => by
    match j, hj with
    | 0, _ => simp [go_sem]
    | 1, _ => simp [go_sem]
    | j + 2, hj => simp at hj; omega⟩⟩
theorem ints_seven (W : World) (c : Con) (n : Nat) (hn : n = W.heap.size) : Ints (W.alloc (.cells #[.int .i64 c.a, .int .i64 c.b, .int .i64 c.s, .int .i64 c.e, .int .i64 c.r, .int .i64 c.g, .int .i64 c.l] 3)) (W.alloc (.cells #[.int .i64 c.a, .int .i64 c.b, .int .i64 c.s, .int .i64 c.e, .int .i64 c.r, .int .i64 c.g, .int .i64 c.l] 3)).heap.size (.slice (some ⟨n, 0, none⟩) 7 7) (conNums c) := by
  subst hn
  exact ⟨_, 7, rfl, by simp [conNums], by unfold maxLen; omega, fun _ => ⟨W.heap.size, 0, rfl, by simp, fun j hj => by
    match j, hj with
    | 0, _ => simp [go_sem, conNums]
    | 1, _ => simp [go_sem, conNums]
    | 2, _ => simp [go_sem, conNums]
    | 3, _ => simp [go_sem, conNums]
    | 4, _ => simp [go_sem, conNums]
    | 5, _ => simp [go_sem, conNums]
    | 6, _ => simp [go_sem, conNums]
    | j + 7, hj => simp [conNums] at hj; omega⟩⟩
/-- a plan's text -/
def planT (qs : List Int) (cs : List Con) : List UInt8 := nodesT qs qs.length ++ segT (fun c => [.con c]) cs cs.length
set_option maxHeartbeats 4000000 in
set_option maxRecDepth 100000 in
theorem pprint_any (qv cv : Value) (qs : List Int) (cs : List Con) (w : World) (hq : Ints w w.heap.size qv qs) (hc : Cons w w.heap.size cv cs) (hG : Glob w) (hE : planE qs cs = 0) (hql : qs.length ≤ 16) (hqr : ∀ q ∈ qs, 0 ≤ q ∧ q ≤ 1099511627776) (hcl : cs.length ≤ 64) (hcr : ∀ c ∈ cs, InR (conNums c)) :
    Calls Tryz.prog 32 #[.agg #[qv, cv]] w fun e w' => e = .returned (.tuple #[.string ⟨(planT qs cs).toArray⟩, .int .i64 0]) ∧ Below w.heap.size w w' := by
  have HE := Lib.hid hE
  have HLq := Lib.hid (nodesT_len hql hqr)
  have HQR := Lib.hid hqr
  have HCR := Lib.hid hcr
  have HPl : Hid (planT qs cs = nodesT qs qs.length ++ segT (fun c => [.con c]) cs cs.length) := rfl
  have HLc : Hid (∀ k, (segT (fun c => [.con c]) cs k).length ≤ 800000 * cs.length) := segT_len _ cs 800000 fun c hc => by
    rw [linesL_one]; exact num_sz (by decide) (hcr c hc) (by simp [conNums]) (con_line c)
  have HG := Lib.hid hG
  have HIq := Lib.hid hq
  have HIc := Lib.hid hc
  clear hE hqr hcr hG
  obtain ⟨A1, c1, rfl, hc1, hm1, hA1⟩ := hq
  obtain ⟨A2, c2, rfl, hc2, hm2, hA2⟩ := hc
  unfold maxLen at hm1 hm2
  have HA1 := Lib.hid hA1
  have HA2 := Lib.hid hA2
  clear hA1 hA2
  go_enter Tryz.func32, Tryz.ntmps32
  go_wp2_with fail
  have m0 : (w.alloc (.cells #[.slice A1 qs.length c1, .slice A2 cs.length c2] 26)).cell? ⟨w.heap.size, 0, none⟩ = some (.slice A1 qs.length c1) := by simp [go_sem]
  have m1 : (w.alloc (.cells #[.slice A1 qs.length c1, .slice A2 cs.length c2] 26)).cell? ⟨w.heap.size, 1, none⟩ = some (.slice A2 cs.length c2) := by simp [go_sem]
  have hb0 : Below w.heap.size w (w.alloc (.cells #[.slice A1 qs.length c1, .slice A2 cs.length c2] 26)) := (Below.refl _ w).alloc (Nat.le_refl _) _
  have hz0 : (w.alloc (.cells #[.slice A1 qs.length c1, .slice A2 cs.length c2] 26)).heap.size = w.heap.size + 1 := by simp
  generalize w.alloc (.cells #[.slice A1 qs.length c1, .slice A2 cs.length c2] 26) = v0 at *
  have HS0 : Hid (∀ W, Below v0.heap.size v0 W → W.cell? ⟨w.heap.size, 0, none⟩ = some (.slice A1 qs.length c1) ∧ W.cell? ⟨w.heap.size, 1, none⟩ = some (.slice A2 cs.length c2)) := fun W h => by
    have e : ∀ k, W.cell? ⟨w.heap.size, k, none⟩ = v0.cell? ⟨w.heap.size, k, none⟩ := fun k => h.cell (p := ⟨w.heap.size, k, none⟩) (by show w.heap.size < v0.heap.size; omega)
    exact ⟨(e _).trans m0, (e _).trans m1⟩
  clear m0 m1
  refine (pcheck_any _ _ qs cs v0 ((HIq.out.below hb0).more hb0.size) ((HIc.out.below hb0).more hb0.size)).mono ?_
  rw [HE.out]
  rintro e w1 ⟨rfl, hb1⟩
  obtain ⟨q0, q1⟩ := HS0.out w1 hb1
  have hl := hb1.size
  have hnw : w.heap.size < w1.heap.size := by omega
  go_wp2_with fail
  have l2 := Bl.new w1
  have b2 := hb1.alloc hl (.cells #[.pointer none, .slice none 0 0] 61)
  clear q0 q1 hb1
  generalize (w1.alloc (.cells #[.pointer none, .slice none 0 0] 61)) = w2 at *
  generalize w1.heap.size = n1 at *
  go_loopw [15] (fun i wr => ∃ k : Nat, k ≤ qs.length ∧ i = .int .i64 k ∧ Below v0.heap.size v0 wr ∧ Bl wr n1 (nodesT qs k)) (fun i _ => qs.length - (intOf i).toNat)
  case atStart => exact ⟨0, by omega, rfl, b2, l2⟩
  case round =>
    clear l2 b2
    obtain ⟨k, hk, rfl, br, lr⟩ := hrel
    obtain ⟨q0, q1⟩ := HS0.out wr br
    have hzr := br.size
    have hnr := lr.1
    by_cases hlt : k < qs.length
    · obtain ⟨b, o, rfl, hb, hcell⟩ := HA1.out (by omega)
      have hx := ((hb0.trans (br.mono hb0.size)).cell (p := ⟨b, o + k, none⟩) hb).trans (hcell k hlt)
      have hbr : b < wr.heap.size := by omega
      have hm : qs.getD k 0 ∈ qs := by simp [List.getD, hlt]
      have hrg := HQR.out _ hm
      have hln := HLq.out k hk
      have HST := Lib.hid (nodesT_succ qs k hlt)
      clear hcell hm
      generalize qs.getD k 0 = x at *
      have hok : InR [(k : Int), x] := fun n hn => by
        simp only [List.mem_cons, List.not_mem_nil, or_false] at hn
        rcases hn with rfl | rfl <;> omega
      have HOK := Lib.hid hok
      have hll := num_sz (by decide) hok (by simp) (node_line k x)
      clear hrg hok
      go_wp2_with fail
      have hI := ints_two wr (k : Int) x
      have b3 := br.alloc hzr (.cells #[.int .i64 k, .int .i64 x] 3)
      have l3 := lr.below ((Below.refl _ wr).alloc (Nat.le_refl _) (.cells #[.int .i64 k, .int .i64 x] 3))
      refine (pline_any nodeS (by decide) _ _ HOK.out (by simp) _ hI (HG.out.gw fun j hj => ((hb0.trans (b3.mono hb0.size)).block j (by have := HG.out.lt; omega)))).mono ?_
      rw [node_line]
      rintro e w4 ⟨rfl, hb4⟩
      have b4 := b3.trans (hb4.mono b3.size)
      have l4 := l3.below hb4
      clear hI b3 l3 hb4 q0 q1 hx
      go_wp2_with fail
      refine (write_any n1 _ _ _ rfl w4 l4 (by omega)).mono ?_
      rintro e w5 ⟨⟨y, rfl⟩, l5, hb5⟩
      have b5 := b4.trans (hb5.mono hl)
      rw [← HST.out] at l5
      clear hb5 l4 b4
      go_wp2_with fail
      go_roundw
      case rel => exact ⟨k + 1, by omega, by go_num, b5, l5⟩
      case measure => simp [intOf]; omega
    · obtain rfl : k = qs.length := by omega
      go_wp2_with fail
      have hlq := HLq.out qs.length (Nat.le_refl _)
      generalize nodesT qs qs.length = L0 at *
      clear q0 q1
      obtain ⟨wo, rfl⟩ : ∃ wo : World, wo = wr := ⟨_, rfl⟩
      go_loopw [29] (fun i wx => ∃ k : Nat, k ≤ cs.length ∧ i = .int .i64 k ∧ Below v0.heap.size v0 wx ∧ Bl wx n1 (L0 ++ segT (fun c => [.con c]) cs k)) (fun i _ => cs.length - (intOf i).toNat)
      case atStart => exact ⟨0, by omega, rfl, br, by rw [segT_zero, List.append_nil]; exact lr⟩
      case round =>
        clear br lr hzr hnr
        obtain ⟨k, hk, rfl, br, lr⟩ := hrel
        obtain ⟨q0, q1⟩ := HS0.out wr br
        have hzr := br.size
        have hnr := lr.1
        by_cases hlt : k < cs.length
        · obtain ⟨b, o, rfl, hb, hcell⟩ := HA2.out (by omega)
          have hx := (hcell k hlt).below (hb0.trans (br.mono hb0.size)) hb
          have hbr : b < wr.heap.size := by omega
          have hm : cs.getD k Con.zero ∈ cs := by simp [List.getD, hlt]
          have HOK := Lib.hid (HCR.out _ hm)
          have hln := HLc.out k
          have HST : Hid ((L0 ++ segT (fun c => [.con c]) cs k) ++ lineI (.con (cs.getD k Con.zero)) = L0 ++ segT (fun c => [.con c]) cs (k + 1)) := by show _ = _; rw [segT_succ _ cs Con.zero k hlt, linesL_one, List.append_assoc]
          have hll2 : (L0 ++ segT (fun c => [.con c]) cs k).length ≤ 800000 * 16 + 800000 * 64 := by rw [List.length_append]; omega
          have hll := num_sz (by decide) HOK.out (by simp [conNums]) (con_line (cs.getD k Con.zero))
          clear hcell hm hln
          generalize cs.getD k Con.zero = c at *
          obtain ⟨x0, x1, x2, x3, x4, x5, x6⟩ := hx
          go_wp2_with fail
          have b3 := br.alloc hzr (.cells #[.int .i64 c.a, .int .i64 c.b, .int .i64 c.s, .int .i64 c.e, .int .i64 c.r, .int .i64 c.g, .int .i64 c.l] 97)
          have l3 := lr.below ((Below.refl _ wr).alloc (Nat.le_refl _) (.cells #[.int .i64 c.a, .int .i64 c.b, .int .i64 c.s, .int .i64 c.e, .int .i64 c.r, .int .i64 c.g, .int .i64 c.l] 97))
          have hI := ints_seven (wr.alloc (.cells #[.int .i64 c.a, .int .i64 c.b, .int .i64 c.s, .int .i64 c.e, .int .i64 c.r, .int .i64 c.g, .int .i64 c.l] 97)) c (wr.heap.size + 1) (by simp)
          have b4 := b3.alloc b3.size (.cells #[.int .i64 c.a, .int .i64 c.b, .int .i64 c.s, .int .i64 c.e, .int .i64 c.r, .int .i64 c.g, .int .i64 c.l] 3)
          have l4 := l3.below ((Below.refl _ _).alloc (Nat.le_refl _) (.cells #[.int .i64 c.a, .int .i64 c.b, .int .i64 c.s, .int .i64 c.e, .int .i64 c.r, .int .i64 c.g, .int .i64 c.l] 3))
          refine (pline_any conS (by decide) _ _ HOK.out (by simp [conNums]) _ hI (HG.out.gw fun j hj => ((hb0.trans (b4.mono hb0.size)).block j (by have := HG.out.lt; omega)))).mono ?_
          rw [con_line]
          rintro e w4 ⟨rfl, hb4⟩
          have b5 := b4.trans (hb4.mono b4.size)
          have l5 := l4.below hb4
          clear hI b3 l3 hb4 q0 q1 x0 x1 x2 x3 x4 x5 x6 b4 l4
          go_wp2_with fail
          refine (write_any n1 _ _ _ rfl w4 l5 (by omega)).mono ?_
          rintro e w5 ⟨⟨y, rfl⟩, l6, hb6⟩
          have b6 := b5.trans (hb6.mono hl)
          rw [HST.out] at l6
          clear hb6 l5 b5
          go_wp2_with fail
          go_roundw
          case rel => exact ⟨k + 1, by omega, by go_num, b6, l6⟩
          case measure => simp [intOf]; omega
        · obtain rfl : k = cs.length := by omega
          rw [← HPl.out] at lr
          go_wp2_with fail
          refine (str_any n1 _ wr lr).mono ?_
          rintro e w6 ⟨rfl, hb6⟩
          have b6 := hb0.trans ((br.trans (hb6.mono hl)).mono hb0.size)
          go_wp2_with fail
          go_ret2
          exact ⟨rfl, b6⟩
end Go.Proofs.YtmcgddlblhinlaaGreatDoor

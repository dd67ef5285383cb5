/- The reference's agendas: has (71), insert (72), Add (37). -/
import Derived.Test.YtclkjjdfdndplaaGreatDoorA5
import Derived.Laws.NewBlocks
import Derived.Deep.WholeRow
namespace Go.Proofs.YtclkjjdfdndplaaGreatDoor
open Go.RowKit
theorem eql3 (w : World) (x y : Ev) : (binOp .eql 49 (.agg #[.int .i64 x.t, .int .i64 x.k, .int .i64 x.n]) (.agg #[.int .i64 y.t, .int .i64 y.k, .int .i64 y.n])).run Tryz.prog w = .ok (.bool (decide (x = y))) w := by
  have h : decide (x = y) = ((x.t == y.t) && ((x.k == y.k) && (x.n == y.n))) := by
    rw [Bool.eq_iff_iff, decide_eq_true_eq]
    simp only [Bool.and_eq_true, beq_iff_eq]
    cases x; cases y; simp
  rw [h]
  cases h0 : (x.t == y.t)
  · go_simp
  cases h1 : (x.k == y.k)
  · go_simp
  cases h2 : (x.n == y.n)
  · go_simp
  · go_simp
theorem mem_step (x : Ev) (l : List Ev) (k : Nat) (h : k < l.length) : decide (x ∈ l.drop k) = (decide (l.getD k Ev.zero = x) || decide (x ∈ l.drop (k + 1))) := by
  rw [drop_get l Ev.zero k h, Bool.eq_iff_iff, decide_eq_true_eq, Bool.or_eq_true, decide_eq_true_eq, decide_eq_true_eq, List.mem_cons]
  constructor
  · rintro (h | h)
    · exact .inl h.symm
    · exact .inr h
  · rintro (h | h)
    · exact .inl h.symm
    · exact .inr h
set_option maxRecDepth 100000 in
set_option maxHeartbeats 4000000 in
theorem rhas_any (v : Value) (l : List Ev) (x : Ev) (w : World) (hv : Evs w w.heap.size v l) : Calls Tryz.prog 71 #[v, .agg #[.int .i64 x.t, .int .i64 x.k, .int .i64 x.n]] w fun e w' => e = .returned (.bool (decide (x ∈ l))) ∧ Below w.heap.size w w' := by
  obtain ⟨A, c, rfl, hc, hm, hA⟩ := hv
  unfold maxLen at hm
  have HA := Lib.hid hA
  clear hA
  go_enter Tryz.func71, Tryz.ntmps71
  go_wp2_with fail
  go_loopw [5] (fun i wr => ∃ k : Nat, k ≤ l.length ∧ i = .int .i64 k ∧ Hid (decide (x ∈ l.drop k) = decide (x ∈ l)) ∧ Below (w.heap.size + 1) (w.alloc (.cells #[.int .i64 x.t, .int .i64 x.k, .int .i64 x.n] 49)) wr) (fun i _ => l.length - (intOf i).toNat)
  case atStart => exact ⟨0, by omega, rfl, rfl, Below.refl _ _⟩
  case round =>
    obtain ⟨k, hk, rfl, hr, hWr⟩ := hrel
    have hzr : w.heap.size + 1 ≤ wr.heap.size := Nat.le_trans (by simp) hWr.size
    have hBr : Below w.heap.size w wr := ((Below.refl _ w).alloc (Nat.le_refl _) _).trans (hWr.mono (by omega))
    have y0 : wr.cell? ⟨w.heap.size, 0, none⟩ = some (.int .i64 x.t) := (hWr.cell (p := ⟨w.heap.size, 0, none⟩) (by show w.heap.size < _; omega)).trans (by simp [go_sem])
    have y1 : wr.cell? ⟨w.heap.size, 1, none⟩ = some (.int .i64 x.k) := (hWr.cell (p := ⟨w.heap.size, 1, none⟩) (by show w.heap.size < _; omega)).trans (by simp [go_sem])
    have y2 : wr.cell? ⟨w.heap.size, 2, none⟩ = some (.int .i64 x.n) := (hWr.cell (p := ⟨w.heap.size, 2, none⟩) (by show w.heap.size < _; omega)).trans (by simp [go_sem])
    by_cases hlt : k < l.length
    · obtain ⟨b, o, rfl, hb, hcell⟩ := HA.out (by omega)
      obtain ⟨x0, x1, x2⟩ := (hcell k hlt).below (B' := 0) hBr hb
      have HST := Lib.hid (mem_step x l k hlt)
      clear hcell
      generalize l.getD k Ev.zero = d at *
      have he := fun W => eql3 W d x
      by_cases hE : d = x
      · have HT : Hid (decide (x ∈ l) = true) := by show _ = _; rw [← hr.out, HST.out, decide_eq_true hE]; rfl
        have q : decide (d = x) = true := decide_eq_true hE
        rw [q] at he
        clear hE q
        go_wp2_with fail
        go_quiet (fail)
        go_wp2_with fail
        go_ret
        exact ⟨by rw [HT.out]; rfl, below_drewN hBr _⟩
      · have HT : Hid (decide (x ∈ l.drop (k + 1)) = decide (x ∈ l)) := by show _ = _; rw [← hr.out, HST.out, decide_eq_false hE]; rfl
        have q : decide (d = x) = false := decide_eq_false hE
        rw [q] at he
        clear hE q
        go_wp2_with fail
        go_quiet (fail)
        go_wp2_with fail
        go_roundw
        case rel => exact ⟨k + 1, by omega, by go_num, HT, below_drewN hWr _⟩
        case measure => simp [intOf]; omega
    · have HT : Hid (decide (x ∈ l) = false) := by show _ = _; rw [← hr.out, List.drop_of_length_le (by omega)]; simp
      go_wp2_with fail
      go_ret
      exact ⟨by rw [HT.out]; rfl, hBr⟩
def insG (x : Ev) : Bool → List Ev → List Ev
  | d, [] => if d = true then [] else [x]
  | d, y :: t => if d = false ∧ evL x y = true then x :: y :: insG x true t else y :: insG x d t
theorem insG_true (x : Ev) : ∀ l, insG x true l = l
  | [] => rfl
  | y :: t => by rw [insG, if_neg (by simp), insG_true x t]
theorem insG_step (x : Ev) (d : Bool) (l : List Ev) (k : Nat) (h : k < l.length) : insG x d (l.drop k) = if d = false ∧ evL x (l.getD k Ev.zero) = true then x :: l.getD k Ev.zero :: insG x true (l.drop (k + 1)) else l.getD k Ev.zero :: insG x d (l.drop (k + 1)) := by
  rw [drop_get l Ev.zero k h, insG]
theorem insG_insL (x : Ev) : ∀ l : List Ev, l.Pairwise (fun a b => evL a b = true) → x ∉ l → insG x false l = insL l x
  | [], _, _ => rfl
  | y :: t, hp, hx => by
    rw [List.pairwise_cons] at hp
    rw [List.mem_cons, not_or] at hx
    rw [insG]
    by_cases h : evL x y = true
    · rw [if_pos ⟨rfl, h⟩, insG_true]
      have hall : ∀ z ∈ y :: t, evL z x = false := fun z hz => by
        have hxz : evL x z = true := by
          rcases List.mem_cons.1 hz with rfl | hz
          · exact h
          · exact evL_trans h (hp.1 z hz)
        cases hq : evL z x
        · rfl
        · have := evL_trans hxz hq
          rw [evL_irr] at this; cases this
      rw [insL, List.filter_eq_nil_iff.2 (fun z hz => by rw [hall z hz]; simp), List.filter_eq_self.2 (fun z hz => by rw [hall z hz]; rfl)]
      rfl
    · rw [if_neg (fun hh => h hh.2), insG_insL x t hp.2 hx.2]
      have hyx : evL y x = true := by
        rcases evL_tri x y with h' | h' | h'
        · exact absurd h' h
        · exact absurd h' hx.1
        · exact h'
      simp [insL, hyx]
theorem ag_pairwise {l : List Ev} (h : AgOk l) : l.Pairwise (fun a b => evL a b = true) := by
  rw [List.pairwise_iff_getElem]
  intro i j hi hj hij
  have := asc_all h hij hj
  simpa [List.getD, List.getElem?_eq_getElem hi, List.getElem?_eq_getElem hj] using this
theorem ag_of {l : List Ev} (hlen : l.length ≤ 1000) (hv : ∀ y ∈ l, evV y = true) (hp : l.Pairwise (fun a b => evL a b = true)) : AgOk l := by
  rw [List.pairwise_iff_getElem] at hp
  refine ⟨hlen, fun i hi => ?_, fun i hi => ?_⟩
  · have := hv l[i] (List.getElem_mem hi)
    simpa [List.getD, List.getElem?_eq_getElem hi] using this
  · have := hp i (i + 1) (by omega) hi (by omega)
    simpa [List.getD, List.getElem?_eq_getElem hi, List.getElem?_eq_getElem (show i < l.length by omega)] using this
theorem ag_val {l : List Ev} (h : AgOk l) : ∀ y ∈ l, evV y = true := fun y hy => by
  obtain ⟨i, hi, e⟩ := List.getElem_of_mem hy
  have := h.val i hi
  rw [← e]
  simpa [List.getD, List.getElem?_eq_getElem hi] using this
/-- an event is added -/
def addL (l : List Ev) (x : Ev) : List Ev := if x ∈ l then l else insL l x
theorem insL_len (l : List Ev) (x : Ev) : (insL l x).length = l.length + 1 := by
  have : ∀ l : List Ev, (l.filter (fun y => evL y x)).length + (l.filter (fun y => !evL y x)).length = l.length := by
    intro l
    induction l with
    | nil => rfl
    | cons a t ih => cases h : evL a x <;> simp [h] <;> omega
  have := this l
  simp [insL]; omega
theorem ag_add {l : List Ev} {x : Ev} (h : AgOk l) (hx : evV x = true) (h9 : l.length < 1000) : AgOk (addL l x) := by
  unfold addL
  split
  · exact h
  · rename_i hm
    refine ag_of (by rw [insL_len]; omega) (fun y hy => ?_) ?_
    · simp only [insL, List.mem_append, List.mem_filter, List.mem_cons] at hy
      rcases hy with ⟨hy, _⟩ | rfl | ⟨hy, _⟩
      · exact ag_val h y hy
      · exact hx
      · exact ag_val h y hy
    · have hp := ag_pairwise h
      have hgt : ∀ y ∈ l, (!evL y x) = true → evL x y = true := fun y hy hq => by
        rcases evL_tri x y with h' | h' | h'
        · exact h'
        · exact absurd (h' ▸ hy) hm
        · rw [h'] at hq; cases hq
      rw [insL, List.pairwise_append]
      refine ⟨hp.filter _, List.pairwise_cons.2 ⟨fun y hy => ?_, hp.filter _⟩, fun a ha b hb => ?_⟩
      · rw [List.mem_filter] at hy
        exact hgt y hy.1 hy.2
      · rw [List.mem_filter] at ha
        rcases List.mem_cons.1 hb with rfl | hb
        · exact ha.2
        · rw [List.mem_filter] at hb
          exact evL_trans ha.2 (hgt b hb.1 hb.2)
theorem addL_len (l : List Ev) (x : Ev) : (addL l x).length ≤ l.length + 1 := by
  unfold addL; split
  · omega
  · rw [insL_len]; omega
theorem own_below {w w' : World} {base : Nat} {e : TypeId} {size : Nat} {v : Value} {n : Nat} {xs : List Value} (h : w.ownsRow base e size v n xs) (hb : Below w.heap.size w w') : w'.ownsRow base e size v n xs :=
  h.kept (row := none) ⟨hb.os, hb.tape, hb.output, hb.size, fun j hj _ => hb.block j hj⟩ (by cases h' : v.ownBlock <;> simp)
theorem own_shape {w : World} {base : Nat} {e : TypeId} {size : Nat} {v : Value} {n : Nat} {xs : List Value} (h : w.ownsRow base e size v n xs) (hn : 0 < n) : ∃ g c, v = .slice (some ⟨g, 0, none⟩) n c := by
  rcases h.2 with ⟨rfl, h0⟩ | ⟨g, cap, cur, rfl, hb, hg, hn, hm, hs, ht⟩
  · omega
  · exact ⟨g, cap, rfl⟩
/-- append of one event, which lies in the block that was made last -/
theorem app_ev {ops : Array Oper} {rest : List Oper} {o : Oper} {a : Act} {Q : Exit → Act → World → Prop} (Wp : World) (hgd : o.guard = none) (s x : Operand) (ho : o.op = .call { callee := .builtin .append, args := #[s, x], argTypes := #[39, 39] })
    (base : Nat) (v : Value) (l : List Ev) (n : Nat) (d : Ev) (hs : a.eval s = v) (hx : a.eval x = .slice (some ⟨Wp.heap.size, 0, none⟩) 1 1) (hown : Wp.ownsRow base 49 3 v n (evCells l)) (hl : n ≤ 70000) (hbase : base ≤ Wp.heap.size)
    (h : ∀ g c w', w'.ownsRow base 49 3 (.slice (some ⟨g, 0, none⟩) (n + 1) c) (n + 1) (evCells (l ++ [d])) → Below base Wp w' →
      wpList Tryz.prog ops Q rest (a.put o.dst (.slice (some ⟨g, 0, none⟩) (n + 1) c)) w') : wpList Tryz.prog ops Q (o :: rest) a (Wp.alloc (.cells #[.int .i64 d.t, .int .i64 d.k, .int .i64 d.n] 49)) := by
  obtain ⟨i0, hi, hz0, hz1, hz2⟩ := infoEv
  refine wpList_append_own_at _ hgd s x 39 ho base 49 i0 _ 3 24 Tryz.underlying39 hi hz0 hz1 hz2 rfl (by decide) v n (evCells l) hs (hown.alloc _) ⟨Wp.heap.size, 0, none⟩ 1 1 (evVals d) hx rfl (World.news_of_block (heap_alloc_last Wp _)) (by simp [evVals, Value.oneCell']) (by unfold maxLen; omega) (by omega) (by simp; omega) ?_
  intro v' w' hown' hgrow _ hat
  obtain ⟨g, c, rfl⟩ := own_shape hown' (by omega)
  refine h g c w' (by rw [evCells_app]; simpa [evCells] using hown') (Below.grown ((Below.refl _ Wp).mono hbase |>.alloc hbase _) hgrow (by simp; omega) (fun j e => (hown.lt j e).1))
set_option maxRecDepth 100000 in
set_option maxHeartbeats 8000000 in
theorem rins_any (v : Value) (l : List Ev) (x : Ev) (w : World) (hv : Evs w w.heap.size v l) (hl : AgOk l) (hx : x ∉ l) : Calls Tryz.prog 72 #[v, .agg #[.int .i64 x.t, .int .i64 x.k, .int .i64 x.n]] w fun e w' => ∃ u, e = .returned u ∧ Evs w' w'.heap.size u (insL l x) ∧ (∀ k, u.ownBlock = some k → w.heap.size ≤ k) ∧ Below w.heap.size w w' := by
  have HR := Lib.hid (insG_insL x l (ag_pairwise hl) hx)
  have hlen := hl.len
  have HV := Lib.hid hv
  obtain ⟨A, c, rfl, hc, hm, hA⟩ := hv
  unfold maxLen at hm
  have HA := Lib.hid hA
  have HM : Hid (decide (x ∈ l) = false) := decide_eq_false hx
  clear hA hl hx
  go_enter Tryz.func72, Tryz.ntmps72
  go_wp2_with fail
  have m0 : (w.alloc (.cells #[.int .i64 x.t, .int .i64 x.k, .int .i64 x.n] 49)).cell? ⟨w.heap.size, 0, none⟩ = some (.int .i64 x.t) := by simp [go_sem]
  have m1 : (w.alloc (.cells #[.int .i64 x.t, .int .i64 x.k, .int .i64 x.n] 49)).cell? ⟨w.heap.size, 1, none⟩ = some (.int .i64 x.k) := by simp [go_sem]
  have m2 : (w.alloc (.cells #[.int .i64 x.t, .int .i64 x.k, .int .i64 x.n] 49)).cell? ⟨w.heap.size, 2, none⟩ = some (.int .i64 x.n) := by simp [go_sem]
  have hbw : Below w.heap.size w (w.alloc (.cells #[.int .i64 x.t, .int .i64 x.k, .int .i64 x.n] 49)) := by (repeat' (first | (with_reducible exact Below.refl _ _) | (with_reducible refine Below.alloc ?_ ?_ _) | (with_reducible refine Below.drew ?_) | (with_reducible refine below_drewN ?_ _) | (with_reducible refine Below.setCell ?_ ?_ _) | (with_reducible refine Below.trans ?_ (Below.mono (by assumption) ?_)) | (with_reducible exact Nat.le_refl _) | omega | (simp; omega) | (simp; done)))
  have hsz : (w.alloc (.cells #[.int .i64 x.t, .int .i64 x.k, .int .i64 x.n] 49)).heap.size = w.heap.size + 1 := by simp
  generalize w.alloc (.cells #[.int .i64 x.t, .int .i64 x.k, .int .i64 x.n] 49) = v0 at *
  have hw1 : Below v0.heap.size v0 (v0.alloc (.cells #[] 49)) := by (repeat' (first | (with_reducible exact Below.refl _ _) | (with_reducible refine Below.alloc ?_ ?_ _) | (with_reducible refine Below.drew ?_) | (with_reducible refine below_drewN ?_ _) | (with_reducible refine Below.setCell ?_ ?_ _) | (with_reducible refine Below.trans ?_ (Below.mono (by assumption) ?_)) | (with_reducible exact Nat.le_refl _) | omega | (simp; omega) | (simp; done)))
  have hlt0 : w.heap.size < v0.heap.size := by omega
  have HSZ := Lib.hid hsz
  clear hsz
  refine (rhas_any _ l x (v0.alloc (.cells #[] 49)) ((HV.out.below (hbw.trans (hw1.mono (by omega)))).more (by simp; omega))).mono ?_
  rw [HM.out]
  rintro e w1 ⟨rfl, hb1⟩
  have HO := Lib.hid (own_below (World.ownsRow_lit (e := 49) (size := 3) v0 #[] 0 (Nat.le_refl _) (by simp [maxLen]) rfl) hb1)
  have hB1 : Below v0.heap.size v0 w1 := hw1.trans (hb1.mono hw1.size)
  clear hb1 hw1
  go_wp2_with fail
  go_loopw [5, 6, 7] (fun V D i wr => ∃ (k : Nat) (dn : Bool) (acc : List Ev), k ≤ l.length ∧ i = .int .i64 k ∧ D = .bool dn ∧ wr.ownsRow v0.heap.size 49 3 V acc.length (evCells acc) ∧ Hid (acc ++ insG x dn (l.drop k) = insL l x) ∧ Below v0.heap.size v0 wr ∧ acc.length ≤ 2 * k) (fun _ _ i _ => l.length - (intOf i).toNat)
  case atStart => exact ⟨0, false, [], by omega, rfl, rfl, by rw [← HSZ.out]; exact HO.out, HR.out, hB1, by simp⟩
  case round =>
    clear HO hB1 HR
    obtain ⟨k, dn, acc, hk, rfl, rfl, hown, hr, hB, hal⟩ := hrel
    have hzr := hB.size
    have hBw : Below w.heap.size w wr := hbw.trans (hB.mono (by omega))
    have HO := Lib.hid hown
    clear hown
    have y0 := (hB.cell (p := ⟨w.heap.size, 0, none⟩) hlt0).trans m0
    have y1 := (hB.cell (p := ⟨w.heap.size, 1, none⟩) hlt0).trans m1
    have y2 := (hB.cell (p := ⟨w.heap.size, 2, none⟩) hlt0).trans m2
    have hwl : w.heap.size < wr.heap.size := by omega
    by_cases hlt : k < l.length
    · obtain ⟨b, o, rfl, hb, hcell⟩ := HA.out (by omega)
      have HC := Lib.hid (hcell k hlt)
      obtain ⟨x0, x1, x2⟩ := HC.out.below (B' := 0) hBw hb
      have hbr : b < wr.heap.size := by omega
      have HST := Lib.hid (insG_step x dn l k hlt)
      clear hcell
      generalize l.getD k Ev.zero = d at *
      cases dn with
      | true =>
        have HN : Hid ((acc ++ [d]) ++ insG x true (l.drop (k + 1)) = insL l x) := by show _ = _; rw [← hr.out, HST.out, if_neg (by simp)]; simp
        clear HST hr
        go_wp2_with fail
        go_quiet (fail)
        go_wp2_with (at_builtin; refine app_ev _ rfl (.tmp 32) (.tmp 37) rfl v0.heap.size _ acc _ d rfl ?q5_1 (own_below HO.out (below_drewN (Below.refl _ _) _)) ?q5_2 (below_drewN hB _).size ?_)
        case q5_1 => simp [go_sem]
        case q5_2 => omega
        intro g5 c5 w5 hown5 hB5
        have HO5 := Lib.hid hown5
        have hD5 : Below v0.heap.size v0 w5 := (below_drewN hB _).trans hB5
        have hz5 := hD5.size
        clear hown5 hB5
        go_wp2_with fail
        go_roundw
        case rel => exact ⟨k + 1, true, acc ++ [d], by omega, by go_num, rfl, by rw [List.length_append]; exact HO5.out, HN, hD5, by simp; omega⟩
        case measure => simp [intOf]; omega
      | false =>
        by_cases hE : evL x d = true
        · have HN : Hid ((acc ++ [x, d]) ++ insG x true (l.drop (k + 1)) = insL l x) := by show _ = _; rw [← hr.out, HST.out, if_pos ⟨rfl, hE⟩]; simp
          have HE := Lib.hid hE
          clear HST hr hE
          go_wp2_with fail
          go_still_tail 8, (by kernel_rfl)
          go_wp2_with fail
          refine (rless_any x d _).mono ?_
          rw [HE.out]
          rintro e w4 ⟨rfl, hb4⟩
          have h4 : Below wr.heap.size wr w4 := (below_drewN (Below.refl _ wr) 1).trans hb4
          have HO4 := Lib.hid (own_below HO.out h4)
          have hB4 : Below v0.heap.size v0 w4 := hB.trans (h4.mono hzr)
          clear hb4 y0 y1 y2 x0 x1 x2 h4
          have y0 := (hB4.cell (p := ⟨w.heap.size, 0, none⟩) hlt0).trans m0
          have y1 := (hB4.cell (p := ⟨w.heap.size, 1, none⟩) hlt0).trans m1
          have y2 := (hB4.cell (p := ⟨w.heap.size, 2, none⟩) hlt0).trans m2
          have hz4 := hB4.size
          obtain ⟨x0, x1, x2⟩ := HC.out.below (B' := 0) (hbw.trans (hB4.mono (by omega))) hb
          go_wp2_with (at_builtin; refine app_ev _ rfl (.tmp 28) (.tmp 30) rfl v0.heap.size _ acc _ x rfl ?q5_1 HO4.out ?q5_2 hB4.size ?_)
          case q5_1 => simp [go_sem]
          case q5_2 => omega
          intro g5 c5 w5 hown5 hB5
          have HO5 := Lib.hid hown5
          have hD5 : Below v0.heap.size v0 w5 := hB4.trans hB5
          have hz5 := hD5.size
          clear hown5 hB5
          obtain ⟨x0, x1, x2⟩ := HC.out.below (B' := 0) (hbw.trans (hD5.mono (by omega))) hb
          go_wp2_with (at_builtin; refine app_ev _ rfl (.tmp 32) (.tmp 37) rfl v0.heap.size _ (acc ++ [x]) _ d rfl ?q6_1 HO5.out ?q6_2 hD5.size ?_)
          case q6_1 => simp [go_sem]
          case q6_2 => omega
          intro g6 c6 w6 hown6 hB6
          have HO6 := Lib.hid hown6
          have hD6 : Below v0.heap.size v0 w6 := hD5.trans hB6
          have hz6 := hD6.size
          clear hown6 hB6
          go_wp2_with fail
          go_roundw
          case rel => exact ⟨k + 1, true, acc ++ [x, d], by omega, by go_num, rfl, by rw [List.length_append]; exact HO6.out, HN, hD6, by simp; omega⟩
          case measure => simp [intOf]; omega
        · have HN : Hid ((acc ++ [d]) ++ insG x false (l.drop (k + 1)) = insL l x) := by show _ = _; rw [← hr.out, HST.out, if_neg (fun h => hE h.2)]; simp
          have HE : Hid (evL x d = false) := by show _ = _; simpa using hE
          clear HST hr hE
          go_wp2_with fail
          go_still_tail 8, (by kernel_rfl)
          go_wp2_with fail
          refine (rless_any x d _).mono ?_
          rw [HE.out]
          rintro e w4 ⟨rfl, hb4⟩
          have h4 : Below wr.heap.size wr w4 := (below_drewN (Below.refl _ wr) 1).trans hb4
          have HO4 := Lib.hid (own_below HO.out h4)
          have hB4 : Below v0.heap.size v0 w4 := hB.trans (h4.mono hzr)
          clear hb4 y0 y1 y2 x0 x1 x2 h4
          have hz4 := hB4.size
          obtain ⟨x0, x1, x2⟩ := HC.out.below (B' := 0) (hbw.trans (hB4.mono (by omega))) hb
          go_wp2_with (at_builtin; refine app_ev _ rfl (.tmp 32) (.tmp 37) rfl v0.heap.size _ acc _ d rfl ?q5_1 HO4.out ?q5_2 hB4.size ?_)
          case q5_1 => simp [go_sem]
          case q5_2 => omega
          intro g5 c5 w5 hown5 hB5
          have HO5 := Lib.hid hown5
          have hD5 : Below v0.heap.size v0 w5 := hB4.trans hB5
          have hz5 := hD5.size
          clear hown5 hB5
          go_wp2_with fail
          go_roundw
          case rel => exact ⟨k + 1, false, acc ++ [d], by omega, by go_num, rfl, by rw [List.length_append]; exact HO5.out, HN, hD5, by simp; omega⟩
          case measure => simp [intOf]; omega
    · have hdr : l.drop k = [] := List.drop_of_length_le (by omega)
      cases dn with
      | true =>
        have HT : Hid (acc = insL l x) := by show _ = _; rw [← hr.out, hdr, insG_true, List.append_nil]
        clear hr
        go_wp2_with fail
        go_ret
        exact ⟨_, rfl, by rw [← HT.out]; exact evs_of_own HO.out, fun k hk => Nat.le_trans (Nat.le_of_lt hlt0) (HO.out.lt k hk).1, hBw⟩
      | false =>
        have HT : Hid (acc ++ [x] = insL l x) := by show _ = _; rw [← hr.out, hdr]; simp [insG]
        clear hr
        go_wp2_with (at_builtin; refine app_ev _ rfl (.tmp 41) (.tmp 43) rfl v0.heap.size _ acc _ x rfl ?q5_1 HO.out ?q5_2 hB.size ?_)
        case q5_1 => simp [go_sem]
        case q5_2 => omega
        intro g5 c5 w5 hown5 hB5
        have HO5 := Lib.hid hown5
        have hD5 : Below v0.heap.size v0 w5 := hB.trans hB5
        have hz5 := hD5.size
        clear hown5 hB5
        go_wp2_with fail
        go_ret
        exact ⟨_, rfl, by rw [← HT.out]; exact evs_of_own (base := v0.heap.size) (by rw [List.length_append]; exact HO5.out), fun k hk => Nat.le_trans (Nat.le_of_lt hlt0) (HO5.out.lt k hk).1, hbw.trans (hD5.mono (by omega))⟩
end Go.Proofs.YtclkjjdfdndplaaGreatDoor

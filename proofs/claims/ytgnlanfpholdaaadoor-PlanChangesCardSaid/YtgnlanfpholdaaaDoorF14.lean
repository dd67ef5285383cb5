/- read, the line of a contact. -/
import Derived.Test.YtgnlanfpholdaaaDoorF13
namespace Go.Proofs.YtgnlanfpholdaaaDoor
open Go.RowKit
attribute [local go_sem ↓] Go.wp_at_zero Go.wp_at_succ
theorem info40 : (Tryd.prog.info? 40).map (fun i => (i.zero, i.size, i.bytes)) = some (some (.agg #[.int .i64 0, .int .i64 0, .int .i64 0, .int .i64 0, .int .i64 0, .int .i64 0, .int .i64 0]), 7, 56) := by kernel_rfl
/-- the numbers so far, in the contact's cells -/
def conRow (vs : List Int) (k : Nat) : List Value := intCells vs ++ List.replicate (7 - k) (.int .i64 0)
theorem conRow_set {vs : List Int} {k : Nat} (hl : vs.length = k) (hk : k < 7) (r : Int) : (conRow vs k).toArray.setIfInBounds k (.int .i64 r) = (conRow (vs ++ [r]) (k + 1)).toArray := by
  subst hl
  obtain ⟨m, hm⟩ : ∃ m, 7 - vs.length = m + 1 := ⟨6 - vs.length, by omega⟩
  have hm' : 7 - (vs.length + 1) = m := by omega
  have hil : (intCells vs).length = vs.length := by simp [intCells]
  rw [List.setIfInBounds_toArray]
  congr 1
  unfold conRow
  rw [hm, hm', List.replicate_succ, intCells_snoc, List.set_append_right _ _ (by rw [hil]; exact Nat.le_refl _), hil, Nat.sub_self, List.set_cons_zero, List.append_assoc]
  rfl
theorem conRow_get {vs : List Int} {k : Nat} (hl : vs.length = k) (hk : k < 7) : (conRow vs k).toArray[k]? = some (.int .i64 0) := by
  subst hl
  have hil : (intCells vs).length = vs.length := by simp [intCells]
  rw [List.getElem?_toArray]
  unfold conRow
  rw [List.getElem?_append_right (by rw [hil]; exact Nat.le_refl _), hil, Nat.sub_self, List.getElem?_replicate, if_pos (by omega)]
/-- the reading of a contact, behind k numbers -/
structure CI (w w' : World) (B pb : Nat) (Q : List Int) (C : List Con) (VQ VC : Value) (t : List ByteArray) (k : Nat) (vs : List Int) (rest : List ByteArray) (bad : Bool) : Prop where
  got : Got t k vs rest bad
  con : w'.heap[w.heap.size + 1 + 1]? = some (.cells (conRow vs k).toArray 40 (0, 0))
  ptr : w'.heap[w.heap.size + 1 + 1 + 1]? = some (.cells #[.pointer (some ⟨w.heap.size + 1 + 1, 0, none⟩), .pointer (some ⟨w.heap.size + 1 + 1, 1, none⟩), .pointer (some ⟨w.heap.size + 1 + 1, 2, none⟩), .pointer (some ⟨w.heap.size + 1 + 1, 3, none⟩), .pointer (some ⟨w.heap.size + 1 + 1, 4, none⟩), .pointer (some ⟨w.heap.size + 1 + 1, 5, none⟩), .pointer (some ⟨w.heap.size + 1 + 1, 6, none⟩)] 99 (0, 0))
  rd : Rd w' (w.heap.size + 1) rest bad
  pst : PSt w' B pb Q C VQ VC
  glob : Glob w'
  frm : Frm B pb w w'
theorem ptr_cell {w w' : World} (h : w'.heap[w.heap.size + 1 + 1 + 1]? = some (.cells #[.pointer (some ⟨w.heap.size + 1 + 1, 0, none⟩), .pointer (some ⟨w.heap.size + 1 + 1, 1, none⟩), .pointer (some ⟨w.heap.size + 1 + 1, 2, none⟩), .pointer (some ⟨w.heap.size + 1 + 1, 3, none⟩), .pointer (some ⟨w.heap.size + 1 + 1, 4, none⟩), .pointer (some ⟨w.heap.size + 1 + 1, 5, none⟩), .pointer (some ⟨w.heap.size + 1 + 1, 6, none⟩)] 99 (0, 0))) {k : Nat} (hk : k < 7) : w'.cell? ⟨w.heap.size + 1 + 1 + 1, k, none⟩ = some (.pointer (some ⟨w.heap.size + 1 + 1, k, none⟩)) := by
  rw [cell_blk h k]
  rcases (by omega : k = 0 ∨ k = 1 ∨ k = 2 ∨ k = 3 ∨ k = 4 ∨ k = 5 ∨ k = 6) with rfl | rfl | rfl | rfl | rfl | rfl | rfl <;> rfl
theorem Glob.set {w : World} (h : Glob w) (p : Addr) (v : Value) (hp : 8 ≤ p.block) : Glob (w.setCell p v) :=
  h.keep (by simp [World.setCell]) (fun k hk => Below.heap_setCell w p v k (by omega))
theorem CI.step {w w1 w2 : World} {B pb : Nat} {Q : List Int} {C : List Con} {VQ VC : Value} {t rest : List ByteArray} {k : Nat} {vs : List Int} {bad bad' : Bool} {r : Int}
    (h : CI w w1 B pb Q C VQ VC t k vs rest bad) (hk : k < 7) (hB : B ≤ w.heap.size) (h8 : 8 ≤ B) (hv : ∀ g, VC.ownBlock = some g → g < w.heap.size) (hR : Rd w2 (w.heap.size + 1) (if bad then rest else rest.tail) bad') (hg : w1.grownBy w2 (some (w.heap.size + 1)))
    (n1 : bad = true → bad' = true) (n2 : rest = [] → bad' = true) (n3 : ∀ x t, rest = x :: t → bad = false → (numOf x.data.toList = none → bad' = true) ∧ ∀ v, numOf x.data.toList = some v → r = v ∧ bad' = false) :
    w2.heap[w.heap.size + 1 + 1]? = some (.cells (conRow vs k).toArray 40 (0, 0)) ∧ CI w (w2.setCell ⟨w.heap.size + 1 + 1, k, none⟩ (.int .i64 r)) B pb Q C VQ VC t (k + 1) (vs ++ [r]) (if bad then rest else rest.tail) bad' := by
  have hpb := h.pst.lt
  have e1 : w2.heap[w.heap.size + 1 + 1]? = some (.cells (conRow vs k).toArray 40 (0, 0)) := (hg.block _ (blk_lt h.con) (by simp <;> omega)).trans h.con
  have e2 : w2.heap[w.heap.size + 1 + 1 + 1]? = some (.cells #[.pointer (some ⟨w.heap.size + 1 + 1, 0, none⟩), .pointer (some ⟨w.heap.size + 1 + 1, 1, none⟩), .pointer (some ⟨w.heap.size + 1 + 1, 2, none⟩), .pointer (some ⟨w.heap.size + 1 + 1, 3, none⟩), .pointer (some ⟨w.heap.size + 1 + 1, 4, none⟩), .pointer (some ⟨w.heap.size + 1 + 1, 5, none⟩), .pointer (some ⟨w.heap.size + 1 + 1, 6, none⟩)] 99 (0, 0)) := (hg.block _ (blk_lt h.ptr) (by simp <;> omega)).trans h.ptr
  obtain ⟨_, _, hrb, _⟩ := h.rd
  have p2 := h.pst.kept hg (by omega) (own_ne_kind h.pst.rq hrb (by decide)) (own_ne_kind h.pst.rc hrb (by decide))
  have f2 := h.frm.trans (Frm.of_grown (pb := pb) hg h.pst.le (fun k e => .inl (by cases e; omega)) (fun k e => by cases e; exact ⟨_, _, _, hrb⟩))
  have g2 := h.glob.grown hg (by omega)
  have hne : ∀ j, j ≠ w.heap.size + 1 + 1 → (w2.setCell ⟨w.heap.size + 1 + 1, k, none⟩ (.int .i64 r)).heap[j]? = w2.heap[j]? := fun j hj => Below.heap_setCell w2 ⟨w.heap.size + 1 + 1, k, none⟩ _ j (by simpa using hj)
  have hgr : w2.grownBy (w2.setCell ⟨w.heap.size + 1 + 1, k, none⟩ (.int .i64 r)) (some (w.heap.size + 1 + 1)) :=
    ⟨rfl, rfl, rfl, by simp [World.setCell], fun j _ hn => hne j (fun e => hn (by rw [e]))⟩
  refine ⟨e1, h.got.step n1 n2 n3, ?_, (hne _ (by omega)).trans e2, ?_, ?_, g2.set _ _ (by show 8 ≤ w.heap.size + 1 + 1; omega), ?_⟩
  · rw [heap_set e1, conRow_set h.got.len hk]
  · obtain ⟨A, c, r1, r2, r3, r4⟩ := hR
    refine ⟨A, c, (hne _ (by omega)).trans r1, r2, r3, fun hp => ?_⟩
    obtain ⟨b, o, s1, s2, s3, s4⟩ := r4 hp
    refine ⟨b, o, s1, s2, by simpa [World.setCell] using s3, fun j hj => ?_⟩
    by_cases hbb : b = w.heap.size + 1 + 1
    · have := s4 j hj
      rw [hbb, cell_blk e1] at this
      exfalso
      have hv := List.mem_of_getElem? (by simpa using this)
      simp [conRow, intCells] at hv
    · exact (World.cell?_of_block (a := ⟨b, o + j, none⟩) (hne b hbb)).trans (s4 j hj)
  · exact p2.kept hgr (by omega) (own_ne_kind p2.rq e1 (by decide)) (fun e => by have := hv _ e; omega)
  · exact f2.trans (Frm.of_grown (pb := pb) hgr p2.le (fun j e => .inl (by cases e; omega)) (fun j e => by cases e; exact ⟨_, _, _, e1⟩))
theorem readL_contact {Q : List Int} {C : List Con} {s x : ByteArray} {t rest : List ByteArray} {v0 v1 v2 v3 v4 v5 v6 : Int} {bad : Bool} (hw : wordsOf s = x :: t) (h2 : (x.toList == [99, 111, 110, 116, 97, 99, 116]) = true) (g : Got t 7 [v0, v1, v2, v3, v4, v5, v6] rest bad) :
    (bad = false ∧ rest = [] → readL Q C s = some (Q, C ++ [⟨v0, v1, v2, v3, v4, v5, v6⟩])) ∧ (bad = true ∨ rest ≠ [] → readL Q C s = none) := by
  rw [ByteArray.toList_eq] at h2
  have h2' : x.data.toList = [99, 111, 110, 116, 97, 99, 116] := by simpa using h2
  unfold readL
  rw [hw]
  simp only [h2']
  rw [if_neg (by decide), if_pos trivial]
  refine ⟨fun h => ?_, fun h => ?_⟩
  · rw [g.whole h.1 h.2]
    rfl
  · cases hn : numsOf t with
    | none => rfl
    | some l =>
      have hl := g.not h l hn
      have hc : conOf l = none := by
        unfold conOf
        split
        · exact absurd rfl hl
        · rfl
      simp only [Option.bind_some, hc]
/-- a contact appended -/
theorem PSt.appC {w w1 : World} {B pb : Nat} {Q : List Int} {C : List Con} {VQ VC V : Value} {c : Con} {o : Obj} (h : PSt w B pb Q C VQ VC) (hg : (w.alloc o).grownBy w1 VC.ownBlock) (hr : w1.ownsRow B 40 7 V (C.length + 1) (conCells C ++ conVals c)) :
    w1.heap[pb]? = some (.cells #[VQ, VC] 25 (0, 0)) ∧ PSt (w1.setCell ⟨pb, 1, none⟩ V) B pb Q (C ++ [c]) VQ V ∧ Frm B pb w (w1.setCell ⟨pb, 1, none⟩ V) ∧
    ∀ k, k < w.heap.size → VC.ownBlock ≠ some k → k ≠ pb → (w1.setCell ⟨pb, 1, none⟩ V).heap[k]? = w.heap[k]? := by
  have hlt : pb < w.heap.size := Nat.lt_of_lt_of_le h.lt h.le
  have hne : VC.ownBlock ≠ some pb := own_ne_lt h.rc (.inl h.lt)
  have old : ∀ k, k < w.heap.size → VC.ownBlock ≠ some k → w1.heap[k]? = w.heap[k]? := fun k hk hn => (hg.block k (by simp; omega) (fun e => hn e.symm)).trans (Below.heap_alloc _ _ _ hk)
  have hb := (old pb hlt hne).trans h.blk
  have rq := (h.rq.alloc o).kept hg (own_ne_own (h.rq.alloc o) (h.rc.alloc o) (by decide))
  have hz : w.heap.size ≤ w1.heap.size := Nat.le_trans (by simp) hg.size
  have e := heap_set hb (i := 1) V
  refine ⟨hb, ⟨h.lt, by have := h.le; simp [World.setCell]; omega, by simpa using e, ownsRow_setCell_below rq h.lt _, ?_⟩, ?_, fun k hk hn hp => ?_⟩
  · rw [List.length_append, conCells_snoc]
    exact ownsRow_setCell_below hr h.lt _
  · exact ((Frm.of_below ((Below.refl w.heap.size w).alloc (Nat.le_refl _) o) h.le).trans (Frm.of_grown hg (by have := h.le; simp; omega) (fun k e => .inl (h.rc.lt k e).1) (fun k e => by obtain ⟨c, fz, k1⟩ := Lib.ownsRow_kind (h.rc.alloc o) k e; exact ⟨_, _, _, k1⟩))).trans (Frm.set B pb 1 V w1 hb)
  · exact (Below.heap_setCell w1 ⟨pb, 1, none⟩ V k (by simpa using hp)).trans (old k hk hn)
theorem con_cell {w w' : World} {vs : List Int} {k : Nat} (h : w'.heap[w.heap.size + 1 + 1]? = some (.cells (conRow vs k).toArray 40 (0, 0))) (hl : vs.length = k) (hk : k < 7) : w'.cell? ⟨w.heap.size + 1 + 1, k, none⟩ = some (.int .i64 0) ∧ w'.frozen? ⟨w.heap.size + 1 + 1, k, none⟩ = false :=
  ⟨(cell_blk h k).trans (conRow_get hl hk), frozen_blk h k⟩
theorem list7 {l : List Int} (h : l.length = 7) : ∃ a b c d e f g, l = [a, b, c, d, e, f, g] := by
  match l, h with
  | [a, b, c, d, e, f, g], _ => exact ⟨a, b, c, d, e, f, g, rfl⟩
theorem hold_alloc {w : World} (o : Obj) {a b0 b1 b2 b3 b4 b5 b6 : Addr} {x y0 y1 y2 y3 y4 y5 y6 : Value} (h : w.cell? a = some x ∧ w.cell? b0 = some y0 ∧ w.cell? b1 = some y1 ∧ w.cell? b2 = some y2 ∧ w.cell? b3 = some y3 ∧ w.cell? b4 = some y4 ∧ w.cell? b5 = some y5 ∧ w.cell? b6 = some y6) :
    (w.alloc o).cell? a = some x ∧ (w.alloc o).cell? b0 = some y0 ∧ (w.alloc o).cell? b1 = some y1 ∧ (w.alloc o).cell? b2 = some y2 ∧ (w.alloc o).cell? b3 = some y3 ∧ (w.alloc o).cell? b4 = some y4 ∧ (w.alloc o).cell? b5 = some y5 ∧ (w.alloc o).cell? b6 = some y6 := by
  have go : ∀ {a : Addr} {x : Value}, w.cell? a = some x → (w.alloc o).cell? a = some x := fun h => (World.cell?_alloc_some w _ o (by rw [h]; rfl)).trans h
  exact ⟨go h.1, go h.2.1, go h.2.2.1, go h.2.2.2.1, go h.2.2.2.2.1, go h.2.2.2.2.2.1, go h.2.2.2.2.2.2.1, go h.2.2.2.2.2.2.2⟩
theorem heap_last (w : World) (o : Obj) (n : Nat) (h : n = w.heap.size) : (w.alloc o).heap[n]? = some o := by
  subst h
  show (w.heap.push o)[w.heap.size]? = _
  rw [Array.getElem?_push, if_pos rfl]
theorem heap_last2 (w : World) (o o2 : Obj) (n : Nat) (h : n = w.heap.size) : ((w.alloc o).alloc o2).heap[n]? = some o := by
  rw [Below.heap_alloc _ _ _ (by simp; omega)]
  exact heap_last w o n h
theorem Rd.alloc {w : World} {rb : Nat} {ws : List ByteArray} {bad : Bool} (h : Rd w rb ws bad) (o : Obj) : Rd (w.alloc o) rb ws bad := by
  obtain ⟨A, c, r1, r2, r3, r4⟩ := h
  refine ⟨A, c, (Below.heap_alloc _ _ _ (blk_lt r1)).trans r1, r2, r3, fun hp => ?_⟩
  obtain ⟨b, q, s1, s2, s3, s4⟩ := r4 hp
  exact ⟨b, q, s1, s2, by simp; omega, fun j hj => (World.cell?_of_block (a := ⟨b, q + j, none⟩) (Below.heap_alloc _ _ _ s3)).trans (s4 j hj)⟩
set_option maxHeartbeats 8000000 in
set_option maxRecDepth 100000 in
theorem read_contact (pb B : Nat) (s : ByteArray) (Q : List Int) (C : List Con) (VQ VC : Value) (w : World) (hP : PSt w B pb Q C VQ VC) (hs : s.size ≤ 8192) (hG : Glob w) (hp8 : 8 ≤ pb) (hlC : C.length ≤ 10000) (x : ByteArray) (t : List ByteArray) (hw : wordsOf s = x :: t)
    (h1 : (x.toList == [110, 111, 100, 101]) = false) (h2 : (x.toList == [99, 111, 110, 116, 97, 99, 116]) = true) : Calls Tryd.prog 56 #[.pointer (some ⟨pb, 0, none⟩), .string s] w (ReadPost w B pb Q C s) := by
  have HW := Lib.hid hw
  have hlen : (wordsOf s).length = t.length + 1 := by rw [hw]; rfl
  have hcnt := words_len s
  have hcl := Lib.countB_le ⟨#[32]⟩ (by decide) s.size s (Nat.le_refl _)
  have ht : t.length ≤ 8192 := by omega
  have hws : ∀ y ∈ t, y.size ≤ 8192 := fun y hy => Nat.le_trans (words_size (s := s) (by rw [hw]; exact List.mem_cons_of_mem _ hy)) hs
  have p2 : (1 : Int) ≤ (t.length : Int) + 1 := by omega
  have p1 : (0 : Int) < (t.length : Int) + 1 := by omega
  have p4 : (t.length : Int) + 1 ≤ 8193 := by omega
  have HS := Lib.hid hws
  have hv := Lib.hid (fun g (e : VC.ownBlock = some g) => (hP.rc.lt g e).2)
  have hpB := hP.lt
  have hBl := hP.le
  clear hcnt hcl hw hws
  obtain ⟨AQ, cQ, rfl⟩ := own_shape hP.rq
  obtain ⟨AC, cC, rfl⟩ := own_shape hP.rc
  go_enter Tryd.func56, Tryd.ntmps56
  go_wp2_with (go_at_call 68; refine (split_any s hs _ hG).mono ?_; rintro e w1 ⟨rfl, rfl⟩; rw [hlen, HW.out])
  all_goals
    have hR := rd_new w x t ht (if t = [] then some ⟨w.heap.size, 0, none⟩ else some ⟨w.heap.size, 1, none⟩) (fun hp => if_neg (fun e => by rw [e] at hp; cases hp))
    have hb : Below w.heap.size w ((((w.alloc (.cells ((x :: t).map Value.string).toArray 9)).alloc (.cells #[.slice (if t = [] then some ⟨w.heap.size, 0, none⟩ else some ⟨w.heap.size, 1, none⟩) t.length t.length, .bool false] 97)).alloc (.cells #[.int .i64 0, .int .i64 0, .int .i64 0, .int .i64 0, .int .i64 0, .int .i64 0, .int .i64 0] 40)).alloc (.cells #[.pointer (some ⟨w.heap.size + 1 + 1, 0, none⟩), .pointer (some ⟨w.heap.size + 1 + 1, 1, none⟩), .pointer (some ⟨w.heap.size + 1 + 1, 2, none⟩), .pointer (some ⟨w.heap.size + 1 + 1, 3, none⟩), .pointer (some ⟨w.heap.size + 1 + 1, 4, none⟩), .pointer (some ⟨w.heap.size + 1 + 1, 5, none⟩), .pointer (some ⟨w.heap.size + 1 + 1, 6, none⟩)] 99)) := ((((Below.refl _ w).alloc (Nat.le_refl _) _).alloc (by simp) _).alloc (by simp; omega) _).alloc (by simp; omega) _
    have CI0 : CI w ((((w.alloc (.cells ((x :: t).map Value.string).toArray 9)).alloc (.cells #[.slice (if t = [] then some ⟨w.heap.size, 0, none⟩ else some ⟨w.heap.size, 1, none⟩) t.length t.length, .bool false] 97)).alloc (.cells #[.int .i64 0, .int .i64 0, .int .i64 0, .int .i64 0, .int .i64 0, .int .i64 0, .int .i64 0] 40)).alloc (.cells #[.pointer (some ⟨w.heap.size + 1 + 1, 0, none⟩), .pointer (some ⟨w.heap.size + 1 + 1, 1, none⟩), .pointer (some ⟨w.heap.size + 1 + 1, 2, none⟩), .pointer (some ⟨w.heap.size + 1 + 1, 3, none⟩), .pointer (some ⟨w.heap.size + 1 + 1, 4, none⟩), .pointer (some ⟨w.heap.size + 1 + 1, 5, none⟩), .pointer (some ⟨w.heap.size + 1 + 1, 6, none⟩)] 99)) B pb Q C (.slice AQ Q.length cQ) (.slice AC C.length cC) t 0 [] t false :=
      ⟨Got.start t, heap_last2 _ _ _ _ (by simp), heap_last _ _ _ (by simp), (hR.alloc _).alloc _, hP.below hb, hG.below hb hG.1, Frm.of_below hb hP.le⟩
    simp only [h, if_true, if_false, List.map_cons, List.map_nil, List.length_nil] at CI0
    clear hR hb
    generalize hW : World.alloc _ _ = w2 at CI0 ⊢
  all_goals
    clear hW
    go_loopw [63] (fun i wr => ∃ k : Nat, k ≤ 7 ∧ i = .int .i64 k ∧ ∃ vs rest bad, CI w wr B pb Q C (.slice AQ Q.length cQ) (.slice AC C.length cC) t k vs rest bad) (fun i _ => 7 - (intOf i).toNat)
    case atStart => exact ⟨0, by omega, rfl, _, _, _, by first | exact CI0 | (subst h; exact CI0)⟩
    case round =>
      obtain ⟨k, hk, rfl, vs, rest, bad, hc⟩ := hrel
      by_cases hlt : k < 7
      · have ic1 : (0 : Int) ≤ k := by omega
        have ic2 : (k : Int) < 7 := by omega
        have pc := ptr_cell hc.ptr hlt
        have HC := Lib.hid hc
        have hrd := hc.rd
        have hgl := hc.glob
        have hsb := hc.got.sub
        clear hc
        go_wp2_with (go_at_call 69; refine (num_any (w.heap.size + 1) rest bad _ hrd (fun y hy => HS.out y (hsb y hy)) hgl).mono ?_)
        rintro e w3 ⟨r, bad', rfl, hR3, hg3, n1, n2, n3⟩
        obtain ⟨e1, hc4⟩ := HC.out.step hlt hBl (by omega) hv.out hR3 hg3 n1 n2 n3
        obtain ⟨q0, q1⟩ := con_cell e1 HC.out.got.len hlt
        have HC4 := Lib.hid hc4
        clear n1 n2 n3 hR3 hg3 e1 hc4
        go_wp2_with fail
        exact ⟨⟨k + 1, by omega, by simp, _, _, _, HC4.out⟩, by show 7 - ((k : Int) + 1).toNat < 7 - (k : Int).toNat; omega⟩
      · have hk7 : k = 7 := by omega
        subst hk7
        obtain ⟨v0, v1, v2, v3, v4, v5, v6, rfl⟩ := list7 hc.got.len
        clear hlt hk CI0
        have hP4 : PSt wr.drew B pb Q C (.slice AQ Q.length cQ) (.slice AC C.length cC) := hc.pst.below (Below.drew (Below.refl _ _))
        have e1 : wr.drew.heap[w.heap.size + 1 + 1]? = some (.cells [.int .i64 v0, .int .i64 v1, .int .i64 v2, .int .i64 v3, .int .i64 v4, .int .i64 v5, .int .i64 v6].toArray 40 (0, 0)) := hc.con
        have hR4 : Rd wr.drew (w.heap.size + 1) rest bad := hc.rd
        have F4 : Frm B pb w wr.drew := hc.frm.trans (Frm.of_below (Below.drew (Below.refl wr.heap.size wr)) hc.pst.le)
        have post := Lib.hid (readL_contact (Q := Q) (C := C) HW.out h2 hc.got)
        clear hc
        obtain ⟨i0', hi, hz0, hz1, hz2⟩ := info_parts info40
        have HI : Hid ((Tryd.prog.info? 40 = some i0') ∧ i0'.zero = some (.agg #[.int .i64 0, .int .i64 0, .int .i64 0, .int .i64 0, .int .i64 0, .int .i64 0, .int .i64 0]) ∧ i0'.size = 7 ∧ i0'.bytes = 56) := ⟨hi, hz0, hz1, hz2⟩
        clear hi hz0 hz1 hz2
        go_wp2_with fail
        have c0 := cell_blk hP4.blk 1
        have m0 := cell_blk e1 0
        have m1 := cell_blk e1 1
        have m2 := cell_blk e1 2
        have m3 := cell_blk e1 3
        have m4 := cell_blk e1 4
        have m5 := cell_blk e1 5
        have m6 := cell_blk e1 6
        have hpl5 : pb < wr.heap.size := Nat.lt_of_lt_of_le hP4.lt hP4.le
        simp only [List.getElem?_toArray, List.getElem?_cons_zero, List.getElem?_cons_succ] at c0 m0 m1 m2 m3 m4 m5 m6
        refine wp_region_last (fun w' => w'.cell? ⟨pb, 1, none⟩ = some (.slice AC C.length cC) ∧ w'.cell? ⟨w.heap.size + 1 + 1, 0, none⟩ = some (.int .i64 v0) ∧ w'.cell? ⟨w.heap.size + 1 + 1, 1, none⟩ = some (.int .i64 v1) ∧ w'.cell? ⟨w.heap.size + 1 + 1, 2, none⟩ = some (.int .i64 v2) ∧ w'.cell? ⟨w.heap.size + 1 + 1, 3, none⟩ = some (.int .i64 v3) ∧ w'.cell? ⟨w.heap.size + 1 + 1, 4, none⟩ = some (.int .i64 v4) ∧ w'.cell? ⟨w.heap.size + 1 + 1, 5, none⟩ = some (.int .i64 v5) ∧ w'.cell? ⟨w.heap.size + 1 + 1, 6, none⟩ = some (.int .i64 v6)) 10 (by kernel_rfl) ⟨c0, m0, m1, m2, m3, m4, m5, m6⟩ (fun hHeld => ?_)
        (refine wpAnyK_take (i := 0) (v := ?_) rfl rfl (by kernel_rfl) (by kernel_rfl) (by kernel_rfl) (by kernel_rfl) (fun _ _ _ h => h) (Or.inl ⟨by kernel_rfl, fun w0 hSw => ?_⟩) hHeld ?_; rotate_left; (focus ((try dsimp only at hSw); simp only [List.getElem_toArray, List.getElem_cons_zero]; (first | (go_simp; done) | (go_simp; with_reducible rfl)))); (try simp only [List.getElem_toArray, List.getElem_cons_zero, Act.put, List.setIfInBounds_toArray, List.set_cons_zero, List.set_cons_succ]))
        (refine wpAnyK_take (i := 1) (v := ?_) rfl rfl (by kernel_rfl) (by kernel_rfl) (by kernel_rfl) (by kernel_rfl) (fun _ _ _ h => h) (Or.inl ⟨by kernel_rfl, fun w0 hSw => ?_⟩) hHeld ?_; rotate_left; (focus ((try dsimp only at hSw); simp only [List.getElem_toArray, List.getElem_cons_zero, List.getElem_cons_succ]; (first | (go_simp; done) | (go_simp; with_reducible rfl)))); (try simp only [List.getElem_toArray, List.getElem_cons_zero, List.getElem_cons_succ, Act.put, List.setIfInBounds_toArray, List.set_cons_zero, List.set_cons_succ]))
        (refine wpAnyK_take (i := 2) (v := ?_) rfl rfl (by kernel_rfl) (by kernel_rfl) (by kernel_rfl) (by kernel_rfl) (fun _ _ _ h => h) (Or.inl ⟨by kernel_rfl, fun w0 hSw => ?_⟩) hHeld ?_; rotate_left; (focus ((try dsimp only at hSw); simp only [List.getElem_toArray, List.getElem_cons_zero, List.getElem_cons_succ]; (first | (go_simp; done) | (go_simp; with_reducible rfl)))); (try simp only [List.getElem_toArray, List.getElem_cons_zero, List.getElem_cons_succ, Act.put, List.setIfInBounds_toArray, List.set_cons_zero, List.set_cons_succ]))
        (refine wpAnyK_take (i := 3) (v := ?_) rfl rfl (by kernel_rfl) (by kernel_rfl) (by kernel_rfl) (by kernel_rfl) (fun _ _ _ h => h) (Or.inl ⟨by kernel_rfl, fun w0 hSw => ?_⟩) hHeld ?_; rotate_left; (focus ((try dsimp only at hSw); simp only [List.getElem_toArray, List.getElem_cons_zero, List.getElem_cons_succ]; (first | (go_simp; done) | (go_simp; with_reducible rfl)))); (try simp only [List.getElem_toArray, List.getElem_cons_zero, List.getElem_cons_succ, Act.put, List.setIfInBounds_toArray, List.set_cons_zero, List.set_cons_succ]))
        (refine wpAnyK_take (i := 4) (v := ?_) rfl rfl (by kernel_rfl) (by kernel_rfl) (by kernel_rfl) (by kernel_rfl) (fun _ _ _ h => h) (Or.inl ⟨by kernel_rfl, fun w0 hSw => ?_⟩) hHeld ?_; rotate_left; (focus ((try dsimp only at hSw); simp only [List.getElem_toArray, List.getElem_cons_zero, List.getElem_cons_succ]; (first | (go_simp; done) | (go_simp; with_reducible rfl)))); (try simp only [List.getElem_toArray, List.getElem_cons_zero, List.getElem_cons_succ, Act.put, List.setIfInBounds_toArray, List.set_cons_zero, List.set_cons_succ]))
        (refine wpAnyK_take (i := 5) (v := ?_) rfl rfl (by kernel_rfl) (by kernel_rfl) (by kernel_rfl) (by kernel_rfl) (fun _ _ _ h => h) (Or.inl ⟨by kernel_rfl, fun w0 hSw => ?_⟩) hHeld ?_; rotate_left; (focus ((try dsimp only at hSw); simp only [List.getElem_toArray, List.getElem_cons_zero, List.getElem_cons_succ]; (first | (go_simp; done) | (go_simp; with_reducible rfl)))); (try simp only [List.getElem_toArray, List.getElem_cons_zero, List.getElem_cons_succ, Act.put, List.setIfInBounds_toArray, List.set_cons_zero, List.set_cons_succ]))
        (refine wpAnyK_one (j := 6) (by kernel_rfl) rfl (fun K hK => ?_); (try simp only [List.getElem_toArray, List.getElem_cons_zero, List.getElem_cons_succ]))
        go_simp
        have k1 := hold_alloc (.cells [.int .i64 v0, .int .i64 v1, .int .i64 v2, .int .i64 v3, .int .i64 v4, .int .i64 v5, .int .i64 v6].toArray 40 (0, 0)) hHeld
        refine hK.out _ _ (.inr k1) ?_
        clear hK K
        (try simp only [List.getElem_toArray, List.getElem_cons_zero, List.getElem_cons_succ, Act.put, List.setIfInBounds_toArray, List.set_cons_zero, List.set_cons_succ])
        (refine wpAnyK_one (j := 7) (by kernel_rfl) rfl (fun K hK => ?_); (try simp only [List.getElem_toArray, List.getElem_cons_zero, List.getElem_cons_succ]))
        rw [if_pos (by simp [Region.wanted])]
        refine wp_append_lies (wr.drew.alloc (.cells [.int .i64 v0, .int .i64 v1, .int .i64 v2, .int .i64 v3, .int .i64 v4, .int .i64 v5, .int .i64 v6].toArray 40 (0, 0))) (.tmp 76) (.tmp 78) 23 rfl B 40 i0' (.agg #[.int .i64 0, .int .i64 0, .int .i64 0, .int .i64 0, .int .i64 0, .int .i64 0, .int .i64 0]) 7 56 Tryd.underlying23 HI.out.1 HI.out.2.1 HI.out.2.2.1 HI.out.2.2.2 rfl (by decide) (.slice AC C.length cC) C.length (conCells C) (by kernel_rfl) (hP4.rc.alloc _) ⟨wr.heap.size, 0, none⟩ 1 1 [.int .i64 v0, .int .i64 v1, .int .i64 v2, .int .i64 v3, .int .i64 v4, .int .i64 v5, .int .i64 v6] (by kernel_rfl) rfl (World.news_of_block (heap_last _ _ _ rfl)) (by simp [Value.oneCell']) (by decide) (by unfold maxLen; omega) (by omega) (by have := hP4.le; simp at this ⊢; omega) (wr.heap.size + 1) (by simp) ?_
        intro g cap w6 hown6 hgrow6 _ hlt6
        obtain ⟨b6, hP7, F7, old7⟩ := hP4.appC (c := ⟨v0, v1, v2, v3, v4, v5, v6⟩) hgrow6 hown6
        have e6 : w6.heap[w.heap.size + 1 + 1]? = some (.cells [.int .i64 v0, .int .i64 v1, .int .i64 v2, .int .i64 v3, .int .i64 v4, .int .i64 v5, .int .i64 v6].toArray 40 (0, 0)) := (hgrow6.block (w.heap.size + 1 + 1) (by have := blk_lt e1; simp at this ⊢; omega) (fun e => by have := hv.out _ e.symm; omega)).trans ((Below.heap_alloc _ _ _ (blk_lt e1)).trans e1)
        have k0 := cell_blk b6 1
        have kf := frozen_blk b6 1
        have z0 := cell_blk e6 0
        have z1 := cell_blk e6 1
        have z2 := cell_blk e6 2
        have z3 := cell_blk e6 3
        have z4 := cell_blk e6 4
        have z5 := cell_blk e6 5
        have z6 := cell_blk e6 6
        simp only [List.getElem?_toArray, List.getElem?_cons_zero, List.getElem?_cons_succ] at k0 z0 z1 z2 z3 z4 z5 z6
        refine hK.out _ _ (.inr ⟨k0, z0, z1, z2, z3, z4, z5, z6⟩) ?_
        clear hK K hHeld k1 c0 m0 m1 m2 m3 m4 m5 m6
        (try simp only [Act.put, List.setIfInBounds_toArray, List.set_cons_zero, List.set_cons_succ])
        (refine wpAnyK_one (j := 8) (by kernel_rfl) rfl (fun K hK => ?_); (try simp only [List.getElem_toArray, List.getElem_cons_zero, List.getElem_cons_succ]))
        go_simp
        refine hK.out _ _ (.inr ⟨k0, z0, z1, z2, z3, z4, z5, z6⟩) ?_
        clear hK K
        (try simp only [List.getElem_toArray, List.getElem_cons_zero, List.getElem_cons_succ, Act.put, List.setIfInBounds_toArray, List.set_cons_zero, List.set_cons_succ])
        (refine wpAnyK_one (j := 9) (by kernel_rfl) rfl (fun K hK => ?_); (try simp only [List.getElem_toArray, List.getElem_cons_zero, List.getElem_cons_succ]))
        go_simp
        refine hK.out _ _ (.inr ⟨k0, z0, z1, z2, z3, z4, z5, z6⟩) ?_
        clear hK K
        (try simp only [List.getElem_toArray, List.getElem_cons_zero, List.getElem_cons_succ, Act.put, List.setIfInBounds_toArray, List.set_cons_zero, List.set_cons_succ])
        (refine wpAnyK_one (j := 10) (by kernel_rfl) rfl (fun K hK => ?_); (try simp only [List.getElem_toArray, List.getElem_cons_zero, List.getElem_cons_succ]))
        go_simp
        refine hK.out _ _ (.inl rfl) ?_
        clear hK K
        refine wpAnyK_done (by kernel_rfl) ?_ _
        obtain ⟨A5, c5, hrb5, hl5, hc5, _⟩ := hR4
        have e7 := (old7 (w.heap.size + 1) (blk_lt hrb5) (own_ne_kind hP4.rc hrb5 (by decide)) (by omega)).trans hrb5
        have m0 := cell_blk e7 0
        have m1 := cell_blk e7 1
        simp only [List.getElem?_toArray, List.getElem?_cons_zero, List.getElem?_cons_succ] at m0 m1
        have F8 := F4.trans F7
        clear k0 kf z0 z1 z2 z3 z4 z5 z6 b6 old7 hgrow6 hown6 e7 e6 F7 hrb5 e1
        generalize w6.setCell _ _ = w7 at m0 m1 F8 hP7 ⊢
        have post := post.out
        cases bad with
        | true =>
          have HP := Lib.hid (post.2 (.inl rfl))
          clear post
          go_wp2_with fail
          refine bodyPost_ret (by (simp [results, Tryd.results56, go_sem, *]; try rfl)) rfl ?_
          exact ⟨false, rfl, F8, fun _ => HP.out, fun h => by cases h⟩
        | false =>
          by_cases hr : rest = []
          · have hr0 : rest.length = 0 := by rw [hr]; rfl
            rw [hr0] at m0 hl5
            have HP := Lib.hid (post.1 ⟨rfl, hr⟩)
            clear post hr hr0
            go_wp2_with fail
            refine bodyPost_ret (by (simp [results, Tryd.results56, go_sem, *]; try rfl)) rfl ?_
            exact ⟨true, rfl, F8, (fun h => by cases h), fun _ => ⟨_, _, _, _, HP.out, hP7⟩⟩
          · have hr0 : 0 < rest.length := List.length_pos_iff.2 hr
            have HP := Lib.hid (post.2 (.inr hr))
            clear post hr
            go_wp2_with fail
            refine bodyPost_ret (by (simp [results, Tryd.results56, go_sem, *]; try rfl)) rfl ?_
            exact ⟨false, (congrArg (fun b => Ending.returned (Value.bool b)) (beq_false_of_ne (by omega))), F8, fun _ => HP.out, fun h => by cases h⟩
/-- read -/
theorem read_any (pb B : Nat) (s : ByteArray) (Q : List Int) (C : List Con) (VQ VC : Value) (w : World) (hP : PSt w B pb Q C VQ VC) (hs : s.size ≤ 8192) (hG : Glob w) (hp8 : 8 ≤ pb) (hlQ : Q.length ≤ 10000) (hlC : C.length ≤ 10000) : Calls Tryd.prog 56 #[.pointer (some ⟨pb, 0, none⟩), .string s] w (ReadPost w B pb Q C s) := by
  have hl := words_len s
  cases hw : wordsOf s with
  | nil => rw [hw] at hl; cases hl
  | cons x t =>
    cases h1 : (x.toList == [110, 111, 100, 101]) with
    | true => exact read_node pb B s Q C VQ VC w hP hs hG hp8 hlQ x t hw h1
    | false =>
      cases h2 : (x.toList == [99, 111, 110, 116, 97, 99, 116]) with
      | true => exact read_contact pb B s Q C VQ VC w hP hs hG hp8 hlC x t hw h1 h2
      | false => exact read_else pb B s Q C VQ VC w hP hs hG x t hw h1 h2
end Go.Proofs.YtgnlanfpholdaaaDoor

/- Parse. -/
import Derived.Test.YtmcgddlblhinlaaGreatDoorR8
import Derived.Test.YtmcgddlblhinlaaGreatDoorH14
namespace Go.Proofs.YtmcgddlblhinlaaGreatDoor
open Go.RowKit Go.Shelf
attribute [local go_sem] Oper.semAt_some
theorem fm_get {α : Type} (vals : α → List Value) (st : Nat) (hv : ∀ x, (vals x).length = st) (z : α) : ∀ (l : List α) (j k : Nat), j < l.length → k < st → (l.flatMap vals)[j * st + k]? = (vals (l.getD j z))[k]?
  | [], _, _, h, _ => by simp at h
  | x :: t, 0, k, _, hk => by
    rw [List.flatMap_cons, Nat.zero_mul, Nat.zero_add, List.getElem?_append_left (by rw [hv]; exact hk)]; rfl
  | x :: t, j + 1, k, hj, hk => by
    have e : (j + 1) * st + k = st + (j * st + k) := by rw [Nat.add_mul, Nat.one_mul]; omega
    rw [List.flatMap_cons, List.getElem?_append_right (by rw [hv, e]; omega), hv, e, Nat.add_sub_cancel_left, fm_get vals st hv z t j k (by simpa using hj) hk]; rfl
/-- an owned row reads as a slice -/
theorem row_read {α : Type} {w : World} {base : Nat} {e : TypeId} {st : Nat} {v : Value} {vals : α → List Value} {l : List α} (z : α) (hv : ∀ x, (vals x).length = st) (h : w.ownsRow base e st v l.length (l.flatMap vals)) :
    ∃ A c, v = .slice A l.length c ∧ l.length ≤ c ∧ c ≤ maxLen ∧ (0 < l.length → ∃ b o, A = some ⟨b, o, none⟩ ∧ b < w.heap.size ∧ ∀ j, j < l.length → ∀ k x, k < st → (vals (l.getD j z))[k]? = some x → w.cell? ⟨b, o + j * st + k, none⟩ = some x) := by
  rcases h.2 with ⟨rfl, h0⟩ | ⟨g, cap, cur, rfl, hb, hg, hn, hm, hs, ht⟩
  · refine ⟨none, 0, by rw [h0], by omega, by simp [maxLen], fun hp => by omega⟩
  · refine ⟨_, cap, rfl, hn, hm, fun _ => ⟨g, 0, rfl, (Array.getElem?_eq_some_iff.1 hg).1, fun j hj k x hk hx => ?_⟩⟩
    have ha : ∀ n, (⟨g, 0, none⟩ : Addr).add n = ⟨g, 0 + n, none⟩ := fun n => by unfold Addr.add; split <;> simp_all
    have := h.cells (g := g) rfl (j * st + k) x ((fm_get vals st hv z l j k hj hk).trans hx)
    rw [ha] at this
    rw [Nat.add_assoc]; exact this
theorem PS.mis {w : World} {B pb : Nat} {st : St} {VQ VC VO VF VX : Value} {ov : List (Bun × Value)} (h : PS w B pb st VQ VC VO VF VX ov) : MisAt w w.heap.size VQ VC VO VF VX st.m := by
  refine ⟨?_, ?_, ?_, ?_, ?_⟩
  · have hq : w.ownsRow B 3 1 VQ st.m.q.length (st.m.q.flatMap fun n => [Value.int .i64 n]) := by
      have e : (st.m.q.flatMap fun n => [Value.int .i64 n]) = intCells st.m.q := by
        unfold intCells; generalize st.m.q = l; induction l with
        | nil => rfl
        | cons x t ih => simp [ih]
      rw [e]; exact h.rq
    obtain ⟨A, c, e, h1, h2, h3⟩ := row_read (vals := fun n : Int => [Value.int .i64 n]) (0 : Int) (fun _ => rfl) hq
    refine ⟨A, c, e, h1, h2, fun hp => ?_⟩
    obtain ⟨b, o, e1, h4, h5⟩ := h3 hp
    exact ⟨b, o, e1, h4, fun j hj => by have := h5 j hj 0 _ Nat.one_pos rfl; simpa using this⟩
  · obtain ⟨A, c, e, h1, h2, h3⟩ := row_read (vals := conVals) Con.zero (fun _ => rfl) h.rc
    refine ⟨A, c, e, h1, h2, fun hp => ?_⟩
    obtain ⟨b, o, e1, h4, h5⟩ := h3 hp
    exact ⟨b, o, e1, h4, fun j hj => ⟨h5 j hj 0 _ (by omega) rfl, h5 j hj 1 _ (by omega) rfl, h5 j hj 2 _ (by omega) rfl, h5 j hj 3 _ (by omega) rfl, h5 j hj 4 _ (by omega) rfl, h5 j hj 5 _ (by omega) rfl, h5 j hj 6 _ (by omega) rfl⟩⟩
  · obtain ⟨A, c, e, h1, h2, h3⟩ := row_read (vals := fun p : Bun × Value => bunVals p.1 p.2) BZ (fun _ => rfl) h.ro
    obtain ⟨hl, hg⟩ := h.ov_get
    refine ⟨A, c, by rw [← hl]; exact e, by omega, h2, fun hp => ?_⟩
    obtain ⟨b, o, e1, h4, h5⟩ := h3 (by omega)
    refine ⟨b, o, e1, h4, fun j hj => ?_⟩
    have hj' : j < ov.length := by omega
    rw [hg j hj']
    have k := h5 j hj'
    refine ⟨k 0 _ (by omega) rfl, k 1 _ (by omega) rfl, k 2 _ (by omega) rfl, k 3 _ (by omega) rfl, k 4 _ (by omega) rfl, k 5 _ (by omega) rfl, k 6 _ (by omega) rfl, k 7 _ (by omega) rfl, k 8 _ (by omega) rfl, k 9 _ (by omega) rfl, ⟨_, k 10 _ (by omega) rfl, ?_⟩, k 11 _ (by omega) rfl⟩
    obtain ⟨A, c, e, h1, h2, h3⟩ := row_read (vals := blkVals) Blk.zero (fun _ => rfl) (h.rb j hj')
    refine ⟨A, c, e, h1, h2, fun hp => ?_⟩
    obtain ⟨b, o, e1, h4, h5⟩ := h3 hp
    exact ⟨b, o, e1, h4, fun j hj => ⟨h5 j hj 0 _ (by omega) rfl, h5 j hj 1 _ (by omega) rfl, h5 j hj 2 _ (by omega) rfl⟩⟩
  · obtain ⟨A, c, e, h1, h2, h3⟩ := row_read (vals := fltVals) Flt.zero (fun _ => rfl) h.rf
    refine ⟨A, c, e, h1, h2, fun hp => ?_⟩
    obtain ⟨b, o, e1, h4, h5⟩ := h3 hp
    exact ⟨b, o, e1, h4, fun j hj => ⟨h5 j hj 0 _ (by omega) rfl, h5 j hj 1 _ (by omega) rfl, h5 j hj 2 _ (by omega) rfl, h5 j hj 3 _ (by omega) rfl⟩⟩
  · obtain ⟨A, c, e, h1, h2, h3⟩ := row_read (vals := otgVals) Otg.zero (fun _ => rfl) h.rx
    refine ⟨A, c, e, h1, h2, fun hp => ?_⟩
    obtain ⟨b, o, e1, h4, h5⟩ := h3 hp
    exact ⟨b, o, e1, h4, fun j hj => ⟨h5 j hj 0 _ (by omega) rfl, h5 j hj 1 _ (by omega) rfl, h5 j hj 2 _ (by omega) rfl⟩⟩
theorem own_upc {w w' : World} {B : Nat} {e : TypeId} {size : Nat} {v : Value} {n : Nat} {xs : List Value} (h : w.ownsRow B e size v n xs) (hb : ∀ k c t z, B ≤ k → w.heap[k]? = some (.cells c t z) → w'.heap[k]? = w.heap[k]?) : w'.ownsRow B e size v n xs := by
  rcases h with ⟨hv, h2⟩
  refine ⟨hv, ?_⟩
  rcases h2 with h2 | ⟨g, cap, cur, h3, h4, h5, h6⟩
  · exact .inl h2
  · exact .inr ⟨g, cap, cur, h3, h4, (hb g _ _ _ h4 h5).trans h5, h6⟩
theorem PS.upc {w w' : World} {B pb : Nat} {st : St} {VQ VC VO VF VX : Value} {ov : List (Bun × Value)} (h : PS w B pb st VQ VC VO VF VX ov) (hs : w.heap.size ≤ w'.heap.size) (hk : ∀ k c t z, k = pb ∨ B ≤ k → w.heap[k]? = some (.cells c t z) → w'.heap[k]? = w.heap[k]?) : PS w' B pb st VQ VC VO VF VX ov :=
  ⟨h.lt, h.g8, Nat.le_trans h.le hs, (hk pb _ _ _ (.inl rfl) h.blk).trans h.blk, h.os, own_upc h.rq fun k c t z hB => hk k c t z (.inr hB), own_upc h.rc fun k c t z hB => hk k c t z (.inr hB), own_upc h.ro fun k c t z hB => hk k c t z (.inr hB), own_upc h.rf fun k c t z hB => hk k c t z (.inr hB), own_upc h.rx fun k c t z hB => hk k c t z (.inr hB), fun i hi => own_upc (h.rb i hi) fun k c t z hB => hk k c t z (.inr hB), h.nb⟩
theorem Bd.zero : Bd St.zero 0 := ⟨Nat.le_refl _, Nat.le_refl _, Nat.le_refl _, Nat.le_refl _, Nat.le_refl _, fun i hi => by simp [St.zero, Mis.zero] at hi, fun h => by simp [St.zero] at h⟩
theorem Bd.more {st : St} {n m : Nat} (h : Bd st n) (hm : n ≤ m) : Bd st m := ⟨Nat.le_trans h.q hm, Nat.le_trans h.c hm, Nat.le_trans h.o hm, Nat.le_trans h.f hm, Nat.le_trans h.x hm, fun i hi => Nat.le_trans (h.b i hi) hm, h.k⟩
theorem Bd.step {st : St} {n : Nat} {x : Item} (h : Bd st n) (hf : fitI st x = true) (ho : x.ok) : Bd (st.app x) (n + 1) := by
  have H := h.more (Nat.le_succ n)
  obtain ⟨q, c, o, f, xx, b, k⟩ := h
  cases x with
  | node i d => exact ⟨by simp [St.app, addI]; omega, H.c, H.o, H.f, H.x, H.b, fun h => by simp [St.app, Item.kind] at h⟩
  | con d => exact ⟨H.q, by simp [St.app, addI]; omega, H.o, H.f, H.x, H.b, fun h => by simp [St.app, Item.kind] at h⟩
  | ord d =>
    refine ⟨H.q, H.c, by simp [St.app, addI]; omega, H.f, H.x, fun i hi => ?_, fun _ => by simp [St.app, addI]⟩
    show ((st.m.os ++ [d]).getD i Bun.zero).bl.length ≤ n + 1
    rw [getD_snoc]
    by_cases hlt : i < st.m.os.length
    · rw [if_pos hlt]; exact H.b i hlt
    · rw [if_neg hlt]
      split
      · obtain ⟨_, _, _, _, hb, _⟩ := ho
        rw [hb]; exact Nat.zero_le _
      · exact Nat.zero_le _
  | blk d =>
    have h34 : st.k = 3 ∨ st.k = 4 := by simpa [fitI] using hf
    have hp := k h34
    refine ⟨H.q, H.c, by simp [St.app, addI, addBlk]; omega, H.f, H.x, fun i hi => ?_, fun _ => by simp [St.app, addI, addBlk]; omega⟩
    have hi' : i < st.m.os.length := by simpa [St.app, addI, addBlk] using hi
    show ((addBlk st.m.os d).getD i Bun.zero).bl.length ≤ n + 1
    unfold addBlk
    by_cases he : i = st.m.os.length - 1
    · subst he
      have e : (st.m.os.set (st.m.os.length - 1) { st.m.os.getD (st.m.os.length - 1) Bun.zero with bl := (st.m.os.getD (st.m.os.length - 1) Bun.zero).bl ++ [d] }).getD (st.m.os.length - 1) Bun.zero = { st.m.os.getD (st.m.os.length - 1) Bun.zero with bl := (st.m.os.getD (st.m.os.length - 1) Bun.zero).bl ++ [d] } := by
        simp only [List.getD]; rw [List.getElem?_set_self hi']; rfl
      rw [e]
      have := b _ hi'
      simp only [List.length_append, List.length_cons, List.length_nil]
      omega
    · have e : (st.m.os.set (st.m.os.length - 1) { st.m.os.getD (st.m.os.length - 1) Bun.zero with bl := (st.m.os.getD (st.m.os.length - 1) Bun.zero).bl ++ [d] }).getD i Bun.zero = st.m.os.getD i Bun.zero := by
        simp only [List.getD]
        rw [List.getElem?_set_ne (by omega)]
      rw [e]; exact H.b i hi'
  | flt d => exact ⟨H.q, H.c, H.o, by simp [St.app, addI]; omega, H.x, H.b, fun h => by simp [St.app, Item.kind] at h⟩
  | otg d => exact ⟨H.q, H.c, H.o, H.f, by simp [St.app, addI]; omega, H.b, fun h => by simp [St.app, Item.kind] at h⟩
  | bnd => exact ⟨H.q, H.c, H.o, H.f, H.x, H.b, fun h => by simp [St.app, Item.kind] at h⟩
theorem Bd.read {st st' : St} {n : Nat} {l : List UInt8} (h : Bd st n) (hr : readS st l = some st') : Bd st' (n + 1) := by
  obtain ⟨x, hx, hf, rfl⟩ := readS_inv hr
  exact h.step hf hx.1
def ParseP2 (s : ByteArray) (w : World) (e : Ending) (w' : World) : Prop :=
  ∃ VQ VC VO VF VX, e = .returned (.tuple #[.agg #[VQ, VC, VO, VF, VX, .bool (parseR s).1.bd], .int .i64 (parseR s).2.1, .int .i64 (parseR s).2.2]) ∧ (∀ W : World, w'.heap.size ≤ W.heap.size → (∀ k, w.heap.size ≤ k → k < w'.heap.size → W.heap[k]? = w'.heap[k]?) → MisAt W W.heap.size VQ VC VO VF VX (parseR s).1) ∧ Below w.heap.size w w'
def ParsePost (s : ByteArray) (w : World) (e : Ending) (w' : World) : Prop :=
  ∃ VQ VC VO VF VX, e = .returned (.tuple #[.agg #[VQ, VC, VO, VF, VX, .bool (parseR s).1.bd], .int .i64 (parseR s).2.1, .int .i64 (parseR s).2.2]) ∧ MisAt w' w'.heap.size VQ VC VO VF VX (parseR s).1 ∧ Below w.heap.size w w'
/-- the reading under way, in memory -/
structure PI (w W : World) (pre : List (Int × ByteArray)) (st : St) (VQ VC VO VF VX : Value) (ov : List (Bun × Value)) : Prop where
  scn : ∀ rest, scanM St.zero (pre ++ rest) = scanM st rest
  bd : Bd st pre.length
  ps : PS W (w.heap.size + 1 + 1 + 1 + 1 + 1 + 1) (w.heap.size + 1 + 1 + 1) st VQ VC VO VF VX ov
  pp : Boxed W (w.heap.size + 1 + 1 + 1 + 1) 80 (.pointer (some ⟨w.heap.size + 1 + 1 + 1, 0, none⟩))
  r0 : W.heap[w.heap.size]? = some (.cells #[.slice none 0 0, .slice none 0 0, .slice none 0 0, .slice none 0 0, .slice none 0 0, .bool false] 31 (0, 0))
  r1 : Boxed W (w.heap.size + 1) 3 (.int .i64 0)
  r2 : Boxed W (w.heap.size + 1 + 1) 33 (.int .i64 0)
  bel : Below w.heap.size w W
/-- the reading stopped -/
structure PX (w W : World) (pre : List (Int × ByteArray)) (n : Int) : Prop where
  scn : ∀ rest, scanM St.zero (pre ++ rest) = .error n
  r0 : W.heap[w.heap.size]? = some (.cells #[.slice none 0 0, .slice none 0 0, .slice none 0 0, .slice none 0 0, .slice none 0 0, .bool false] 31 (0, 0))
  r1 : Boxed W (w.heap.size + 1) 3 (.int .i64 n)
  r2 : Boxed W (w.heap.size + 1 + 1) 33 (.int .i64 3)
  bel : Below w.heap.size w W
/-- the blocks that the range and its iterator write -/
def FarR (w W : World) (row : Option Nat) : Prop := ∀ r, row = some r → r = w.heap.size + 1 + 1 + 1 + 1 + 1 ∨ (w.heap.size + 1 + 1 + 1 + 1 + 1 + 1 ≤ r ∧ ∃ o : Obj, W.heap[r]? = some o ∧ o.isCells = false)
theorem below_far {w W W' : World} {row : Option Nat} (h : Below w.heap.size w W) (hg : W.grownBy W' row) (hf : FarR w W row) : Below w.heap.size w W' :=
  h.trans ⟨hg.os, hg.tape, hg.output, hg.size, fun k hk => hg.block k (by have := h.size; omega) (fun e => by rcases hf k e.symm with h | h <;> omega)⟩
theorem blk_far {w W W' : World} {row : Option Nat} {k : Nat} {o : Obj} (h : W.heap[k]? = some o) (hk : k < w.heap.size + 1 + 1 + 1 + 1 + 1) (hg : W.grownBy W' row) (hf : FarR w W row) : W'.heap[k]? = some o :=
  (hg.block k (blk_lt h) (fun e => by rcases hf k e.symm with h | h <;> omega)).trans h
theorem PI.kept {w W W' : World} {pre : List (Int × ByteArray)} {st : St} {VQ VC VO VF VX : Value} {ov : List (Bun × Value)} {row : Option Nat} (h : PI w W pre st VQ VC VO VF VX ov) (hg : W.grownBy W' row) (hf : FarR w W row) : PI w W' pre st VQ VC VO VF VX ov :=
  ⟨h.scn, h.bd, h.ps.upc hg.size (fun k c t z hk hc => hg.block k (blk_lt hc) (fun e => by
      rcases hf k e.symm with h1 | ⟨h1, o, h2, h3⟩
      · omega
      · rw [hc] at h2; cases h2; cases h3)), blk_far h.pp (by omega) hg hf, blk_far h.r0 (by omega) hg hf, blk_far h.r1 (by omega) hg hf, blk_far h.r2 (by omega) hg hf, below_far h.bel hg hf⟩
theorem PX.kept {w W W' : World} {pre : List (Int × ByteArray)} {n : Int} {row : Option Nat} (h : PX w W pre n) (hg : W.grownBy W' row) (hf : FarR w W row) : PX w W' pre n :=
  ⟨h.scn, blk_far h.r0 (by omega) hg hf, blk_far h.r1 (by omega) hg hf, blk_far h.r2 (by omega) hg hf, below_far h.bel hg hf⟩
theorem far_of {w W : World} {B : Nat} (hB : w.heap.size + 1 + 1 + 1 + 1 + 1 + 1 ≤ B) {row : Option Nat} (hr : ∀ r, row = some r → B ≤ r ∧ ∃ o : Obj, W.heap[r]? = some o ∧ o.isCells = false) : FarR w W row := fun r e => .inr ⟨Nat.le_trans hB (hr r e).1, (hr r e).2⟩
theorem far_box (w W : World) : FarR w W (some (w.heap.size + 1 + 1 + 1 + 1 + 1)) := fun r e => by cases e; exact .inl rfl
theorem lkp_t {N0 xb : Nat} {A B C : World} (h : LKp N0 xb A B) (k : LKp N0 xb B C) : LKp N0 xb A C := ⟨k.1.trans h.1, fun j hj => (k.2.1 j hj).trans (h.2.1 j hj), Nat.le_trans h.2.2 k.2.2⟩
theorem lkp_b {N0 xb : Nat} {w : World} (hx : xb < w.heap.size) (h8 : N0 ≤ w.heap.size) (W : World) (l : Nat) (o o' : Obj) (hl : w.heap.size ≤ l) (h : W.heap[l]? = some o) (_ : o.isCells = false) (_ : o.isWalk = false) : LKp N0 xb W (W.putObj l o') := by
  have hlt := (Array.getElem?_eq_some_iff.1 h).1
  have hg := grownBy_putObj' W l o'
  exact ⟨hg.block xb (by omega) (fun e => by cases e; omega), fun k hk => hg.block k (by omega) (fun e => by cases e; omega), hg.size⟩
theorem scan_ok {pre : List (Int × ByteArray)} {st st' : St} {x : Int × ByteArray} (h : ∀ rest, scanM St.zero (pre ++ rest) = scanM st rest) (hs : readS st x.2.data.toList = some st') : ∀ rest, scanM St.zero (pre ++ [x] ++ rest) = scanM st' rest := fun rest => by
  rw [List.append_assoc, h]
  simp [scanM, hs]
theorem scan_bad {pre : List (Int × ByteArray)} {st : St} {x : Int × ByteArray} (h : ∀ rest, scanM St.zero (pre ++ rest) = scanM st rest) (hs : readS st x.2.data.toList = none) : ∀ rest, scanM St.zero (pre ++ [x] ++ rest) = .error x.1 := fun rest => by
  rw [List.append_assoc, h]
  simp [scanM, hs]
theorem heap_keep {w : World} {k : Nat} {o : Obj} (h : w.heap[k]? = some o) (o' : Obj) : (w.alloc o').heap[k]? = some o := (Below.heap_alloc _ _ _ (blk_lt h)).trans h
theorem _root_.Go.KeepsFrom.more {B B' : Nat} {W W' : World} (h : KeepsFrom B W W') (hB : B ≤ B') : KeepsFrom B' W W' := ⟨h.size, fun k o hk => h.same k o (Nat.le_trans hB hk)⟩
/-- the results stored -/
abbrev put8 (V : World) (N : Nat) (a0 a1 a2 a3 a4 a5 b c : Value) : World :=
  (((((((V.setCell ⟨N, 0, none⟩ a0).setCell ⟨N, 1, none⟩ a1).setCell ⟨N, 2, none⟩ a2).setCell ⟨N, 3, none⟩ a3).setCell ⟨N, 4, none⟩ a4).setCell ⟨N, 5, none⟩ a5).setCell ⟨N + 1, 0, none⟩ b).setCell ⟨N + 1 + 1, 0, none⟩ c
theorem res_world {w V : World} {x0 x1 x2 x3 x4 x5 x6 x7 : Value} (r0 : V.heap[w.heap.size]? = some (.cells #[x0, x1, x2, x3, x4, x5] 31 (0, 0))) (r1 : Boxed V (w.heap.size + 1) 3 x6) (r2 : Boxed V (w.heap.size + 1 + 1) 33 x7) (bel : Below w.heap.size w V) (a0 a1 a2 a3 a4 a5 b c : Value) :
    (put8 V w.heap.size a0 a1 a2 a3 a4 a5 b c).heap[w.heap.size]? = some (.cells #[a0, a1, a2, a3, a4, a5] 31 (0, 0)) ∧ Boxed (put8 V w.heap.size a0 a1 a2 a3 a4 a5 b c) (w.heap.size + 1) 3 b ∧ Boxed (put8 V w.heap.size a0 a1 a2 a3 a4 a5 b c) (w.heap.size + 1 + 1) 33 c ∧ Below w.heap.size w (put8 V w.heap.size a0 a1 a2 a3 a4 a5 b c) ∧
    (put8 V w.heap.size a0 a1 a2 a3 a4 a5 b c).heap.size = V.heap.size ∧ ∀ k, k ≠ w.heap.size → k ≠ w.heap.size + 1 → k ≠ w.heap.size + 1 + 1 → (put8 V w.heap.size a0 a1 a2 a3 a4 a5 b c).heap[k]? = V.heap[k]? := by
  have n0 : ∀ (X : World) (v : Value) (i k : Nat), k ≠ w.heap.size → (X.setCell ⟨w.heap.size, i, none⟩ v).heap[k]? = X.heap[k]? := fun X v i k hk => Below.heap_setCell X ⟨w.heap.size, i, none⟩ v k (by simpa using hk)
  have n1 : ∀ (X : World) (v : Value) (k : Nat), k ≠ w.heap.size + 1 → (X.setCell ⟨w.heap.size + 1, 0, none⟩ v).heap[k]? = X.heap[k]? := fun X v k hk => Below.heap_setCell X ⟨w.heap.size + 1, 0, none⟩ v k (by simpa using hk)
  have n2 : ∀ (X : World) (v : Value) (k : Nat), k ≠ w.heap.size + 1 + 1 → (X.setCell ⟨w.heap.size + 1 + 1, 0, none⟩ v).heap[k]? = X.heap[k]? := fun X v k hk => Below.heap_setCell X ⟨w.heap.size + 1 + 1, 0, none⟩ v k (by simpa using hk)
  have e1 := heap_set (i := 5) (heap_set (i := 4) (heap_set (i := 3) (heap_set (i := 2) (heap_set (i := 1) (heap_set (i := 0) r0 a0) a1) a2) a3) a4) a5
  refine ⟨?_, ?_, ?_, ?_, by simp [World.setCell], fun k h0 h1 h2 => by rw [put8, n2 _ _ _ h2, n1 _ _ _ h1, n0 _ _ _ _ h0, n0 _ _ _ _ h0, n0 _ _ _ _ h0, n0 _ _ _ _ h0, n0 _ _ _ _ h0, n0 _ _ _ _ h0]⟩
  · rw [put8, n2 _ _ _ (by omega), n1 _ _ _ (by omega)]; simpa using e1
  · have b1 : Boxed ((((((V.setCell ⟨w.heap.size, 0, none⟩ a0).setCell ⟨w.heap.size, 1, none⟩ a1).setCell ⟨w.heap.size, 2, none⟩ a2).setCell ⟨w.heap.size, 3, none⟩ a3).setCell ⟨w.heap.size, 4, none⟩ a4).setCell ⟨w.heap.size, 5, none⟩ a5) (w.heap.size + 1) 3 x6 := by
      unfold Boxed; rw [n0 _ _ _ _ (by omega), n0 _ _ _ _ (by omega), n0 _ _ _ _ (by omega), n0 _ _ _ _ (by omega), n0 _ _ _ _ (by omega), n0 _ _ _ _ (by omega)]; exact r1
    exact (n2 _ _ _ (by omega)).trans (b1.set b)
  · have b2 : Boxed (((((((V.setCell ⟨w.heap.size, 0, none⟩ a0).setCell ⟨w.heap.size, 1, none⟩ a1).setCell ⟨w.heap.size, 2, none⟩ a2).setCell ⟨w.heap.size, 3, none⟩ a3).setCell ⟨w.heap.size, 4, none⟩ a4).setCell ⟨w.heap.size, 5, none⟩ a5).setCell ⟨w.heap.size + 1, 0, none⟩ b) (w.heap.size + 1 + 1) 33 x7 := by
      unfold Boxed; rw [n1 _ _ _ (by omega), n0 _ _ _ _ (by omega), n0 _ _ _ _ (by omega), n0 _ _ _ _ (by omega), n0 _ _ _ _ (by omega), n0 _ _ _ _ (by omega), n0 _ _ _ _ (by omega)]; exact r2
    exact b2.set c
  · have z : ∀ {X : World} (i : Nat) (v : Value), Below w.heap.size w X → Below w.heap.size w (X.setCell ⟨w.heap.size, i, none⟩ v) := fun i v h => h.setCell (p := ⟨w.heap.size, i, none⟩) (Nat.le_refl _) v
    exact ((z 5 _ (z 4 _ (z 3 _ (z 2 _ (z 1 _ (z 0 _ bel)))))).setCell (p := ⟨w.heap.size + 1, 0, none⟩) (by show w.heap.size ≤ w.heap.size + 1; omega) _).setCell (p := ⟨w.heap.size + 1 + 1, 0, none⟩) (by show w.heap.size ≤ w.heap.size + 1 + 1; omega) _
theorem parse_end {s : ByteArray} {w X : World} {D : Nat} {VQ VC VO VF VX : Value} {a b : Int} {m : Mis} {tmps : Array Value} (z0 : X.heap[w.heap.size]? = some (.cells #[VQ, VC, VO, VF, VX, .bool m.bd] 31 (0, 0))) (z1 : Boxed X (w.heap.size + 1) 3 (.int .i64 a)) (z2 : Boxed X (w.heap.size + 1 + 1) 33 (.int .i64 b)) (z3 : Below w.heap.size w X) (hD : w.heap.size + 1 + 1 + 1 + 1 + 1 + 1 ≤ D)
    (hK : X.heap[D]? = some (.deferred (some []))) (rc : ∀ W : World, (X.putObj D (.deferred none)).heap.size ≤ W.heap.size → (∀ k, w.heap.size ≤ k → k < (X.putObj D (.deferred none)).heap.size → W.heap[k]? = (X.putObj D (.deferred none)).heap[k]?) → MisAt W W.heap.size VQ VC VO VF VX m) (hP : parseR s = (m, a, b))
    (t2 : tmps[2]? = some (.pointer (some ⟨w.heap.size, 0, none⟩))) (t3 : tmps[3]? = some (.pointer (some ⟨w.heap.size + 1, 0, none⟩))) (t4 : tmps[4]? = some (.pointer (some ⟨w.heap.size + 1 + 1, 0, none⟩))) :
    LeavesInM Fence.wide 3 Tryz.prog Tryz.f15 tmps (ParseP2 s w) [] FrameMode.returning (X.putObj D (.deferred none)) := by
  have hg := grownBy_putObj' X D (.deferred none)
  have y0 : (X.putObj D (.deferred none)).heap[w.heap.size]? = some (.cells #[VQ, VC, VO, VF, VX, .bool m.bd] 31 (0, 0)) := (hg.block _ (blk_lt z0) (by simp; omega)).trans z0
  have n0 := cell_blk y0 0
  have n1 := cell_blk y0 1
  have n2 := cell_blk y0 2
  have n3 := cell_blk y0 3
  have n4 := cell_blk y0 4
  have n5 := cell_blk y0 5
  simp only [List.getElem?_toArray, List.getElem?_cons_zero, List.getElem?_cons_succ] at n0 n1 n2 n3 n4 n5
  have n6 := (z1.kept hg (by simp; omega)).cell
  have n7 := (z2.kept hg (by simp; omega)).cell
  have hB : Below w.heap.size w (X.putObj D (.deferred none)) := z3.trans (belowK_b (w := w) (Nat.le_refl _) X D _ _ (by omega) hK rfl rfl)
  generalize X.putObj D (.deferred none) = Y at *
  refine ⟨.tuple #[.agg #[VQ, VC, VO, VF, VX, .bool m.bd], .int .i64 a, .int .i64 b], by simp [results, Tryz.results15, go_sem, t2, t3, t4, n0, n1, n2, n3, n4, n5, n6, n7], VQ, VC, VO, VF, VX, by rw [hP], by rw [hP]; exact rc, hB⟩
/-- a mission's rows stand where a deferred list is struck -/
theorem PS.end {w : World} {B pb D : Nat} {st : St} {VQ VC VO VF VX : Value} {ov : List (Bun × Value)} (h : PS w B pb st VQ VC VO VF VX ov) (hK : w.heap[D]? = some (.deferred (some []))) {n : Nat} (hn : n ≤ pb) : ∀ W : World, (w.putObj D (.deferred none)).heap.size ≤ W.heap.size → (∀ k, n ≤ k → k < (w.putObj D (.deferred none)).heap.size → W.heap[k]? = (w.putObj D (.deferred none)).heap[k]?) → MisAt W W.heap.size VQ VC VO VF VX st.m := by
  intro W hs hW
  have hg := grownBy_putObj' w D (.deferred none)
  have h2 := h.upc hg.size fun k c t z _ hc => hg.block k (blk_lt hc) (fun e => by cases e; rw [hK] at hc; cases hc)
  exact (h2.upc hs fun k c t z hk hc => hW k (by have := h2.lt; omega) (blk_lt hc)).mis
set_option maxRecDepth 100000 in
set_option maxHeartbeats 4000000 in
theorem parse_in (s : ByteArray) (w : World) (hs : s.size ≤ 8192) (hG : Glob w) : CallsIn Fence.wide 3 Tryz.prog 15 #[.string s] w (ParseP2 s w) := by
  have hn : ¬ (8192 < s.size) := by omega
  have hsl : s.data.toList.length ≤ 8192 := hs
  have hg8 := hG.lt
  refine callsIn_of_wp_marks Tryz.func15 rfl trivial ?_ rfl
  simp only [Tryz.ntmps15, List.size_toArray, List.length_cons, List.length_nil, Nat.reduceAdd, Nat.reduceSub, Array.replicate_succ, Array.replicate_zero, List.push_toArray, List.append_toArray, List.nil_append, List.cons_append]
  gi_wp2
  refine ⟨trivial, ?_⟩
  refine (lines_fn _ _ _).mono ?_
  rintro e w1 ⟨rfl, rfl⟩
  gi_wp2
  have hB0 : Below w.heap.size w ((((((w.alloc (.cells #[.slice none 0 0, .slice none 0 0, .slice none 0 0, .slice none 0 0, .slice none 0 0, .bool false] 31)).alloc (.cells #[.int .i64 0] 3)).alloc (.cells #[.int .i64 0] 33)).alloc (.cells #[.slice none 0 0, .slice none 0 0, .slice none 0 0, .slice none 0 0, .slice none 0 0, .bool false, .int .i64 0, .string ⟨#[]⟩] 82)).alloc (.cells #[.pointer (some ⟨w.heap.size + 1 + 1 + 1, 0, none⟩)] 80)).alloc (.cells #[.string s] 9)) := by (repeat' (first | (with_reducible exact Below.refl _ _) | (with_reducible refine Below.alloc ?_ ?_ _) | (with_reducible refine Below.drew ?_) | (with_reducible refine below_drewN ?_ _) | (with_reducible refine Below.setCell ?_ ?_ _) | (with_reducible refine Below.trans ?_ (Below.mono (by assumption) ?_)) | (with_reducible exact Nat.le_refl _) | omega | (simp; omega) | (simp; done)))
  have b0 : ((((((w.alloc (.cells #[.slice none 0 0, .slice none 0 0, .slice none 0 0, .slice none 0 0, .slice none 0 0, .bool false] 31)).alloc (.cells #[.int .i64 0] 3)).alloc (.cells #[.int .i64 0] 33)).alloc (.cells #[.slice none 0 0, .slice none 0 0, .slice none 0 0, .slice none 0 0, .slice none 0 0, .bool false, .int .i64 0, .string ⟨#[]⟩] 82)).alloc (.cells #[.pointer (some ⟨w.heap.size + 1 + 1 + 1, 0, none⟩)] 80)).alloc (.cells #[.string s] 9)).heap[w.heap.size]? = some (.cells #[.slice none 0 0, .slice none 0 0, .slice none 0 0, .slice none 0 0, .slice none 0 0, .bool false] 31 (0, 0)) := (heap_keep (heap_keep (heap_keep (heap_keep (heap_keep (by have := heap_alloc_last w (.cells #[.slice none 0 0, .slice none 0 0, .slice none 0 0, .slice none 0 0, .slice none 0 0, .bool false] 31); (try unfold Boxed); simpa using this) _) _) _) _) _)
  have b1 : Boxed ((((((w.alloc (.cells #[.slice none 0 0, .slice none 0 0, .slice none 0 0, .slice none 0 0, .slice none 0 0, .bool false] 31)).alloc (.cells #[.int .i64 0] 3)).alloc (.cells #[.int .i64 0] 33)).alloc (.cells #[.slice none 0 0, .slice none 0 0, .slice none 0 0, .slice none 0 0, .slice none 0 0, .bool false, .int .i64 0, .string ⟨#[]⟩] 82)).alloc (.cells #[.pointer (some ⟨w.heap.size + 1 + 1 + 1, 0, none⟩)] 80)).alloc (.cells #[.string s] 9)) (w.heap.size + 1) 3 (.int .i64 0) := (heap_keep (heap_keep (heap_keep (heap_keep (by have := heap_alloc_last (w.alloc (.cells #[.slice none 0 0, .slice none 0 0, .slice none 0 0, .slice none 0 0, .slice none 0 0, .bool false] 31)) (.cells #[.int .i64 0] 3); (try unfold Boxed); simpa using this) _) _) _) _)
  have b2 : Boxed ((((((w.alloc (.cells #[.slice none 0 0, .slice none 0 0, .slice none 0 0, .slice none 0 0, .slice none 0 0, .bool false] 31)).alloc (.cells #[.int .i64 0] 3)).alloc (.cells #[.int .i64 0] 33)).alloc (.cells #[.slice none 0 0, .slice none 0 0, .slice none 0 0, .slice none 0 0, .slice none 0 0, .bool false, .int .i64 0, .string ⟨#[]⟩] 82)).alloc (.cells #[.pointer (some ⟨w.heap.size + 1 + 1 + 1, 0, none⟩)] 80)).alloc (.cells #[.string s] 9)) (w.heap.size + 1 + 1) 33 (.int .i64 0) := (heap_keep (heap_keep (heap_keep (by have := heap_alloc_last ((w.alloc (.cells #[.slice none 0 0, .slice none 0 0, .slice none 0 0, .slice none 0 0, .slice none 0 0, .bool false] 31)).alloc (.cells #[.int .i64 0] 3)) (.cells #[.int .i64 0] 33); (try unfold Boxed); simpa using this) _) _) _)
  have b3 : ((((((w.alloc (.cells #[.slice none 0 0, .slice none 0 0, .slice none 0 0, .slice none 0 0, .slice none 0 0, .bool false] 31)).alloc (.cells #[.int .i64 0] 3)).alloc (.cells #[.int .i64 0] 33)).alloc (.cells #[.slice none 0 0, .slice none 0 0, .slice none 0 0, .slice none 0 0, .slice none 0 0, .bool false, .int .i64 0, .string ⟨#[]⟩] 82)).alloc (.cells #[.pointer (some ⟨w.heap.size + 1 + 1 + 1, 0, none⟩)] 80)).alloc (.cells #[.string s] 9)).heap[w.heap.size + 1 + 1 + 1]? = some (.cells #[.slice none 0 0, .slice none 0 0, .slice none 0 0, .slice none 0 0, .slice none 0 0, .bool false, .int .i64 0, .string ⟨#[]⟩] 82 (0, 0)) := (heap_keep (heap_keep (by have := heap_alloc_last (((w.alloc (.cells #[.slice none 0 0, .slice none 0 0, .slice none 0 0, .slice none 0 0, .slice none 0 0, .bool false] 31)).alloc (.cells #[.int .i64 0] 3)).alloc (.cells #[.int .i64 0] 33)) (.cells #[.slice none 0 0, .slice none 0 0, .slice none 0 0, .slice none 0 0, .slice none 0 0, .bool false, .int .i64 0, .string ⟨#[]⟩] 82); (try unfold Boxed); simpa using this) _) _)
  have b4 : Boxed ((((((w.alloc (.cells #[.slice none 0 0, .slice none 0 0, .slice none 0 0, .slice none 0 0, .slice none 0 0, .bool false] 31)).alloc (.cells #[.int .i64 0] 3)).alloc (.cells #[.int .i64 0] 33)).alloc (.cells #[.slice none 0 0, .slice none 0 0, .slice none 0 0, .slice none 0 0, .slice none 0 0, .bool false, .int .i64 0, .string ⟨#[]⟩] 82)).alloc (.cells #[.pointer (some ⟨w.heap.size + 1 + 1 + 1, 0, none⟩)] 80)).alloc (.cells #[.string s] 9)) (w.heap.size + 1 + 1 + 1 + 1) 80 (.pointer (some ⟨w.heap.size + 1 + 1 + 1, 0, none⟩)) := (heap_keep (by have := heap_alloc_last ((((w.alloc (.cells #[.slice none 0 0, .slice none 0 0, .slice none 0 0, .slice none 0 0, .slice none 0 0, .bool false] 31)).alloc (.cells #[.int .i64 0] 3)).alloc (.cells #[.int .i64 0] 33)).alloc (.cells #[.slice none 0 0, .slice none 0 0, .slice none 0 0, .slice none 0 0, .slice none 0 0, .bool false, .int .i64 0, .string ⟨#[]⟩] 82)) (.cells #[.pointer (some ⟨w.heap.size + 1 + 1 + 1, 0, none⟩)] 80); (try unfold Boxed); simpa using this) _)
  have bX : Boxed ((((((w.alloc (.cells #[.slice none 0 0, .slice none 0 0, .slice none 0 0, .slice none 0 0, .slice none 0 0, .bool false] 31)).alloc (.cells #[.int .i64 0] 3)).alloc (.cells #[.int .i64 0] 33)).alloc (.cells #[.slice none 0 0, .slice none 0 0, .slice none 0 0, .slice none 0 0, .slice none 0 0, .bool false, .int .i64 0, .string ⟨#[]⟩] 82)).alloc (.cells #[.pointer (some ⟨w.heap.size + 1 + 1 + 1, 0, none⟩)] 80)).alloc (.cells #[.string s] 9)) (w.heap.size + 1 + 1 + 1 + 1 + 1) 9 (.string s) := (by have := heap_alloc_last (((((w.alloc (.cells #[.slice none 0 0, .slice none 0 0, .slice none 0 0, .slice none 0 0, .slice none 0 0, .bool false] 31)).alloc (.cells #[.int .i64 0] 3)).alloc (.cells #[.int .i64 0] 33)).alloc (.cells #[.slice none 0 0, .slice none 0 0, .slice none 0 0, .slice none 0 0, .slice none 0 0, .bool false, .int .i64 0, .string ⟨#[]⟩] 82)).alloc (.cells #[.pointer (some ⟨w.heap.size + 1 + 1 + 1, 0, none⟩)] 80)) (.cells #[.string s] 9); (try unfold Boxed); simpa using this)
  have hsz : ((((((w.alloc (.cells #[.slice none 0 0, .slice none 0 0, .slice none 0 0, .slice none 0 0, .slice none 0 0, .bool false] 31)).alloc (.cells #[.int .i64 0] 3)).alloc (.cells #[.int .i64 0] 33)).alloc (.cells #[.slice none 0 0, .slice none 0 0, .slice none 0 0, .slice none 0 0, .slice none 0 0, .bool false, .int .i64 0, .string ⟨#[]⟩] 82)).alloc (.cells #[.pointer (some ⟨w.heap.size + 1 + 1 + 1, 0, none⟩)] 80)).alloc (.cells #[.string s] 9)).heap.size = w.heap.size + 1 + 1 + 1 + 1 + 1 + 1 := by simp
  generalize ((((((w.alloc (.cells #[.slice none 0 0, .slice none 0 0, .slice none 0 0, .slice none 0 0, .slice none 0 0, .bool false] 31)).alloc (.cells #[.int .i64 0] 3)).alloc (.cells #[.int .i64 0] 33)).alloc (.cells #[.slice none 0 0, .slice none 0 0, .slice none 0 0, .slice none 0 0, .slice none 0 0, .bool false, .int .i64 0, .string ⟨#[]⟩] 82)).alloc (.cells #[.pointer (some ⟨w.heap.size + 1 + 1 + 1, 0, none⟩)] 80)).alloc (.cells #[.string s] 9)) = W0 at *
  have PI0 : PI w W0 [] St.zero (.slice none 0 0) (.slice none 0 0) (.slice none 0 0) (.slice none 0 0) (.slice none 0 0) [] := ⟨fun _ => rfl, Bd.zero, ⟨by omega, by omega, by omega, b3, rfl, World.ownsRow_nil _ _ _ _, World.ownsRow_nil _ _ _ _, World.ownsRow_nil _ _ _ _, World.ownsRow_nil _ _ _ _, World.ownsRow_nil _ _ _ _, fun i hi => by simp at hi, fun i hi => by simp at hi⟩, b4, b0, b1, b2, hB0⟩
  have hgw : Gw w W0 := ⟨by omega, fun k hk => hB0.block k hk⟩
  refine rangeCl (F := Fence.wide) rfl (by omega) (gf := 57) (lb := #[.pointer (some ⟨w.heap.size + 1 + 1 + 1 + 1 + 1, 0, none⟩)]) rfl trivial (enters_of Tryz.func57 (by kernel_rfl) rfl)
    (lines_seq 2 (by omega) (w.heap.size + 1 + 1 + 1 + 1 + 1) w hG (by omega) s.data.toList hsl W0 bX hgw) lkp_t (lkp_b (by omega) (by omega)) (fun A B h => KeepsFrom.of_grownBy h (fun j e => by cases e; omega)) (Below.refl _ _) (fun _ => rfl)
    (fun pre W => ∃ st VQ VC VO VF VX ov, PI w W pre st VQ VC VO VF VX ov) (fun c pre W => c = .ret ∧ ∃ n, PX w W pre n)
    (fun pre W W' row ⟨st, VQ, VC, VO, VF, VX, ov, h⟩ hg hr => ⟨st, VQ, VC, VO, VF, VX, ov, h.kept hg (far_of (by omega) hr)⟩)
    (fun c pre W W' row ⟨h1, n, h⟩ hg hr => ⟨h1, n, h.kept hg (far_of (by omega) hr)⟩)
    (fun p A B ⟨st, VQ, VC, VO, VF, VX, ov, h⟩ hc => ⟨st, VQ, VC, VO, VF, VX, ov, h.kept hc (far_box w A)⟩)
    (fun c p A B ⟨h1, n, h⟩ hc => ⟨h1, n, h.kept hc (far_box w A)⟩)
    ⟨St.zero, _, _, _, _, _, [], PI0⟩
    (fun x => { tmps := #[.string s, undef, .pointer (some ⟨w.heap.size, 0, none⟩), .pointer (some ⟨w.heap.size + 1, 0, none⟩), .pointer (some ⟨w.heap.size + 1 + 1, 0, none⟩), .pointer (some ⟨w.heap.size + 1 + 1 + 1 + 1, 0, none⟩), .int .i64 x.1, .string x.2, undef, .string s, .int .i64 s.size, .bool (decide ((8192 : Int) < s.size)), undef, .agg #[.slice none 0 0, .slice none 0 0, .slice none 0 0, .slice none 0 0, .slice none 0 0, .bool false, .int .i64 0, .string ⟨#[]⟩], .pointer (some ⟨w.heap.size + 1 + 1 + 1, 0, none⟩), .string s, .func (.func 57) #[] #[.pointer (some ⟨w.heap.size + 1 + 1 + 1 + 1 + 1, 0, none⟩)], .int .i64 x.1, .string x.2, undef, undef, undef, undef, undef, undef, undef, undef, undef, undef, undef, undef, undef, undef, undef, undef, undef, undef, undef], defers := [] }) ?assign ?body ?done ?stop
  case assign =>
    intro l i W K hK
    gi_wp2
    exact hK
  case body =>
    rintro l pre ⟨x1, x2⟩ W hpx ⟨st, VQ, VC, VO, VF, VX, ov, hp⟩ hlt
    have hpx : x2.size ≤ 8192 := hpx
    have HP := Lib.hid hp
    have hGW : Glob W := hG.gw fun k hk => hp.bel.block k (by omega)
    have hbig := hp.ps.le
    have hpc := hp.pp.cell
    clear hp
    gi_wp2
    refine ⟨trivial, ((callsIn_wide.2 (read_any (w.heap.size + 1 + 1 + 1) (w.heap.size + 1 + 1 + 1 + 1 + 1 + 1) st VQ VC VO VF VX ov x2 W HP.out.ps hGW hpx (HP.out.bd.more (by omega)))).inRound l).mono ?_⟩
    rintro e W2 ⟨ok, rfl, F, hno, hyes⟩
    have kf2 : KeepsFrom (w.heap.size + 1 + 1 + 1 + 1 + 1 + 1) W W2 := ⟨F.size, fun k o _ hk ho => F.other k o hk (far_other ho)⟩
    have x5 : W2.heap[w.heap.size + 1 + 1 + 1 + 1 + 1]? = W.heap[w.heap.size + 1 + 1 + 1 + 1 + 1]? := F.block _ (by omega) (by omega)
    have hblk : ∀ k, k < w.heap.size → W2.heap[k]? = W.heap[k]? := fun k hk => F.block k (by omega) (by omega)
    have q0 := (F.block (w.heap.size) (by omega) (by omega)).trans HP.out.r0
    have q1 : Boxed W2 (w.heap.size + 1) 3 (.int .i64 0) := (F.block (w.heap.size + 1) (by omega) (by omega)).trans HP.out.r1
    have q2 : Boxed W2 (w.heap.size + 1 + 1) 33 (.int .i64 0) := (F.block (w.heap.size + 1 + 1) (by omega) (by omega)).trans HP.out.r2
    have q4 : Boxed W2 (w.heap.size + 1 + 1 + 1 + 1) 80 (.pointer (some ⟨w.heap.size + 1 + 1 + 1, 0, none⟩)) := (F.block (w.heap.size + 1 + 1 + 1 + 1) (by omega) (by omega)).trans HP.out.pp
    have bel2 : Below w.heap.size w W2 := HP.out.bel.trans ⟨F.os, F.tape, F.output, F.size, fun k hk => hblk k hk⟩
    have hFs := F.size
    clear hpc F
    cases ok with
    | true =>
      obtain ⟨st', UQ, UC, UO, UF, UX, ov', hr, hps⟩ := hyes rfl
      have HR := Lib.hid hr
      have HPS := Lib.hid hps
      clear hyes hno hr hps
      gi_wp2
      exact ⟨kf2.more (by omega), ⟨x5, hblk, hFs⟩, st', UQ, UC, UO, UF, UX, ov', ⟨scan_ok HP.out.scn HR.out, by simpa using HP.out.bd.read HR.out, HPS.out, q4, q0, q1, q2, bel2⟩⟩
    | false =>
      have HX : Hid (∀ rest, scanM St.zero (pre ++ [(x1, x2)] ++ rest) = .error x1) := scan_bad HP.out.scn (hno rfl)
      clear hyes hno
      have c0 := cell_blk q0 0
      have c1 := cell_blk q0 1
      have c2 := cell_blk q0 2
      have c3 := cell_blk q0 3
      have c4 := cell_blk q0 4
      have c5 := cell_blk q0 5
      simp only [List.getElem?_toArray, List.getElem?_cons_zero, List.getElem?_cons_succ] at c0 c1 c2 c3 c4 c5
      have f0 := frozen_blk q0 0
      have f1 := frozen_blk q0 1
      have f2 := frozen_blk q0 2
      have f3 := frozen_blk q0 3
      have f4 := frozen_blk q0 4
      have f5 := frozen_blk q0 5
      have c6 := q1.cell
      have f6 := q1.frozen
      have c7 := q2.cell
      have f7 := q2.frozen
      have hz0 := blk_lt q0
      gi_wp2
      all_goals
        obtain ⟨z0, z1, z2, z3, z4, z5⟩ := res_world q0 q1 q2 bel2 (.slice none 0 0) (.slice none 0 0) (.slice none 0 0) (.slice none 0 0) (.slice none 0 0) (.bool false) (.int .i64 x1) (.int .i64 3)
        exact ⟨⟨by rw [z4]; exact kf2.size, fun k o hk hko ho => (z5 k (by omega) (by omega) (by omega)).trans (kf2.same k o (by omega) hko ho)⟩, rfl, x1, ⟨HX.out, z0, z1, z2, z3⟩⟩
  case done =>
    rintro D ys W hD rfl ⟨st, VQ, VC, VO, VF, VX, ov, hp⟩ hK
    have hsc : scanM St.zero (linesT s.data.toList.length 1 s.data.toList) = .ok st := by have := hp.scn []; rw [List.append_nil] at this; exact this
    have HSC := Lib.hid hsc
    obtain ⟨A1, k1, rfl⟩ := own_slice hp.ps.rq
    obtain ⟨A2, k2, rfl⟩ := own_slice hp.ps.rc
    obtain ⟨A3, k3, rfl⟩ := own_slice hp.ps.ro
    obtain ⟨A4, k4, rfl⟩ := own_slice hp.ps.rf
    obtain ⟨A5, k5, rfl⟩ := own_slice hp.ps.rx
    have HP := Lib.hid hp
    have hpc := hp.pp.cell
    have g0 := cell_blk hp.ps.blk 0
    have g1 := cell_blk hp.ps.blk 1
    have g2 := cell_blk hp.ps.blk 2
    have g3 := cell_blk hp.ps.blk 3
    have g4 := cell_blk hp.ps.blk 4
    have g5 := cell_blk hp.ps.blk 5
    simp only [List.getElem?_toArray, List.getElem?_cons_zero, List.getElem?_cons_succ] at g0 g1 g2 g3 g4 g5
    clear hsc hp
    gi_wp2
    refine ⟨trivial, ?_⟩
    refine (callsIn_wide.2 (mis_any _ _ _ _ _ st.m W HP.out.ps.mis)).mono ?_
    rintro e W2 ⟨rfl, hb2⟩
    have hWs := HP.out.ps.le
    have q0 := (hb2.block (w.heap.size) (by omega)).trans HP.out.r0
    have q1 : Boxed W2 (w.heap.size + 1) 3 (.int .i64 0) := (hb2.block (w.heap.size + 1) (by omega)).trans HP.out.r1
    have q2 : Boxed W2 (w.heap.size + 1 + 1) 33 (.int .i64 0) := (hb2.block (w.heap.size + 1 + 1) (by omega)).trans HP.out.r2
    have q4 : Boxed W2 (w.heap.size + 1 + 1 + 1 + 1) 80 (.pointer (some ⟨w.heap.size + 1 + 1 + 1, 0, none⟩)) := (hb2.block (w.heap.size + 1 + 1 + 1 + 1) (by omega)).trans HP.out.pp
    have hK2 := (hb2.block D (blk_lt hK)).trans hK
    have bel2 : Below w.heap.size w W2 := HP.out.bel.trans (hb2.mono HP.out.bel.size)
    have ps2 := HP.out.ps.below hb2
    clear g0 g1 g2 g3 g4 g5 hpc hb2
    have hpc := q4.cell
    have g0 := cell_blk ps2.blk 0
    have g1 := cell_blk ps2.blk 1
    have g2 := cell_blk ps2.blk 2
    have g3 := cell_blk ps2.blk 3
    have g4 := cell_blk ps2.blk 4
    have g5 := cell_blk ps2.blk 5
    have c0 := cell_blk q0 0
    have c1 := cell_blk q0 1
    have c2 := cell_blk q0 2
    have c3 := cell_blk q0 3
    have c4 := cell_blk q0 4
    have c5 := cell_blk q0 5
    simp only [List.getElem?_toArray, List.getElem?_cons_zero, List.getElem?_cons_succ] at g0 g1 g2 g3 g4 g5 c0 c1 c2 c3 c4 c5
    have f0 := frozen_blk q0 0
    have f1 := frozen_blk q0 1
    have f2 := frozen_blk q0 2
    have f3 := frozen_blk q0 3
    have f4 := frozen_blk q0 4
    have f5 := frozen_blk q0 5
    have c6 := q1.cell
    have f6 := q1.frozen
    have c7 := q2.cell
    have f7 := q2.frozen
    have hz0 := blk_lt q0
    have PS2 := Lib.hid ps2
    clear ps2
    by_cases hE : misE st.m = 0
    · have hR : parseR s = (st.m, 0, 0) := by unfold parseR; rw [if_neg hn, HSC.out]; simp [hE]
      have HR := Lib.hid hR
      rw [hE]
      clear hE hR
      gi_wp2
      obtain ⟨z0, z1, z2, z3, z4, z5⟩ := res_world q0 q1 q2 bel2 _ _ _ _ _ (.bool st.m.bd) (.int .i64 0) (.int .i64 0)
      have hK3 := (z5 D (by omega) (by omega) (by omega)).trans hK2
      exact ⟨by simp, .inl ⟨_, _, rfl, run_takeDeferred hK3, parse_end (m := st.m) z0 z1 z2 z3 (by omega) hK3 ((PS2.out.upc (by rw [z4]; exact Nat.le_refl _) fun k _ _ _ hk _ => z5 k (by omega) (by omega) (by omega)).end hK3 (by omega)) HR.out rfl rfl rfl⟩⟩
    · have hR : parseR s = (Mis.zero, 0, misE st.m) := by unfold parseR; rw [if_neg hn, HSC.out]; simp [hE]
      have hE0 : (misE st.m != 0) = true := by simpa using hE
      have HR := Lib.hid hR
      clear hE hR
      generalize misE st.m = er at *
      gi_wp2
      obtain ⟨z0, z1, z2, z3, z4, z5⟩ := res_world q0 q1 q2 bel2 (.slice none 0 0) (.slice none 0 0) (.slice none 0 0) (.slice none 0 0) (.slice none 0 0) (.bool false) (.int .i64 0) (.int .i64 er)
      have hK3 := (z5 D (by omega) (by omega) (by omega)).trans hK2
      exact ⟨by simp, .inl ⟨_, _, rfl, run_takeDeferred hK3, parse_end (m := Mis.zero) z0 z1 z2 z3 (by omega) hK3 (fun _ _ _ => misAt_zero _ _) HR.out rfl rfl rfl⟩⟩
  case stop =>
    rintro D cc pre W hD ⟨post, hpost⟩ ⟨rfl, n, hx⟩ hK
    have hR : parseR s = (Mis.zero, n, 3) := by unfold parseR; rw [if_neg hn, ← hpost, hx.scn post]
    gi_wp2
    exact ⟨by simp, .inl ⟨_, _, rfl, run_takeDeferred hK, parse_end (m := Mis.zero) hx.r0 hx.r1 hx.r2 hx.bel (by omega) hK (fun _ _ _ => misAt_zero _ _) hR rfl rfl rfl⟩⟩
theorem parse2_any (s : ByteArray) (w : World) (hG : Glob w) : Calls Tryz.prog 15 #[.string s] w (ParseP2 s w) := by
  by_cases hs : s.size ≤ 8192
  · exact callsIn_wide.1 (parse_in s w hs hG)
  · have hP : parseR s = (Mis.zero, 0, 4) := by unfold parseR; rw [if_pos (by omega)]
    have HP := Lib.hid hP
    have hi : (8192 : Int) < s.size := by omega
    clear hP hs
    go_enter Tryz.func15, Tryz.ntmps15
    go_wp2_with fail
    refine bodyPost_ret (v := .tuple #[.agg #[.slice none 0 0, .slice none 0 0, .slice none 0 0, .slice none 0 0, .slice none 0 0, .bool false], .int .i64 0, .int .i64 4]) (by simp [results, Tryz.results15, go_sem]) rfl ⟨_, _, _, _, _, by rw [HP.out]; rfl, by rw [HP.out]; exact fun _ _ _ => misAt_zero _ _, by (repeat' (first | (with_reducible exact Below.refl _ _) | (with_reducible refine Below.alloc ?_ ?_ _) | (with_reducible refine Below.drew ?_) | (with_reducible refine below_drewN ?_ _) | (with_reducible refine Below.setCell ?_ ?_ _) | (with_reducible refine Below.trans ?_ (Below.mono (by assumption) ?_)) | (with_reducible exact Nat.le_refl _) | omega | (simp; omega) | (simp; done)))⟩
theorem parse_any (s : ByteArray) (w : World) (hG : Glob w) : Calls Tryz.prog 15 #[.string s] w (ParsePost s w) :=
  (parse2_any s w hG).mono fun _ w' ⟨VQ, VC, VO, VF, VX, he, hM, hB⟩ => ⟨VQ, VC, VO, VF, VX, he, hM w' (Nat.le_refl _) (fun _ _ _ => rfl), hB⟩
end Go.Proofs.YtmcgddlblhinlaaGreatDoor

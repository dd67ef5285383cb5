/- The mission that is being read, in memory. -/
import Derived.Test.YtmcgddlblhinlaaGreatDoorH10
import Derived.Test.YtmcgddlblhinlaaGreatDoorP3
import Derived.Test.YtmcgddlblhinlaaGreatDoorRK
import Derived.Lib.OwnKind
import Derived.RangeFuncBox
import Derived.Laws.OwnMore
import Derived.Deep.AppendLies
namespace Go.Proofs.YtmcgddlblhinlaaGreatDoor
open Go.RowKit
theorem heap_set {w : World} {g i : Nat} {cs : Array Value} {t : TypeId} (h : w.heap[g]? = some (.cells cs t (0, 0))) (v : Value) : (w.setCell ⟨g, i, none⟩ v).heap[g]? = some (.cells (cs.setIfInBounds i v) t (0, 0)) := by
  simp [World.setCell, Array.getElem?_modify, h]
theorem cell_blk {w : World} {g : Nat} {cs : Array Value} {t : TypeId} (h : w.heap[g]? = some (.cells cs t (0, 0))) (i : Nat) : w.cell? ⟨g, i, none⟩ = cs[i]? := cell_of_row w g i cs t (0, 0) h
theorem frozen_blk {w : World} {g : Nat} {cs : Array Value} {t : TypeId} (h : w.heap[g]? = some (.cells cs t (0, 0))) (i : Nat) : w.frozen? ⟨g, i, none⟩ = false := by simp [World.frozen?, h]
theorem blk_lt {w : World} {g : Nat} {o : Obj} (h : w.heap[g]? = some o) : g < w.heap.size := (Array.getElem?_eq_some_iff.1 h).1
def intCells (l : List Int) : List Value := l.map (Value.int .i64)
def conVals (c : Con) : List Value := [.int .i64 c.a, .int .i64 c.b, .int .i64 c.s, .int .i64 c.e, .int .i64 c.r, .int .i64 c.g, .int .i64 c.l]
def conCells (C : List Con) : List Value := C.flatMap conVals
def bunVals (x : Bun) (V : Value) : List Value := [.int .i64 x.s, .int .i64 x.c, .int .i64 x.q, .int .i64 x.o, .int .i64 x.t, .int .i64 x.dk, .int .i64 x.dn, .int .i64 x.lf, .int .i64 x.pr, .int .i64 x.fl, V, .string x.py]
def bunCells (l : List (Bun × Value)) : List Value := l.flatMap fun p => bunVals p.1 p.2
def blkVals (x : Blk) : List Value := [.int .i64 x.k, .int .i64 x.f, .string x.d]
def blkCells (l : List Blk) : List Value := l.flatMap blkVals
def fltVals (x : Flt) : List Value := [.int .i64 x.n, .int .i64 x.a, .int .i64 x.k, .int .i64 x.u]
def fltCells (l : List Flt) : List Value := l.flatMap fltVals
def otgVals (x : Otg) : List Value := [.int .i64 x.c, .int .i64 x.f, .int .i64 x.t]
def otgCells (l : List Otg) : List Value := l.flatMap otgVals
theorem fm_snoc {α β : Type} (f : α → List β) (l : List α) (x : α) : (l ++ [x]).flatMap f = l.flatMap f ++ f x := by simp

/-- an object that no reader of lines writes: no cells, or the cells of a kind of lines -/
def Far (o : Obj) : Prop := ∀ cs T z, o = .cells cs T z → T = 107
theorem far_other {o : Obj} (h : o.isCells = false) : Far o := fun cs T z e => by subst e; cases h
/-- what stood below B, but for the block pb, stands -/
structure Frm (B pb : Nat) (w w' : World) : Prop where
  os : w'.os = w.os
  tape : w'.tape = w.tape
  output : w'.output = w.output
  size : w.heap.size ≤ w'.heap.size
  block : ∀ k, k < B → k ≠ pb → w'.heap[k]? = w.heap[k]?
  other : ∀ (k : Nat) (o : Obj), w.heap[k]? = some o → Far o → w'.heap[k]? = some o
theorem Frm.refl (B pb : Nat) (w : World) : Frm B pb w w := ⟨rfl, rfl, rfl, Nat.le_refl _, fun _ _ _ => rfl, fun _ _ h _ => h⟩
theorem Frm.trans {B pb : Nat} {w w1 w2 : World} (h : Frm B pb w w1) (k : Frm B pb w1 w2) : Frm B pb w w2 :=
  ⟨k.os.trans h.os, k.tape.trans h.tape, k.output.trans h.output, Nat.le_trans h.size k.size, fun j hj hn => (k.block j hj hn).trans (h.block j hj hn), fun j o hj ho => k.other j o (h.other j o hj ho) ho⟩
theorem Frm.of_grown {B pb : Nat} {w w' : World} {g : Option Nat} (h : w.grownBy w' g) (hB : B ≤ w.heap.size) (hg : ∀ k, g = some k → B ≤ k ∨ k = pb) (hc : ∀ k, g = some k → ∃ cs t z, w.heap[k]? = some (.cells cs t z) ∧ t ≠ 107) : Frm B pb w w' :=
  ⟨h.os, h.tape, h.output, h.size, fun k hk hn => h.block k (by omega) (fun e => by rcases hg k e.symm with h | h <;> omega),
   fun k o hk ho => (h.block k (Array.getElem?_eq_some_iff.1 hk).1 (fun e => by obtain ⟨cs, t, z, h1, h2⟩ := hc k e.symm; rw [hk] at h1; cases h1; exact h2 (ho _ _ _ rfl))).trans hk⟩
theorem Frm.of_below {B pb : Nat} {w w' : World} (h : Below w.heap.size w w') (hB : B ≤ w.heap.size) : Frm B pb w w' :=
  ⟨h.os, h.tape, h.output, h.size, fun k hk _ => h.block k (by omega), fun k o hk _ => (h.block k (Array.getElem?_eq_some_iff.1 hk).1).trans hk⟩

/-- the rows' blocks are no reader's -/
theorem own_ne_kind {w : World} {B : Nat} {e : TypeId} {size : Nat} {v : Value} {n : Nat} {xs : List Value} (h : w.ownsRow B e size v n xs) {g : Nat} {c : Array Value} {t : TypeId} {z : Nat × Nat} (hg : w.heap[g]? = some (.cells c t z)) (ht : t ≠ e) : v.ownBlock ≠ some g := by
  intro hv
  obtain ⟨c', fz, h1⟩ := Lib.ownsRow_kind h g hv
  rw [hg] at h1
  cases h1
  exact ht rfl
theorem own_ne_lt {w : World} {B : Nat} {e : TypeId} {size : Nat} {v : Value} {n : Nat} {xs : List Value} (h : w.ownsRow B e size v n xs) {g : Nat} (hg : g < B ∨ w.heap.size ≤ g) : v.ownBlock ≠ some g := by
  intro hv
  obtain ⟨h1, h2⟩ := h.lt g hv
  omega

theorem own_ne_own {w : World} {B : Nat} {e1 e2 : TypeId} {s1 s2 : Nat} {v1 v2 : Value} {n1 n2 : Nat} {x1 x2 : List Value} (h1 : w.ownsRow B e1 s1 v1 n1 x1) (h2 : w.ownsRow B e2 s2 v2 n2 x2) (ne : e1 ≠ e2) : v1.ownBlock = none ∨ v1.ownBlock ≠ v2.ownBlock := by
  cases hv : v1.ownBlock with
  | none => exact .inl rfl
  | some g =>
    right; intro e
    obtain ⟨c, fz, k1⟩ := Lib.ownsRow_kind h1 g hv
    obtain ⟨c', fz', k2⟩ := Lib.ownsRow_kind h2 g e.symm
    rw [k1] at k2; cases k2; exact ne rfl

theorem Frm.set (B pb i : Nat) (v : Value) (w : World) {cs : Array Value} {t : TypeId} {z : Nat × Nat} (h : w.heap[pb]? = some (.cells cs t z)) (ht : t ≠ 107) : Frm B pb w (w.setCell ⟨pb, i, none⟩ v) :=
  ⟨rfl, rfl, rfl, by simp [World.setCell], fun k _ hn => Below.heap_setCell w ⟨pb, i, none⟩ v k (by simpa using hn),
   fun k o hk ho => (Below.heap_setCell w ⟨pb, i, none⟩ v k (by show k ≠ pb; intro e; subst e; rw [h] at hk; cases hk; exact ht (ho _ _ _ rfl))).trans hk⟩

def BZ : Bun × Value := (Bun.zero, .slice none 0 0)
/-- the parser in block pb holds what was read; its rows lie at B or behind -/
structure PS (w : World) (B pb : Nat) (st : St) (VQ VC VO VF VX : Value) (ov : List (Bun × Value)) : Prop where
  lt : pb < B
  g8 : 8 ≤ pb
  le : B ≤ w.heap.size
  blk : w.heap[pb]? = some (.cells #[VQ, VC, VO, VF, VX, .bool st.m.bd, .int .i64 (rankK st.k), .string (wordK st.k)] 82 (0, 0))
  os : ov.map Prod.fst = st.m.os
  rq : w.ownsRow B 3 1 VQ st.m.q.length (intCells st.m.q)
  rc : w.ownsRow B 97 7 VC st.m.cs.length (conCells st.m.cs)
  ro : w.ownsRow B 50 12 VO ov.length (bunCells ov)
  rf : w.ownsRow B 76 4 VF st.m.fs.length (fltCells st.m.fs)
  rx : w.ownsRow B 43 3 VX st.m.xs.length (otgCells st.m.xs)
  rb : ∀ i, i < ov.length → w.ownsRow B 102 3 (ov.getD i BZ).2 (ov.getD i BZ).1.bl.length (blkCells (ov.getD i BZ).1.bl)
  nb : ∀ i, i + 1 < ov.length → ∀ g, (ov.getD i BZ).2.ownBlock = some g → (ov.getD (ov.length - 1) BZ).2.ownBlock ≠ some g
theorem PS.below {w w' : World} {B pb : Nat} {st : St} {VQ VC VO VF VX : Value} {ov : List (Bun × Value)} (h : PS w B pb st VQ VC VO VF VX ov) (hb : Below w.heap.size w w') : PS w' B pb st VQ VC VO VF VX ov :=
  ⟨h.lt, h.g8, Nat.le_trans h.le hb.size, (hb.block pb (by have := h.lt; have := h.le; omega)).trans h.blk, h.os, own_below h.rq hb, own_below h.rc hb, own_below h.ro hb, own_below h.rf hb, own_below h.rx hb, fun i hi => own_below (h.rb i hi) hb, h.nb⟩
/-- blocks below N stand, but for those named -/
theorem own_far {w w' : World} {B : Nat} {e : TypeId} {size : Nat} {v : Value} {n : Nat} {xs : List Value} (h : w.ownsRow B e size v n xs) (hb : ∀ k, k < w.heap.size → w'.heap[k]? = w.heap[k]?) : w'.ownsRow B e size v n xs := by
  rcases h with ⟨hv, h2⟩
  refine ⟨hv, ?_⟩
  rcases h2 with h2 | ⟨g, cap, cur, h3, h4, h5, h6⟩
  · exact .inl h2
  · exact .inr ⟨g, cap, cur, h3, h4, (hb g (Array.getElem?_eq_some_iff.1 h5).1).trans h5, h6⟩
/-- numbers were stored behind pointers into blocks that are none of the parser's -/
theorem PS.nst {w v w' : World} {B pb : Nat} {st : St} {VQ VC VO VF VX : Value} {ov : List (Bun × Value)} {ps : List (Nat × Nat)} {vs : List Int} (h : PS w B pb st VQ VC VO VF VX ov) (hb : Below w.heap.size w v) (hn : NSt v w' ps vs) (hp : ∀ j, j < ps.length → w.heap.size ≤ (ps.getD j (0, 0)).1) : PS w' B pb st VQ VC VO VF VX ov := by
  have hk : ∀ k, k < w.heap.size → w'.heap[k]? = w.heap[k]? := fun k hk => (hn.blk k (Nat.lt_of_lt_of_le hk hb.size) (fun j hj e => by have := hp j hj; omega)).trans (hb.block k hk)
  have hs : w.heap.size ≤ w'.heap.size := Nat.le_trans hb.size hn.sz
  exact ⟨h.lt, h.g8, Nat.le_trans h.le hs, (hk pb (by have := h.lt; have := h.le; omega)).trans h.blk, h.os, own_far h.rq hk, own_far h.rc hk, own_far h.ro hk, own_far h.rf hk, own_far h.rx hk, fun i hi => own_far (h.rb i hi) hk, h.nb⟩
theorem Frm.nst {B pb : Nat} {w v w' : World} {ps : List (Nat × Nat)} {vs : List Int} (hB : B ≤ w.heap.size) (hb : Below w.heap.size w v) (hn : NSt v w' ps vs) (hp : ∀ j, j < ps.length → w.heap.size ≤ (ps.getD j (0, 0)).1) : Frm B pb w w' := by
  have hk : ∀ k, k < w.heap.size → w'.heap[k]? = w.heap[k]? := fun k hk => (hn.blk k (Nat.lt_of_lt_of_le hk hb.size) (fun j hj e => by have := hp j hj; omega)).trans (hb.block k hk)
  exact ⟨hn.os.trans hb.os, hn.tape.trans hb.tape, hn.output.trans hb.output, Nat.le_trans hb.size hn.sz, fun k h1 _ => hk k (by omega), fun k o ho _ => (hk k (Array.getElem?_eq_some_iff.1 ho).1).trans ho⟩
theorem PS.glob {w w' : World} {B pb : Nat} (hG : Glob w) (h8 : 8 ≤ pb) (hB : 8 ≤ B) (hf : Frm B pb w w') : Glob w' := hG.gw fun k hk => hf.block k (by omega) (by omega)
/-- a row that another row's append, and a store into the parser, leave alone -/
theorem own_app {w w1 : World} {B pb i : Nat} {V U : Value} {o : Obj} {e : TypeId} {size : Nat} {v : Value} {n : Nat} {xs : List Value} (h : w.ownsRow B e size v n xs) (hlt : pb < B) (hg : (w.alloc o).grownBy w1 V.ownBlock) (hne : ∀ g, v.ownBlock = some g → V.ownBlock ≠ some g) : (w1.setCell ⟨pb, i, none⟩ U).ownsRow B e size v n xs :=
  ownsRow_setCell_below ((h.alloc o).kept hg (by
    cases hv : v.ownBlock with
    | none => exact .inl rfl
    | some g => right; intro e; exact hne g hv e.symm)) hlt U
theorem own_types {w : World} {B : Nat} {e e' : TypeId} {size size' : Nat} {v v' : Value} {n n' : Nat} {xs xs' : List Value} (h : w.ownsRow B e size v n xs) (h' : w.ownsRow B e' size' v' n' xs') (hne : e ≠ e') : ∀ g, v.ownBlock = some g → v'.ownBlock ≠ some g := fun g hg hg' => by
  obtain ⟨c, fz, h1⟩ := Lib.ownsRow_kind h g hg
  obtain ⟨c', fz', h2⟩ := Lib.ownsRow_kind h' g hg'
  rw [h1] at h2
  cases h2
  exact hne rfl
/-- what an append to one of the parser's rows, and its store into the parser, leave -/
theorem app_frm {w w1 : World} {B pb i : Nat} {V U : Value} {o : Obj} {e : TypeId} {size n : Nat} {xs : List Value} {cs : Array Value} (he : e ≠ 107) (hr : w.ownsRow B e size V n xs) (hlt : pb < B) (hle : B ≤ w.heap.size) (hblk : w.heap[pb]? = some (.cells cs 82 (0, 0))) (hg : (w.alloc o).grownBy w1 V.ownBlock) :
    w1.heap[pb]? = some (.cells cs 82 (0, 0)) ∧ (w1.setCell ⟨pb, i, none⟩ U).heap[pb]? = some (.cells (cs.setIfInBounds i U) 82 (0, 0)) ∧ w.heap.size ≤ (w1.setCell ⟨pb, i, none⟩ U).heap.size ∧ Frm B pb w (w1.setCell ⟨pb, i, none⟩ U) ∧ ∀ k, k < w.heap.size → V.ownBlock ≠ some k → w1.heap[k]? = w.heap[k]? := by
  have hpl : pb < w.heap.size := Nat.lt_of_lt_of_le hlt hle
  have hne : V.ownBlock ≠ some pb := own_ne_lt hr (.inl hlt)
  have old : ∀ k, k < w.heap.size → V.ownBlock ≠ some k → w1.heap[k]? = w.heap[k]? := fun k hk hn => (hg.block k (by simp; omega) (fun e => hn e.symm)).trans (Below.heap_alloc _ _ _ hk)
  have hb := (old pb hpl hne).trans hblk
  have hz : w.heap.size ≤ w1.heap.size := Nat.le_trans (by simp) hg.size
  refine ⟨hb, heap_set hb U, by simp [World.setCell]; omega, ?_, old⟩
  exact ((Frm.of_below ((Below.refl w.heap.size w).alloc (Nat.le_refl _) o) hle).trans (Frm.of_grown hg (by simp; omega) (fun k e => .inl (hr.lt k e).1) (fun k e => by obtain ⟨c, fz, k1⟩ := Lib.ownsRow_kind (hr.alloc o) k e; exact ⟨_, _, _, k1, he⟩))).trans (Frm.set B pb i U w1 hb (by decide))

theorem PS.appQ {w w1 : World} {B pb : Nat} {st : St} {VQ VC VO VF VX U : Value} {ov : List (Bun × Value)} {d : Int} {o : Obj} (h : PS w B pb st VQ VC VO VF VX ov) (hg : (w.alloc o).grownBy w1 VQ.ownBlock) (hr : w1.ownsRow B 3 1 U (st.m.q.length + 1) (intCells st.m.q ++ [.int .i64 d])) :
    w1.heap[pb]? = some (.cells #[VQ, VC, VO, VF, VX, .bool st.m.bd, .int .i64 (rankK st.k), .string (wordK st.k)] 82 (0, 0)) ∧ PS (w1.setCell ⟨pb, 0, none⟩ U) B pb ⟨addI st.m (.node 0 d), st.k⟩ U VC VO VF VX ov ∧ Frm B pb w (w1.setCell ⟨pb, 0, none⟩ U) ∧ ∀ k, k < w.heap.size → VQ.ownBlock ≠ some k → w1.heap[k]? = w.heap[k]? := by
  obtain ⟨b1, b2, b3, b4, b5⟩ := app_frm (i := 0) (U := U) (by decide) h.rq h.lt h.le h.blk hg
  refine ⟨b1, ⟨h.lt, h.g8, Nat.le_trans h.le b3, by simpa [addI] using b2, h.os, ?_, own_app h.rc h.lt hg (own_types h.rc h.rq (by decide)), own_app h.ro h.lt hg (own_types h.ro h.rq (by decide)), own_app h.rf h.lt hg (own_types h.rf h.rq (by decide)), own_app h.rx h.lt hg (own_types h.rx h.rq (by decide)), fun i hi => own_app (h.rb i hi) h.lt hg (own_types (h.rb i hi) h.rq (by decide)), h.nb⟩, b4, b5⟩
  show (w1.setCell _ U).ownsRow B 3 1 U (st.m.q ++ [d]).length (intCells (st.m.q ++ [d]))
  rw [List.length_append, show intCells (st.m.q ++ [d]) = intCells st.m.q ++ [.int .i64 d] by simp [intCells]]
  exact ownsRow_setCell_below hr h.lt _
theorem PS.appC {w w1 : World} {B pb : Nat} {st : St} {VQ VC VO VF VX U : Value} {ov : List (Bun × Value)} {d : Con} {o : Obj} (h : PS w B pb st VQ VC VO VF VX ov) (hg : (w.alloc o).grownBy w1 VC.ownBlock) (hr : w1.ownsRow B 97 7 U (st.m.cs.length + 1) (conCells st.m.cs ++ conVals d)) :
    w1.heap[pb]? = some (.cells #[VQ, VC, VO, VF, VX, .bool st.m.bd, .int .i64 (rankK st.k), .string (wordK st.k)] 82 (0, 0)) ∧ PS (w1.setCell ⟨pb, 1, none⟩ U) B pb ⟨addI st.m (.con d), st.k⟩ VQ U VO VF VX ov ∧ Frm B pb w (w1.setCell ⟨pb, 1, none⟩ U) ∧ ∀ k, k < w.heap.size → VC.ownBlock ≠ some k → w1.heap[k]? = w.heap[k]? := by
  obtain ⟨b1, b2, b3, b4, b5⟩ := app_frm (i := 1) (U := U) (by decide) h.rc h.lt h.le h.blk hg
  refine ⟨b1, ⟨h.lt, h.g8, Nat.le_trans h.le b3, by simpa [addI] using b2, h.os, own_app h.rq h.lt hg (own_types h.rq h.rc (by decide)), ?_, own_app h.ro h.lt hg (own_types h.ro h.rc (by decide)), own_app h.rf h.lt hg (own_types h.rf h.rc (by decide)), own_app h.rx h.lt hg (own_types h.rx h.rc (by decide)), fun i hi => own_app (h.rb i hi) h.lt hg (own_types (h.rb i hi) h.rc (by decide)), h.nb⟩, b4, b5⟩
  show (w1.setCell _ U).ownsRow B 97 7 U (st.m.cs ++ [d]).length (conCells (st.m.cs ++ [d]))
  rw [List.length_append, show conCells (st.m.cs ++ [d]) = conCells st.m.cs ++ conVals d by simp [conCells]]
  exact ownsRow_setCell_below hr h.lt _
theorem PS.appF {w w1 : World} {B pb : Nat} {st : St} {VQ VC VO VF VX U : Value} {ov : List (Bun × Value)} {d : Flt} {o : Obj} (h : PS w B pb st VQ VC VO VF VX ov) (hg : (w.alloc o).grownBy w1 VF.ownBlock) (hr : w1.ownsRow B 76 4 U (st.m.fs.length + 1) (fltCells st.m.fs ++ fltVals d)) :
    w1.heap[pb]? = some (.cells #[VQ, VC, VO, VF, VX, .bool st.m.bd, .int .i64 (rankK st.k), .string (wordK st.k)] 82 (0, 0)) ∧ PS (w1.setCell ⟨pb, 3, none⟩ U) B pb ⟨addI st.m (.flt d), st.k⟩ VQ VC VO U VX ov ∧ Frm B pb w (w1.setCell ⟨pb, 3, none⟩ U) ∧ ∀ k, k < w.heap.size → VF.ownBlock ≠ some k → w1.heap[k]? = w.heap[k]? := by
  obtain ⟨b1, b2, b3, b4, b5⟩ := app_frm (i := 3) (U := U) (by decide) h.rf h.lt h.le h.blk hg
  refine ⟨b1, ⟨h.lt, h.g8, Nat.le_trans h.le b3, by simpa [addI] using b2, h.os, own_app h.rq h.lt hg (own_types h.rq h.rf (by decide)), own_app h.rc h.lt hg (own_types h.rc h.rf (by decide)), own_app h.ro h.lt hg (own_types h.ro h.rf (by decide)), ?_, own_app h.rx h.lt hg (own_types h.rx h.rf (by decide)), fun i hi => own_app (h.rb i hi) h.lt hg (own_types (h.rb i hi) h.rf (by decide)), h.nb⟩, b4, b5⟩
  show (w1.setCell _ U).ownsRow B 76 4 U (st.m.fs ++ [d]).length (fltCells (st.m.fs ++ [d]))
  rw [List.length_append, show fltCells (st.m.fs ++ [d]) = fltCells st.m.fs ++ fltVals d by simp [fltCells]]
  exact ownsRow_setCell_below hr h.lt _
theorem PS.appX {w w1 : World} {B pb : Nat} {st : St} {VQ VC VO VF VX U : Value} {ov : List (Bun × Value)} {d : Otg} {o : Obj} (h : PS w B pb st VQ VC VO VF VX ov) (hg : (w.alloc o).grownBy w1 VX.ownBlock) (hr : w1.ownsRow B 43 3 U (st.m.xs.length + 1) (otgCells st.m.xs ++ otgVals d)) :
    w1.heap[pb]? = some (.cells #[VQ, VC, VO, VF, VX, .bool st.m.bd, .int .i64 (rankK st.k), .string (wordK st.k)] 82 (0, 0)) ∧ PS (w1.setCell ⟨pb, 4, none⟩ U) B pb ⟨addI st.m (.otg d), st.k⟩ VQ VC VO VF U ov ∧ Frm B pb w (w1.setCell ⟨pb, 4, none⟩ U) ∧ ∀ k, k < w.heap.size → VX.ownBlock ≠ some k → w1.heap[k]? = w.heap[k]? := by
  obtain ⟨b1, b2, b3, b4, b5⟩ := app_frm (i := 4) (U := U) (by decide) h.rx h.lt h.le h.blk hg
  refine ⟨b1, ⟨h.lt, h.g8, Nat.le_trans h.le b3, by simpa [addI] using b2, h.os, own_app h.rq h.lt hg (own_types h.rq h.rx (by decide)), own_app h.rc h.lt hg (own_types h.rc h.rx (by decide)), own_app h.ro h.lt hg (own_types h.ro h.rx (by decide)), own_app h.rf h.lt hg (own_types h.rf h.rx (by decide)), ?_, fun i hi => own_app (h.rb i hi) h.lt hg (own_types (h.rb i hi) h.rx (by decide)), h.nb⟩, b4, b5⟩
  show (w1.setCell _ U).ownsRow B 43 3 U (st.m.xs ++ [d]).length (otgCells (st.m.xs ++ [d]))
  rw [List.length_append, show otgCells (st.m.xs ++ [d]) = otgCells st.m.xs ++ otgVals d by simp [otgCells]]
  exact ownsRow_setCell_below hr h.lt _
theorem getD_snoc {α : Type} (l : List α) (x z : α) (i : Nat) : (l ++ [x]).getD i z = if i < l.length then l.getD i z else if i = l.length then x else z := by
  by_cases h : i < l.length
  · rw [if_pos h]; simp only [List.getD]; rw [List.getElem?_append_left h]
  · rw [if_neg h]
    by_cases h2 : i = l.length
    · subst h2; simp [List.getD]
    · rw [if_neg h2]
      simp only [List.getD]
      rw [List.getElem?_eq_none (by simp; omega)]; rfl
theorem PS.appO {w w1 : World} {B pb : Nat} {st : St} {VQ VC VO VF VX U : Value} {ov : List (Bun × Value)} {d : Bun} {o : Obj} (h : PS w B pb st VQ VC VO VF VX ov) (hd : d.bl = []) (hg : (w.alloc o).grownBy w1 VO.ownBlock) (hr : w1.ownsRow B 50 12 U (ov.length + 1) (bunCells ov ++ bunVals d (.slice none 0 0))) :
    w1.heap[pb]? = some (.cells #[VQ, VC, VO, VF, VX, .bool st.m.bd, .int .i64 (rankK st.k), .string (wordK st.k)] 82 (0, 0)) ∧ PS (w1.setCell ⟨pb, 2, none⟩ U) B pb ⟨addI st.m (.ord d), st.k⟩ VQ VC U VF VX (ov ++ [(d, .slice none 0 0)]) ∧ Frm B pb w (w1.setCell ⟨pb, 2, none⟩ U) ∧ ∀ k, k < w.heap.size → VO.ownBlock ≠ some k → w1.heap[k]? = w.heap[k]? := by
  obtain ⟨b1, b2, b3, b4, b5⟩ := app_frm (i := 2) (U := U) (by decide) h.ro h.lt h.le h.blk hg
  refine ⟨b1, ⟨h.lt, h.g8, Nat.le_trans h.le b3, by simpa [addI] using b2, by simp [addI, h.os], own_app h.rq h.lt hg (own_types h.rq h.ro (by decide)), own_app h.rc h.lt hg (own_types h.rc h.ro (by decide)), ?_, own_app h.rf h.lt hg (own_types h.rf h.ro (by decide)), own_app h.rx h.lt hg (own_types h.rx h.ro (by decide)), fun i hi => ?_, fun i hi g hg' => ?_⟩, b4, b5⟩
  · rw [List.length_append, show bunCells (ov ++ [(d, .slice none 0 0)]) = bunCells ov ++ bunVals d (.slice none 0 0) by simp [bunCells]]
    exact ownsRow_setCell_below hr h.lt _
  · rw [getD_snoc]
    by_cases hlt : i < ov.length
    · rw [if_pos hlt]
      exact own_app (h.rb i hlt) h.lt hg (own_types (h.rb i hlt) h.ro (by decide))
    · have e : i = ov.length := by simp at hi; omega
      rw [if_neg hlt, if_pos e]
      show (w1.setCell _ U).ownsRow B 102 3 (.slice none 0 0) d.bl.length (blkCells d.bl)
      rw [hd]
      exact World.ownsRow_nil _ _ _ _
  · have e : (ov ++ [(d, (.slice none 0 0 : Value))]).getD ((ov ++ [(d, (.slice none 0 0 : Value))]).length - 1) BZ = (d, .slice none 0 0) := by
      rw [getD_snoc]; simp
    rw [e]
    show (none : Option Nat) ≠ some g
    simp

end Go.Proofs.YtmcgddlblhinlaaGreatDoor

/- Lists that are made: three slices in one array. -/
import Derived.Test.YtfafhdganloipaaGreatDoorK1
import Derived.Test.YtfafhdganloipaaGreatDoorG1
namespace Go.Proofs.YtfafhdganloipaaGreatDoor
open Go.RowKit
def iv (l : List Int) : List Value := l.map (Value.int .i64)
theorem iv_len (l : List Int) : (iv l).length = l.length := by simp [iv]
theorem iv_app (a b : List Int) : iv (a ++ b) = iv a ++ iv b := by simp [iv]
theorem grown_drew (w : World) (row : Option Nat) : w.grownBy w.drew row := ⟨rfl, rfl, rfl, Nat.le_refl _, fun _ _ _ => rfl⟩
theorem gtrans {a b c : World} {row r : Option Nat} (h : a.grownBy b row) (k : b.grownBy c r) (hr : ∀ j, r = some j → row = some j ∨ a.heap.size ≤ j) : a.grownBy c row :=
  ⟨k.os.trans h.os, k.tape.trans h.tape, k.output.trans h.output, Nat.le_trans h.size k.size, fun j hj hn =>
    (k.block j (Nat.lt_of_lt_of_le hj h.size) (fun e => by
      rcases hr j e.symm with e2 | e2
      · exact hn e2.symm
      · omega)).trans (h.block j hj hn)⟩
/-- the array of the lists at block ob, one of whose slices is being made since world wk -/
structure Ph (wk : World) (ob : Nat) (F : Value → Array Value) (X : World) (n : Nat) : Prop where
  gr : wk.grownBy X (some ob)
  ex : ∃ v l, l.length ≤ n ∧ X.heap[ob]? = some (.cells (F v) 85 (0, 0)) ∧ X.ownsRow wk.heap.size 3 1 v l.length (iv l)
theorem Ph.alloc {wk X : World} {ob n : Nat} {F : Value → Array Value} (h : Ph wk ob F X n) (o : Obj) : Ph wk ob F (X.alloc o) n := by
  obtain ⟨v, l, h1, h2, h3⟩ := h.ex
  exact ⟨gtrans h.gr (World.grownBy_alloc X o none) (fun j e => by cases e), v, l, h1, (Below.heap_alloc _ _ _ (Array.getElem?_eq_some_iff.1 h2).1).trans h2, h3.alloc o⟩
theorem Ph.drew {wk X : World} {ob n : Nat} {F : Value → Array Value} (h : Ph wk ob F X n) : Ph wk ob F X.drew n := by
  obtain ⟨v, l, h1, h2, h3⟩ := h.ex
  exact ⟨gtrans h.gr (grown_drew X none) (fun j e => by cases e), v, l, h1, h2, h3⟩
theorem Ph.more {wk X : World} {ob n m : Nat} {F : Value → Array Value} (h : Ph wk ob F X n) (hm : n ≤ m) : Ph wk ob F X m := by
  obtain ⟨v, l, h1, h2, h3⟩ := h.ex
  exact ⟨h.gr, v, l, Nat.le_trans h1 hm, h2, h3⟩
theorem ph_new {X : World} {ob : Nat} {F : Value → Array Value} (h : X.heap[ob]? = some (.cells (F (.slice none 0 0)) 85 (0, 0))) : Ph X ob F X 0 :=
  ⟨World.grownBy.refl _ _, .slice none 0 0, [], Nat.le_refl _, h, World.ownsRow_nil _ _ _ _⟩
theorem heap_set {w : World} {b : Nat} {c : Array Value} {t : TypeId} {f : Nat × Nat} (h : w.heap[b]? = some (.cells c t f)) (i : Nat) (v : Value) : (w.setCell ⟨b, i, none⟩ v).heap[b]? = some (.cells (c.setIfInBounds i v) t f) := by
  obtain ⟨hlt, hk⟩ := Array.getElem?_eq_some_iff.1 h
  show (w.heap.modify b _)[b]? = _
  rw [Array.getElem?_eq_getElem (by rw [Array.size_modify]; exact hlt), Array.getElem_modify_self, hk]
  rfl
theorem grown_set (W : World) (b c : Nat) (v : Value) : W.grownBy (W.setCell ⟨b, c, none⟩ v) (some b) :=
  ⟨rfl, rfl, rfl, (KeepsWalks.setCell W _ v).size, fun k _ hk => Below.heap_setCell _ _ _ k (fun e => hk (by rw [e]))⟩
/-- behind an append, and the store -/
theorem ph_app {wk X w1 : World} {ob n m c : Nat} {F : Value → Array Value} {v v' : Value} {l news : List Int} {tmp : Obj} (hob : ob < wk.heap.size) (gr : wk.grownBy X (some ob)) (h : X.heap[ob]? = some (.cells (F v) 85 (0, 0)))
    (hown : X.ownsRow wk.heap.size 3 1 v l.length (iv l)) (hgrow : (X.alloc tmp).grownBy w1 v.ownBlock) (hown' : w1.ownsRow wk.heap.size 3 1 v' (l.length + news.length) (iv l ++ iv news)) (hF : ∀ v v', (F v).setIfInBounds c v' = F v') (hl : l.length ≤ n) (hm : n + news.length ≤ m) :
    w1.heap[ob]? = some (.cells (F v) 85 (0, 0)) ∧ Ph wk ob F (w1.setCell ⟨ob, c, none⟩ v') m := by
  have hlt : ob < X.heap.size := (Array.getElem?_eq_some_iff.1 h).1
  have e1 : w1.heap[ob]? = some (.cells (F v) 85 (0, 0)) := (hgrow.block ob (by simp; omega) (fun e => by have := hown.lt ob e.symm; omega)).trans ((Below.heap_alloc _ _ _ hlt).trans h)
  refine ⟨e1, ?_, v', l ++ news, by rw [List.length_append]; omega, by rw [heap_set e1, hF], ?_⟩
  · exact gtrans (gtrans (gtrans gr (World.grownBy_alloc X tmp none) (fun j e => by cases e)) hgrow (fun j e => .inr (hown.lt j e).1)) (grown_set w1 ob c v') (fun j e => .inl e)
  · rw [List.length_append, iv_app]
    refine hown'.kept (grown_set w1 ob c v') ?_
    rcases hv : v'.ownBlock with _ | g
    · exact .inl rfl
    · refine .inr fun e => ?_
      have := (hown'.lt g hv).1
      have := Option.some.inj e
      omega
theorem ints_of {X : World} {base : Nat} {v : Value} {l : List Int} (h : X.ownsRow base 3 1 v l.length (iv l)) : Ints X X.heap.size v l := by
  rcases h.2 with ⟨rfl, h0⟩ | ⟨g, cap, cur, rfl, _, hg, hc, hm, hs, ht⟩
  · obtain rfl := List.length_eq_zero_iff.1 h0
    exact ints_nil _ _
  · refine ⟨_, cap, rfl, hc, hm, fun _ => ⟨g, 0, rfl, (Array.getElem?_eq_some_iff.1 hg).1, fun j hj => ?_⟩⟩
    have e : (cur.toList.take (l.length * 1))[j]? = some (.int .i64 (l.getD j 0)) := by
      rw [ht]
      simp [iv, List.getD, hj]
    rw [List.getElem?_take_of_lt (by omega)] at e
    rw [Nat.zero_add, cell_of_row _ _ _ _ _ _ hg]
    simpa using e
theorem ints_grow {w Y : World} {ob : Nat} {A : Array Value} {v : Value} {l : List Int} (h : Ints w w.heap.size v l) (hg : w.grownBy Y (some ob)) (hob : w.heap[ob]? = some (.cells A 85 (0, 0))) (hA : ∀ (j : Nat) (n : Int), A[j]? ≠ some (Value.int .i64 n)) : Ints Y Y.heap.size v l := by
  obtain ⟨A', c, e, h1, h2, h3⟩ := h
  refine ⟨A', c, e, h1, h2, fun hp => ?_⟩
  obtain ⟨b, o, e1, h4, h5⟩ := h3 hp
  refine ⟨b, o, e1, Nat.lt_of_lt_of_le h4 hg.size, fun j hj => ?_⟩
  have hc := h5 j hj
  refine (World.cell?_of_block (a := ⟨b, o + j, none⟩) (hg.block b h4 (fun e => ?_))).trans hc
  obtain rfl := Option.some.inj e
  rw [cell_of_row _ _ _ _ _ _ hob] at hc
  exact hA _ _ hc
/-- a local copy of a struct -/
theorem put_eq (X : World) (t : TypeId) (c : Array Value) (vs : List Value) (hi : (Tryz.prog.info? t).map (·.size) = some vs.length) (ho : c.size = vs.length) (h1 : ∀ v ∈ vs, v.oneCell' = true) :
    (X.alloc (.cells c t)).setCells X.heap.size 0 vs = X.alloc (.cells vs.toArray t) := by
  have hn := World.alloc_heap_new X (.cells c t)
  have a := run_storeCells_new (P := Tryz.prog) X t c vs.toArray (by simpa using hi) (by simpa using ho) (by simpa using h1)
  have b := run_storeCells_cells (P := Tryz.prog) X.heap.size 0 vs 0 (X.alloc (.cells c t)) (fun j hj => by rw [cell_of_row _ _ _ _ _ _ hn, Array.getElem?_eq_getElem (by simp; omega)]; rfl) (fun j _ => frozen_of_row _ _ _ _ _ hn) h1
  rw [show vs.toArray.toList = vs from rfl, b] at a
  injection a
theorem below_of {w wk X : World} {ob : Nat} (h : Below w.heap.size w wk) (hg : wk.grownBy X (some ob)) (hob : w.heap.size ≤ ob) : Below w.heap.size w X := h.grown hg h.size (fun j e => by cases e; exact hob)
theorem own_ne {X : World} {base b : Nat} {v : Value} {l : List Int} {c : Array Value} {t : TypeId} {f : Nat × Nat} (h : X.ownsRow base 3 1 v l.length (iv l)) (hb : X.heap[b]? = some (.cells c t f)) (ht : t ≠ 3) : some b ≠ v.ownBlock := by
  rcases h.2 with ⟨rfl, _⟩ | ⟨g, cap, cur, rfl, _, hg, _⟩
  · simp [Value.ownBlock]
  · intro e
    obtain rfl : b = g := by simpa [Value.ownBlock] using e
    rw [hb] at hg
    cases hg
    exact ht rfl
theorem news_at (X : World) (b : Nat) (hb : X.heap.size = b) (o : Obj) : (X.alloc o).heap[b]? = some o := by
  subst hb
  exact World.alloc_heap_new X o
theorem noint3 (A B C : Option Addr) (a b c d e f : Nat) : ∀ (j : Nat) (n : Int), (#[Value.slice A a d, .slice B b e, .slice C c f] : Array Value)[j]? ≠ some (Value.int .i64 n) := by
  intro j n h
  match j with
  | 0 => simp at h
  | 1 => simp at h
  | 2 => simp at h
  | j + 3 => simp at h
theorem info3 : (Tryz.prog.info? 3).map (fun i => (i.zero, i.size, i.bytes)) = some (some (.int .i64 0), 1, 8) := by kernel_rfl
theorem bit_any (b : Bool) (w : World) : Calls Tryz.prog 35 #[.bool b] w fun e w' => (∃ n, e = .returned (.int .i64 n)) ∧ w' = w := by
  cases b
  · go_enter Tryz.func35, Tryz.ntmps35
    go_wp2_with fail
    go_ret
    exact ⟨⟨_, rfl⟩, rfl⟩
  · go_enter Tryz.func35, Tryz.ntmps35
    go_wp2_with fail
    go_ret
    exact ⟨⟨_, rfl⟩, rfl⟩
end Go.Proofs.YtfafhdganloipaaGreatDoor

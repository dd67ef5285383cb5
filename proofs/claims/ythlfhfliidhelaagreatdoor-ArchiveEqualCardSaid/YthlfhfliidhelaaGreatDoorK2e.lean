/- The bytes of a list, exactly. -/
import Derived.Test.YthlfhfliidhelaaGreatDoorK1
import Derived.Test.YthlfhfliidhelaaGreatDoorG1
set_option linter.unusedSimpArgs false
set_option linter.unusedVariables false
set_option linter.all false
namespace Go.Proofs.YthlfhfliidhelaaGreatDoor
open Go.RowKit Go.Lib
attribute [local go_sem] Oper.semAt_some
def encL (xs : List Int) : List UInt8 := intL (xs.length : Int) ++ xs.flatMap intL
def AllRng (xs : List Int) : Prop := ∀ x ∈ xs, Rng x
theorem allRng_snoc {xs : List Int} {k : Nat} (hk : k < xs.length) (h : AllRng (xs.take k)) (hx : Rng (xs.getD k 0)) : AllRng (xs.take (k + 1)) := by
  rw [List.take_add_one, List.getElem?_eq_getElem hk]
  intro x hx'
  rcases List.mem_append.1 hx' with h1 | h1
  · exact h x h1
  · obtain rfl : x = xs[k] := by simpa using h1
    simpa [List.getD_eq_getElem?_getD, hk] using hx
theorem flat_snoc {α : Type} {f : α → List UInt8} {xs : List α} {k : Nat} {d : α} (hk : k < xs.length) : (xs.take (k + 1)).flatMap f = (xs.take k).flatMap f ++ f (xs.getD k d) := by
  rw [List.take_add_one, List.getElem?_eq_getElem hk, List.flatMap_append]
  simp [List.getD_eq_getElem?_getD, hk]
theorem not_allRng {xs : List Int} {k : Nat} (hk : k < xs.length) (h : ¬ Rng (xs.getD k 0)) : ¬ AllRng xs := fun H => h (H _ (by simp [List.getD_eq_getElem?_getD, hk]))
def ListPost (xs : List Int) (w : World) (e : Ending) (w' : World) : Prop :=
  Below w.heap.size w w' ∧ ((AllRng xs ∧ (encL xs).length ≤ 9 * (xs.length + 1) ∧ e = .returned (.tuple #[.string ⟨(encL xs).toArray⟩, .int .i64 0])) ∨ (¬ AllRng xs ∧ e = .returned (.tuple #[.string ⟨#[]⟩, .int .i64 2])))
set_option maxRecDepth 100000 in
set_option maxHeartbeats 1000000 in
theorem list_any (xs : List Int) (hx : xs.length ≤ 8000) (V : Value) (w : World) (h : Ints w w.heap.size V xs) : Calls Tryz.prog 15 #[V] w (ListPost xs w) := by
  obtain ⟨A, c, rfl, hc1, hc2, hA⟩ := h
  unfold maxLen at hc2
  have HA := Lib.hid hA
  clear hA
  have HR : Hid (Rng (xs.length : Int)) := ⟨by omega, by omega⟩
  have HL := Lib.hid (intL_len HR.out.1 HR.out.2)
  go_enter Tryz.func15, Tryz.ntmps15
  go_wp2_with fail
  refine (int_any _ HR.out _).mono ?_
  rintro e w1 ⟨rfl, hb1⟩
  obtain ⟨v, w2, hr, hB, hb2⟩ := brd_new w1 (intL (xs.length : Int)) (by have := HL.out; omega)
  have HB := Lib.hid hB
  have HB2 := Lib.hid (bt hb1 hb2)
  have HBB : Hid (Brd w2 w.heap.size v (intL (xs.length : Int))) := by
    obtain ⟨g, cap, e, h1, h2⟩ := hB
    exact ⟨g, cap, e, Nat.le_trans hb1.size h1, h2⟩
  clear hB hb1 hb2 HB
  generalize hb0 : intL (xs.length : Int) = b0 at *
  have HB0 := Lib.hid hb0
  clear hb0
  go_wp2_with fail
  clear hr
  go_loopw [6, 24] (fun o i wr => ∃ (k : Nat) (b : List UInt8), k ≤ xs.length ∧ i = .int .i64 k ∧ Hid (Brd wr w.heap.size o b ∧ b.length ≤ 9 * (k + 1) ∧ Below w.heap.size w wr) ∧ Hid (b = b0 ++ (xs.take k).flatMap intL ∧ AllRng (xs.take k))) (fun _ i _ => xs.length - (intOf i).toNat)
  case atStart => exact ⟨0, b0, Nat.zero_le _, rfl, ⟨HBB.out, by have := HL.out; omega, HB2.out⟩, ⟨by simp, fun _ h => by simp at h⟩⟩
  case round =>
    obtain ⟨k, b, hk, rfl, HI, HE⟩ := hrel
    by_cases hlt : k < xs.length
    · obtain ⟨bb, o, rfl, hbb, hcell⟩ := HA.out (by omega)
      have hc := (HI.out.2.2.cell (p := ⟨bb, o + k, none⟩) hbb).trans (hcell k hlt)
      clear hcell
      generalize hxe : xs.getD k 0 = x at *
      have HXE := Lib.hid hxe
      clear hxe
      by_cases hrx : Rng x
      · have HLx := Lib.hid (intL_len hrx.1 hrx.2)
        have HRX := Lib.hid hrx
        clear hrx
        go_wp2_with fail
        refine (int_any _ HRX.out _).mono ?_
        rintro e w3 ⟨rfl, hb3⟩
        have HB3 := Lib.hid hb3
        clear hb3
        generalize hse : intL x = s at *
        have HSE := Lib.hid hse
        clear hse
        go_wp2_with (at_builtin; refine wp_brd rfl _ _ rfl w.heap.size _ b s rfl (HI.out.1.below HB3.out) rfl (by have := HI.out.2.1; have := HLx.out; omega) (Nat.le_trans HI.out.2.2.size HB3.out.size) ?_; intro v' w4 hB4 hb4; have HB4 := Lib.hid hB4; have HBW := Lib.hid hb4; clear hB4 hb4)
        go_roundw
        case rel => exact ⟨k + 1, _, by omega, by go_num, ⟨HB4.out, by have := HI.out.2.1; have := HLx.out; rw [List.length_append]; omega, (bt' HI.out.2.2 HB3.out HI.out.2.2.size).trans HBW.out⟩, ⟨by rw [flat_snoc (d := 0) hlt, HXE.out, HSE.out, HE.out.1, List.append_assoc], allRng_snoc hlt HE.out.2 (by rw [HXE.out]; exact HRX.out)⟩⟩
        case measure => simp [intOf]; omega
      · go_wp2_with fail
        refine (int_bad _ hrx _).mono ?_
        rintro e w3 ⟨rfl, hb3⟩
        have HB3 := Lib.hid hb3
        clear hb3
        go_wp2_with fail
        go_ret2
        exact ⟨bt' HI.out.2.2 HB3.out HI.out.2.2.size, .inr ⟨not_allRng hlt (by rw [HXE.out]; exact hrx), rfl⟩⟩
    · obtain rfl : k = xs.length := by omega
      have hst := brd_str HI.out.1
      go_wp2_with fail
      go_ret2
      have he : b = encL xs := by rw [HE.out.1, ← HB0.out, List.take_length]; rfl
      subst he
      exact ⟨HI.out.2.2, .inl ⟨by have := HE.out.2; rwa [List.take_length] at this, HI.out.2.1, rfl⟩⟩
end Go.Proofs.YthlfhfliidhelaaGreatDoor
namespace Go.Proofs.YthlfhfliidhelaaGreatDoor
open Go.RowKit
def iv (l : List Int) : List Value := l.map (Value.int .i64)
theorem iv_len (l : List Int) : (iv l).length = l.length := by simp [iv]
theorem iv_app (a b : List Int) : iv (a ++ b) = iv a ++ iv b := by simp [iv]
theorem grown_drew (w : World) (row : Option Nat) : w.grownBy w.drew row := ⟨rfl, rfl, rfl, Nat.le_refl _, fun _ _ _ => rfl⟩
theorem gtrans {a b c : World} {row r : Option Nat} (h : a.grownBy b row) (k : b.grownBy c r) (hr : ∀ j, r = some j → row = some j ∨ a.heap.size ≤ j) : a.grownBy c row :=
  ⟨k.os.trans h.os, k.tape.trans h.tape, k.output.trans h.output, Nat.le_trans h.size k.size, fun j hj hn =>
    (k.block j (Nat.lt_of_lt_of_le hj h.size) (fun e => by
      rcases hr j e.symm with e2 | e2
      · exact hn e2.symm
      · omega)).trans (h.block j hj hn)⟩
def bitI (b : Bool) : Int := if b then 1 else 0
def hopsL (l : List Hp) : List Int := l.flatMap fun h => [h.c, h.b, h.e, h.a]
def hdT (x : Tkt) : List Int := [x.n, x.s, x.d, x.z, x.r, x.e, x.p, bitI x.cu, x.st, x.un, (x.hs.length : Int)]
def tktL (x : Tkt) : List Int := hdT x ++ hopsL x.hs
def tksL (l : List Tkt) : List Int := l.flatMap tktL
def shpsL (l : List Shp) : List Int := l.flatMap fun s => [s.c, s.a, s.b]
def spnsL (l : List Spn) : List Int := l.flatMap fun s => [s.f, s.t]
def cutL (z : List Spn) : List Int := [(z.length : Int)] ++ spnsL z
def cutsL (l : List (List Spn)) : List Int := l.flatMap cutL
def hdA (x : Anw) : List Int := [bitI x.ac, x.vo, (x.sh.length : Int)]
def anwL (x : Anw) : List Int := hdA x ++ shpsL x.sh ++ [(x.cu.length : Int)] ++ cutsL x.cu
def ansL (l : List Anw) : List Int := l.flatMap anwL
def demsL (l : List Dem) : List Int := l.flatMap fun d => [d.s, d.d, d.v, d.r, d.e]
theorem fm_snoc {α : Type} {f : α → List Int} {xs : List α} {k : Nat} {d x : α} (hk : k < xs.length) (hx : xs.getD k d = x) : (xs.take (k + 1)).flatMap f = (xs.take k).flatMap f ++ f x := by
  subst hx
  rw [List.take_add_one, List.getElem?_eq_getElem hk, List.flatMap_append]
  simp [List.getD_eq_getElem?_getD, hk]
structure Ph (wk : World) (ob : Nat) (F : Value → Array Value) (X : World) (n : Nat) (L : List Int) : Prop where
  gr : wk.grownBy X (some ob)
  ex : ∃ v l, (l.length ≤ n ∧ l = L) ∧ X.heap[ob]? = some (.cells (F v) 67 (0, 0)) ∧ X.ownsRow wk.heap.size 3 1 v l.length (iv l)
theorem Ph.alloc {wk X : World} {ob n : Nat} {F : Value → Array Value} {L : List Int} (h : Ph wk ob F X n L) (o : Obj) : Ph wk ob F (X.alloc o) n L := by
  obtain ⟨v, l, h1, h2, h3⟩ := h.ex
  exact ⟨gtrans h.gr (World.grownBy_alloc X o none) (fun j e => by cases e), v, l, h1, (Below.heap_alloc _ _ _ (Array.getElem?_eq_some_iff.1 h2).1).trans h2, h3.alloc o⟩
theorem Ph.to {wk X : World} {ob n m : Nat} {F : Value → Array Value} {L L' : List Int} (h : Ph wk ob F X n L) (hm : n ≤ m) (hL : L = L') : Ph wk ob F X m L' := by
  obtain ⟨v, l, ⟨h1, h0⟩, h2, h3⟩ := h.ex
  exact ⟨h.gr, v, l, ⟨Nat.le_trans h1 hm, h0.trans hL⟩, h2, h3⟩
theorem ph_new {X : World} {ob : Nat} {F : Value → Array Value} (h : X.heap[ob]? = some (.cells (F (.slice none 0 0)) 67 (0, 0))) : Ph X ob F X 0 [] :=
  ⟨World.grownBy.refl _ _, .slice none 0 0, [], ⟨Nat.le_refl _, rfl⟩, h, World.ownsRow_nil _ _ _ _⟩
theorem heap_set {w : World} {b : Nat} {c : Array Value} {t : TypeId} {f : Nat × Nat} (h : w.heap[b]? = some (.cells c t f)) (i : Nat) (v : Value) : (w.setCell ⟨b, i, none⟩ v).heap[b]? = some (.cells (c.setIfInBounds i v) t f) := by
  obtain ⟨hlt, hk⟩ := Array.getElem?_eq_some_iff.1 h
  show (w.heap.modify b _)[b]? = _
  rw [Array.getElem?_eq_getElem (by rw [Array.size_modify]; exact hlt), Array.getElem_modify_self, hk]
  rfl
theorem grown_set (W : World) (b c : Nat) (v : Value) : W.grownBy (W.setCell ⟨b, c, none⟩ v) (some b) :=
  ⟨rfl, rfl, rfl, (KeepsWalks.setCell W _ v).size, fun k _ hk => Below.heap_setCell _ _ _ k (fun e => hk (by rw [e]))⟩
theorem ph_app {wk X w1 : World} {ob n m c : Nat} {F : Value → Array Value} {v v' : Value} {l news : List Int} {tmp : Obj} (hob : ob < wk.heap.size) (gr : wk.grownBy X (some ob)) (h : X.heap[ob]? = some (.cells (F v) 67 (0, 0)))
    (hown : X.ownsRow wk.heap.size 3 1 v l.length (iv l)) (hgrow : (X.alloc tmp).grownBy w1 v.ownBlock) (hown' : w1.ownsRow wk.heap.size 3 1 v' (l.length + news.length) (iv l ++ iv news)) (hF : ∀ v v', (F v).setIfInBounds c v' = F v') (hl : l.length ≤ n) (hm : n + news.length ≤ m) :
    w1.heap[ob]? = some (.cells (F v) 67 (0, 0)) ∧ Ph wk ob F (w1.setCell ⟨ob, c, none⟩ v') m (l ++ news) := by
  have hlt : ob < X.heap.size := (Array.getElem?_eq_some_iff.1 h).1
  have e1 : w1.heap[ob]? = some (.cells (F v) 67 (0, 0)) := (hgrow.block ob (by simp; omega) (fun e => by have := hown.lt ob e.symm; omega)).trans ((Below.heap_alloc _ _ _ hlt).trans h)
  refine ⟨e1, ?_, v', l ++ news, ⟨by rw [List.length_append]; omega, rfl⟩, by rw [heap_set e1, hF], ?_⟩
  · exact gtrans (gtrans (gtrans gr (World.grownBy_alloc X tmp none) (fun j e => by cases e)) hgrow (fun j e => .inr (hown.lt j e).1)) (grown_set w1 ob c v') (fun j e => .inl e)
  · rw [List.length_append, iv_app]
    refine hown'.kept (grown_set w1 ob c v') ?_
    rcases hv : v'.ownBlock with _ | g
    · exact .inl rfl
    · refine .inr fun e => ?_
      have := (hown'.lt g hv).1
      have := Option.some.inj e
      omega
theorem ints_of {X : World} {base : Nat} {v : Value} {l : List Int} (h : X.ownsRow base 3 1 v l.length (iv l)) : Ints X X.heap.size v l := by
  rcases h.2 with ⟨rfl, h0⟩ | ⟨g, cap, cur, rfl, _, hg, hc, hm, hs, ht⟩
  · obtain rfl := List.length_eq_zero_iff.1 h0
    exact ints_nil _ _
  · refine ⟨_, cap, rfl, hc, hm, fun _ => ⟨g, 0, rfl, (Array.getElem?_eq_some_iff.1 hg).1, fun j hj => ?_⟩⟩
    have e : (cur.toList.take (l.length * 1))[j]? = some (.int .i64 (l.getD j 0)) := by
      rw [ht]
      simp [iv, List.getD, hj]
    rw [List.getElem?_take_of_lt (by omega)] at e
    rw [Nat.zero_add, cell_of_row _ _ _ _ _ _ hg]
    simpa using e
theorem ints_grow {w Y : World} {ob : Nat} {A : Array Value} {v : Value} {l : List Int} (h : Ints w w.heap.size v l) (hg : w.grownBy Y (some ob)) (hob : w.heap[ob]? = some (.cells A 67 (0, 0))) (hA : ∀ (j : Nat) (n : Int), A[j]? ≠ some (Value.int .i64 n)) : Ints Y Y.heap.size v l := by
  obtain ⟨A', c, e, h1, h2, h3⟩ := h
  refine ⟨A', c, e, h1, h2, fun hp => ?_⟩
  obtain ⟨b, o, e1, h4, h5⟩ := h3 hp
  refine ⟨b, o, e1, Nat.lt_of_lt_of_le h4 hg.size, fun j hj => ?_⟩
  have hc := h5 j hj
  refine (World.cell?_of_block (a := ⟨b, o + j, none⟩) (hg.block b h4 (fun e => ?_))).trans hc
  obtain rfl := Option.some.inj e
  rw [cell_of_row _ _ _ _ _ _ hob] at hc
  exact hA _ _ hc
theorem put_eq (X : World) (t : TypeId) (c : Array Value) (vs : List Value) (hi : (Tryz.prog.info? t).map (·.size) = some vs.length) (ho : c.size = vs.length) (h1 : ∀ v ∈ vs, v.oneCell' = true) :
    (X.alloc (.cells c t)).setCells X.heap.size 0 vs = X.alloc (.cells vs.toArray t) := by
  have hn := World.alloc_heap_new X (.cells c t)
  have a := run_storeCells_new (P := Tryz.prog) X t c vs.toArray (by simpa using hi) (by simpa using ho) (by simpa using h1)
  have b := run_storeCells_cells (P := Tryz.prog) X.heap.size 0 vs 0 (X.alloc (.cells c t)) (fun j hj => by rw [cell_of_row _ _ _ _ _ _ hn, Array.getElem?_eq_getElem (by simp; omega)]; rfl) (fun j _ => frozen_of_row _ _ _ _ _ hn) h1
  rw [show vs.toArray.toList = vs from rfl, b] at a
  injection a
theorem below_of {w wk X : World} {ob : Nat} (h : Below w.heap.size w wk) (hg : wk.grownBy X (some ob)) (hob : w.heap.size ≤ ob) : Below w.heap.size w X := h.grown hg h.size (fun j e => by cases e; exact hob)
theorem own_ne {X : World} {base b : Nat} {v : Value} {l : List Int} {c : Array Value} {t : TypeId} {f : Nat × Nat} (h : X.ownsRow base 3 1 v l.length (iv l)) (hb : X.heap[b]? = some (.cells c t f)) (ht : t ≠ 3) : some b ≠ v.ownBlock := by
  rcases h.2 with ⟨rfl, _⟩ | ⟨g, cap, cur, rfl, _, hg, _⟩
  · simp [Value.ownBlock]
  · intro e
    obtain rfl : b = g := by simpa [Value.ownBlock] using e
    rw [hb] at hg
    cases hg
    exact ht rfl
theorem news_at (X : World) (b : Nat) (hb : X.heap.size = b) (o : Obj) : (X.alloc o).heap[b]? = some o := by
  subst hb
  exact World.alloc_heap_new X o
theorem noint3 (A B C : Option Addr) (a b c d e f : Nat) : ∀ (j : Nat) (n : Int), (#[Value.slice A a d, .slice B b e, .slice C c f] : Array Value)[j]? ≠ some (Value.int .i64 n) := by
  intro j n h
  match j with
  | 0 => simp at h
  | 1 => simp at h
  | 2 => simp at h
  | j + 3 => simp at h
theorem info3 : (Tryz.prog.info? 3).map (fun i => (i.zero, i.size, i.bytes)) = some (some (.int .i64 0), 1, 8) := by kernel_rfl
theorem bit_any (b : Bool) (w : World) : Calls Tryz.prog 36 #[.bool b] w fun e w' => e = .returned (.int .i64 (bitI b)) ∧ w' = w := by
  cases b
  · go_enter Tryz.func36, Tryz.ntmps36
    go_wp2_with fail
    go_ret
    exact ⟨rfl, rfl⟩
  · go_enter Tryz.func36, Tryz.ntmps36
    go_wp2_with fail
    go_ret
    exact ⟨rfl, rfl⟩
end Go.Proofs.YthlfhfliidhelaaGreatDoor

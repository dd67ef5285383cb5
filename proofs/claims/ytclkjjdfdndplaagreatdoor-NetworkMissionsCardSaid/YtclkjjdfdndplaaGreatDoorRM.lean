/- How missions are opened. -/
import Derived.Test.YtclkjjdfdndplaaGreatDoorR0
namespace Go.Proofs.YtclkjjdfdndplaaGreatDoor
def conVals (c : Con) : List Value := [.int .i64 c.a, .int .i64 c.b, .int .i64 c.s, .int .i64 c.e, .int .i64 c.r, .int .i64 c.g, .int .i64 c.l]
def bunVals (x : Bun) (V : Value) : List Value := [.int .i64 x.s, .int .i64 x.c, .int .i64 x.q, .int .i64 x.o, .int .i64 x.t, .int .i64 x.dk, .int .i64 x.dn, .int .i64 x.lf, .int .i64 x.pr, .int .i64 x.fl, V, .string x.py]
def blkVals (x : Blk) : List Value := [.int .i64 x.k, .int .i64 x.f, .string x.d]
def fltVals (x : Flt) : List Value := [.int .i64 x.n, .int .i64 x.a, .int .i64 x.k, .int .i64 x.u]
def otgVals (x : Otg) : List Value := [.int .i64 x.c, .int .i64 x.f, .int .i64 x.t]
open Go.ChangeShapes Go.WideShapes Go.ChangeAt Go.RowKit
section
variable {H : Type} {enc : TypeId × Value → H} {w : World} {base : Nat} {spare : Nat → Bool} {held : Bool}
theorem Tryz.cells3 : Tryz.prog.cellsOf 3 = 1 := by kernel_rfl
theorem Tryz.cells4 : Tryz.prog.cellsOf 4 = 1 := by kernel_rfl
theorem Tryz.cells9 : Tryz.prog.cellsOf 9 = 1 := by kernel_rfl
theorem Tryz.cells22 : Tryz.prog.cellsOf 22 = 1 := by kernel_rfl
theorem Tryz.cells23 : Tryz.prog.cellsOf 23 = 1 := by kernel_rfl
theorem Tryz.cells25 : Tryz.prog.cellsOf 25 = 2 := by kernel_rfl
theorem Tryz.cells26 : Tryz.prog.cellsOf 26 = 1 := by kernel_rfl
theorem Tryz.cells27 : Tryz.prog.cellsOf 27 = 1 := by kernel_rfl
theorem Tryz.cells28 : Tryz.prog.cellsOf 28 = 1 := by kernel_rfl
theorem Tryz.cells30 : Tryz.prog.cellsOf 30 = 6 := by kernel_rfl
theorem Tryz.cells93 : Tryz.prog.cellsOf 93 = 3 := by kernel_rfl
theorem Tryz.cells54 : Tryz.prog.cellsOf 54 = 5 := by kernel_rfl
theorem Tryz.cells56 : Tryz.prog.cellsOf 56 = 2 := by kernel_rfl
theorem Tryz.cells57 : Tryz.prog.cellsOf 57 = 1 := by kernel_rfl
theorem Tryz.cells59 : Tryz.prog.cellsOf 59 = 12 := by kernel_rfl
theorem Tryz.cells86 : Tryz.prog.cellsOf 86 = 4 := by kernel_rfl
theorem Tryz.cells61 : Tryz.prog.cellsOf 61 = 7 := by kernel_rfl
theorem Tryz.cells101 : Tryz.prog.cellsOf 101 = 3 := by kernel_rfl
theorem add_eq {a : Addr} {b o : Nat} (h : a = ⟨b, o, none⟩) (n : Nat) : a.add n = ⟨b, o + n, none⟩ := by subst h; unfold Addr.add; split <;> simp_all
set_option maxRecDepth 100000 in
/-- a slice whose elements read as something -/
theorem open_sl {α : Type} (z : α) (st : Nat) (hst : 0 < st) {t e : TypeId} {c : Value} {fuel : Nat} {x : DataW H × List MemPlace} (ht : Tryz.prog.underlying t = some (.slice e)) (hce : Tryz.prog.cellsOf e = st) (rel : α → List Value → Prop)
    (elem : ∀ (cs : List Value) (f : Nat) (x : DataW H × List MemPlace), DataW.trod enc Tryz.prog w base (fun _ => true) held f e cs = some x → ∃ k, rel k cs) (h : DataW.trod enc Tryz.prog w base (fun _ => true) held fuel t [c] = some x) :
    ∃ (xs : List α) (A : Option Addr) (cp : Nat), c = .slice A xs.length cp ∧ xs.length ≤ cp ∧ cp ≤ maxLen ∧ (0 < xs.length → ∃ b o, A = some ⟨b, o, none⟩ ∧ b < w.heap.size ∧ ∀ j, j < xs.length → ∃ cs, rel (xs.getD j z) cs ∧ ∀ k, k < st → w.cell? ⟨b, o + j * st + k, none⟩ = cs[k]?) := by
  rcases Deep.open_slice ht h with ⟨h0, _⟩ | ⟨a, len, cap, m, n, D, Pl, h0, _, hl, hm, hmm, _, hr⟩
  · simp at h0
    subst h0
    exact ⟨[], none, 0, rfl, by simp, by simp [maxLen], fun hp => by simp at hp⟩
  · simp at h0
    subst h0
    simp only [if_true] at hmm
    subst hmm
    rw [hce] at hr
    haveI : Inhabited α := ⟨z⟩
    obtain ⟨f, hf⟩ := Deep.choose_lt (α := α) (p := fun i k => ∃ cs, rel k cs ∧ cs.length = st ∧ ∀ j, j < st → w.cell? ((a.add (i * st)).add j) = cs[j]?) (fun i hi => by
      obtain ⟨cs', h1, h2⟩ := hr i hi
      obtain ⟨k, hk⟩ := elem _ _ _ h2
      exact ⟨k, cs', hk, (World.cells?_some h1).2.1, (World.cells?_some h1).2.2⟩)
    refine ⟨(List.range len).map f, some a, m, by simp, by simpa using hl, hm, fun hp => ?_⟩
    simp only [List.length_map, List.length_range] at hp ⊢
    obtain ⟨cs0, _, hl0, h0⟩ := hf 0 (by omega)
    have h0 := h0 0 hst
    obtain ⟨v0, hv0⟩ : ∃ v, cs0[0]? = some v := ⟨cs0[0], by simp [hl0, hst]⟩
    simp only [Nat.zero_mul] at h0
    have ha : a.add 0 = a := by simp [Addr.add]
    rw [ha, ha, hv0] at h0
    obtain ⟨b, o, sp⟩ := a
    obtain rfl : sp = none := World.cell?_spot h0
    refine ⟨b, o, rfl, World.block_lt_of_cell? _ _ h0, fun j hj => ?_⟩
    have e : ((List.range len).map f).getD j z = f j := by simp [List.getD, hj]
    rw [e]
    obtain ⟨cs, h1, _, h2⟩ := hf j (by omega)
    refine ⟨cs, h1, fun k hk => ?_⟩
    have := h2 k hk
    rw [add_eq rfl, add_eq rfl] at this
    exact this
set_option maxRecDepth 100000 in
theorem trod_con {fuel : Nat} {cs : List Value} {x : DataW H × List MemPlace} (h : DataW.trod enc Tryz.prog w base spare held fuel 61 cs = some x) : ∃ k : Con, cs = conVals k := by
  obtain ⟨xs, n, _, hx, hl, hlen, hg⟩ := DataW.trod_struct Tryz.underlying61 h
  rw [Tryz.cells61] at hl
  match cs, hl, xs, hlen with
  | [c0, c1, c2, c3, c4, c5, c6], _, [y0, y1, y2, y3, y4, y5, y6], _ =>
    have g0 := hg 0 _ rfl
    have g1 := hg 1 _ rfl
    have g2 := hg 2 _ rfl
    have g3 := hg 3 _ rfl
    have g4 := hg 4 _ rfl
    have g5 := hg 5 _ rfl
    have g6 := hg 6 _ rfl
    simp [Tryz.cells3] at g0 g1 g2 g3 g4 g5 g6
    obtain ⟨a0, e0, _⟩ := DataW.trod_int Tryz.underlying3 g0
    obtain ⟨a1, e1, _⟩ := DataW.trod_int Tryz.underlying3 g1
    obtain ⟨a2, e2, _⟩ := DataW.trod_int Tryz.underlying3 g2
    obtain ⟨a3, e3, _⟩ := DataW.trod_int Tryz.underlying3 g3
    obtain ⟨a4, e4, _⟩ := DataW.trod_int Tryz.underlying3 g4
    obtain ⟨a5, e5, _⟩ := DataW.trod_int Tryz.underlying3 g5
    obtain ⟨a6, e6, _⟩ := DataW.trod_int Tryz.underlying3 g6
    simp at e0 e1 e2 e3 e4 e5 e6
    subst e0 e1 e2 e3 e4 e5 e6
    exact ⟨⟨a0, a1, a2, a3, a4, a5, a6⟩, rfl⟩
set_option maxRecDepth 100000 in
theorem trod_blk {fuel : Nat} {cs : List Value} {x : DataW H × List MemPlace} (h : DataW.trod enc Tryz.prog w base spare held fuel 101 cs = some x) : ∃ k : Blk, cs = blkVals k := by
  obtain ⟨xs, n, _, hx, hl, hlen, hg⟩ := DataW.trod_struct Tryz.underlying101 h
  rw [Tryz.cells101] at hl
  match cs, hl, xs, hlen with
  | [c0, c1, c2], _, [y0, y1, y2], _ =>
    have g0 := hg 0 _ rfl
    have g1 := hg 1 _ rfl
    have g2 := hg 2 _ rfl
    simp [Tryz.cells3, Tryz.cells9] at g0 g1 g2
    obtain ⟨a0, e0, _⟩ := DataW.trod_int Tryz.underlying3 g0
    obtain ⟨a1, e1, _⟩ := DataW.trod_int Tryz.underlying3 g1
    obtain ⟨a2, e2, _⟩ := DataW.trod_string Tryz.underlying9 g2
    simp at e0 e1 e2
    subst e0 e1 e2
    exact ⟨⟨a0, a1, a2⟩, rfl⟩
set_option maxRecDepth 100000 in
theorem trod_flt {fuel : Nat} {cs : List Value} {x : DataW H × List MemPlace} (h : DataW.trod enc Tryz.prog w base spare held fuel 86 cs = some x) : ∃ k : Flt, cs = fltVals k := by
  obtain ⟨xs, n, _, hx, hl, hlen, hg⟩ := DataW.trod_struct Tryz.underlying86 h
  rw [Tryz.cells86] at hl
  match cs, hl, xs, hlen with
  | [c0, c1, c2, c3], _, [y0, y1, y2, y3], _ =>
    have g0 := hg 0 _ rfl
    have g1 := hg 1 _ rfl
    have g2 := hg 2 _ rfl
    have g3 := hg 3 _ rfl
    simp [Tryz.cells3] at g0 g1 g2 g3
    obtain ⟨a0, e0, _⟩ := DataW.trod_int Tryz.underlying3 g0
    obtain ⟨a1, e1, _⟩ := DataW.trod_int Tryz.underlying3 g1
    obtain ⟨a2, e2, _⟩ := DataW.trod_int Tryz.underlying3 g2
    obtain ⟨a3, e3, _⟩ := DataW.trod_int Tryz.underlying3 g3
    simp at e0 e1 e2 e3
    subst e0 e1 e2 e3
    exact ⟨⟨a0, a1, a2, a3⟩, rfl⟩
set_option maxRecDepth 100000 in
theorem trod_otg {fuel : Nat} {cs : List Value} {x : DataW H × List MemPlace} (h : DataW.trod enc Tryz.prog w base spare held fuel 93 cs = some x) : ∃ k : Otg, cs = otgVals k := by
  obtain ⟨xs, n, _, hx, hl, hlen, hg⟩ := DataW.trod_struct Tryz.underlying93 h
  rw [Tryz.cells93] at hl
  match cs, hl, xs, hlen with
  | [c0, c1, c2], _, [y0, y1, y2], _ =>
    have g0 := hg 0 _ rfl
    have g1 := hg 1 _ rfl
    have g2 := hg 2 _ rfl
    simp [Tryz.cells3] at g0 g1 g2
    obtain ⟨a0, e0, _⟩ := DataW.trod_int Tryz.underlying3 g0
    obtain ⟨a1, e1, _⟩ := DataW.trod_int Tryz.underlying3 g1
    obtain ⟨a2, e2, _⟩ := DataW.trod_int Tryz.underlying3 g2
    simp at e0 e1 e2
    subst e0 e1 e2
    exact ⟨⟨a0, a1, a2⟩, rfl⟩
set_option maxRecDepth 100000 in
theorem open_cons_cell {c : Value} {fuel : Nat} {x : DataW H × List MemPlace} (h : DataW.trod enc Tryz.prog w base (fun _ => true) held fuel 23 [c] = some x) : ∃ cs, Cons w w.heap.size c cs := by
  obtain ⟨xs, A, cp, h1, h2, h3, h4⟩ := open_sl (α := Con) Con.zero 7 (by decide) Tryz.underlying23 Tryz.cells61 (fun k cs => cs = conVals k) (fun cs f x hx => trod_con hx) h
  refine ⟨xs, A, cp, h1, h2, h3, fun hp => ?_⟩
  obtain ⟨b, o, h5, h6, h7⟩ := h4 hp
  refine ⟨b, o, h5, h6, fun j hj => ?_⟩
  obtain ⟨cs, rfl, hc⟩ := h7 j hj
  exact ⟨hc 0 (by omega), hc 1 (by omega), hc 2 (by omega), hc 3 (by omega), hc 4 (by omega), hc 5 (by omega), hc 6 (by omega)⟩
set_option maxRecDepth 100000 in
theorem open_blks_cell {c : Value} {fuel : Nat} {x : DataW H × List MemPlace} (h : DataW.trod enc Tryz.prog w base (fun _ => true) held fuel 57 [c] = some x) : ∃ cs, Blks w w.heap.size c cs := by
  obtain ⟨xs, A, cp, h1, h2, h3, h4⟩ := open_sl (α := Blk) Blk.zero 3 (by decide) Tryz.underlying57 Tryz.cells101 (fun k cs => cs = blkVals k) (fun cs f x hx => trod_blk hx) h
  refine ⟨xs, A, cp, h1, h2, h3, fun hp => ?_⟩
  obtain ⟨b, o, h5, h6, h7⟩ := h4 hp
  refine ⟨b, o, h5, h6, fun j hj => ?_⟩
  obtain ⟨cs, rfl, hc⟩ := h7 j hj
  exact ⟨hc 0 (by omega), hc 1 (by omega), hc 2 (by omega)⟩
set_option maxRecDepth 100000 in
theorem open_flts_cell {c : Value} {fuel : Nat} {x : DataW H × List MemPlace} (h : DataW.trod enc Tryz.prog w base (fun _ => true) held fuel 27 [c] = some x) : ∃ cs, Flts w w.heap.size c cs := by
  obtain ⟨xs, A, cp, h1, h2, h3, h4⟩ := open_sl (α := Flt) Flt.zero 4 (by decide) Tryz.underlying27 Tryz.cells86 (fun k cs => cs = fltVals k) (fun cs f x hx => trod_flt hx) h
  refine ⟨xs, A, cp, h1, h2, h3, fun hp => ?_⟩
  obtain ⟨b, o, h5, h6, h7⟩ := h4 hp
  refine ⟨b, o, h5, h6, fun j hj => ?_⟩
  obtain ⟨cs, rfl, hc⟩ := h7 j hj
  exact ⟨hc 0 (by omega), hc 1 (by omega), hc 2 (by omega), hc 3 (by omega)⟩
set_option maxRecDepth 100000 in
theorem open_otgs_cell {c : Value} {fuel : Nat} {x : DataW H × List MemPlace} (h : DataW.trod enc Tryz.prog w base (fun _ => true) held fuel 28 [c] = some x) : ∃ cs, Otgs w w.heap.size c cs := by
  obtain ⟨xs, A, cp, h1, h2, h3, h4⟩ := open_sl (α := Otg) Otg.zero 3 (by decide) Tryz.underlying28 Tryz.cells93 (fun k cs => cs = otgVals k) (fun cs f x hx => trod_otg hx) h
  refine ⟨xs, A, cp, h1, h2, h3, fun hp => ?_⟩
  obtain ⟨b, o, h5, h6, h7⟩ := h4 hp
  refine ⟨b, o, h5, h6, fun j hj => ?_⟩
  obtain ⟨cs, rfl, hc⟩ := h7 j hj
  exact ⟨hc 0 (by omega), hc 1 (by omega), hc 2 (by omega)⟩
set_option maxRecDepth 100000 in
theorem open_ints_cell {c : Value} {fuel : Nat} {x : DataW H × List MemPlace} (h : DataW.trod enc Tryz.prog w base (fun _ => true) held fuel 22 [c] = some x) : ∃ xs, Ints w w.heap.size c xs := by
  obtain ⟨xs, A, cp, h1, h2, h3, h4⟩ := open_sl (α := Int) 0 1 (by decide) Tryz.underlying22 Tryz.cells3 (fun k cs => cs = [.int .i64 k]) (fun cs f x hx => by
    obtain ⟨n, e, _⟩ := DataW.trod_int Tryz.underlying3 hx
    exact ⟨n, e⟩) h
  refine ⟨xs, A, cp, h1, h2, h3, fun hp => ?_⟩
  obtain ⟨b, o, h5, h6, h7⟩ := h4 hp
  refine ⟨b, o, h5, h6, fun j hj => ?_⟩
  obtain ⟨cs, rfl, hc⟩ := h7 j hj
  have := hc 0 (by omega)
  simpa using this
set_option maxRecDepth 100000 in
theorem trod_five {fuel : Nat} {cs : List Value} {x : DataW H × List MemPlace} (h : DataW.trod enc Tryz.prog w base spare held fuel 54 cs = some x) : ∃ a b c d e : Int, cs = [.int .i64 a, .int .i64 b, .int .i64 c, .int .i64 d, .int .i64 e] := by
  obtain ⟨xs, n, _, hx, hl, hlen, hg⟩ := DataW.trod_struct Tryz.underlying54 h
  rw [Tryz.cells54] at hl
  match cs, hl, xs, hlen with
  | [c0, c1, c2, c3, c4], _, [y0, y1, y2, y3, y4], _ =>
    have g0 := hg 0 _ rfl
    have g1 := hg 1 _ rfl
    have g2 := hg 2 _ rfl
    have g3 := hg 3 _ rfl
    have g4 := hg 4 _ rfl
    simp [Tryz.cells3] at g0 g1 g2 g3 g4
    obtain ⟨a0, e0, _⟩ := DataW.trod_int Tryz.underlying3 g0
    obtain ⟨a1, e1, _⟩ := DataW.trod_int Tryz.underlying3 g1
    obtain ⟨a2, e2, _⟩ := DataW.trod_int Tryz.underlying3 g2
    obtain ⟨a3, e3, _⟩ := DataW.trod_int Tryz.underlying3 g3
    obtain ⟨a4, e4, _⟩ := DataW.trod_int Tryz.underlying3 g4
    simp at e0 e1 e2 e3 e4
    subst e0 e1 e2 e3 e4
    exact ⟨_, _, _, _, _, rfl⟩
set_option maxRecDepth 100000 in
theorem trod_two {fuel : Nat} {cs : List Value} {x : DataW H × List MemPlace} (h : DataW.trod enc Tryz.prog w base spare held fuel 56 cs = some x) : ∃ a b : Int, cs = [.int .i64 a, .int .i64 b] := by
  obtain ⟨xs, n, _, hx, hl, hlen, hg⟩ := DataW.trod_struct Tryz.underlying56 h
  rw [Tryz.cells56] at hl
  match cs, hl, xs, hlen with
  | [c0, c1], _, [y0, y1], _ =>
    have g0 := hg 0 _ rfl
    have g1 := hg 1 _ rfl
    simp [Tryz.cells3] at g0 g1
    obtain ⟨a0, e0, _⟩ := DataW.trod_int Tryz.underlying3 g0
    obtain ⟨a1, e1, _⟩ := DataW.trod_int Tryz.underlying3 g1
    simp at e0 e1
    subst e0 e1
    exact ⟨_, _, rfl⟩
set_option maxRecDepth 100000 in
theorem trod_bun {fuel : Nat} {cs : List Value} {x : DataW H × List MemPlace} (h : DataW.trod enc Tryz.prog w base (fun _ => true) held fuel 59 cs = some x) : ∃ k : Bun, ∃ V, cs = bunVals k V ∧ Blks w w.heap.size V k.bl := by
  obtain ⟨xs, n, _, hx, hl, hlen, hg⟩ := DataW.trod_struct Tryz.underlying59 h
  rw [Tryz.cells59] at hl
  match cs, hl, xs, hlen with
  | [c0, c1, c2, c3, c4, c5, c6, c7, c8, c9, c10, c11], _, [y0, y1, y2, y3, y4, y5, y6], _ =>
    have g0 := hg 0 _ rfl
    have g1 := hg 1 _ rfl
    have g2 := hg 2 _ rfl
    have g3 := hg 3 _ rfl
    have g4 := hg 4 _ rfl
    have g5 := hg 5 _ rfl
    have g6 := hg 6 _ rfl
    simp [Tryz.cells3, Tryz.cells9, Tryz.cells54, Tryz.cells56, Tryz.cells57] at g0 g1 g2 g3 g4 g5 g6
    obtain ⟨s, c, q, o, t, e0⟩ := trod_five g0
    obtain ⟨dk, dn, e1⟩ := trod_two g1
    obtain ⟨lf, e2, _⟩ := DataW.trod_int Tryz.underlying3 g2
    obtain ⟨pr, e3, _⟩ := DataW.trod_int Tryz.underlying3 g3
    obtain ⟨fl, e4, _⟩ := DataW.trod_int Tryz.underlying3 g4
    obtain ⟨bl, hb⟩ := open_blks_cell g5
    obtain ⟨py, e6, _⟩ := DataW.trod_string Tryz.underlying9 g6
    simp at e0 e1 e2 e3 e4 e6
    obtain ⟨rfl, rfl, rfl, rfl, rfl⟩ := e0
    obtain ⟨rfl, rfl⟩ := e1
    subst e2 e3 e4 e6
    exact ⟨⟨s, c, q, o, t, dk, dn, lf, pr, fl, bl, py⟩, c10, rfl, hb⟩
set_option maxRecDepth 100000 in
theorem open_buns_cell {c : Value} {fuel : Nat} {x : DataW H × List MemPlace} (h : DataW.trod enc Tryz.prog w base (fun _ => true) held fuel 26 [c] = some x) : ∃ cs, Buns w w.heap.size c cs := by
  obtain ⟨xs, A, cp, h1, h2, h3, h4⟩ := open_sl (α := Bun) Bun.zero 12 (by decide) Tryz.underlying26 Tryz.cells59 (fun k cs => ∃ V, cs = bunVals k V ∧ Blks w w.heap.size V k.bl) (fun cs f x hx => trod_bun hx) h
  refine ⟨xs, A, cp, h1, h2, h3, fun hp => ?_⟩
  obtain ⟨b, o, h5, h6, h7⟩ := h4 hp
  refine ⟨b, o, h5, h6, fun j hj => ?_⟩
  obtain ⟨cs, ⟨V, rfl, hV⟩, hc⟩ := h7 j hj
  exact ⟨hc 0 (by omega), hc 1 (by omega), hc 2 (by omega), hc 3 (by omega), hc 4 (by omega), hc 5 (by omega), hc 6 (by omega), hc 7 (by omega), hc 8 (by omega), hc 9 (by omega), ⟨V, hc 10 (by omega), hV⟩, hc 11 (by omega)⟩
set_option maxRecDepth 100000 in
theorem open_mis {r : Reach} {b0 : Nat} {v : Value} {d : DataW H} {p : List MemPlace} (hv : Value.okWide Tryz.prog w r b0 30 v) (h : DataW.Trod enc Tryz.prog w base (fun _ => true) held 30 v d p) :
    ∃ (VQ VC VO VF VX : Value) (m : Mis), v = .agg #[VQ, VC, VO, VF, VX, .bool m.bd] ∧ MisAt w w.heap.size VQ VC VO VF VX m := by
  obtain ⟨cs, rfl, hsz⟩ := okWide_struct Tryz.underlying30 hv
  obtain ⟨cl⟩ := cs
  match cl, hsz.trans Tryz.cells30 with
  | [c0, c1, c2, c3, c4, c5], _ =>
    obtain ⟨fuel, hf⟩ := h
    obtain ⟨xs, n, _, hx, _, hlen, hg⟩ := DataW.trod_struct Tryz.underlying30 (show DataW.trod enc Tryz.prog w base (fun _ => true) held fuel 30 [c0, c1, c2, c3, c4, c5] = _ by simpa [Value.cells] using hf)
    match xs, hlen with
    | [y0, y1, y2, y3, y4], _ =>
      have g0 := hg 0 _ rfl
      have g1 := hg 1 _ rfl
      have g2 := hg 2 _ rfl
      have g3 := hg 3 _ rfl
      have g4 := hg 4 _ rfl
      simp [Tryz.cells25, Tryz.cells26, Tryz.cells27, Tryz.cells28, Tryz.cells4] at g0 g1 g2 g3 g4
      obtain ⟨zs, n2, _, _, _, hlen2, hg2⟩ := DataW.trod_struct Tryz.underlying25 g0
      match zs, hlen2 with
      | [z0, z1], _ =>
        have k0 := hg2 0 _ rfl
        have k1 := hg2 1 _ rfl
        simp [Tryz.cells22, Tryz.cells23] at k0 k1
        obtain ⟨q, hq⟩ := open_ints_cell k0
        obtain ⟨c, hc⟩ := open_cons_cell k1
        obtain ⟨o, ho⟩ := open_buns_cell g1
        obtain ⟨f, hft⟩ := open_flts_cell g2
        obtain ⟨x, hx⟩ := open_otgs_cell g3
        obtain ⟨bd, e4, _⟩ := DataW.trod_bool Tryz.underlying4 g4
        simp at e4
        subst e4
        exact ⟨c0, c1, c2, c3, c4, ⟨q, c, o, f, x, bd⟩, rfl, hq, hc, ho, hft, hx⟩
set_option maxRecDepth 100000 in
theorem open_otg {r : Reach} {b0 : Nat} {v : Value} {d : DataW H} {p : List MemPlace} (hv : Value.okWide Tryz.prog w r b0 93 v) (h : DataW.Trod enc Tryz.prog w base spare held 93 v d p) :
    ∃ x : Otg, v = .agg #[.int .i64 x.c, .int .i64 x.f, .int .i64 x.t] := by
  obtain ⟨cs, rfl, hsz⟩ := okWide_struct Tryz.underlying93 hv
  obtain ⟨fuel, hf⟩ := h
  obtain ⟨c, hc⟩ := trod_otg (show DataW.trod enc Tryz.prog w base spare held fuel 93 cs.toList = _ by simpa [Value.cells] using hf)
  refine ⟨c, ?_⟩
  obtain ⟨cl⟩ := cs
  simp at hc
  rw [hc]; rfl
end
end Go.Proofs.YtclkjjdfdndplaaGreatDoor

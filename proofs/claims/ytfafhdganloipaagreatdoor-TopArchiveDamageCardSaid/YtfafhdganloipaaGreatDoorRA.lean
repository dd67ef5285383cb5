/- How archives are opened. -/
import Derived.Test.YtfafhdganloipaaGreatDoorS1
import Derived.ProofKit
import Derived.OpenShut
import Derived.LaidMore
import Derived.Lay
import Derived.Deep.Matrix
import Derived.Deep.Slices
namespace Go.Proofs.YtfafhdganloipaaGreatDoor
open Go.ChangeShapes Go.WideShapes Go.ChangeAt Go.RowKit
section
variable {H : Type} {enc : TypeId × Value → H} {w : World} {base : Nat} {spare : Nat → Bool} {held : Bool}
theorem Tryz.cells3 : Tryz.prog.cellsOf 3 = 1 := by kernel_rfl
theorem Tryz.cells4 : Tryz.prog.cellsOf 4 = 1 := by kernel_rfl
theorem Tryz.cells9 : Tryz.prog.cellsOf 9 = 1 := by kernel_rfl
theorem Tryz.cells22 : Tryz.prog.cellsOf 22 = 1 := by kernel_rfl
theorem Tryz.cells23 : Tryz.prog.cellsOf 23 = 1 := by kernel_rfl
theorem Tryz.cells24 : Tryz.prog.cellsOf 24 = 1 := by kernel_rfl
theorem Tryz.cells26 : Tryz.prog.cellsOf 26 = 5 := by kernel_rfl
theorem Tryz.cells38 : Tryz.prog.cellsOf 38 = 7 := by kernel_rfl
theorem Tryz.cells39 : Tryz.prog.cellsOf 39 = 1 := by kernel_rfl
theorem Tryz.cells41 : Tryz.prog.cellsOf 41 = 11 := by kernel_rfl
theorem Tryz.cells42 : Tryz.prog.cellsOf 42 = 1 := by kernel_rfl
theorem Tryz.cells44 : Tryz.prog.cellsOf 44 = 1 := by kernel_rfl
theorem Tryz.cells46 : Tryz.prog.cellsOf 46 = 4 := by kernel_rfl
theorem Tryz.cells47 : Tryz.prog.cellsOf 47 = 1 := by kernel_rfl
theorem Tryz.cells103 : Tryz.prog.cellsOf 103 = 5 := by kernel_rfl
theorem Tryz.cells136 : Tryz.prog.cellsOf 136 = 4 := by kernel_rfl
theorem Tryz.cells138 : Tryz.prog.cellsOf 138 = 3 := by kernel_rfl
theorem Tryz.cells140 : Tryz.prog.cellsOf 140 = 2 := by kernel_rfl
theorem add_eq {a : Addr} {b o : Nat} (h : a = ⟨b, o, none⟩) (n : Nat) : a.add n = ⟨b, o + n, none⟩ := by subst h; unfold Addr.add; split <;> simp_all
set_option maxRecDepth 100000 in
/-- a slice whose elements read as something -/
theorem open_sl {α : Type} (z : α) (st : Nat) (hst : 0 < st) {t e : TypeId} {cs : List Value} {fuel : Nat} {x : DataW H × List MemPlace} (ht : Tryz.prog.underlying t = some (.slice e)) (hce : Tryz.prog.cellsOf e = st) (rel : α → List Value → Prop)
    (elem : ∀ (cs : List Value) (f : Nat) (x : DataW H × List MemPlace), DataW.trod enc Tryz.prog w base (fun _ => true) held f e cs = some x → ∃ k, rel k cs) (h : DataW.trod enc Tryz.prog w base (fun _ => true) held fuel t cs = some x) :
    ∃ (c : Value) (xs : List α) (A : Option Addr) (cp : Nat), cs = [c] ∧ c = .slice A xs.length cp ∧ xs.length ≤ cp ∧ cp ≤ maxLen ∧ (0 < xs.length → ∃ b o, A = some ⟨b, o, none⟩ ∧ b < w.heap.size ∧ ∀ j, j < xs.length → ∃ cs, rel (xs.getD j z) cs ∧ ∀ k, k < st → w.cell? ⟨b, o + j * st + k, none⟩ = cs[k]?) := by
  rcases Deep.open_slice ht h with ⟨h0, _⟩ | ⟨a, len, cap, m, n, D, Pl, h0, _, hl, hm, hmm, _, hr⟩
  · exact ⟨_, [], none, 0, h0, rfl, by simp, by simp [maxLen], fun hp => by simp at hp⟩
  · simp only [if_true] at hmm
    subst hmm
    rw [hce] at hr
    haveI : Inhabited α := ⟨z⟩
    obtain ⟨f, hf⟩ := Deep.choose_lt (α := α) (p := fun i k => ∃ cs, rel k cs ∧ cs.length = st ∧ ∀ j, j < st → w.cell? ((a.add (i * st)).add j) = cs[j]?) (fun i hi => by
      obtain ⟨cs', h1, h2⟩ := hr i hi
      obtain ⟨k, hk⟩ := elem _ _ _ h2
      exact ⟨k, cs', hk, (World.cells?_some h1).2.1, (World.cells?_some h1).2.2⟩)
    refine ⟨_, (List.range len).map f, some a, m, h0, by simp, by simpa using hl, hm, fun hp => ?_⟩
    simp only [List.length_map, List.length_range] at hp ⊢
    obtain ⟨cs0, _, hl0, h0⟩ := hf 0 (by omega)
    have h0 := h0 0 hst
    obtain ⟨v0, hv0⟩ : ∃ v, cs0[0]? = some v := ⟨cs0[0], by simp [hl0, hst]⟩
    simp only [Nat.zero_mul] at h0
    have ha : a.add 0 = a := by simp [Addr.add]
    rw [ha, ha, hv0] at h0
    obtain ⟨b, o, sp⟩ := a
    obtain rfl : sp = none := World.cell?_spot h0
    refine ⟨b, o, rfl, World.block_lt_of_cell? _ _ h0, fun j hj => ?_⟩
    have e : ((List.range len).map f).getD j z = f j := by simp [List.getD, hj]
    rw [e]
    obtain ⟨cs, h1, _, h2⟩ := hf j (by omega)
    refine ⟨cs, h1, fun k hk => ?_⟩
    have := h2 k hk
    rw [add_eq rfl, add_eq rfl] at this
    exact this
def hpVals (k : Hp) : List Value := [.int .i64 k.c, .int .i64 k.b, .int .i64 k.e, .int .i64 k.a]
set_option maxRecDepth 100000 in
theorem trod_hp {fuel : Nat} {cs : List Value} {x : DataW H × List MemPlace} (h : DataW.trod enc Tryz.prog w base spare held fuel 136 cs = some x) : ∃ k : Hp, cs = hpVals k := by
  obtain ⟨xs, n, _, hx, hl, hlen, hg⟩ := DataW.trod_struct Tryz.underlying136 h
  rw [Tryz.cells136] at hl
  match cs, hl, xs, hlen with
  | [c0, c1, c2, c3], _, [y0, y1, y2, y3], _ =>
    have g0 := hg 0 _ rfl
    have g1 := hg 1 _ rfl
    have g2 := hg 2 _ rfl
    have g3 := hg 3 _ rfl
    simp [Tryz.cells3] at g0 g1 g2 g3
    obtain ⟨a0, e0, _⟩ := DataW.trod_int Tryz.underlying3 g0
    obtain ⟨a1, e1, _⟩ := DataW.trod_int Tryz.underlying3 g1
    obtain ⟨a2, e2, _⟩ := DataW.trod_int Tryz.underlying3 g2
    obtain ⟨a3, e3, _⟩ := DataW.trod_int Tryz.underlying3 g3
    simp at e0 e1 e2 e3
    subst e0 e1 e2 e3
    exact ⟨⟨a0, a1, a2, a3⟩, rfl⟩
def shpVals (k : Shp) : List Value := [.int .i64 k.c, .int .i64 k.a, .int .i64 k.b]
set_option maxRecDepth 100000 in
theorem trod_shp {fuel : Nat} {cs : List Value} {x : DataW H × List MemPlace} (h : DataW.trod enc Tryz.prog w base spare held fuel 138 cs = some x) : ∃ k : Shp, cs = shpVals k := by
  obtain ⟨xs, n, _, hx, hl, hlen, hg⟩ := DataW.trod_struct Tryz.underlying138 h
  rw [Tryz.cells138] at hl
  match cs, hl, xs, hlen with
  | [c0, c1, c2], _, [y0, y1, y2], _ =>
    have g0 := hg 0 _ rfl
    have g1 := hg 1 _ rfl
    have g2 := hg 2 _ rfl
    simp [Tryz.cells3] at g0 g1 g2
    obtain ⟨a0, e0, _⟩ := DataW.trod_int Tryz.underlying3 g0
    obtain ⟨a1, e1, _⟩ := DataW.trod_int Tryz.underlying3 g1
    obtain ⟨a2, e2, _⟩ := DataW.trod_int Tryz.underlying3 g2
    simp at e0 e1 e2
    subst e0 e1 e2
    exact ⟨⟨a0, a1, a2⟩, rfl⟩
def spnVals (k : Spn) : List Value := [.int .i64 k.f, .int .i64 k.t]
set_option maxRecDepth 100000 in
theorem trod_spn {fuel : Nat} {cs : List Value} {x : DataW H × List MemPlace} (h : DataW.trod enc Tryz.prog w base spare held fuel 140 cs = some x) : ∃ k : Spn, cs = spnVals k := by
  obtain ⟨xs, n, _, hx, hl, hlen, hg⟩ := DataW.trod_struct Tryz.underlying140 h
  rw [Tryz.cells140] at hl
  match cs, hl, xs, hlen with
  | [c0, c1], _, [y0, y1], _ =>
    have g0 := hg 0 _ rfl
    have g1 := hg 1 _ rfl
    simp [Tryz.cells3] at g0 g1
    obtain ⟨a0, e0, _⟩ := DataW.trod_int Tryz.underlying3 g0
    obtain ⟨a1, e1, _⟩ := DataW.trod_int Tryz.underlying3 g1
    simp at e0 e1
    subst e0 e1
    exact ⟨⟨a0, a1⟩, rfl⟩
def demVals (k : Dem) : List Value := [.int .i64 k.s, .int .i64 k.d, .int .i64 k.v, .int .i64 k.r, .int .i64 k.e]
set_option maxRecDepth 100000 in
theorem trod_dem {fuel : Nat} {cs : List Value} {x : DataW H × List MemPlace} (h : DataW.trod enc Tryz.prog w base spare held fuel 103 cs = some x) : ∃ k : Dem, cs = demVals k := by
  obtain ⟨xs, n, _, hx, hl, hlen, hg⟩ := DataW.trod_struct Tryz.underlying103 h
  rw [Tryz.cells103] at hl
  match cs, hl, xs, hlen with
  | [c0, c1, c2, c3, c4], _, [y0, y1, y2, y3, y4], _ =>
    have g0 := hg 0 _ rfl
    have g1 := hg 1 _ rfl
    have g2 := hg 2 _ rfl
    have g3 := hg 3 _ rfl
    have g4 := hg 4 _ rfl
    simp [Tryz.cells3] at g0 g1 g2 g3 g4
    obtain ⟨a0, e0, _⟩ := DataW.trod_int Tryz.underlying3 g0
    obtain ⟨a1, e1, _⟩ := DataW.trod_int Tryz.underlying3 g1
    obtain ⟨a2, e2, _⟩ := DataW.trod_int Tryz.underlying3 g2
    obtain ⟨a3, e3, _⟩ := DataW.trod_int Tryz.underlying3 g3
    obtain ⟨a4, e4, _⟩ := DataW.trod_int Tryz.underlying3 g4
    simp at e0 e1 e2 e3 e4
    subst e0 e1 e2 e3 e4
    exact ⟨⟨a0, a1, a2, a3, a4⟩, rfl⟩
set_option maxRecDepth 100000 in
theorem open_hps {cs : List Value} {fuel : Nat} {x : DataW H × List MemPlace} (h : DataW.trod enc Tryz.prog w base (fun _ => true) held fuel 39 cs = some x) : ∃ c xs, cs = [c] ∧ Hps w w.heap.size c xs := by
  obtain ⟨c, xs, A, cp, h0, h1, h2, h3, h4⟩ := open_sl (α := Hp) ⟨0, 0, 0, 0⟩ 4 (by decide) Tryz.underlying39 Tryz.cells136 (fun k cs => cs = hpVals k) (fun cs f x hx => trod_hp hx) h
  refine ⟨c, xs, h0, A, cp, h1, h2, h3, fun hp => ?_⟩
  obtain ⟨b, o, h5, h6, h7⟩ := h4 hp
  refine ⟨b, o, h5, h6, fun j hj => ?_⟩
  obtain ⟨cs, hr, hc⟩ := h7 j hj
  subst hr
  exact ⟨hc 0 (by omega), hc 1 (by omega), hc 2 (by omega), hc 3 (by omega)⟩
set_option maxRecDepth 100000 in
theorem open_shps {cs : List Value} {fuel : Nat} {x : DataW H × List MemPlace} (h : DataW.trod enc Tryz.prog w base (fun _ => true) held fuel 42 cs = some x) : ∃ c xs, cs = [c] ∧ Shps w w.heap.size c xs := by
  obtain ⟨c, xs, A, cp, h0, h1, h2, h3, h4⟩ := open_sl (α := Shp) ⟨0, 0, 0⟩ 3 (by decide) Tryz.underlying42 Tryz.cells138 (fun k cs => cs = shpVals k) (fun cs f x hx => trod_shp hx) h
  refine ⟨c, xs, h0, A, cp, h1, h2, h3, fun hp => ?_⟩
  obtain ⟨b, o, h5, h6, h7⟩ := h4 hp
  refine ⟨b, o, h5, h6, fun j hj => ?_⟩
  obtain ⟨cs, hr, hc⟩ := h7 j hj
  subst hr
  exact ⟨hc 0 (by omega), hc 1 (by omega), hc 2 (by omega)⟩
set_option maxRecDepth 100000 in
theorem open_spns {cs : List Value} {fuel : Nat} {x : DataW H × List MemPlace} (h : DataW.trod enc Tryz.prog w base (fun _ => true) held fuel 47 cs = some x) : ∃ c xs, cs = [c] ∧ Spns w w.heap.size c xs := by
  obtain ⟨c, xs, A, cp, h0, h1, h2, h3, h4⟩ := open_sl (α := Spn) ⟨0, 0⟩ 2 (by decide) Tryz.underlying47 Tryz.cells140 (fun k cs => cs = spnVals k) (fun cs f x hx => trod_spn hx) h
  refine ⟨c, xs, h0, A, cp, h1, h2, h3, fun hp => ?_⟩
  obtain ⟨b, o, h5, h6, h7⟩ := h4 hp
  refine ⟨b, o, h5, h6, fun j hj => ?_⟩
  obtain ⟨cs, hr, hc⟩ := h7 j hj
  subst hr
  exact ⟨hc 0 (by omega), hc 1 (by omega)⟩
set_option maxRecDepth 100000 in
theorem open_dems {cs : List Value} {fuel : Nat} {x : DataW H × List MemPlace} (h : DataW.trod enc Tryz.prog w base (fun _ => true) held fuel 24 cs = some x) : ∃ c xs, cs = [c] ∧ Dems w w.heap.size c xs := by
  obtain ⟨c, xs, A, cp, h0, h1, h2, h3, h4⟩ := open_sl (α := Dem) ⟨0, 0, 0, 0, 0⟩ 5 (by decide) Tryz.underlying24 Tryz.cells103 (fun k cs => cs = demVals k) (fun cs f x hx => trod_dem hx) h
  refine ⟨c, xs, h0, A, cp, h1, h2, h3, fun hp => ?_⟩
  obtain ⟨b, o, h5, h6, h7⟩ := h4 hp
  refine ⟨b, o, h5, h6, fun j hj => ?_⟩
  obtain ⟨cs, hr, hc⟩ := h7 j hj
  subst hr
  exact ⟨hc 0 (by omega), hc 1 (by omega), hc 2 (by omega), hc 3 (by omega), hc 4 (by omega)⟩
set_option maxRecDepth 100000 in
theorem open_spnss {cs : List Value} {fuel : Nat} {x : DataW H × List MemPlace} (h : DataW.trod enc Tryz.prog w base (fun _ => true) held fuel 44 cs = some x) : ∃ c xs, cs = [c] ∧ Spnss w w.heap.size c xs := by
  obtain ⟨c, xs, A, cp, h0, h1, h2, h3, h4⟩ := open_sl (α := (List Spn)) [] 1 (by decide) Tryz.underlying44 Tryz.cells47 (fun k cs => ∃ V, cs = [V] ∧ Spns w w.heap.size V k) (fun cs f x hx => by obtain ⟨c, xs, h1, h2⟩ := open_spns hx; exact ⟨xs, c, h1, h2⟩) h
  refine ⟨c, xs, h0, A, cp, h1, h2, h3, fun hp => ?_⟩
  obtain ⟨b, o, h5, h6, h7⟩ := h4 hp
  refine ⟨b, o, h5, h6, fun j hj => ?_⟩
  obtain ⟨cs, hr, hc⟩ := h7 j hj
  obtain ⟨V, rfl, hV⟩ := hr
  exact ⟨V, hc 0 (by omega), hV⟩
def tktVals (k : Tkt) (V : Value) : List Value := [.int .i64 k.n, .int .i64 k.s, .int .i64 k.d, .int .i64 k.z, .int .i64 k.r, .int .i64 k.e, .int .i64 k.p, .bool k.cu, V, .int .i64 k.st, .int .i64 k.un]
set_option maxRecDepth 100000 in
theorem trod_req {fuel : Nat} {cs : List Value} {x : DataW H × List MemPlace} (h : DataW.trod enc Tryz.prog w base spare held fuel 38 cs = some x) : ∃ (a b c d e f : Int) (g : Bool), cs = [.int .i64 a, .int .i64 b, .int .i64 c, .int .i64 d, .int .i64 e, .int .i64 f, .bool g] := by
  obtain ⟨xs, n, _, hx, hl, hlen, hg⟩ := DataW.trod_struct Tryz.underlying38 h
  rw [Tryz.cells38] at hl
  match cs, hl, xs, hlen with
  | [c0, c1, c2, c3, c4, c5, c6], _, [y0, y1, y2, y3, y4, y5, y6], _ =>
    have g0 := hg 0 _ rfl
    have g1 := hg 1 _ rfl
    have g2 := hg 2 _ rfl
    have g3 := hg 3 _ rfl
    have g4 := hg 4 _ rfl
    have g5 := hg 5 _ rfl
    have g6 := hg 6 _ rfl
    simp [Tryz.cells3, Tryz.cells4] at g0 g1 g2 g3 g4 g5 g6
    obtain ⟨a0, e0, _⟩ := DataW.trod_int Tryz.underlying3 g0
    obtain ⟨a1, e1, _⟩ := DataW.trod_int Tryz.underlying3 g1
    obtain ⟨a2, e2, _⟩ := DataW.trod_int Tryz.underlying3 g2
    obtain ⟨a3, e3, _⟩ := DataW.trod_int Tryz.underlying3 g3
    obtain ⟨a4, e4, _⟩ := DataW.trod_int Tryz.underlying3 g4
    obtain ⟨a5, e5, _⟩ := DataW.trod_int Tryz.underlying3 g5
    obtain ⟨a6, e6, _⟩ := DataW.trod_bool Tryz.underlying4 g6
    simp at e0 e1 e2 e3 e4 e5 e6
    subst e0 e1 e2 e3 e4 e5 e6
    exact ⟨_, _, _, _, _, _, _, rfl⟩
set_option maxRecDepth 100000 in
theorem trod_tkt {fuel : Nat} {cs : List Value} {x : DataW H × List MemPlace} (h : DataW.trod enc Tryz.prog w base (fun _ => true) held fuel 41 cs = some x) : ∃ k : Tkt, ∃ V, cs = tktVals k V ∧ Hps w w.heap.size V k.hs := by
  obtain ⟨xs, n, _, hx, hl, hlen, hg⟩ := DataW.trod_struct Tryz.underlying41 h
  rw [Tryz.cells41] at hl
  match cs, hl, xs, hlen with
  | [c0, c1, c2, c3, c4, c5, c6, c7, c8, c9, c10], _, [y0, y1, y2, y3, y4], _ =>
    have g0 := hg 0 _ rfl
    have g1 := hg 1 _ rfl
    have g2 := hg 2 _ rfl
    have g3 := hg 3 _ rfl
    have g4 := hg 4 _ rfl
    simp [Tryz.cells3, Tryz.cells38, Tryz.cells39] at g0 g1 g2 g3 g4
    obtain ⟨a0, e0, _⟩ := DataW.trod_int Tryz.underlying3 g0
    obtain ⟨a, b, c, d, e, f, g, e1⟩ := trod_req g1
    obtain ⟨V, hs, e2, hV⟩ := open_hps g2
    obtain ⟨a3, e3, _⟩ := DataW.trod_int Tryz.underlying3 g3
    obtain ⟨a4, e4, _⟩ := DataW.trod_int Tryz.underlying3 g4
    simp at e0 e1 e2 e3 e4
    obtain ⟨rfl, rfl, rfl, rfl, rfl, rfl, rfl⟩ := e1
    subst e0 e2 e3 e4
    exact ⟨⟨a0, a, b, c, d, e, f, g, hs, a3, a4⟩, _, rfl, hV⟩
def anwVals (k : Anw) (U V : Value) : List Value := [.bool k.ac, .int .i64 k.vo, U, V]
set_option maxRecDepth 100000 in
theorem trod_anw {fuel : Nat} {cs : List Value} {x : DataW H × List MemPlace} (h : DataW.trod enc Tryz.prog w base (fun _ => true) held fuel 46 cs = some x) : ∃ k : Anw, ∃ U V, cs = anwVals k U V ∧ Shps w w.heap.size U k.sh ∧ Spnss w w.heap.size V k.cu := by
  obtain ⟨xs, n, _, hx, hl, hlen, hg⟩ := DataW.trod_struct Tryz.underlying46 h
  rw [Tryz.cells46] at hl
  match cs, hl, xs, hlen with
  | [c0, c1, c2, c3], _, [y0, y1, y2, y3], _ =>
    have g0 := hg 0 _ rfl
    have g1 := hg 1 _ rfl
    have g2 := hg 2 _ rfl
    have g3 := hg 3 _ rfl
    simp [Tryz.cells3, Tryz.cells4, Tryz.cells42, Tryz.cells44] at g0 g1 g2 g3
    obtain ⟨a0, e0, _⟩ := DataW.trod_bool Tryz.underlying4 g0
    obtain ⟨a1, e1, _⟩ := DataW.trod_int Tryz.underlying3 g1
    obtain ⟨U, sh, e2, hU⟩ := open_shps g2
    obtain ⟨V, cu, e3, hV⟩ := open_spnss g3
    simp at e0 e1 e2 e3
    subst e0 e1 e2 e3
    exact ⟨⟨a0, a1, sh, cu⟩, _, _, rfl, hU, hV⟩
set_option maxRecDepth 100000 in
theorem open_tkts {cs : List Value} {fuel : Nat} {x : DataW H × List MemPlace} (h : DataW.trod enc Tryz.prog w base (fun _ => true) held fuel 22 cs = some x) : ∃ c xs, cs = [c] ∧ Tkts w w.heap.size c xs := by
  obtain ⟨c, xs, A, cp, h0, h1, h2, h3, h4⟩ := open_sl (α := Tkt) ⟨0, 0, 0, 0, 0, 0, 0, false, [], 0, 0⟩ 11 (by decide) Tryz.underlying22 Tryz.cells41 (fun k cs => ∃ V, cs = tktVals k V ∧ Hps w w.heap.size V k.hs) (fun cs f x hx => trod_tkt hx) h
  refine ⟨c, xs, h0, A, cp, h1, h2, h3, fun hp => ?_⟩
  obtain ⟨b, o, h5, h6, h7⟩ := h4 hp
  refine ⟨b, o, h5, h6, fun j hj => ?_⟩
  obtain ⟨cs, hr, hc⟩ := h7 j hj
  obtain ⟨V, rfl, hV⟩ := hr
  exact ⟨hc 0 (by omega), hc 1 (by omega), hc 2 (by omega), hc 3 (by omega), hc 4 (by omega), hc 5 (by omega), hc 6 (by omega), hc 7 (by omega), ⟨V, hc 8 (by omega), hV⟩, hc 9 (by omega), hc 10 (by omega)⟩
set_option maxRecDepth 100000 in
theorem open_anws {cs : List Value} {fuel : Nat} {x : DataW H × List MemPlace} (h : DataW.trod enc Tryz.prog w base (fun _ => true) held fuel 23 cs = some x) : ∃ c xs, cs = [c] ∧ Anws w w.heap.size c xs := by
  obtain ⟨c, xs, A, cp, h0, h1, h2, h3, h4⟩ := open_sl (α := Anw) ⟨false, 0, [], []⟩ 4 (by decide) Tryz.underlying23 Tryz.cells46 (fun k cs => ∃ U V, cs = anwVals k U V ∧ Shps w w.heap.size U k.sh ∧ Spnss w w.heap.size V k.cu) (fun cs f x hx => trod_anw hx) h
  refine ⟨c, xs, h0, A, cp, h1, h2, h3, fun hp => ?_⟩
  obtain ⟨b, o, h5, h6, h7⟩ := h4 hp
  refine ⟨b, o, h5, h6, fun j hj => ?_⟩
  obtain ⟨cs, hr, hc⟩ := h7 j hj
  obtain ⟨U, V, rfl, hU, hV⟩ := hr
  exact ⟨hc 0 (by omega), hc 1 (by omega), ⟨U, hc 2 (by omega), hU⟩, ⟨V, hc 3 (by omega), hV⟩⟩
set_option maxRecDepth 100000 in
theorem open_arc {r : Reach} {b0 : Nat} {v : Value} {d : DataW H} {p : List MemPlace} (hv : Value.okWide Tryz.prog w r b0 26 v) (h : DataW.Trod enc Tryz.prog w base (fun _ => true) held 26 v d p) :
    ∃ (VT VA VD : Value) (a : Arc), v = .agg #[.string a.ms, .string a.lg, VT, VA, VD] ∧ ArcAt w w.heap.size VT VA VD a := by
  obtain ⟨cs, rfl, hsz⟩ := okWide_struct Tryz.underlying26 hv
  obtain ⟨cl⟩ := cs
  match cl, hsz.trans Tryz.cells26 with
  | [c0, c1, c2, c3, c4], _ =>
    obtain ⟨fuel, hf⟩ := h
    obtain ⟨xs, n, _, hx, _, hlen, hg⟩ := DataW.trod_struct Tryz.underlying26 (show DataW.trod enc Tryz.prog w base (fun _ => true) held fuel 26 [c0, c1, c2, c3, c4] = _ by simpa [Value.cells] using hf)
    match xs, hlen with
    | [y0, y1, y2, y3, y4], _ =>
      have g0 := hg 0 _ rfl
      have g1 := hg 1 _ rfl
      have g2 := hg 2 _ rfl
      have g3 := hg 3 _ rfl
      have g4 := hg 4 _ rfl
      simp [Tryz.cells9, Tryz.cells22, Tryz.cells23, Tryz.cells24] at g0 g1 g2 g3 g4
      obtain ⟨ms, e0, _⟩ := DataW.trod_string Tryz.underlying9 g0
      obtain ⟨lg, e1, _⟩ := DataW.trod_string Tryz.underlying9 g1
      obtain ⟨VT, tk, e2, hT⟩ := open_tkts g2
      obtain ⟨VA, an, e3, hA⟩ := open_anws g3
      obtain ⟨VD, dm, e4, hD⟩ := open_dems g4
      simp at e0 e1 e2 e3 e4
      subst e0 e1 e2 e3 e4
      exact ⟨_, _, _, ⟨ms, lg, tk, an, dm⟩, rfl, hT, hA, hD⟩
end
end Go.Proofs.YtfafhdganloipaaGreatDoor

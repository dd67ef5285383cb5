/- How lists of metrics are opened. -/
import Derived.Test.YtpcbccpobhdokaaGreatDoorA1
import Derived.ProofKit
import Derived.OpenShut
import Derived.LaidMore
import Derived.Lay
import Derived.Deep.Matrix
import Derived.Deep.Slices
set_option linter.unusedSimpArgs false
set_option linter.unusedVariables false
set_option linter.all false
namespace Go.Proofs.YtpcbccpobhdokaaGreatDoor
open Go.ChangeShapes Go.WideShapes Go.ChangeAt Go.RowKit
section
variable {H : Type} {enc : TypeId × Value → H} {w : World} {base : Nat} {spare : Nat → Bool} {held : Bool}
theorem Tryz.cells3 : Tryz.prog.cellsOf 3 = 1 := by kernel_rfl
theorem Tryz.cells9 : Tryz.prog.cellsOf 9 = 1 := by kernel_rfl
theorem Tryz.cells30 : Tryz.prog.cellsOf 30 = 2 := by kernel_rfl
theorem Tryz.cells37 : Tryz.prog.cellsOf 37 = 4 := by kernel_rfl
theorem add_eq {a : Addr} {b o : Nat} (h : a = ⟨b, o, none⟩) (n : Nat) : a.add n = ⟨b, o + n, none⟩ := by subst h; unfold Addr.add; split <;> simp_all
set_option maxRecDepth 100000 in
/-- a slice whose elements read as something -/
theorem open_sl {α : Type} (z : α) (st : Nat) (hst : 0 < st) {t e : TypeId} {cs : List Value} {fuel : Nat} {x : DataW H × List MemPlace} (ht : Tryz.prog.underlying t = some (.slice e)) (hce : Tryz.prog.cellsOf e = st) (rel : α → List Value → Prop)
    (elem : ∀ (cs : List Value) (f : Nat) (x : DataW H × List MemPlace), DataW.trod enc Tryz.prog w base (fun _ => true) held f e cs = some x → ∃ k, rel k cs) (h : DataW.trod enc Tryz.prog w base (fun _ => true) held fuel t cs = some x) :
    ∃ (c : Value) (xs : List α) (A : Option Addr) (cp : Nat), cs = [c] ∧ c = .slice A xs.length cp ∧ xs.length ≤ cp ∧ cp ≤ maxLen ∧ (0 < xs.length → ∃ b o, A = some ⟨b, o, none⟩ ∧ b < w.heap.size ∧ ∀ j, j < xs.length → ∃ cs, rel (xs.getD j z) cs ∧ ∀ k, k < st → w.cell? ⟨b, o + j * st + k, none⟩ = cs[k]?) := by
  rcases Deep.open_slice ht h with ⟨h0, _⟩ | ⟨a, len, cap, m, n, D, Pl, h0, _, hl, hm, hmm, _, hr⟩
  · exact ⟨_, [], none, 0, h0, rfl, by simp, by simp [maxLen], fun hp => by simp at hp⟩
  · simp only [if_true] at hmm
    subst hmm
    rw [hce] at hr
    haveI : Inhabited α := ⟨z⟩
    obtain ⟨f, hf⟩ := Deep.choose_lt (α := α) (p := fun i k => ∃ cs, rel k cs ∧ cs.length = st ∧ ∀ j, j < st → w.cell? ((a.add (i * st)).add j) = cs[j]?) (fun i hi => by
      obtain ⟨cs', h1, h2⟩ := hr i hi
      obtain ⟨k, hk⟩ := elem _ _ _ h2
      exact ⟨k, cs', hk, (World.cells?_some h1).2.1, (World.cells?_some h1).2.2⟩)
    refine ⟨_, (List.range len).map f, some a, m, h0, by simp, by simpa using hl, hm, fun hp => ?_⟩
    simp only [List.length_map, List.length_range] at hp ⊢
    obtain ⟨cs0, _, hl0, h0⟩ := hf 0 (by omega)
    have h0 := h0 0 hst
    obtain ⟨v0, hv0⟩ : ∃ v, cs0[0]? = some v := ⟨cs0[0], by simp [hl0, hst]⟩
    simp only [Nat.zero_mul] at h0
    have ha : a.add 0 = a := by simp [Addr.add]
    rw [ha, ha, hv0] at h0
    obtain ⟨b, o, sp⟩ := a
    obtain rfl : sp = none := World.cell?_spot h0
    refine ⟨b, o, rfl, World.block_lt_of_cell? _ _ h0, fun j hj => ?_⟩
    have e : ((List.range len).map f).getD j z = f j := by simp [List.getD, hj]
    rw [e]
    obtain ⟨cs, h1, _, h2⟩ := hf j (by omega)
    refine ⟨cs, h1, fun k hk => ?_⟩
    have := h2 k hk
    rw [add_eq rfl, add_eq rfl] at this
    exact this
set_option maxRecDepth 100000 in
theorem trod_rat {fuel : Nat} {cs : List Value} {x : DataW H × List MemPlace} (h : DataW.trod enc Tryz.prog w base spare held fuel 30 cs = some x) : ∃ (a b : Int), cs = [.int .i64 a, .int .i64 b] := by
  obtain ⟨xs, n, _, hx, hl, hlen, hg⟩ := DataW.trod_struct Tryz.underlying30 h
  rw [Tryz.cells30] at hl
  match cs, hl, xs, hlen with
  | [c0, c1], _, [y0, y1], _ =>
    have g0 := hg 0 _ rfl
    have g1 := hg 1 _ rfl
    simp [Tryz.cells3] at g0 g1
    obtain ⟨a0, e0, _⟩ := DataW.trod_int Tryz.underlying3 g0
    obtain ⟨a1, e1, _⟩ := DataW.trod_int Tryz.underlying3 g1
    simp at e0 e1
    subst e0 e1
    exact ⟨a0, a1, rfl⟩
set_option maxRecDepth 100000 in
theorem trod_met {fuel : Nat} {cs : List Value} {x : DataW H × List MemPlace} (h : DataW.trod enc Tryz.prog w base spare held fuel 37 cs = some x) : ∃ k : Met, cs = metVals k := by
  obtain ⟨xs, n, _, hx, hl, hlen, hg⟩ := DataW.trod_struct Tryz.underlying37 h
  rw [Tryz.cells37] at hl
  match cs, hl, xs, hlen with
  | [c0, c1, c2, c3], _, [y0, y1, y2], _ =>
    have g0 := hg 0 _ rfl
    have g1 := hg 1 _ rfl
    have g2 := hg 2 _ rfl
    simp [Tryz.cells3, Tryz.cells9, Tryz.cells30] at g0 g1 g2
    obtain ⟨a0, e0, _⟩ := DataW.trod_string Tryz.underlying9 g0
    obtain ⟨a1, e1, _⟩ := DataW.trod_int Tryz.underlying3 g1
    obtain ⟨a, b, e2⟩ := trod_rat g2
    simp at e0 e1 e2
    obtain ⟨rfl, rfl⟩ := e2
    subst e0 e1
    exact ⟨⟨a0, a1, a, b⟩, rfl⟩
set_option maxRecDepth 100000 in
theorem open_mets_cs {cs : List Value} {fuel : Nat} {x : DataW H × List MemPlace} (h : DataW.trod enc Tryz.prog w base (fun _ => true) held fuel 22 cs = some x) : ∃ c xs, cs = [c] ∧ Mets w w.heap.size c xs := by
  obtain ⟨c, xs, A, cp, h0, h1, h2, h3, h4⟩ := open_sl (α := Met) mz 4 (by decide) Tryz.underlying22 Tryz.cells37 (fun k cs => cs = metVals k) (fun cs f x hx => trod_met hx) h
  refine ⟨c, xs, h0, A, cp, h1, h2, h3, fun hp => ?_⟩
  obtain ⟨b, o, h5, h6, h7⟩ := h4 hp
  refine ⟨b, o, h5, h6, fun j hj => ?_⟩
  obtain ⟨cs, hr, hc⟩ := h7 j hj
  subst hr
  exact ⟨hc 0 (by omega), hc 1 (by omega), hc 2 (by omega), hc 3 (by omega)⟩
set_option maxRecDepth 100000 in
theorem open_mets {r : Reach} {b0 : Nat} {v : Value} {d : DataW H} {p : List MemPlace} (hv : Value.okWide Tryz.prog w r b0 22 v) (h : DataW.Trod enc Tryz.prog w base (fun _ => true) held 22 v d p) : ∃ xs, Mets w w.heap.size v xs := by
  obtain ⟨A, l, c, rfl⟩ := okWide_slice Tryz.underlying22 hv
  obtain ⟨fuel, hf⟩ := h
  obtain ⟨c', xs, h1, h2⟩ := open_mets_cs (show DataW.trod enc Tryz.prog w base (fun _ => true) held fuel 22 [.slice A l c] = _ by simpa [Value.cells] using hf)
  obtain rfl := (List.cons.inj h1).1
  exact ⟨xs, h2⟩
end
end Go.Proofs.YtpcbccpobhdokaaGreatDoor

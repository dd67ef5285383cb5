/- What the texts of this seat stand on: slices in memory. -/
import Derived.Test.YthlfhfliidhelaaGreatDoorProg
import Derived.WalkKit
import Derived.WalkSpells
import Derived.WalkLawsBesides
import Derived.Handy
import Derived.IntWalk
import Derived.Deep.QuietTactic
import Derived.BigQuiet
import Derived.Deep.RegionHeld3
import Derived.Deep.DeepCutAuto
import Derived.Deep.AppendLies
import Derived.Maps.AppendAt
import Derived.Laws.OwnMore
import Derived.OwnWalk
import Derived.Lib.Hide
import Derived.StillTailTactics
import Derived.Laws.BitsAll
set_option linter.unusedSimpArgs false
set_option linter.unusedVariables false
set_option linter.all false
namespace Go.Proofs.YthlfhfliidhelaaGreatDoor
open Go.RowKit
theorem below_drewN {B : Nat} {a w : World} (h : Below B a w) (n : Nat) : Below B a (w.drewN n) := ⟨h.os, h.tape, h.output, h.size, h.block⟩
theorem bc {B : Nat} {W w1 : World} (hb : Below W.heap.size W w1) (h : B ≤ W.heap.size) : ∀ b o, b < B → w1.cell? ⟨b, o, none⟩ = W.cell? ⟨b, o, none⟩ :=
  fun b o hlt => hb.cell (p := ⟨b, o, none⟩) (show b < W.heap.size by omega)
theorem bf {B : Nat} {W w1 : World} (hb : Below W.heap.size W w1) (h : B ≤ W.heap.size) : ∀ b o, b < B → w1.frozen? ⟨b, o, none⟩ = W.frozen? ⟨b, o, none⟩ :=
  fun b o hlt => hb.frozen (p := ⟨b, o, none⟩) (show b < W.heap.size by omega)
theorem bm {W0 w' : World} {B : Nat} (h : Below W0.heap.size W0 w') (hb : B ≤ W0.heap.size) : Below B W0 w' := h.mono hb
theorem bt {W0 w1 w2 : World} (h : Below W0.heap.size W0 w1) (k : Below w1.heap.size w1 w2) : Below W0.heap.size W0 w2 := h.trans (k.mono h.size)
theorem bt' {B : Nat} {W0 w1 w2 : World} (h : Below B W0 w1) (k : Below w1.heap.size w1 w2) (hB : B ≤ w1.heap.size) : Below B W0 w2 := h.trans (k.mono hB)
def Ints (w : World) (B : Nat) (v : Value) (xs : List Int) : Prop :=
  ∃ A c, v = .slice A xs.length c ∧ xs.length ≤ c ∧ c ≤ maxLen ∧ (0 < xs.length → ∃ b o, A = some ⟨b, o, none⟩ ∧ b < B ∧ ∀ j, j < xs.length → w.cell? ⟨b, o + j, none⟩ = some (.int .i64 (xs.getD j 0)))
theorem Ints.below {w w' : World} {B : Nat} {v : Value} {xs : List Int} (h : Ints w B v xs) (hb : Below B w w') : Ints w' B v xs := by
  obtain ⟨A, c, e, h1, h2, h3⟩ := h
  refine ⟨A, c, e, h1, h2, fun hp => ?_⟩
  obtain ⟨b, o, e1, h4, h5⟩ := h3 hp
  exact ⟨b, o, e1, h4, fun j hj => (hb.cell (p := ⟨b, o + j, none⟩) h4).trans (h5 j hj)⟩
theorem Ints.more {w : World} {B B' : Nat} {v : Value} {xs : List Int} (h : Ints w B v xs) (hB : B ≤ B') : Ints w B' v xs := by
  obtain ⟨A, c, e, h1, h2, h3⟩ := h
  refine ⟨A, c, e, h1, h2, fun hp => ?_⟩
  obtain ⟨b, o, e1, h4, h5⟩ := h3 hp
  exact ⟨b, o, e1, by omega, h5⟩
theorem ints_nil (w : World) (B : Nat) : Ints w B (.slice none 0 0) [] := ⟨none, 0, rfl, by simp, by simp [maxLen], fun h => by simp at h⟩
def Sl {α : Type} (At : World → Nat → Nat → Nat → α → Prop) (z : α) (st : Nat) (w : World) (B : Nat) (v : Value) (xs : List α) : Prop :=
  ∃ A c, v = .slice A xs.length c ∧ xs.length ≤ c ∧ c ≤ maxLen ∧ (0 < xs.length → ∃ b o, A = some ⟨b, o, none⟩ ∧ b < B ∧ ∀ j, j < xs.length → At w B b (o + j * st) (xs.getD j z))
theorem Sl.map {α : Type} {At : World → Nat → Nat → Nat → α → Prop} {z : α} {st : Nat} {w w' : World} {B B' : Nat} {v : Value} {xs : List α} (h : Sl At z st w B v xs) (hB : B ≤ B') (hA : ∀ b o x, b < B → At w B b o x → At w' B' b o x) : Sl At z st w' B' v xs := by
  obtain ⟨A, c, e, h1, h2, h3⟩ := h
  refine ⟨A, c, e, h1, h2, fun hp => ?_⟩
  obtain ⟨b, o, e1, h4, h5⟩ := h3 hp
  exact ⟨b, o, e1, Nat.lt_of_lt_of_le h4 hB, fun j hj => hA b _ _ h4 (h5 j hj)⟩
theorem Sl.nil {α : Type} (At : World → Nat → Nat → Nat → α → Prop) (z : α) (st : Nat) (w : World) (B : Nat) : Sl At z st w B (.slice none 0 0) [] := ⟨none, 0, rfl, by simp, by simp [maxLen], fun h => by simp at h⟩
theorem Sl.take {α : Type} {At : World → Nat → Nat → Nat → α → Prop} {z : α} {st : Nat} {w : World} {B : Nat} {A : Option Addr} {c : Nat} {xs : List α} (h : Sl At z st w B (.slice A xs.length c) xs) (k : Nat) (hk : k ≤ xs.length) : Sl At z st w B (.slice A k c) (xs.take k) := by
  obtain ⟨A', c', e, h1, h2, h3⟩ := h
  simp only [Value.slice.injEq, true_and] at e
  obtain ⟨rfl, rfl⟩ := e
  have hl : (xs.take k).length = k := by rw [List.length_take]; omega
  refine ⟨A, c, by rw [hl], by omega, h2, fun hp => ?_⟩
  obtain ⟨b, o, e1, h4, h5⟩ := h3 (by omega)
  refine ⟨b, o, e1, h4, fun j hj => ?_⟩
  have e : (xs.take k).getD j z = xs.getD j z := by simp [List.getD, show j < k by omega]
  rw [e]
  exact h5 j (by omega)
theorem drop_get {α : Type} (l : List α) (z : α) (k : Nat) (h : k < l.length) : l.drop k = l.getD k z :: l.drop (k + 1) := by
  rw [List.drop_eq_getElem_cons h]; simp [List.getD, h]
theorem take_get {α : Type} (l : List α) (z : α) (k : Nat) (h : k < l.length) : l.take (k + 1) = l.take k ++ [l.getD k z] := by
  rw [List.take_succ_eq_append_getElem h]; simp [List.getD, h]
theorem wrap_s {n : Int} (h0 : 0 ≤ n) (h : n ≤ 9223372036854775807) : IntKind.i64.wrap n = n := by
  have h1 : n % 18446744073709551616 = n := Int.emod_eq_of_lt h0 (by omega)
  show (if (true && decide (n % 18446744073709551616 ≥ 9223372036854775808)) = true then n % 18446744073709551616 - 18446744073709551616 else n % 18446744073709551616) = n
  rw [h1, if_neg (by simp; omega)]
end Go.Proofs.YthlfhfliidhelaaGreatDoor
namespace Go.Proofs.YthlfhfliidhelaaGreatDoor
open Go.RowKit
structure Hp where
  c : Int
  b : Int
  e : Int
  a : Int
structure Spn where
  f : Int
  t : Int
structure Shp where
  c : Int
  a : Int
  b : Int
structure Dem where
  s : Int
  d : Int
  v : Int
  r : Int
  e : Int
structure Tkt where
  n : Int
  s : Int
  d : Int
  z : Int
  r : Int
  e : Int
  p : Int
  cu : Bool
  hs : List Hp
  st : Int
  un : Int
structure Anw where
  ac : Bool
  vo : Int
  sh : List Shp
  cu : List (List Spn)
structure Arc where
  ms : ByteArray
  lg : ByteArray
  tk : List Tkt
  an : List Anw
  dm : List Dem
def HpAt (w : World) (_ b o : Nat) (x : Hp) : Prop :=
  w.cell? ⟨b, o, none⟩ = some (.int .i64 x.c) ∧ w.cell? ⟨b, o + 1, none⟩ = some (.int .i64 x.b) ∧ w.cell? ⟨b, o + 2, none⟩ = some (.int .i64 x.e) ∧ w.cell? ⟨b, o + 3, none⟩ = some (.int .i64 x.a)
def SpnAt (w : World) (_ b o : Nat) (x : Spn) : Prop := w.cell? ⟨b, o, none⟩ = some (.int .i64 x.f) ∧ w.cell? ⟨b, o + 1, none⟩ = some (.int .i64 x.t)
def ShpAt (w : World) (_ b o : Nat) (x : Shp) : Prop := w.cell? ⟨b, o, none⟩ = some (.int .i64 x.c) ∧ w.cell? ⟨b, o + 1, none⟩ = some (.int .i64 x.a) ∧ w.cell? ⟨b, o + 2, none⟩ = some (.int .i64 x.b)
def DemAt (w : World) (_ b o : Nat) (x : Dem) : Prop :=
  w.cell? ⟨b, o, none⟩ = some (.int .i64 x.s) ∧ w.cell? ⟨b, o + 1, none⟩ = some (.int .i64 x.d) ∧ w.cell? ⟨b, o + 2, none⟩ = some (.int .i64 x.v) ∧ w.cell? ⟨b, o + 3, none⟩ = some (.int .i64 x.r) ∧ w.cell? ⟨b, o + 4, none⟩ = some (.int .i64 x.e)
def Hps := Sl HpAt ⟨0, 0, 0, 0⟩ 4
def Spns := Sl SpnAt ⟨0, 0⟩ 2
def Shps := Sl ShpAt ⟨0, 0, 0⟩ 3
def Dems := Sl DemAt ⟨0, 0, 0, 0, 0⟩ 5
def Spnss := Sl (fun w B b o (x : List Spn) => ∃ V, w.cell? ⟨b, o, none⟩ = some V ∧ Spns w B V x) [] 1
def TktAt (w : World) (B b o : Nat) (x : Tkt) : Prop :=
  w.cell? ⟨b, o, none⟩ = some (.int .i64 x.n) ∧ w.cell? ⟨b, o + 1, none⟩ = some (.int .i64 x.s) ∧ w.cell? ⟨b, o + 2, none⟩ = some (.int .i64 x.d) ∧ w.cell? ⟨b, o + 3, none⟩ = some (.int .i64 x.z) ∧ w.cell? ⟨b, o + 4, none⟩ = some (.int .i64 x.r) ∧
  w.cell? ⟨b, o + 5, none⟩ = some (.int .i64 x.e) ∧ w.cell? ⟨b, o + 6, none⟩ = some (.int .i64 x.p) ∧ w.cell? ⟨b, o + 7, none⟩ = some (.bool x.cu) ∧ (∃ V, w.cell? ⟨b, o + 8, none⟩ = some V ∧ Hps w B V x.hs) ∧
  w.cell? ⟨b, o + 9, none⟩ = some (.int .i64 x.st) ∧ w.cell? ⟨b, o + 10, none⟩ = some (.int .i64 x.un)
def AnwAt (w : World) (B b o : Nat) (x : Anw) : Prop :=
  w.cell? ⟨b, o, none⟩ = some (.bool x.ac) ∧ w.cell? ⟨b, o + 1, none⟩ = some (.int .i64 x.vo) ∧ (∃ V, w.cell? ⟨b, o + 2, none⟩ = some V ∧ Shps w B V x.sh) ∧ (∃ V, w.cell? ⟨b, o + 3, none⟩ = some V ∧ Spnss w B V x.cu)
def Tkts := Sl TktAt ⟨0, 0, 0, 0, 0, 0, 0, false, [], 0, 0⟩ 11
def Anws := Sl AnwAt ⟨false, 0, [], []⟩ 4
structure ArcAt (w : World) (B : Nat) (VT VA VD : Value) (a : Arc) : Prop where
  tk : Tkts w B VT a.tk
  an : Anws w B VA a.an
  dm : Dems w B VD a.dm
section
variable {w w' : World} {B b o : Nat} {V : Value}
theorem hpAt_below {x : Hp} (hb : Below B w w') (h : b < B) (k : HpAt w B b o x) : HpAt w' B b o x := by
  have e : ∀ o, w'.cell? ⟨b, o, none⟩ = w.cell? ⟨b, o, none⟩ := fun o => hb.cell (p := ⟨b, o, none⟩) h
  obtain ⟨h0, h1, h2, h3⟩ := k
  exact ⟨(e _).trans h0, (e _).trans h1, (e _).trans h2, (e _).trans h3⟩
theorem spnAt_below {x : Spn} (hb : Below B w w') (h : b < B) (k : SpnAt w B b o x) : SpnAt w' B b o x := by
  have e : ∀ o, w'.cell? ⟨b, o, none⟩ = w.cell? ⟨b, o, none⟩ := fun o => hb.cell (p := ⟨b, o, none⟩) h
  obtain ⟨h0, h1⟩ := k
  exact ⟨(e _).trans h0, (e _).trans h1⟩
theorem shpAt_below {x : Shp} (hb : Below B w w') (h : b < B) (k : ShpAt w B b o x) : ShpAt w' B b o x := by
  have e : ∀ o, w'.cell? ⟨b, o, none⟩ = w.cell? ⟨b, o, none⟩ := fun o => hb.cell (p := ⟨b, o, none⟩) h
  obtain ⟨h0, h1, h2⟩ := k
  exact ⟨(e _).trans h0, (e _).trans h1, (e _).trans h2⟩
theorem demAt_below {x : Dem} (hb : Below B w w') (h : b < B) (k : DemAt w B b o x) : DemAt w' B b o x := by
  have e : ∀ o, w'.cell? ⟨b, o, none⟩ = w.cell? ⟨b, o, none⟩ := fun o => hb.cell (p := ⟨b, o, none⟩) h
  obtain ⟨h0, h1, h2, h3, h4⟩ := k
  exact ⟨(e _).trans h0, (e _).trans h1, (e _).trans h2, (e _).trans h3, (e _).trans h4⟩
theorem hps_below {x : List Hp} (hb : Below B w w') (k : Hps w B V x) : Hps w' B V x := k.map (Nat.le_refl _) fun _ _ _ h => hpAt_below hb h
theorem spns_below {x : List Spn} (hb : Below B w w') (k : Spns w B V x) : Spns w' B V x := k.map (Nat.le_refl _) fun _ _ _ h => spnAt_below hb h
theorem shps_below {x : List Shp} (hb : Below B w w') (k : Shps w B V x) : Shps w' B V x := k.map (Nat.le_refl _) fun _ _ _ h => shpAt_below hb h
theorem dems_below {x : List Dem} (hb : Below B w w') (k : Dems w B V x) : Dems w' B V x := k.map (Nat.le_refl _) fun _ _ _ h => demAt_below hb h
theorem spnss_below {x : List (List Spn)} (hb : Below B w w') (k : Spnss w B V x) : Spnss w' B V x :=
  k.map (Nat.le_refl _) fun b o _ h ⟨U, h1, h2⟩ => ⟨U, (hb.cell (p := ⟨b, o, none⟩) h).trans h1, spns_below hb h2⟩
theorem tktAt_below {x : Tkt} (hb : Below B w w') (h : b < B) (k : TktAt w B b o x) : TktAt w' B b o x := by
  have e : ∀ o, w'.cell? ⟨b, o, none⟩ = w.cell? ⟨b, o, none⟩ := fun o => hb.cell (p := ⟨b, o, none⟩) h
  obtain ⟨h0, h1, h2, h3, h4, h5, h6, h7, ⟨U, h8, hU⟩, h9, h10⟩ := k
  exact ⟨(e _).trans h0, (e _).trans h1, (e _).trans h2, (e _).trans h3, (e _).trans h4, (e _).trans h5, (e _).trans h6, (e _).trans h7, ⟨U, (e _).trans h8, hps_below hb hU⟩, (e _).trans h9, (e _).trans h10⟩
theorem anwAt_below {x : Anw} (hb : Below B w w') (h : b < B) (k : AnwAt w B b o x) : AnwAt w' B b o x := by
  have e : ∀ o, w'.cell? ⟨b, o, none⟩ = w.cell? ⟨b, o, none⟩ := fun o => hb.cell (p := ⟨b, o, none⟩) h
  obtain ⟨h0, h1, ⟨U, h2, hU⟩, ⟨U', h3, hU'⟩⟩ := k
  exact ⟨(e _).trans h0, (e _).trans h1, ⟨U, (e _).trans h2, shps_below hb hU⟩, ⟨U', (e _).trans h3, spnss_below hb hU'⟩⟩
theorem ArcAt.below {VT VA VD : Value} {a : Arc} (hb : Below B w w') (k : ArcAt w B VT VA VD a) : ArcAt w' B VT VA VD a :=
  ⟨k.tk.map (Nat.le_refl _) fun _ _ _ h => tktAt_below hb h, k.an.map (Nat.le_refl _) fun _ _ _ h => anwAt_below hb h, dems_below hb k.dm⟩
theorem ArcAt.more {VT VA VD : Value} {a : Arc} {B' : Nat} (hB : B ≤ B') (k : ArcAt w B VT VA VD a) : ArcAt w B' VT VA VD a :=
  ⟨k.tk.map hB fun _ _ _ _ ⟨h0, h1, h2, h3, h4, h5, h6, h7, ⟨U, h8, hU⟩, h9, h10⟩ => ⟨h0, h1, h2, h3, h4, h5, h6, h7, ⟨U, h8, hU.map hB fun _ _ _ _ h => h⟩, h9, h10⟩,
   k.an.map hB fun _ _ _ _ ⟨h0, h1, ⟨U, h2, hU⟩, ⟨U', h3, hU'⟩⟩ => ⟨h0, h1, ⟨U, h2, hU.map hB fun _ _ _ _ h => h⟩, ⟨U', h3, hU'.map hB fun _ _ _ _ ⟨X, x1, x2⟩ => ⟨X, x1, x2.map hB fun _ _ _ _ h => h⟩⟩⟩,
   k.dm.map hB fun _ _ _ _ h => h⟩
end
end Go.Proofs.YthlfhfliidhelaaGreatDoor

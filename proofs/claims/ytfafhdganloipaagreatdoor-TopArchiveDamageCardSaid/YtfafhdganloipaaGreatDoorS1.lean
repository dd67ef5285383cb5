/- Archives in memory. -/
import Derived.Test.YtfafhdganloipaaGreatDoorY0
namespace Go.Proofs.YtfafhdganloipaaGreatDoor
open Go.RowKit
structure Hp where
  c : Int
  b : Int
  e : Int
  a : Int
structure Spn where
  f : Int
  t : Int
structure Shp where
  c : Int
  a : Int
  b : Int
structure Dem where
  s : Int
  d : Int
  v : Int
  r : Int
  e : Int
structure Tkt where
  n : Int
  s : Int
  d : Int
  z : Int
  r : Int
  e : Int
  p : Int
  cu : Bool
  hs : List Hp
  st : Int
  un : Int
structure Anw where
  ac : Bool
  vo : Int
  sh : List Shp
  cu : List (List Spn)
structure Arc where
  ms : ByteArray
  lg : ByteArray
  tk : List Tkt
  an : List Anw
  dm : List Dem
def HpAt (w : World) (_ b o : Nat) (x : Hp) : Prop :=
  w.cell? ⟨b, o, none⟩ = some (.int .i64 x.c) ∧ w.cell? ⟨b, o + 1, none⟩ = some (.int .i64 x.b) ∧ w.cell? ⟨b, o + 2, none⟩ = some (.int .i64 x.e) ∧ w.cell? ⟨b, o + 3, none⟩ = some (.int .i64 x.a)
def SpnAt (w : World) (_ b o : Nat) (x : Spn) : Prop := w.cell? ⟨b, o, none⟩ = some (.int .i64 x.f) ∧ w.cell? ⟨b, o + 1, none⟩ = some (.int .i64 x.t)
def ShpAt (w : World) (_ b o : Nat) (x : Shp) : Prop := w.cell? ⟨b, o, none⟩ = some (.int .i64 x.c) ∧ w.cell? ⟨b, o + 1, none⟩ = some (.int .i64 x.a) ∧ w.cell? ⟨b, o + 2, none⟩ = some (.int .i64 x.b)
def DemAt (w : World) (_ b o : Nat) (x : Dem) : Prop :=
  w.cell? ⟨b, o, none⟩ = some (.int .i64 x.s) ∧ w.cell? ⟨b, o + 1, none⟩ = some (.int .i64 x.d) ∧ w.cell? ⟨b, o + 2, none⟩ = some (.int .i64 x.v) ∧ w.cell? ⟨b, o + 3, none⟩ = some (.int .i64 x.r) ∧ w.cell? ⟨b, o + 4, none⟩ = some (.int .i64 x.e)
def Hps := Sl HpAt ⟨0, 0, 0, 0⟩ 4
def Spns := Sl SpnAt ⟨0, 0⟩ 2
def Shps := Sl ShpAt ⟨0, 0, 0⟩ 3
def Dems := Sl DemAt ⟨0, 0, 0, 0, 0⟩ 5
def Spnss := Sl (fun w B b o (x : List Spn) => ∃ V, w.cell? ⟨b, o, none⟩ = some V ∧ Spns w B V x) [] 1
def TktAt (w : World) (B b o : Nat) (x : Tkt) : Prop :=
  w.cell? ⟨b, o, none⟩ = some (.int .i64 x.n) ∧ w.cell? ⟨b, o + 1, none⟩ = some (.int .i64 x.s) ∧ w.cell? ⟨b, o + 2, none⟩ = some (.int .i64 x.d) ∧ w.cell? ⟨b, o + 3, none⟩ = some (.int .i64 x.z) ∧ w.cell? ⟨b, o + 4, none⟩ = some (.int .i64 x.r) ∧
  w.cell? ⟨b, o + 5, none⟩ = some (.int .i64 x.e) ∧ w.cell? ⟨b, o + 6, none⟩ = some (.int .i64 x.p) ∧ w.cell? ⟨b, o + 7, none⟩ = some (.bool x.cu) ∧ (∃ V, w.cell? ⟨b, o + 8, none⟩ = some V ∧ Hps w B V x.hs) ∧
  w.cell? ⟨b, o + 9, none⟩ = some (.int .i64 x.st) ∧ w.cell? ⟨b, o + 10, none⟩ = some (.int .i64 x.un)
def AnwAt (w : World) (B b o : Nat) (x : Anw) : Prop :=
  w.cell? ⟨b, o, none⟩ = some (.bool x.ac) ∧ w.cell? ⟨b, o + 1, none⟩ = some (.int .i64 x.vo) ∧ (∃ V, w.cell? ⟨b, o + 2, none⟩ = some V ∧ Shps w B V x.sh) ∧ (∃ V, w.cell? ⟨b, o + 3, none⟩ = some V ∧ Spnss w B V x.cu)
def Tkts := Sl TktAt ⟨0, 0, 0, 0, 0, 0, 0, false, [], 0, 0⟩ 11
def Anws := Sl AnwAt ⟨false, 0, [], []⟩ 4
structure ArcAt (w : World) (B : Nat) (VT VA VD : Value) (a : Arc) : Prop where
  tk : Tkts w B VT a.tk
  an : Anws w B VA a.an
  dm : Dems w B VD a.dm
section
variable {w w' : World} {B b o : Nat} {V : Value}
theorem hpAt_below {x : Hp} (hb : Below B w w') (h : b < B) (k : HpAt w B b o x) : HpAt w' B b o x := by
  have e : ∀ o, w'.cell? ⟨b, o, none⟩ = w.cell? ⟨b, o, none⟩ := fun o => hb.cell (p := ⟨b, o, none⟩) h
  obtain ⟨h0, h1, h2, h3⟩ := k
  exact ⟨(e _).trans h0, (e _).trans h1, (e _).trans h2, (e _).trans h3⟩
theorem spnAt_below {x : Spn} (hb : Below B w w') (h : b < B) (k : SpnAt w B b o x) : SpnAt w' B b o x := by
  have e : ∀ o, w'.cell? ⟨b, o, none⟩ = w.cell? ⟨b, o, none⟩ := fun o => hb.cell (p := ⟨b, o, none⟩) h
  obtain ⟨h0, h1⟩ := k
  exact ⟨(e _).trans h0, (e _).trans h1⟩
theorem shpAt_below {x : Shp} (hb : Below B w w') (h : b < B) (k : ShpAt w B b o x) : ShpAt w' B b o x := by
  have e : ∀ o, w'.cell? ⟨b, o, none⟩ = w.cell? ⟨b, o, none⟩ := fun o => hb.cell (p := ⟨b, o, none⟩) h
  obtain ⟨h0, h1, h2⟩ := k
  exact ⟨(e _).trans h0, (e _).trans h1, (e _).trans h2⟩
theorem demAt_below {x : Dem} (hb : Below B w w') (h : b < B) (k : DemAt w B b o x) : DemAt w' B b o x := by
  have e : ∀ o, w'.cell? ⟨b, o, none⟩ = w.cell? ⟨b, o, none⟩ := fun o => hb.cell (p := ⟨b, o, none⟩) h
  obtain ⟨h0, h1, h2, h3, h4⟩ := k
  exact ⟨(e _).trans h0, (e _).trans h1, (e _).trans h2, (e _).trans h3, (e _).trans h4⟩
theorem hps_below {x : List Hp} (hb : Below B w w') (k : Hps w B V x) : Hps w' B V x := k.map (Nat.le_refl _) fun _ _ _ h => hpAt_below hb h
theorem spns_below {x : List Spn} (hb : Below B w w') (k : Spns w B V x) : Spns w' B V x := k.map (Nat.le_refl _) fun _ _ _ h => spnAt_below hb h
theorem shps_below {x : List Shp} (hb : Below B w w') (k : Shps w B V x) : Shps w' B V x := k.map (Nat.le_refl _) fun _ _ _ h => shpAt_below hb h
theorem dems_below {x : List Dem} (hb : Below B w w') (k : Dems w B V x) : Dems w' B V x := k.map (Nat.le_refl _) fun _ _ _ h => demAt_below hb h
theorem spnss_below {x : List (List Spn)} (hb : Below B w w') (k : Spnss w B V x) : Spnss w' B V x :=
  k.map (Nat.le_refl _) fun b o _ h ⟨U, h1, h2⟩ => ⟨U, (hb.cell (p := ⟨b, o, none⟩) h).trans h1, spns_below hb h2⟩
theorem tktAt_below {x : Tkt} (hb : Below B w w') (h : b < B) (k : TktAt w B b o x) : TktAt w' B b o x := by
  have e : ∀ o, w'.cell? ⟨b, o, none⟩ = w.cell? ⟨b, o, none⟩ := fun o => hb.cell (p := ⟨b, o, none⟩) h
  obtain ⟨h0, h1, h2, h3, h4, h5, h6, h7, ⟨U, h8, hU⟩, h9, h10⟩ := k
  exact ⟨(e _).trans h0, (e _).trans h1, (e _).trans h2, (e _).trans h3, (e _).trans h4, (e _).trans h5, (e _).trans h6, (e _).trans h7, ⟨U, (e _).trans h8, hps_below hb hU⟩, (e _).trans h9, (e _).trans h10⟩
theorem anwAt_below {x : Anw} (hb : Below B w w') (h : b < B) (k : AnwAt w B b o x) : AnwAt w' B b o x := by
  have e : ∀ o, w'.cell? ⟨b, o, none⟩ = w.cell? ⟨b, o, none⟩ := fun o => hb.cell (p := ⟨b, o, none⟩) h
  obtain ⟨h0, h1, ⟨U, h2, hU⟩, ⟨U', h3, hU'⟩⟩ := k
  exact ⟨(e _).trans h0, (e _).trans h1, ⟨U, (e _).trans h2, shps_below hb hU⟩, ⟨U', (e _).trans h3, spnss_below hb hU'⟩⟩
theorem ArcAt.below {VT VA VD : Value} {a : Arc} (hb : Below B w w') (k : ArcAt w B VT VA VD a) : ArcAt w' B VT VA VD a :=
  ⟨k.tk.map (Nat.le_refl _) fun _ _ _ h => tktAt_below hb h, k.an.map (Nat.le_refl _) fun _ _ _ h => anwAt_below hb h, dems_below hb k.dm⟩
theorem ArcAt.more {VT VA VD : Value} {a : Arc} {B' : Nat} (hB : B ≤ B') (k : ArcAt w B VT VA VD a) : ArcAt w B' VT VA VD a :=
  ⟨k.tk.map hB fun _ _ _ _ ⟨h0, h1, h2, h3, h4, h5, h6, h7, ⟨U, h8, hU⟩, h9, h10⟩ => ⟨h0, h1, h2, h3, h4, h5, h6, h7, ⟨U, h8, hU.map hB fun _ _ _ _ h => h⟩, h9, h10⟩,
   k.an.map hB fun _ _ _ _ ⟨h0, h1, ⟨U, h2, hU⟩, ⟨U', h3, hU'⟩⟩ => ⟨h0, h1, ⟨U, h2, hU.map hB fun _ _ _ _ h => h⟩, ⟨U', h3, hU'.map hB fun _ _ _ _ ⟨X, x1, x2⟩ => ⟨X, x1, x2.map hB fun _ _ _ _ h => h⟩⟩⟩,
   k.dm.map hB fun _ _ _ _ h => h⟩
end
end Go.Proofs.YtfafhdganloipaaGreatDoor

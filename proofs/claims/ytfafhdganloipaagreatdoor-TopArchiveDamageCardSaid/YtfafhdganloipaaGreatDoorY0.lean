/- What the texts of this seat stand on: slices in memory. -/
import Derived.Test.YtfafhdganloipaaGreatDoorProg
import Derived.WalkKit
import Derived.WalkSpells
import Derived.WalkLawsBesides
import Derived.Handy
import Derived.IntWalk
import Derived.Deep.QuietTactic
import Derived.BigQuiet
import Derived.Deep.RegionHeld3
import Derived.Deep.DeepCutAuto
import Derived.Deep.AppendLies
import Derived.Maps.AppendAt
import Derived.Laws.OwnMore
import Derived.OwnWalk
import Derived.Lib.Hide
import Derived.StillTailTactics
import Derived.Laws.BitsAll
namespace Go.Proofs.YtfafhdganloipaaGreatDoor
open Go.RowKit
theorem below_drewN {B : Nat} {a w : World} (h : Below B a w) (n : Nat) : Below B a (w.drewN n) := ⟨h.os, h.tape, h.output, h.size, h.block⟩
theorem bc {B : Nat} {W w1 : World} (hb : Below W.heap.size W w1) (h : B ≤ W.heap.size) : ∀ b o, b < B → w1.cell? ⟨b, o, none⟩ = W.cell? ⟨b, o, none⟩ :=
  fun b o hlt => hb.cell (p := ⟨b, o, none⟩) (show b < W.heap.size by omega)
theorem bf {B : Nat} {W w1 : World} (hb : Below W.heap.size W w1) (h : B ≤ W.heap.size) : ∀ b o, b < B → w1.frozen? ⟨b, o, none⟩ = W.frozen? ⟨b, o, none⟩ :=
  fun b o hlt => hb.frozen (p := ⟨b, o, none⟩) (show b < W.heap.size by omega)
theorem bm {W0 w' : World} {B : Nat} (h : Below W0.heap.size W0 w') (hb : B ≤ W0.heap.size) : Below B W0 w' := h.mono hb
theorem bt {W0 w1 w2 : World} (h : Below W0.heap.size W0 w1) (k : Below w1.heap.size w1 w2) : Below W0.heap.size W0 w2 := h.trans (k.mono h.size)
theorem bt' {B : Nat} {W0 w1 w2 : World} (h : Below B W0 w1) (k : Below w1.heap.size w1 w2) (hB : B ≤ w1.heap.size) : Below B W0 w2 := h.trans (k.mono hB)
/-- a slice that reads as a list of integers, below block B -/
def Ints (w : World) (B : Nat) (v : Value) (xs : List Int) : Prop :=
  ∃ A c, v = .slice A xs.length c ∧ xs.length ≤ c ∧ c ≤ maxLen ∧ (0 < xs.length → ∃ b o, A = some ⟨b, o, none⟩ ∧ b < B ∧ ∀ j, j < xs.length → w.cell? ⟨b, o + j, none⟩ = some (.int .i64 (xs.getD j 0)))
theorem Ints.below {w w' : World} {B : Nat} {v : Value} {xs : List Int} (h : Ints w B v xs) (hb : Below B w w') : Ints w' B v xs := by
  obtain ⟨A, c, e, h1, h2, h3⟩ := h
  refine ⟨A, c, e, h1, h2, fun hp => ?_⟩
  obtain ⟨b, o, e1, h4, h5⟩ := h3 hp
  exact ⟨b, o, e1, h4, fun j hj => (hb.cell (p := ⟨b, o + j, none⟩) h4).trans (h5 j hj)⟩
theorem Ints.more {w : World} {B B' : Nat} {v : Value} {xs : List Int} (h : Ints w B v xs) (hB : B ≤ B') : Ints w B' v xs := by
  obtain ⟨A, c, e, h1, h2, h3⟩ := h
  refine ⟨A, c, e, h1, h2, fun hp => ?_⟩
  obtain ⟨b, o, e1, h4, h5⟩ := h3 hp
  exact ⟨b, o, e1, by omega, h5⟩
theorem ints_nil (w : World) (B : Nat) : Ints w B (.slice none 0 0) [] := ⟨none, 0, rfl, by simp, by simp [maxLen], fun h => by simp at h⟩
/-- a slice whose elements read as a list -/
def Sl {α : Type} (At : World → Nat → Nat → Nat → α → Prop) (z : α) (st : Nat) (w : World) (B : Nat) (v : Value) (xs : List α) : Prop :=
  ∃ A c, v = .slice A xs.length c ∧ xs.length ≤ c ∧ c ≤ maxLen ∧ (0 < xs.length → ∃ b o, A = some ⟨b, o, none⟩ ∧ b < B ∧ ∀ j, j < xs.length → At w B b (o + j * st) (xs.getD j z))
theorem Sl.map {α : Type} {At : World → Nat → Nat → Nat → α → Prop} {z : α} {st : Nat} {w w' : World} {B B' : Nat} {v : Value} {xs : List α} (h : Sl At z st w B v xs) (hB : B ≤ B') (hA : ∀ b o x, b < B → At w B b o x → At w' B' b o x) : Sl At z st w' B' v xs := by
  obtain ⟨A, c, e, h1, h2, h3⟩ := h
  refine ⟨A, c, e, h1, h2, fun hp => ?_⟩
  obtain ⟨b, o, e1, h4, h5⟩ := h3 hp
  exact ⟨b, o, e1, Nat.lt_of_lt_of_le h4 hB, fun j hj => hA b _ _ h4 (h5 j hj)⟩
theorem Sl.nil {α : Type} (At : World → Nat → Nat → Nat → α → Prop) (z : α) (st : Nat) (w : World) (B : Nat) : Sl At z st w B (.slice none 0 0) [] := ⟨none, 0, rfl, by simp, by simp [maxLen], fun h => by simp at h⟩
theorem Sl.take {α : Type} {At : World → Nat → Nat → Nat → α → Prop} {z : α} {st : Nat} {w : World} {B : Nat} {A : Option Addr} {c : Nat} {xs : List α} (h : Sl At z st w B (.slice A xs.length c) xs) (k : Nat) (hk : k ≤ xs.length) : Sl At z st w B (.slice A k c) (xs.take k) := by
  obtain ⟨A', c', e, h1, h2, h3⟩ := h
  simp only [Value.slice.injEq, true_and] at e
  obtain ⟨rfl, rfl⟩ := e
  have hl : (xs.take k).length = k := by rw [List.length_take]; omega
  refine ⟨A, c, by rw [hl], by omega, h2, fun hp => ?_⟩
  obtain ⟨b, o, e1, h4, h5⟩ := h3 (by omega)
  refine ⟨b, o, e1, h4, fun j hj => ?_⟩
  have e : (xs.take k).getD j z = xs.getD j z := by simp [List.getD, show j < k by omega]
  rw [e]
  exact h5 j (by omega)
theorem drop_get {α : Type} (l : List α) (z : α) (k : Nat) (h : k < l.length) : l.drop k = l.getD k z :: l.drop (k + 1) := by
  rw [List.drop_eq_getElem_cons h]; simp [List.getD, h]
theorem take_get {α : Type} (l : List α) (z : α) (k : Nat) (h : k < l.length) : l.take (k + 1) = l.take k ++ [l.getD k z] := by
  rw [List.take_succ_eq_append_getElem h]; simp [List.getD, h]
theorem wrap_s {n : Int} (h0 : 0 ≤ n) (h : n ≤ 9223372036854775807) : IntKind.i64.wrap n = n := by
  have h1 : n % 18446744073709551616 = n := Int.emod_eq_of_lt h0 (by omega)
  show (if (true && decide (n % 18446744073709551616 ≥ 9223372036854775808)) = true then n % 18446744073709551616 - 18446744073709551616 else n % 18446744073709551616) = n
  rw [h1, if_neg (by simp; omega)]
end Go.Proofs.YtfafhdganloipaaGreatDoor

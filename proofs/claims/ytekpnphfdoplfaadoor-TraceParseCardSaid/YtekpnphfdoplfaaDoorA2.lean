/- Entries in memory; the table of the forms (function 47). -/
import Derived.Test.YtekpnphfdoplfaaDoorA1
import Derived.Deep.WholeRow
namespace Go.Proofs.YtekpnphfdoplfaaDoor
open Go.RowKit
/-- the six cells of an entry, from an offset on -/
def EntAt (w : World) (b o : Nat) (x : Ent) : Prop :=
  w.cell? ⟨b, o, none⟩ = some (.int .i64 x.t) ∧ w.cell? ⟨b, o + 1, none⟩ = some (.int .i64 x.k) ∧ w.cell? ⟨b, o + 2, none⟩ = some (.int .i64 x.n) ∧ w.cell? ⟨b, o + 3, none⟩ = some (.int .i64 x.j) ∧
  w.cell? ⟨b, o + 4, none⟩ = some (.int .i64 x.c) ∧ w.cell? ⟨b, o + 5, none⟩ = some (.int .i64 x.v)
theorem EntAt.below {w w' : World} {B b o : Nat} {x : Ent} (h : EntAt w b o x) (hb : Below B w w') (hB : b < B) : EntAt w' b o x := by
  obtain ⟨h0, h1, h2, h3, h4, h5⟩ := h
  exact ⟨(hb.cell (p := ⟨b, o, none⟩) hB).trans h0, (hb.cell (p := ⟨b, o + 1, none⟩) hB).trans h1, (hb.cell (p := ⟨b, o + 2, none⟩) hB).trans h2, (hb.cell (p := ⟨b, o + 3, none⟩) hB).trans h3,
    (hb.cell (p := ⟨b, o + 4, none⟩) hB).trans h4, (hb.cell (p := ⟨b, o + 5, none⟩) hB).trans h5⟩
/-- a slice that reads as a list of entries -/
def Ents (w : World) (B : Nat) (v : Value) (xs : List Ent) : Prop :=
  ∃ A c, v = .slice A xs.length c ∧ xs.length ≤ c ∧ c ≤ maxLen ∧ (0 < xs.length → ∃ b o, A = some ⟨b, o, none⟩ ∧ b < B ∧ ∀ i, i < xs.length → EntAt w b (o + i * 6) (xs.getD i Ent.zero))
theorem Ents.below {w w' : World} {B : Nat} {v : Value} {xs : List Ent} (h : Ents w B v xs) (hb : Below B w w') : Ents w' B v xs := by
  obtain ⟨A, c, e, h1, h2, h3⟩ := h
  refine ⟨A, c, e, h1, h2, fun hp => ?_⟩
  obtain ⟨b, o, e1, h4, h5⟩ := h3 hp
  exact ⟨b, o, e1, h4, fun j hj => (h5 j hj).below hb h4⟩
theorem Ents.more {w : World} {B B' : Nat} {v : Value} {xs : List Ent} (h : Ents w B v xs) (hB : B ≤ B') : Ents w B' v xs := by
  obtain ⟨A, c, e, h1, h2, h3⟩ := h
  refine ⟨A, c, e, h1, h2, fun hp => ?_⟩
  obtain ⟨b, o, e1, h4, h5⟩ := h3 hp
  exact ⟨b, o, e1, by omega, h5⟩
theorem ents_nil (w : World) (B : Nat) : Ents w B (.slice none 0 0) [] := ⟨none, 0, rfl, by simp, by simp [maxLen], fun h => by simp at h⟩
theorem ret_bool {a b : Bool} (h : a = b) : Ending.returned (.bool a) = .returned (.bool b) := by rw [h]
theorem ret_int {k : IntKind} {a b : Int} (h : a = b) : Ending.returned (.int k a) = .returned (.int k b) := by rw [h]
theorem cell_blk {w : World} {g : Nat} {cs : Array Value} {t : TypeId} (h : w.heap[g]? = some (.cells cs t (0, 0))) (i : Nat) : w.cell? ⟨g, i, none⟩ = cs[i]? := cell_of_row w g i cs t (0, 0) h
theorem frozen_blk {w : World} {g : Nat} {cs : Array Value} {t : TypeId} (h : w.heap[g]? = some (.cells cs t (0, 0))) (i : Nat) : w.frozen? ⟨g, i, none⟩ = false := by simp [World.frozen?, h]
theorem blk_lt {w : World} {g : Nat} {o : Obj} (h : w.heap[g]? = some o) : g < w.heap.size := (Array.getElem?_eq_some_iff.1 h).1
theorem heap_set {w : World} {g i : Nat} {cs : Array Value} {t : TypeId} (h : w.heap[g]? = some (.cells cs t (0, 0))) (v : Value) : (w.setCell ⟨g, i, none⟩ v).heap[g]? = some (.cells (cs.setIfInBounds i v) t (0, 0)) := by
  simp [World.setCell, Array.getElem?_modify, h]
/-- the word of a kind -/
def wordL (k : Int) : List UInt8 :=
  if k = 1 then [97, 99, 99, 101, 112, 116, 101, 100] else
  if k = 2 then [114, 101, 102, 117, 115, 101, 100] else
  if k = 3 then [109, 111, 118, 101, 100] else
  if k = 4 then [100, 114, 111, 112, 112, 101, 100] else
  if k = 5 then [98, 101, 103, 97, 110] else
  if k = 6 then [115, 116, 111, 114, 101, 100] else
  if k = 7 then [100, 101, 108, 105, 118, 101, 114, 101, 100] else
  if k = 8 then [100, 117, 112, 108, 105, 99, 97, 116, 101] else
  if k = 9 then [114, 101, 106, 101, 99, 116, 101, 100] else
  if k = 10 then [109, 105, 115, 115, 101, 100] else
  if k = 11 then [108, 111, 115, 116] else
  if k = 12 then [114, 101, 109, 111, 118, 101, 100] else
  if k = 13 then [101, 120, 112, 105, 114, 101, 100] else
  if k = 14 then [99, 114, 97, 115, 104, 101, 100] else
  if k = 15 then [114, 101, 115, 116, 97, 114, 116, 101, 100] else
  if k = 16 then [114, 101, 112, 108, 97, 110, 110, 101, 100] else
  if k = 17 then [115, 116, 117, 99, 107] else
  []
/-- the table -/
def formC : Array Value := #[.string ⟨#[]⟩, .bool false, .bool false, .bool false, .bool false,
  .string ⟨#[97, 99, 99, 101, 112, 116, 101, 100]⟩, .bool true, .bool true, .bool false, .bool true,
  .string ⟨#[114, 101, 102, 117, 115, 101, 100]⟩, .bool true, .bool false, .bool false, .bool true,
  .string ⟨#[109, 111, 118, 101, 100]⟩, .bool false, .bool true, .bool false, .bool true,
  .string ⟨#[100, 114, 111, 112, 112, 101, 100]⟩, .bool false, .bool true, .bool false, .bool false,
  .string ⟨#[98, 101, 103, 97, 110]⟩, .bool true, .bool true, .bool true, .bool false,
  .string ⟨#[115, 116, 111, 114, 101, 100]⟩, .bool true, .bool true, .bool true, .bool false,
  .string ⟨#[100, 101, 108, 105, 118, 101, 114, 101, 100]⟩, .bool true, .bool true, .bool true, .bool false,
  .string ⟨#[100, 117, 112, 108, 105, 99, 97, 116, 101]⟩, .bool true, .bool true, .bool true, .bool false,
  .string ⟨#[114, 101, 106, 101, 99, 116, 101, 100]⟩, .bool true, .bool true, .bool true, .bool true,
  .string ⟨#[109, 105, 115, 115, 101, 100]⟩, .bool true, .bool true, .bool true, .bool false,
  .string ⟨#[108, 111, 115, 116]⟩, .bool true, .bool true, .bool true, .bool false,
  .string ⟨#[114, 101, 109, 111, 118, 101, 100]⟩, .bool true, .bool true, .bool false, .bool false,
  .string ⟨#[101, 120, 112, 105, 114, 101, 100]⟩, .bool true, .bool true, .bool false, .bool false,
  .string ⟨#[99, 114, 97, 115, 104, 101, 100]⟩, .bool true, .bool false, .bool false, .bool true,
  .string ⟨#[114, 101, 115, 116, 97, 114, 116, 101, 100]⟩, .bool true, .bool false, .bool false, .bool true,
  .string ⟨#[114, 101, 112, 108, 97, 110, 110, 101, 100]⟩, .bool true, .bool true, .bool false, .bool true,
  .string ⟨#[115, 116, 117, 99, 107]⟩, .bool true, .bool true, .bool false, .bool false]
/-- a row of the table -/
def formR (k : Int) : Array Value := #[.string ⟨(wordL k).toArray⟩, .bool (hasN k), .bool (hasJ k), .bool (hasC k), .bool (hasV k)]
set_option maxRecDepth 100000 in
set_option maxHeartbeats 4000000 in
theorem forms_any (w : World) : Calls Tryd.prog 47 #[] w fun e w' => e = .returned (.agg formC) ∧ w' = w.alloc (.cells formC 77) := by
  go_enter Tryd.func47, Tryd.ntmps47
  go_wp2_with (refine wpList_store_row rfl 77 _ _ rfl w.heap.size formC (by kernel_rfl) (by kernel_rfl) 77 Tryd.zeroCells77 (heap_alloc_last w _) (by kernel_rfl) (by kernel_rfl) (by kernel_rfl) ?_)
  rw [World.setRow_alloc_new]
  have hl := run_loadVar_new (P := Tryd.prog) w 77 formC 18 76 Tryd.underlying77 (by kernel_rfl)
  refine bodyPost_ret ?_ rfl ⟨rfl, rfl⟩
  simp [results, Tryd.results47, Act.put, asAddr, hl]
theorem kinds_cases {k : Int} (h1 : 1 ≤ k) (h2 : k ≤ 17) : k = 1 ∨ k = 2 ∨ k = 3 ∨ k = 4 ∨ k = 5 ∨ k = 6 ∨ k = 7 ∨ k = 8 ∨ k = 9 ∨ k = 10 ∨ k = 11 ∨ k = 12 ∨ k = 13 ∨ k = 14 ∨ k = 15 ∨ k = 16 ∨ k = 17 := by omega
theorem form_row {k : Int} (h1 : 1 ≤ k) (h2 : k ≤ 17) : formC.extract (k.toNat * 5) (k.toNat * 5 + 5) = formR k := by
  rcases kinds_cases h1 h2 with rfl | rfl | rfl | rfl | rfl | rfl | rfl | rfl | rfl | rfl | rfl | rfl | rfl | rfl | rfl | rfl | rfl <;> rfl
end Go.Proofs.YtekpnphfdoplfaaDoor

/- Plain: logs and their texts. -/
import Derived.Test.YtekpnphfdoplfaaDoorB2
namespace Go.Proofs.YtekpnphfdoplfaaDoor
open Go.RowKit
theorem chkL_iff : ∀ (xs : List Ent) (p : Int), chkL p xs = 0 ↔ (∀ x ∈ xs, entE x = 0 ∧ p ≤ x.t) ∧ xs.Pairwise (fun x y => x.t ≤ y.t)
  | [], p => by simp [chkL]
  | x :: t, p => by
    rw [chkL]
    by_cases hE : entE x = 0
    · rw [if_neg (by simp [hE])]
      by_cases ht : x.t < p
      · rw [if_pos ht]
        constructor
        · intro h; cases h
        · rintro ⟨h, _⟩; have := (h x (by simp)).2; omega
      · rw [if_neg ht, chkL_iff t x.t]
        constructor
        · rintro ⟨h1, h2⟩
          refine ⟨fun y hy => ?_, List.pairwise_cons.2 ⟨fun y hy => (h1 y hy).2, h2⟩⟩
          rcases List.mem_cons.1 hy with rfl | hy
          · exact ⟨hE, by omega⟩
          · have := h1 y hy; exact ⟨this.1, by omega⟩
        · rintro ⟨h1, h2⟩
          obtain ⟨h3, h4⟩ := List.pairwise_cons.1 h2
          exact ⟨fun y hy => ⟨(h1 y (by simp [hy])).1, h3 y hy⟩, h4⟩
    · rw [if_pos hE]
      constructor
      · intro h; exact absurd h hE
      · rintro ⟨h, _⟩; exact absurd (h x (by simp)).1 hE
theorem entE_t {x : Ent} (h : entE x = 0) : 0 ≤ x.t := (entE_ok h).2.2.1
theorem chkE_iff (xs : List Ent) : chkE xs = 0 ↔ xs.length ≤ 65536 ∧ (∀ x ∈ xs, entE x = 0) ∧ xs.Pairwise (fun x y => x.t ≤ y.t) := by
  unfold chkE
  by_cases hl : 65536 < xs.length
  · rw [if_pos hl]
    constructor
    · intro h; cases h
    · rintro ⟨h, _⟩; omega
  · rw [if_neg hl, chkL_iff]
    constructor
    · rintro ⟨h1, h2⟩; exact ⟨by omega, fun x hx => (h1 x hx).1, h2⟩
    · rintro ⟨_, h1, h2⟩; exact ⟨fun x hx => ⟨h1 x hx, entE_t (h1 x hx)⟩, h2⟩
/-- the text of a log -/
def catL (xs : List Ent) : List UInt8 := xs.flatMap textL
def catK (xs : List Ent) (k : Nat) : List UInt8 := catL (xs.take k)
theorem catL_app (a b : List Ent) : catL (a ++ b) = catL a ++ catL b := by simp [catL]
theorem catK_zero (xs : List Ent) : catK xs 0 = [] := by simp [catK, catL]
theorem catK_all (xs : List Ent) : catK xs xs.length = catL xs := by simp [catK]
theorem catK_succ (xs : List Ent) (k : Nat) (h : k < xs.length) : catK xs (k + 1) = catK xs k ++ textL (xs.getD k Ent.zero) := by
  have : xs.take (k + 1) = xs.take k ++ [xs.getD k Ent.zero] := by
    rw [List.take_succ_eq_append_getElem h]
    simp [List.getD, h]
  rw [catK, this, catL_app]
  simp [catK, catL]
theorem catK_le (xs : List Ent) (k : Nat) : (catK xs k).length ≤ (catL xs).length := by
  have : catL xs = catK xs k ++ catL (xs.drop k) := by rw [catK, ← catL_app, List.take_append_drop]
  rw [this, List.length_append]; omega
/-- what Print answers -/
def printR (xs : List Ent) : ByteArray × Int := if chkE xs ≠ 0 then (⟨#[]⟩, chkE xs) else if 65536 < (catL xs).length then (⟨#[]⟩, 4) else (⟨(catL xs).toArray⟩, 0)
theorem printR_bad {xs : List Ent} (h : chkE xs ≠ 0) : printR xs = (⟨#[]⟩, chkE xs) := if_pos h
theorem printR_big {xs : List Ent} (h : chkE xs = 0) (h2 : 65536 < (catL xs).length) : printR xs = (⟨#[]⟩, 4) := by rw [printR, if_neg (by simp [h]), if_pos h2]
theorem printR_ok {xs : List Ent} (h : chkE xs = 0) (h2 : (catL xs).length ≤ 65536) : printR xs = (⟨(catL xs).toArray⟩, 0) := by rw [printR, if_neg (by simp [h]), if_neg (by omega)]
theorem chk_get {xs : List Ent} (h : chkE xs = 0) {k : Nat} (hk : k < xs.length) : entE (xs.getD k Ent.zero) = 0 := ((chkE_iff xs).1 h).2.1 _ (by simp [List.getD, hk])
/-- the text of the first k, as a string -/
def catS (xs : List Ent) (k : Nat) : ByteArray := ⟨(catK xs k).toArray⟩
theorem catS_zero (xs : List Ent) : catS xs 0 = ⟨#[]⟩ := by rw [catS, catK_zero]
theorem catS_all (xs : List Ent) : catS xs xs.length = ⟨(catL xs).toArray⟩ := by rw [catS, catK_all]
theorem catS_succ (xs : List Ent) (k : Nat) (h : k < xs.length) : catS xs (k + 1) = catS xs k ++ ⟨(textL (xs.getD k Ent.zero)).toArray⟩ := by
  rw [catS, catK_succ xs k h, catS, ByteArray.mk_append_mk]
theorem catS_size (xs : List Ent) (k : Nat) : (catS xs k).size = (catK xs k).length := rfl
end Go.Proofs.YtekpnphfdoplfaaDoor

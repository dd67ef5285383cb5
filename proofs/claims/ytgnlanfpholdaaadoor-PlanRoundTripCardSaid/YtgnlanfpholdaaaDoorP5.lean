/- The texts of lines and plans. -/
import Derived.Test.YtgnlanfpholdaaaDoorF1
import Derived.Lib.ItoaNum
import Derived.Lib.ItoaLen
import Derived.Lib.ItoaMem
import Derived.Laws.Concat
namespace Go.Proofs.YtgnlanfpholdaaaDoor
open Go.RowKit
/-- the text of a number -/
def itoaS (n : Int) : ByteArray := ⟨(Lib.itoa n).toArray⟩
/-- a word and the first k numbers -/
def lnL (word : List UInt8) (ns : List Int) : Nat → List UInt8
  | 0 => word
  | k + 1 => lnL word ns k ++ 32 :: Lib.itoa (ns.getD k 0)
def lnS (word : List UInt8) (ns : List Int) (k : Nat) : ByteArray := ⟨(lnL word ns k).toArray⟩
/-- a line -/
def lineL (word : List UInt8) (ns : List Int) : List UInt8 := lnL word ns ns.length ++ [10]
def lineS (word : List UInt8) (ns : List Int) : ByteArray := ⟨(lineL word ns).toArray⟩
def nodeW : List UInt8 := [110, 111, 100, 101]
def conW : List UInt8 := [99, 111, 110, 116, 97, 99, 116]
def conNums (c : Con) : List Int := [c.a, c.b, c.s, c.e, c.r, c.g, c.l]
/-- the lines of the first k nodes -/
def nodesL (qs : List Int) : Nat → List UInt8
  | 0 => []
  | k + 1 => nodesL qs k ++ lineL nodeW [(k : Int), qs.getD k 0]
/-- the lines of the first k contacts -/
def consL (cs : List Con) : Nat → List UInt8
  | 0 => []
  | k + 1 => consL cs k ++ lineL conW (conNums (cs.getD k Con.zero))
/-- all numbers of a line are those of a valid plan -/
def Okn (ns : List Int) : Prop := ns.length ≤ 7 ∧ ∀ j, j < ns.length → 0 ≤ ns.getD j 0 ∧ ns.getD j 0 ≤ 1099511627776
theorem mk_size (l : List UInt8) : (ByteArray.mk l.toArray).size = l.length := by show l.toArray.size = _; simp
theorem itoa_len {n : Int} (h0 : 0 ≤ n) (h1 : n ≤ 1099511627776) : (Lib.itoa n).length ≤ 21 := Lib.itoa_length_le n (by omega) (by omega)
theorem itoaS_size {n : Int} (h0 : 0 ≤ n) (h1 : n ≤ 1099511627776) : (itoaS n).size ≤ 21 := by rw [itoaS, mk_size]; exact itoa_len h0 h1
theorem lnL_len {word : List UInt8} (hw : word.length ≤ 20) {ns : List Int} (h : Okn ns) : ∀ k, k ≤ ns.length → (lnL word ns k).length ≤ 20 + 22 * k
  | 0, _ => by simpa [lnL] using hw
  | k + 1, hk => by
    have h1 := lnL_len hw h k (by omega)
    have h2 := itoa_len (h.2 k (by omega)).1 (h.2 k (by omega)).2
    rw [lnL, List.length_append, List.length_cons]; omega
theorem lnS_size {word : List UInt8} (hw : word.length ≤ 20) {ns : List Int} (h : Okn ns) {k : Nat} (hk : k ≤ ns.length) : (lnS word ns k).size ≤ 200 := by
  have := lnL_len hw h k hk
  have := h.1
  rw [lnS, mk_size]; omega
theorem lineL_len {word : List UInt8} (hw : word.length ≤ 20) {ns : List Int} (h : Okn ns) : (lineL word ns).length ≤ 201 := by
  have := lnL_len hw h ns.length (Nat.le_refl _)
  have := h.1
  rw [lineL, List.length_append, List.length_singleton]; omega
theorem lnS_zero (word : List UInt8) (ns : List Int) : lnS word ns 0 = ⟨word.toArray⟩ := rfl
theorem lnS_succ (word : List UInt8) (ns : List Int) (k : Nat) : lnS word ns (k + 1) = lnS word ns k ++ (⟨#[32]⟩ ++ itoaS (ns.getD k 0)) := by
  rw [lnS, lnL, lnS, itoaS]
  have e : (ByteArray.mk #[32] ++ ByteArray.mk (Lib.itoa (ns.getD k 0)).toArray) = ⟨(32 :: Lib.itoa (ns.getD k 0)).toArray⟩ := ByteArray.mk_append_mk [32] _
  rw [e, ByteArray.mk_append_mk]
theorem lnS_succ' (word : List UInt8) (ns : List Int) (k : Nat) : lnS word ns (k + 1) = lnS word ns k ++ ⟨#[32]⟩ ++ itoaS (ns.getD k 0) := by
  rw [lnS_succ, ByteArray.append_assoc]
theorem lineS_eq (word : List UInt8) (ns : List Int) : lineS word ns = lnS word ns ns.length ++ ⟨#[10]⟩ := by
  rw [lineS, lineL, lnS]; exact (ByteArray.mk_append_mk _ [10]).symm
theorem nodesL_len {qs : List Int} (h : qs.length ≤ 16) (hq : ∀ j, j < qs.length → 0 ≤ qs.getD j 0 ∧ qs.getD j 0 ≤ 1099511627776) : ∀ k, k ≤ qs.length → (nodesL qs k).length ≤ 201 * k
  | 0, _ => by simp [nodesL]
  | k + 1, hk => by
    have h1 := nodesL_len h hq k (by omega)
    have h2 : (lineL nodeW [(k : Int), qs.getD k 0]).length ≤ 201 := lineL_len (by simp [nodeW]) ⟨by simp, fun j hj => by
      match j, hj with
      | 0, _ => show 0 ≤ (k : Int) ∧ (k : Int) ≤ _; omega
      | 1, _ => exact hq k (by omega)
      | j + 2, hj => simp at hj; omega⟩
    rw [nodesL, List.length_append]; omega
theorem conNums_ok {c : Con} (h : conE c = 0) : Okn (conNums c) := by
  have := conE_ok h
  refine ⟨by simp [conNums], fun j hj => ?_⟩
  match j, hj with
  | 0, _ => show 0 ≤ c.a ∧ c.a ≤ _; omega
  | 1, _ => show 0 ≤ c.b ∧ c.b ≤ _; omega
  | 2, _ => show 0 ≤ c.s ∧ c.s ≤ _; omega
  | 3, _ => show 0 ≤ c.e ∧ c.e ≤ _; omega
  | 4, _ => show 0 ≤ c.r ∧ c.r ≤ _; omega
  | 5, _ => show 0 ≤ c.g ∧ c.g ≤ _; omega
  | 6, _ => show 0 ≤ c.l ∧ c.l ≤ _; omega
  | j + 7, hj => simp [conNums] at hj; omega
theorem consL_len {cs : List Con} (h : ∀ j, j < cs.length → conE (cs.getD j Con.zero) = 0) : ∀ k, k ≤ cs.length → (consL cs k).length ≤ 201 * k
  | 0, _ => by simp [consL]
  | k + 1, hk => by
    have h1 := consL_len h k (by omega)
    have h2 : (lineL conW (conNums (cs.getD k Con.zero))).length ≤ 201 := lineL_len (by simp [conW]) (conNums_ok (h k (by omega)))
    rw [consL, List.length_append]; omega
end Go.Proofs.YtgnlanfpholdaaaDoor

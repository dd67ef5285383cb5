/- What package-level variables hold; strings in memory; the reader's number. -/
import Derived.Test.YtgnlanfpholdaaaDoorF7
import Derived.Test.YtgnlanfpholdaaaDoorSh
import Derived.Sort.Grow
namespace Go.Proofs.YtgnlanfpholdaaaDoor
open Go.RowKit Go.Sort
/-- what the package-level variables hold that the library reads -/
def Glob (w : World) : Prop := 8 ≤ w.heap.size ∧ (∃ m, w.cell? ⟨0, 0, none⟩ = some (.int .i64 m)) ∧ (∃ te pe, w.cell? ⟨2, 0, none⟩ = some (.iface te pe)) ∧ (∃ te pe, w.cell? ⟨3, 0, none⟩ = some (.iface te pe)) ∧ Lib.TabIs Tryd.prog w "internal/strconv.uint64pow10" .u64 Lib.pow10Tab
theorem Tryd.gPow : Tryd.prog.globalNamed "internal/strconv.uint64pow10" = some 1 := by kernel_rfl
theorem Glob.keep {w w' : World} (h : Glob w) (hs : w.heap.size ≤ w'.heap.size) (hb : ∀ k, k < 8 → w'.heap[k]? = w.heap[k]?) : Glob w' := by
  obtain ⟨h0, ⟨m, h1⟩, ⟨t1, p1, h2⟩, ⟨t2, p2, h3⟩, h4⟩ := h
  refine ⟨Nat.le_trans h0 hs, ⟨m, (World.cell?_of_block (a := ⟨0, 0, none⟩) (hb 0 (by omega))).trans h1⟩, ⟨t1, p1, (World.cell?_of_block (a := ⟨2, 0, none⟩) (hb 2 (by omega))).trans h2⟩, ⟨t2, p2, (World.cell?_of_block (a := ⟨3, 0, none⟩) (hb 3 (by omega))).trans h3⟩, ?_⟩
  unfold Lib.TabIs World.var? at h4 ⊢
  rw [Tryd.gPow] at h4 ⊢
  simp only [Option.bind_some] at h4 ⊢
  rw [hb 1 (by omega)]
  exact h4
theorem Glob.below {w w' : World} {B : Nat} (h : Glob w) (hb : Below B w w') (hB : 8 ≤ B) : Glob w' := h.keep hb.size (fun k hk => hb.block k (by omega))
theorem Glob.grown {w w' : World} {g : Nat} (h : Glob w) (hb : w.grownBy w' (some g)) (hg : 8 ≤ g) : Glob w' := h.keep hb.size (fun k hk => hb.block k (by have := h.1; omega) (by simp; omega))
theorem below_grow (w : World) (os : Array Obj) : Below w.heap.size w (grow w os) :=
  ⟨rfl, rfl, rfl, by simp [grow], fun k hk => by simp [grow, Array.getElem?_append, hk]⟩
/-- a slice that reads as a list of strings, in a block other than rb -/
def StrsIn (w : World) (rb : Nat) (A : Option Addr) (ws : List ByteArray) : Prop :=
  0 < ws.length → ∃ b o, A = some ⟨b, o, none⟩ ∧ b ≠ rb ∧ b < w.heap.size ∧ ∀ j, j < ws.length → w.cell? ⟨b, o + j, none⟩ = some (.string (ws.getD j ⟨#[]⟩))
/-- a reader: its words, and whether one was bad -/
def Rd (w : World) (rb : Nat) (ws : List ByteArray) (bad : Bool) : Prop :=
  ∃ A c, w.heap[rb]? = some (.cells #[.slice A ws.length c, .bool bad] 97 (0, 0)) ∧ ws.length ≤ c ∧ c ≤ maxLen ∧ StrsIn w rb A ws
theorem StrsIn.keep {w w' : World} {rb : Nat} {A : Option Addr} {ws : List ByteArray} (h : StrsIn w rb A ws) (hg : w.grownBy w' (some rb)) : StrsIn w' rb A ws := fun hp => by
  obtain ⟨b, o, e, h1, h2, h3⟩ := h hp
  exact ⟨b, o, e, h1, Nat.lt_of_lt_of_le h2 hg.size, fun j hj => (World.cell?_of_block (a := ⟨b, o + j, none⟩) (hg.block b h2 (by simpa using h1))).trans (h3 j hj)⟩
theorem grown_below {w w1 w2 : World} {g : Nat} (h : w.grownBy w1 (some g)) (k : Below w1.heap.size w1 w2) : w.grownBy w2 (some g) :=
  ⟨k.os.trans h.os, k.tape.trans h.tape, k.output.trans h.output, Nat.le_trans h.size k.size, fun j hj hne => (k.block j (Nat.lt_of_lt_of_le hj h.size)).trans (h.block j hj hne)⟩
theorem below_grown {w w1 : World} (g : Nat) (h : Below w.heap.size w w1) : w.grownBy w1 (some g) := ⟨h.os, h.tape, h.output, h.size, fun j hj _ => h.block j hj⟩
theorem grown_set {w w1 : World} {g : Nat} (h : w.grownBy w1 (some g)) (i : Nat) (v : Value) : w.grownBy (w1.setCell ⟨g, i, none⟩ v) (some g) :=
  ⟨h.os, h.tape, h.output, by simpa [World.setCell] using h.size, fun j hj hne => (Below.heap_setCell w1 ⟨g, i, none⟩ v j (by rintro rfl; exact hne rfl)).trans (h.block j hj hne)⟩
theorem grown_trans {a b c : World} {g : Nat} (h : a.grownBy b (some g)) (k : b.grownBy c (some g)) : a.grownBy c (some g) :=
  ⟨k.os.trans h.os, k.tape.trans h.tape, k.output.trans h.output, Nat.le_trans h.size k.size, fun j hj hne => (k.block j (Nat.lt_of_lt_of_le hj h.size) hne).trans (h.block j hj hne)⟩
theorem heap_set {w : World} {g i : Nat} {cs : Array Value} {t : TypeId} (h : w.heap[g]? = some (.cells cs t (0, 0))) (v : Value) : (w.setCell ⟨g, i, none⟩ v).heap[g]? = some (.cells (cs.setIfInBounds i v) t (0, 0)) := by
  simp [World.setCell, Array.getElem?_modify, h]
theorem cell_blk {w : World} {g : Nat} {cs : Array Value} {t : TypeId} (h : w.heap[g]? = some (.cells cs t (0, 0))) (i : Nat) : w.cell? ⟨g, i, none⟩ = cs[i]? := cell_of_row w g i cs t (0, 0) h
theorem frozen_blk {w : World} {g : Nat} {cs : Array Value} {t : TypeId} (h : w.heap[g]? = some (.cells cs t (0, 0))) (i : Nat) : w.frozen? ⟨g, i, none⟩ = false := by simp [World.frozen?, h]
theorem blk_lt {w : World} {g : Nat} {o : Obj} (h : w.heap[g]? = some o) : g < w.heap.size := (Array.getElem?_eq_some_iff.1 h).1
/-- the number that a word is -/
def numOf (l : List UInt8) : Option Int := match Lib.atoiAll l with
  | .ok v => if 0 ≤ v ∧ v ≤ 1099511627776 ∧ Lib.itoa v = l then some v else none
  | _ => none
theorem atoi_ok (s : ByteArray) (hs : s.size ≤ 8192) (v : Int) (h : Lib.atoiAll s.data.toList = .ok v) (w : World) : Calls Tryd.prog 74 #[.string s] w fun e w' => e = .returned (.tuple #[.int .i64 v, .nilIface]) ∧ Below w.heap.size w w' := by
  refine (Tryd.strconv_Atoi_ok s (by omega) v h w).mono ?_
  rintro e w' ⟨rfl, rfl | ⟨t, rfl⟩⟩
  · exact ⟨rfl, Below.refl _ _⟩
  · exact ⟨rfl, Lib.bytesWorld_below _ _ _⟩
theorem atoi_bad (s : ByteArray) (hs : s.size ≤ 8192) (h : ∀ v, Lib.atoiAll s.data.toList ≠ .ok v) (w : World) (hG : Glob w) : Calls Tryd.prog 74 #[.string s] w fun e w' => (∃ n t N, e = .returned (.tuple #[.int .i64 n, .iface t (.pointer (some ⟨N, 0, none⟩))])) ∧ Below w.heap.size w w' := by
  obtain ⟨h0, _, ⟨t1, p1, h2⟩, ⟨t2, p2, h3⟩, _⟩ := hG
  cases ha : Lib.atoiAll s.data.toList with
  | ok v => exact absurd ha (h v)
  | «syntax» =>
    refine (Tryd.strconv_Atoi_syntax s (by omega) ha _ w h2 (.inr ⟨_, _, rfl⟩)).mono ?_
    rintro e w' ⟨N, rfl, _, _, hb⟩
    exact ⟨⟨_, _, N, rfl⟩, hb⟩
  | range =>
    refine (Tryd.strconv_Atoi_range s (by omega) ha _ w h3 (.inr ⟨_, _, rfl⟩)).mono ?_
    rintro e w' ⟨N, rfl, _, _, hb⟩
    exact ⟨⟨_, _, N, rfl⟩, hb⟩
theorem itoa_any (n : Int) (h0 : -9223372036854775808 ≤ n) (h1 : n ≤ 9223372036854775807) (w : World) (hG : Glob w) : Calls Tryd.prog 64 #[.int .i64 n] w fun e w' => e = .returned (.string ⟨(Lib.itoa n).toArray⟩) ∧ Below w.heap.size w w' := by
  refine (Tryd.strconv_Itoa n h0 h1 w hG.2.2.2.2).mono ?_
  rintro e w' ⟨rfl, k, os, rfl⟩
  exact ⟨rfl, (below_drewN (Below.refl _ w) k).trans (below_grow (w.drewN k) os)⟩
theorem cut_any (s : ByteArray) (hs : s.size ≤ 8192) (w : World) (hG : Glob w) : Calls Tryd.prog 67 #[.string s, .string ⟨#[10]⟩] w fun e w' => e = .returned (.tuple #[.string ⟨(Lib.cut s.data.toList [10]).1.toArray⟩, .string ⟨(Lib.cut s.data.toList [10]).2.1.toArray⟩, .bool (Lib.cut s.data.toList [10]).2.2]) ∧ ∃ q, w' = w.drewN q := by
  obtain ⟨h0, ⟨m, h1⟩, _⟩ := hG
  refine (Tryd.strings_Cut s ⟨#[10]⟩ m w (by omega) h1).mono ?_
  rintro e w' ⟨rfl, q, rfl⟩
  exact ⟨rfl, q, rfl⟩
/-- what number leaves -/
def NumPost (rb : Nat) (ws : List ByteArray) (bad : Bool) (w : World) (e : Ending) (w' : World) : Prop :=
  ∃ (r : Int) (bad' : Bool), e = .returned (.int .i64 r) ∧ Rd w' rb (if bad then ws else ws.tail) bad' ∧ w.grownBy w' (some rb) ∧
    (bad = true → bad' = true) ∧ (ws = [] → bad' = true) ∧ (∀ x t, ws = x :: t → bad = false → (numOf x.data.toList = none → bad' = true) ∧ ∀ v, numOf x.data.toList = some v → r = v ∧ bad' = false)
theorem num_bad (rb : Nat) (ws : List ByteArray) (bad : Bool) (w : World) (hR : Rd w rb ws bad) (h : bad = true ∨ ws = []) : Calls Tryd.prog 69 #[.pointer (some ⟨rb, 0, none⟩)] w (NumPost rb ws bad w) := by
  obtain ⟨A, c, hB, hc, hm, hS⟩ := hR
  have hB0 := hB
  have HB := Lib.hid hB
  have c0 := cell_blk hB 0
  have c1 := cell_blk hB 1
  have f1 := frozen_blk hB 1
  simp only [List.getElem?_toArray, List.getElem?_cons_zero, List.getElem?_cons_succ] at c0 c1
  unfold maxLen at hm
  have HS := Lib.hid hS
  have fin : ∀ w', w' = w.setCell ⟨rb, 1, none⟩ (.bool true) → NumPost rb ws bad w (.returned (.int .i64 0)) w' := by
    rintro w' rfl
    have hg := grown_set (below_grown rb (Below.refl _ w)) 1 (.bool true)
    refine ⟨0, true, rfl, ?_, hg, fun _ => rfl, fun _ => rfl, fun x t e hb => ?_⟩
    · have : (if bad = true then ws else ws.tail) = ws := by
        rcases h with h | h
        · rw [if_pos h]
        · subst h; split <;> rfl
      rw [this]
      exact ⟨A, c, by simpa using heap_set HB.out (i := 1) (.bool true), hc, by unfold maxLen; exact hm, HS.out.keep hg⟩
    · rcases h with h | h
      · rw [h] at hb; cases hb
      · rw [h] at e; cases e
  have FIN := Lib.hid fin
  clear hB hB0 hS fin
  cases bad with
  | true =>
    clear h
    go_enter Tryd.func69, Tryd.ntmps69
    go_wp2_with fail
    go_ret
    exact FIN.out _ rfl
  | false =>
    have hw : ws = [] := by
      rcases h with h | h
      · cases h
      · exact h
    subst hw
    clear h
    go_enter Tryd.func69, Tryd.ntmps69
    go_wp2_with fail
    go_ret
    exact FIN.out _ rfl
end Go.Proofs.YtgnlanfpholdaaaDoor

/- Lines are made. -/
import Derived.Test.YtmcgddlblhinlaaGreatDoorH8
import Derived.Test.YtmcgddlblhinlaaGreatDoorP2
import Derived.Test.YtmcgddlblhinlaaGreatDoorF2
namespace Go.Proofs.YtmcgddlblhinlaaGreatDoor
open Go.RowKit
/-- what a line is made of -/
inductive Arg where
  | num (n : Int)
  | str (s : ByteArray)
def Arg.val : Arg → Value
  | .num n => .iface 3 (.int .i64 n)
  | .str s => .iface 9 (.string s)
def Arg.s : Arg → ByteArray
  | .num n => itoaS n
  | .str s => s
def Arg.ok : Arg → Prop
  | .num n => 0 ≤ n ∧ n ≤ 1099511627776
  | .str s => s.size ≤ 70000
/-- a slice of arguments -/
def Args (w : World) (B : Nat) (v : Value) (xs : List Arg) : Prop :=
  ∃ A c, v = .slice A xs.length c ∧ xs.length ≤ c ∧ c ≤ maxLen ∧ (0 < xs.length → ∃ b o, A = some ⟨b, o, none⟩ ∧ b < B ∧ ∀ j, j < xs.length → w.cell? ⟨b, o + j, none⟩ = some (xs.getD j (.num 0)).val)
theorem args_nil (w : World) (B : Nat) : Args w B (.slice none 0 0) [] := ⟨none, 0, rfl, by simp, by simp [maxLen], fun h => by simp at h⟩
theorem ta_num (n : Int) (w : World) : (Instr.typeAssert (.iface 3 (.int .i64 n)) 20 3 true).run Tryz.prog w = .ok (.tuple #[.int .i64 n, .bool true]) w := by show _ = _; kernel_rfl
theorem ta_no (s : ByteArray) (w : World) : (Instr.typeAssert (.iface 9 (.string s)) 20 3 true).run Tryz.prog w = .ok (.tuple #[.int .i64 0, .bool false]) w := by show _ = _; kernel_rfl
theorem ta_str (s : ByteArray) (w : World) : (Instr.typeAssert (.iface 9 (.string s)) 20 9 true).run Tryz.prog w = .ok (.tuple #[.string s, .bool true]) w := by show _ = _; kernel_rfl
def joinS (word : ByteArray) (l : List ByteArray) : ByteArray := ⟨(joinW word l).toArray⟩
theorem joinS_nil (word : ByteArray) : joinS word [] = word := by rw [joinS, joinW_nil]
theorem joinS_snoc (word y : ByteArray) (l : List ByteArray) : joinS word (l ++ [y]) = joinS word l ++ (⟨#[32]⟩ ++ y) := by
  have e : ∀ a b : ByteArray, (a ++ b).data.toList = a.data.toList ++ b.data.toList := fun a b => by simp
  refine (bs_ext ?_).symm
  rw [e, e]
  simp [joinS, joinW]
theorem itoaS_size {n : Int} (h0 : 0 ≤ n) (h1 : n ≤ 1099511627776) : (itoaS n).size ≤ 21 := Lib.itoa_length_le n (by omega) (by omega)
theorem Arg.size {a : Arg} (h : a.ok) : a.s.size ≤ 70000 := by
  cases a with
  | num n => exact Nat.le_trans (itoaS_size h.1 h.2) (by omega)
  | str s => exact h
theorem joinS_size (word : ByteArray) (xs : List Arg) (h : ∀ x ∈ xs, x.ok) : (joinS word (xs.map Arg.s)).size ≤ word.size + 70001 * xs.length := by
  induction xs with
  | nil => rw [List.map_nil, joinS_nil]; simp
  | cons x t ih =>
    have h1 := ih fun y hy => h y (by simp [hy])
    have h2 := Arg.size (h x (by simp))
    have e : (joinS word ((x :: t).map Arg.s)).size = (joinS word (t.map Arg.s)).size + (1 + x.s.size) := by
      show (joinW word ((x :: t).map Arg.s)).length = (joinW word (t.map Arg.s)).length + _
      have : x.s.data.toList.length = x.s.size := rfl
      simp only [joinW, List.map_cons, List.flatMap_cons, List.length_append, List.length_cons]
      omega
    rw [e, List.length_cons, Nat.mul_add]
    omega
set_option maxHeartbeats 2000000 in
set_option maxRecDepth 100000 in
theorem lline_any (word : ByteArray) (hw : word.size ≤ 20) (v : Value) (xs : List Arg) (hx : ∀ x ∈ xs, x.ok) (hl : xs.length ≤ 10) (w : World) (hv : Args w w.heap.size v xs) (hG : Glob w) : Calls Tryz.prog 35 #[.string word, v] w fun e w' => e = .returned (.string (joinS word (xs.map Arg.s) ++ ⟨#[10]⟩)) ∧ Below w.heap.size w w' := by
  obtain ⟨A, c, rfl, hc, hm, hA⟩ := hv
  unfold maxLen at hm
  have HA := Lib.hid hA
  have HX : Hid (∀ k, k < xs.length → (xs.getD k (.num 0)).ok) := fun k hk => hx _ (by simp [List.getD, hk])
  have HS : Hid (∀ k, k < xs.length → joinS word ((xs.take (k + 1)).map Arg.s) = joinS word ((xs.take k).map Arg.s) ++ (⟨#[32]⟩ ++ (xs.getD k (.num 0)).s)) := fun k hk => by
    rw [List.take_succ_eq_append_getElem hk, List.map_append, List.map_cons, List.map_nil, joinS_snoc]
    simp [List.getD, hk]
  have HZ : Hid (∀ k, k ≤ xs.length → (joinS word ((xs.take k).map Arg.s)).size ≤ 1000000) := fun k hk => by
    have := joinS_size word (xs.take k) (fun x hh => hx x (List.mem_of_mem_take hh))
    have h2 : (xs.take k).length ≤ 10 := by rw [List.length_take]; omega
    omega
  have H0 : Hid (joinS word ((xs.take 0).map Arg.s) = word) := joinS_nil word
  have HE : Hid (joinS word ((xs.take xs.length).map Arg.s) = joinS word (xs.map Arg.s)) := by show _ = _; rw [List.take_length]
  clear hA hx
  go_enter Tryz.func35, Tryz.ntmps35
  go_wp2_with fail
  go_loopw [0, 11] (fun s i wr => ∃ k : Nat, k ≤ xs.length ∧ i = .int .i64 k ∧ s = .string (joinS word ((xs.take k).map Arg.s)) ∧ Below w.heap.size w wr) (fun _ i _ => xs.length - (intOf i).toNat)
  case atStart => exact ⟨0, by omega, rfl, by rw [H0.out], Below.refl _ _⟩
  case round =>
    obtain ⟨k, hk, rfl, rfl, hB⟩ := hrel
    have hz := hB.size
    have hs1 := HZ.out k hk
    by_cases hlt : k < xs.length
    · obtain ⟨b, o, rfl, hb, hcell⟩ := HA.out (by omega)
      have hx := (hB.cell (p := ⟨b, o + k, none⟩) hb).trans (hcell k hlt)
      have hok := HX.out k hlt
      have HST := Lib.hid (HS.out k hlt)
      clear hcell
      generalize xs.getD k (.num 0) = a at *
      generalize joinS word ((xs.take k).map Arg.s) = sk at *
      cases a with
      | num n =>
        obtain ⟨hn1, hn2⟩ := hok
        replace hx : wr.cell? ⟨b, o + k, none⟩ = some (.iface 3 (.int .i64 n)) := hx
        have t1 := ta_num n wr
        have hs2 := itoaS_size hn1 hn2
        go_wp2_with fail
        refine (itoa_any n (by omega) (by omega) _ (hG.gw fun j hj => hB.block j (by have := hG.lt; omega))).mono ?_
        rintro e w1 ⟨rfl, hb1⟩
        have e1 : (⟨(Lib.itoa n).toArray⟩ : ByteArray) = itoaS n := rfl
        rw [e1]
        have hB1 := bt' hB hb1 hz
        clear hb1
        go_wp2_with fail
        go_roundw
        case rel => exact ⟨k + 1, by omega, by go_num, by rw [HST.out]; rfl, hB1⟩
        case measure => simp [intOf]; omega
      | str s =>
        replace hx : wr.cell? ⟨b, o + k, none⟩ = some (.iface 9 (.string s)) := hx
        have t1 := ta_no s wr
        have t2 := ta_str s wr
        have hs2 : s.size ≤ 70000 := hok
        go_wp2_with fail
        go_roundw
        case rel => exact ⟨k + 1, by omega, by go_num, by rw [HST.out]; rfl, hB⟩
        case measure => simp [intOf]; omega
    · obtain rfl : k = xs.length := by omega
      rw [HE.out] at hs1 ⊢
      go_wp2_with fail
      go_ret
      exact ⟨rfl, hB⟩
set_option maxHeartbeats 2000000 in
set_option maxRecDepth 100000 in
theorem pline_any (word : ByteArray) (hw : word.size ≤ 20) (v : Value) (xs : List Int) (hx : InR xs) (hl : xs.length ≤ 10) (w : World) (hv : Ints w w.heap.size v xs) (hG : Glob w) : Calls Tryz.prog 54 #[.string word, v] w fun e w' => e = .returned (.string (joinS word (xs.map itoaS) ++ ⟨#[10]⟩)) ∧ Below w.heap.size w w' := by
  obtain ⟨A, c, rfl, hc, hm, hA⟩ := hv
  unfold maxLen at hm
  have HA := Lib.hid hA
  have HX : Hid (∀ k, k < xs.length → 0 ≤ xs.getD k 0 ∧ xs.getD k 0 ≤ 1099511627776) := fun k hk => hx _ (by simp [List.getD, hk])
  have HS : Hid (∀ k, k < xs.length → joinS word ((xs.take (k + 1)).map itoaS) = joinS word ((xs.take k).map itoaS) ++ (⟨#[32]⟩ ++ itoaS (xs.getD k 0))) := fun k hk => by
    rw [List.take_succ_eq_append_getElem hk, List.map_append, List.map_cons, List.map_nil, joinS_snoc]
    simp [List.getD, hk]
  have HZ : Hid (∀ k, k ≤ xs.length → (joinS word ((xs.take k).map itoaS)).size ≤ 1000000) := fun k hk => by
    have := joinS_size word ((xs.take k).map Arg.num) (fun x hh => by
      obtain ⟨y, hy, rfl⟩ := List.mem_map.1 hh
      exact hx y (List.mem_of_mem_take hy))
    rw [List.map_map, List.length_map] at this
    have h2 : (xs.take k).length ≤ 10 := by rw [List.length_take]; omega
    have e : (Arg.s ∘ Arg.num) = itoaS := rfl
    rw [e] at this
    omega
  have H0 : Hid (joinS word ((xs.take 0).map itoaS) = word) := joinS_nil word
  have HE : Hid (joinS word ((xs.take xs.length).map itoaS) = joinS word (xs.map itoaS)) := by show _ = _; rw [List.take_length]
  clear hA hx
  go_enter Tryz.func54, Tryz.ntmps54
  go_wp2_with fail
  go_loopw [0, 9] (fun s i wr => ∃ k : Nat, k ≤ xs.length ∧ i = .int .i64 k ∧ s = .string (joinS word ((xs.take k).map itoaS)) ∧ Below w.heap.size w wr) (fun _ i _ => xs.length - (intOf i).toNat)
  case atStart => exact ⟨0, by omega, rfl, by rw [H0.out], Below.refl _ _⟩
  case round =>
    obtain ⟨k, hk, rfl, rfl, hB⟩ := hrel
    have hz := hB.size
    have hs1 := HZ.out k hk
    by_cases hlt : k < xs.length
    · obtain ⟨b, o, rfl, hb, hcell⟩ := HA.out (by omega)
      have hx := (hB.cell (p := ⟨b, o + k, none⟩) hb).trans (hcell k hlt)
      obtain ⟨hn1, hn2⟩ := HX.out k hlt
      have HST := Lib.hid (HS.out k hlt)
      clear hcell
      generalize xs.getD k 0 = n at *
      generalize joinS word ((xs.take k).map itoaS) = sk at *
      have hs2 := itoaS_size hn1 hn2
      go_wp2_with fail
      refine (itoa_any n (by omega) (by omega) _ (hG.gw fun j hj => hB.block j (by have := hG.lt; omega))).mono ?_
      rintro e w1 ⟨rfl, hb1⟩
      have hB1 := bt' hB hb1 hz
      have e1 : (⟨(Lib.itoa n).toArray⟩ : ByteArray) = itoaS n := rfl
      rw [e1]
      clear hb1
      go_wp2_with fail
      go_roundw
      case rel => exact ⟨k + 1, by omega, by go_num, by rw [HST.out], hB1⟩
      case measure => simp [intOf]; omega
    · obtain rfl : k = xs.length := by omega
      rw [HE.out] at hs1 ⊢
      go_wp2_with fail
      go_ret
      exact ⟨rfl, hB⟩
end Go.Proofs.YtmcgddlblhinlaaGreatDoor

/- slices.Clone over contacts. -/
import Derived.Test.YtgnlanfpholdaaaDoorF16
import Derived.Test.YtgnlanfpholdaaaDoorG2
namespace Go.Proofs.YtgnlanfpholdaaaDoor
open Go.RowKit
theorem addr_add (b o n : Nat) : (⟨b, o, none⟩ : Addr).add n = ⟨b, o + n, none⟩ := by unfold Addr.add; split <;> simp_all
theorem conVals_at {w : World} {b o : Nat} {c : Con} (h : ConAt w b o c) : ∀ k u, (conVals c)[k]? = some u → w.cell? ⟨b, o + k, none⟩ = some u := by
  obtain ⟨h0, h1, h2, h3, h4, h5, h6⟩ := h
  intro k u hu
  match k, hu with
  | 0, hu => simpa [conVals, ← hu] using h0
  | 1, hu => simpa [conVals, ← hu] using h1
  | 2, hu => simpa [conVals, ← hu] using h2
  | 3, hu => simpa [conVals, ← hu] using h3
  | 4, hu => simpa [conVals, ← hu] using h4
  | 5, hu => simpa [conVals, ← hu] using h5
  | 6, hu => simpa [conVals, ← hu] using h6
  | n + 7, hu => simp [conVals] at hu
/-- the cells of a slice of contacts, one after another -/
theorem cons_cells {w : World} {b o : Nat} {cs : List Con} (h : ∀ j, j < cs.length → ConAt w b (o + j * 7) (cs.getD j Con.zero)) : ∀ j u, (conCells cs)[j]? = some u → w.cell? ((⟨b, o, none⟩ : Addr).add j) = some u := fun j u hu => by
  have hj : j < cs.length * 7 := by have := (List.getElem?_eq_some_iff.1 hu).1; rwa [conCells_len] at this
  have hd : j / 7 * 7 + j % 7 = j := by omega
  have hg := conCells_get cs (j / 7) (j % 7) (by omega) (by omega)
  rw [hd, hu] at hg
  have := conVals_at (h (j / 7) (by omega)) (j % 7) u hg.symm
  rw [addr_add]
  rwa [show o + j / 7 * 7 + j % 7 = o + j by omega] at this
theorem conCells_one (cs : List Con) : ∀ u ∈ conCells cs, u.oneCell' = true := by
  intro u hu
  unfold conCells at hu
  obtain ⟨c, _, hc⟩ := List.mem_flatMap.1 hu
  simp only [conVals, List.mem_cons, List.not_mem_nil, or_false] at hc
  rcases hc with rfl | rfl | rfl | rfl | rfl | rfl | rfl <;> rfl
def ClPost (cs : List Con) (w : World) (e : Ending) (w' : World) : Prop := ∃ v', e = .returned v' ∧ w'.ownsRow w.heap.size 40 7 v' cs.length (conCells cs) ∧ Below w.heap.size w w'
set_option maxRecDepth 100000 in
theorem clone_some (a : Addr) (n c : Nat) (cs : List Con) (w : World) (hn : n = cs.length) (hl : cs.length ≤ 100) (hc : ∀ j u, (conCells cs)[j]? = some u → w.cell? (a.add j) = some u) : Calls Tryd.prog 61 #[.slice (some a) n c] w (ClPost cs w) := by
  obtain ⟨i0, hi, hz0, hz1, hz2⟩ := info_parts info40
  have HI : Hid ((Tryd.prog.info? 40 = some i0) ∧ i0.zero = some (.agg #[.int .i64 0, .int .i64 0, .int .i64 0, .int .i64 0, .int .i64 0, .int .i64 0, .int .i64 0]) ∧ i0.size = 7 ∧ i0.bytes = 56) := ⟨hi, hz0, hz1, hz2⟩
  clear hi hz0 hz1 hz2
  have hc' : ∀ (o : Obj) (j : Nat) (u : Value), (conCells cs)[j]? = some u → (w.alloc o).cell? (a.add j) = some u := fun o j u hu => by
    have := hc j u hu
    rw [World.cell?_alloc_lt _ _ _ (World.block_lt_of_cell? _ _ this)]; exact this
  have HC := Lib.hid hc'
  have HN := Lib.hid hn
  have HLE : Hid (n ≤ 100) := by show _ ≤ _; omega
  clear hc hc' hn hl
  have he : ∀ w, (binOp .eql 23 (.slice (some a) n c) (.slice none 0 0)).run Tryd.prog w = .ok (.bool false) w := fun w => Lib.run_eql_slice_nil (P := Tryd.prog) w 23 40 (some a) n c 0 0 Tryd.underlying23
  go_enter Tryd.func61, Tryd.ntmps61
  go_wp2_with (at_builtin; refine wpList_append_own _ rfl _ _ 23 rfl w.heap.size 40 i0 _ 7 56 Tryd.underlying23 HI.out.1 HI.out.2.1 HI.out.2.2.1 HI.out.2.2.2 rfl (by decide) _ _ _ rfl (World.ownsRow_lit (e := 40) (size := 7) w #[] 0 (Nat.le_refl _) (by simp [maxLen]) rfl) a n c (conCells cs) rfl ?c0 ?c1 ?c2 ?c3 ?c4 ?c5 ?_)
  case c0 => rw [conCells_len, HN.out]
  case c1 => exact HC.out _
  case c2 => exact conCells_one cs
  case c3 => have := HLE.out; unfold maxLen; omega
  case c4 => have := HLE.out; omega
  case c5 => simp
  intro v' w1 hown hgrow _
  have HO := Lib.hid hown
  have hB1 : Below w.heap.size w w1 := ((Below.refl _ w).alloc (Nat.le_refl _) _).grown hgrow (by simp) (fun j e => by simp [Value.ownBlock] at e; omega)
  clear hown hgrow
  go_wp2_with fail
  go_ret
  refine ⟨v', rfl, ?_, hB1⟩
  have := HO.out
  rw [HN.out] at this
  simpa using this
theorem clone_none (c : Nat) (w : World) : Calls Tryd.prog 61 #[.slice none 0 c] w (ClPost [] w) := by
  have he : ∀ w, (binOp .eql 23 (.slice none 0 c) (.slice none 0 0)).run Tryd.prog w = .ok (.bool true) w := fun w => Lib.run_eql_slice_nil (P := Tryd.prog) w 23 40 none 0 c 0 0 Tryd.underlying23
  go_enter Tryd.func61, Tryd.ntmps61
  go_wp2_with fail
  go_ret
  exact ⟨_, rfl, World.ownsRow_nil _ _ _ _, Below.refl _ _⟩
theorem clone_any (v : Value) (cs : List Con) (w : World) (B : Nat) (hg : Cons w B v cs) (hl : cs.length ≤ 100) : Calls Tryd.prog 61 #[v] w (ClPost cs w) := by
  obtain ⟨A, c, rfl, hc, hm, hA⟩ := hg
  cases A with
  | none =>
    cases cs with
    | nil => exact clone_none c w
    | cons a t =>
      obtain ⟨b, o, e, _⟩ := hA (by simp)
      cases e
  | some a =>
    refine clone_some a cs.length c cs w rfl hl ?_
    cases cs with
    | nil => intro j u hu; simp [conCells] at hu
    | cons d t =>
      obtain ⟨b, o, e, _, hcell⟩ := hA (by simp)
      cases e
      exact cons_cells hcell
end Go.Proofs.YtgnlanfpholdaaaDoor

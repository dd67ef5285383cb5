/- Rows of metrics that a call owns; append of one, append of many. -/
import Derived.Test.YtpcbccpobhdokaaGreatDoorE7
import Derived.Laws.AppendOwnNone
import Derived.Laws.AppendOwn
import Derived.Maps.AppendAt
import Derived.Laws.OwnMore
import Derived.OwnWalk
import Derived.Deep.AppendLies
set_option linter.unusedSimpArgs false
set_option linter.unusedVariables false
set_option linter.all false
namespace Go.Proofs.YtpcbccpobhdokaaGreatDoor
open Go.RowKit
theorem mets_nil (w : World) (B : Nat) : Mets w B (.slice none 0 0) [] := ⟨none, 0, rfl, by simp, by simp [maxLen], fun h => by simp at h⟩
theorem Mets.base {w w' : World} {base base' : Nat} {V : Value} {l : List Met} (h : Mets w base V l) (hb : Below base w w') (hl : base ≤ base') : Mets w' base' V l := by
  obtain ⟨A, c, rfl, h1, h2, h3⟩ := h.below hb
  exact ⟨A, c, rfl, h1, h2, fun h0 => by obtain ⟨B, o, e1, e2, e3⟩ := h3 h0; exact ⟨B, o, e1, by omega, e3⟩⟩
def metVals (x : Met) : List Value := [.string x.n, .int .i64 x.i, .int .i64 x.a, .int .i64 x.b]
def metCells (X : List Met) : List Value := X.flatMap metVals
theorem metCells_len (C : List Met) : (metCells C).length = C.length * 4 := by
  induction C with
  | nil => rfl
  | cons c t ih => simp only [metCells, List.flatMap_cons, List.length_append, List.length_cons] at *; rw [ih]; simp [metVals]; omega
theorem metCells_snoc (C : List Met) (c : Met) : metCells (C ++ [c]) = metCells C ++ metVals c := by simp [metCells]
theorem metCells_get : ∀ (C : List Met) (j k : Nat), j < C.length → k < 4 → (metCells C)[j * 4 + k]? = (metVals (C.getD j mz))[k]?
  | [], j, k, h, _ => by cases h
  | c :: t, 0, k, _, hk => by
    show (metVals c ++ metCells t)[0 * 4 + k]? = _
    rw [List.getElem?_append_left (by simp [metVals]; omega)]
    simp
  | c :: t, j + 1, k, h, hk => by
    have ih := metCells_get t j k (by simpa using h) hk
    show (metVals c ++ metCells t)[(j + 1) * 4 + k]? = _
    rw [List.getElem?_append_right (by simp [metVals]; omega)]
    rw [show (j + 1) * 4 + k - (metVals c).length = j * 4 + k by simp [metVals]; omega, ih]
    simp
theorem mets_of_own {w : World} {base : Nat} {v : Value} {l : List Met} (h : w.ownsRow base 37 4 v l.length (metCells l)) : Mets w w.heap.size v l := by
  rcases h.2 with ⟨rfl, h0⟩ | ⟨g, cap, cur, rfl, hb, hg, hn, hm, hs, ht⟩
  · obtain rfl : l = [] := List.eq_nil_of_length_eq_zero h0
    exact mets_nil _ _
  · refine ⟨_, cap, rfl, hn, hm, fun _ => ⟨g, 0, rfl, (Array.getElem?_eq_some_iff.1 hg).1, fun j hj => ?_⟩⟩
    have ha : ∀ n, (⟨g, 0, none⟩ : Addr).add n = ⟨g, 0 + n, none⟩ := fun n => by unfold Addr.add; split <;> simp_all
    have go : ∀ k v, k < 4 → (metVals (l.getD j mz))[k]? = some v → w.cell? ⟨g, 0 + j * 4 + k, none⟩ = some v := fun k v hk hv => by
      have := h.cells (g := g) rfl (j * 4 + k) v ((metCells_get l j k hj hk).trans hv)
      rw [ha] at this
      rw [Nat.add_assoc]; exact this
    exact ⟨go 0 _ (by omega) rfl, go 1 _ (by omega) rfl, go 2 _ (by omega) rfl, go 3 _ (by omega) rfl⟩
theorem own_ne_lt {w : World} {B : Nat} {e : TypeId} {size : Nat} {v : Value} {n : Nat} {xs : List Value} (h : w.ownsRow B e size v n xs) {g : Nat} (hg : g < B ∨ w.heap.size ≤ g) : v.ownBlock ≠ some g := by
  intro hv
  obtain ⟨h1, h2⟩ := h.lt g hv
  omega
theorem own_shape {w : World} {base : Nat} {e : TypeId} {size : Nat} {v : Value} {n : Nat} {xs : List Value} (h : w.ownsRow base e size v n xs) (hn : 0 < n) : ∃ g c, v = .slice (some ⟨g, 0, none⟩) n c := by
  rcases h.2 with ⟨rfl, h0⟩ | ⟨g, cap, cur, rfl, hb, hg, hn, hm, hs, ht⟩
  · omega
  · exact ⟨g, cap, rfl⟩
theorem info37 : (Tryz.prog.info? 37).map (fun i => (i.zero, i.size, i.bytes)) = some (some (.agg #[.string ⟨#[]⟩, .int .i64 0, .int .i64 0, .int .i64 0]), 4, 40) := by kernel_rfl
/-- append of one entry, which lies in the block that was made last -/
theorem app_met {ops : Array Oper} {rest : List Oper} {o : Oper} {a : Act} {Q : Exit → Act → World → Prop} (Wp : World) (hgd : o.guard = none) (s x : Operand) (ho : o.op = .call { callee := .builtin .append, args := #[s, x], argTypes := #[22, 22] })
    (base : Nat) (v : Value) (l : List Met) (d : Met) (hs : a.eval s = v) (hx : a.eval x = .slice (some ⟨Wp.heap.size, 0, none⟩) 1 1) (hown : Wp.ownsRow base 37 4 v l.length (metCells l)) (hl : l.length ≤ 70000) (hbase : base ≤ Wp.heap.size)
    (h : ∀ g c w', w'.ownsRow base 37 4 (.slice (some ⟨g, 0, none⟩) (l.length + 1) c) (l ++ [d]).length (metCells (l ++ [d])) → (Wp.alloc (.cells #[.string d.n, .int .i64 d.i, .int .i64 d.a, .int .i64 d.b] 37)).grownBy w' v.ownBlock → Below base Wp w' → (v.ownBlock = some g ∨ Wp.heap.size + 1 = g) →
      wpList Tryz.prog ops Q rest (a.put o.dst (.slice (some ⟨g, 0, none⟩) (l.length + 1) c)) w') : wpList Tryz.prog ops Q (o :: rest) a (Wp.alloc (.cells #[.string d.n, .int .i64 d.i, .int .i64 d.a, .int .i64 d.b] 37)) := by
  obtain ⟨i0, hi, hz0, hz1, hz2⟩ := info_parts info37
  refine wpList_append_own_at _ hgd s x 22 ho base 37 i0 _ 4 40 Tryz.underlying22 hi hz0 hz1 hz2 rfl (by decide) v l.length (metCells l) hs (hown.alloc _) ⟨Wp.heap.size, 0, none⟩ 1 1 (metVals d) hx rfl (World.news_of_block (heap_alloc_last Wp _)) (by simp [metVals, Value.oneCell']) (by unfold maxLen; omega) (by omega) (by simp; omega) ?_
  intro v' w' hown' hgrow _ hat
  obtain ⟨g, c, rfl⟩ := own_shape hown' (by omega)
  refine h g c w' (by rw [List.length_append, metCells_snoc]; exact hown') hgrow (Below.grown ((Below.refl _ Wp).mono hbase |>.alloc hbase _) hgrow (by simp; omega) (fun j e => (hown.lt j e).1)) ?_
  rcases hat with e | e
  · exact .inl (e.symm.trans rfl)
  · have : g = Wp.heap.size + 1 := by simpa [Value.ownBlock] using e
    exact .inr this.symm
theorem metVals_at {w : World} {b o : Nat} {c : Met} (h : MetAt w b o c) (k : Nat) (u : Value) (hu : (metVals c)[k]? = some u) : w.cell? ⟨b, o + k, none⟩ = some u := by
  obtain ⟨h0, h1, h2, h3⟩ := h
  match k, hu with
  | 0, hu => cases hu; exact h0
  | 1, hu => cases hu; exact h1
  | 2, hu => cases hu; exact h2
  | 3, hu => cases hu; exact h3
  | k + 4, hu => simp [metVals] at hu
theorem addr_add (b o n : Nat) : (⟨b, o, none⟩ : Addr).add n = ⟨b, o + n, none⟩ := by unfold Addr.add; split <;> simp_all
/-- the cells of a slice of metrics, one after another -/
theorem mets_cells {w : World} {b o : Nat} {cs : List Met} (h : ∀ j, j < cs.length → MetAt w b (o + j * 4) (cs.getD j mz)) : ∀ j u, (metCells cs)[j]? = some u → w.cell? ((⟨b, o, none⟩ : Addr).add j) = some u := fun j u hu => by
  have hj : j < cs.length * 4 := by have := (List.getElem?_eq_some_iff.1 hu).1; rwa [metCells_len] at this
  have hd : j / 4 * 4 + j % 4 = j := by omega
  have hg := metCells_get cs (j / 4) (j % 4) (by omega) (by omega)
  rw [hd, hu] at hg
  have := metVals_at (h (j / 4) (by omega)) (j % 4) u hg.symm
  rw [addr_add]
  rwa [show o + j / 4 * 4 + j % 4 = o + j by omega] at this
theorem metCells_one (cs : List Met) : ∀ u ∈ metCells cs, u.oneCell' = true := by
  intro u hu
  unfold metCells at hu
  obtain ⟨c, _, hc⟩ := List.mem_flatMap.1 hu
  simp only [metVals, List.mem_cons, List.not_mem_nil, or_false] at hc
  rcases hc with rfl | rfl | rfl | rfl <;> rfl
theorem run_append_none_c (ty : TypeId) (base : Nat) (v : Value) (n c : Nat) (xs : List Value) (w : World) (hown : w.ownsRow base 37 4 v n xs) :
    (Builtin.append_ #[22, 22] ty #[v, .slice none 0 c]).run Tryz.prog w = .ok v w := by
  obtain ⟨i0, hi, _⟩ := info_parts info37
  rcases hown.2 with ⟨rfl, rfl⟩ | ⟨g, cap, cur, rfl, _, _, hnc, _⟩
  · simp [Builtin.append_, run_underlying Tryz.underlying22, sizeOf, typeInfo, hi, Builtin.lenOf, Builtin.firstCells]
  · simp [Builtin.append_, run_underlying Tryz.underlying22, sizeOf, typeInfo, hi, Builtin.lenOf, Builtin.firstCells, hnc, storeCells]
/-- contacts in a row, from block b, offset o on -/
def MetsAt (w : World) (A : Option Addr) (l : List Met) : Prop := 0 < l.length → ∃ b o, A = some ⟨b, o, none⟩ ∧ ∀ j, j < l.length → MetAt w b (o + j * 4) (l.getD j mz)
theorem wp_append_met {o : Oper} {a : Act} {K : Act → World → Prop} {Q : Exit → Act → World → Prop} (s x : Operand) (ho : o.op = .call { callee := .builtin .append, args := #[s, x], argTypes := #[22, 22] })
    (W : World) (base : Nat) (v : Value) (l news : List Met) (hs : a.eval s = v) (hown : W.ownsRow base 37 4 v l.length (metCells l)) (A : Option Addr) (c : Nat) (hx : a.eval x = .slice A news.length c) (hsrc : MetsAt W A news)
    (hl : l.length + news.length ≤ 70000) (hbase : base ≤ W.heap.size)
    (h : ∀ v' w', w'.ownsRow base 37 4 v' (l ++ news).length (metCells (l ++ news)) → W.grownBy w' v.ownBlock → (v'.ownBlock = v.ownBlock ∨ v'.ownBlock = some W.heap.size) → K (a.put o.dst v') w') : o.wp Tryz.prog a W K Q := by
  have main : ∃ v' w', (Builtin.append_ #[22, 22] o.type #[v, .slice A news.length c]).run Tryz.prog W = .ok v' w' ∧ w'.ownsRow base 37 4 v' (l ++ news).length (metCells (l ++ news)) ∧ W.grownBy w' v.ownBlock ∧ (v'.ownBlock = v.ownBlock ∨ v'.ownBlock = some W.heap.size) := by
    cases A with
    | none =>
      have hn : news = [] := by
        cases news with
        | nil => rfl
        | cons d t => obtain ⟨b, o', e, _⟩ := hsrc (by simp); cases e
      subst hn
      exact ⟨v, W, run_append_none_c o.type base v l.length c _ W hown, by simpa using hown, ⟨rfl, rfl, rfl, Nat.le_refl _, fun _ _ _ => rfl⟩, .inl rfl⟩
    | some ad =>
      obtain ⟨i0, hi, hz0, hz1, hz2⟩ := info_parts info37
      have hnews : ∀ j u, (metCells news)[j]? = some u → W.cell? (ad.add j) = some u := by
        cases news with
        | nil => intro j u hu; simp [metCells] at hu
        | cons d t =>
          obtain ⟨b, o', e, hcell⟩ := hsrc (by simp)
          cases e
          exact mets_cells hcell
      obtain ⟨v', w', hr, h2, h3, _, h5⟩ := run_append_own_at (P := Tryz.prog) (w := W) base 22 o.type 37 i0 _ 4 40 Tryz.underlying22 hi hz0 hz1 hz2 rfl (by decide) v l.length (metCells l) hown ad news.length c (metCells news) (by rw [metCells_len]) hnews (fun u hu => by
        obtain ⟨d, _, hd⟩ := List.mem_flatMap.1 hu
        simp only [metVals, List.mem_cons, List.not_mem_nil, or_false] at hd
        rcases hd with rfl | rfl | rfl | rfl <;> rfl) (by unfold maxLen; omega) (by omega) hbase
      exact ⟨v', w', hr, by rw [List.length_append, show metCells (l ++ news) = metCells l ++ metCells news by simp [metCells]]; exact h2, h3, h5⟩
  obtain ⟨v', w', hr, h2, h3, h5⟩ := main
  unfold Oper.wp execOp
  simp only [ho, resolve, invoke, builtin, Sem.run_bind, Sem.run_pure, Result.andThen_ok, List.map_toArray, List.map_cons, List.map_nil, hs, hx, hr]
  exact h v' w' h2 h3 h5
end Go.Proofs.YtpcbccpobhdokaaGreatDoor

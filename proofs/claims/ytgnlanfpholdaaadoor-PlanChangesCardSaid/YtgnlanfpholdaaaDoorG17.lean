/- append of contacts onto a row of the call's own, whatever the source: at the operation. -/
import Derived.Test.YtgnlanfpholdaaaDoorG10
import Derived.Laws.AppendOwnNone
namespace Go.Proofs.YtgnlanfpholdaaaDoor
open Go.RowKit
theorem run_append_none_c (ty : TypeId) (base : Nat) (v : Value) (n c : Nat) (xs : List Value) (w : World) (hown : w.ownsRow base 40 7 v n xs) :
    (Builtin.append_ #[23, 23] ty #[v, .slice none 0 c]).run Tryd.prog w = .ok v w := by
  obtain ⟨i0, hi, _⟩ := info_parts info40
  rcases hown.2 with ⟨rfl, rfl⟩ | ⟨g, cap, cur, rfl, _, _, hnc, _⟩
  · simp [Builtin.append_, run_underlying Tryd.underlying23, sizeOf, typeInfo, hi, Builtin.lenOf, Builtin.firstCells]
  · simp [Builtin.append_, run_underlying Tryd.underlying23, sizeOf, typeInfo, hi, Builtin.lenOf, Builtin.firstCells, hnc, storeCells]
/-- contacts in a row, from block b, offset o on -/
def ConsAt (w : World) (A : Option Addr) (l : List Con) : Prop := 0 < l.length → ∃ b o, A = some ⟨b, o, none⟩ ∧ ∀ j, j < l.length → ConAt w b (o + j * 7) (l.getD j Con.zero)
theorem wp_append_con {o : Oper} {a : Act} {K : Act → World → Prop} {Q : Exit → Act → World → Prop} (s x : Operand) (ho : o.op = .call { callee := .builtin .append, args := #[s, x], argTypes := #[23, 23] })
    (W : World) (base : Nat) (v : Value) (l news : List Con) (hs : a.eval s = v) (hown : W.ownsRow base 40 7 v l.length (conCells l)) (A : Option Addr) (c : Nat) (hx : a.eval x = .slice A news.length c) (hsrc : ConsAt W A news)
    (hl : l.length + news.length ≤ 200) (hbase : base ≤ W.heap.size)
    (h : ∀ v' w', w'.ownsRow base 40 7 v' (l ++ news).length (conCells (l ++ news)) → W.grownBy w' v.ownBlock → (v'.ownBlock = v.ownBlock ∨ v'.ownBlock = some W.heap.size) → K (a.put o.dst v') w') : o.wp Tryd.prog a W K Q := by
  have main : ∃ v' w', (Builtin.append_ #[23, 23] o.type #[v, .slice A news.length c]).run Tryd.prog W = .ok v' w' ∧ w'.ownsRow base 40 7 v' (l ++ news).length (conCells (l ++ news)) ∧ W.grownBy w' v.ownBlock ∧ (v'.ownBlock = v.ownBlock ∨ v'.ownBlock = some W.heap.size) := by
    cases A with
    | none =>
      have hn : news = [] := by
        cases news with
        | nil => rfl
        | cons d t => obtain ⟨b, o', e, _⟩ := hsrc (by simp); cases e
      subst hn
      exact ⟨v, W, run_append_none_c o.type base v l.length c _ W hown, by simpa using hown, ⟨rfl, rfl, rfl, Nat.le_refl _, fun _ _ _ => rfl⟩, .inl rfl⟩
    | some ad =>
      obtain ⟨i0, hi, hz0, hz1, hz2⟩ := info_parts info40
      have hnews : ∀ j u, (conCells news)[j]? = some u → W.cell? (ad.add j) = some u := by
        cases news with
        | nil => intro j u hu; simp [conCells] at hu
        | cons d t =>
          obtain ⟨b, o', e, hcell⟩ := hsrc (by simp)
          cases e
          exact cons_cells hcell
      obtain ⟨v', w', hr, h2, h3, _, h5⟩ := run_append_own_at (P := Tryd.prog) (w := W) base 23 o.type 40 i0 _ 7 56 Tryd.underlying23 hi hz0 hz1 hz2 rfl (by decide) v l.length (conCells l) hown ad news.length c (conCells news) (by rw [conCells_len]) hnews (fun u hu => by
        obtain ⟨d, _, hd⟩ := List.mem_flatMap.1 hu
        simp only [conVals, List.mem_cons, List.not_mem_nil, or_false] at hd
        rcases hd with rfl | rfl | rfl | rfl | rfl | rfl | rfl <;> rfl) (by unfold maxLen; omega) (by omega) hbase
      exact ⟨v', w', hr, by rw [List.length_append, show conCells (l ++ news) = conCells l ++ conCells news by simp [conCells]]; exact h2, h3, h5⟩
  obtain ⟨v', w', hr, h2, h3, h5⟩ := main
  unfold Oper.wp execOp
  simp only [ho, resolve, invoke, builtin, Sem.run_bind, Sem.run_pure, Result.andThen_ok, List.map_toArray, List.map_cons, List.map_nil, hs, hx, hr]
  exact h v' w' h2 h3 h5
theorem consAt_take {w W : World} {B : Nat} {A : Option Addr} {n c i : Nat} {cs : List Con} (h : Cons w B (.slice A n c) cs) (hb : Below B w W) (hi : i ≤ cs.length) : ConsAt W A (cs.take i) := fun hp => by
  obtain ⟨A', c', e, _, _, h3⟩ := h
  injection e with e1 e2 e3
  subst e1
  have hl : (cs.take i).length = i := by rw [List.length_take]; omega
  obtain ⟨b, o, rfl, hlt, hc⟩ := h3 (by omega)
  refine ⟨b, o, rfl, fun j hj => ?_⟩
  have e : (cs.take i).getD j Con.zero = cs.getD j Con.zero := by simp [List.getD, show j < i by omega]
  rw [e]
  exact (hc j (by omega)).below hb hlt
theorem consAt_drop {w W : World} {B : Nat} {A : Option Addr} {n c k : Nat} {cs : List Con} (h : Cons w B (.slice A n c) cs) (hb : Below B w W) : ConsAt W (if c = k then A else A.map (fun x => x.add (k * 7))) (cs.drop k) := fun hp => by
  obtain ⟨A', c', e, hle, _, h3⟩ := h
  injection e with e1 e2 e3
  subst e1
  rw [List.length_drop] at hp
  obtain ⟨b, o, rfl, hlt, hc⟩ := h3 (by omega)
  refine ⟨b, o + k * 7, ?_, fun j hj => ?_⟩
  · rw [if_neg (by omega)]
    simp [addr_add]
  · rw [List.length_drop] at hj
    have e : (cs.drop k).getD j Con.zero = cs.getD (k + j) Con.zero := by simp [List.getD, List.getElem?_drop]
    rw [e, show o + k * 7 + j * 7 = o + (k + j) * 7 by omega]
    exact (hc (k + j) (by omega)).below hb hlt
theorem put_plan {w3 : World} {n : Nat} {qv cv : Value} {qs : List Int} {cs : List Con} {A1 A2 : Option Addr} {n1 n2 k1 k2 : Nat} (hn : w3.heap[n]? = some (.cells #[.slice A1 n1 k1, .slice A2 n2 k2] 25 (0, 0))) (hq : Ints w3 w3.heap.size qv qs) (hc : Cons w3 w3.heap.size cv cs) :
    (((w3.setCell ⟨n, 0, none⟩ qv).setCell ⟨n, 1, none⟩ cv).cell? ⟨n, 0, none⟩ = some qv ∧ ((w3.setCell ⟨n, 0, none⟩ qv).setCell ⟨n, 1, none⟩ cv).cell? ⟨n, 1, none⟩ = some cv) ∧
    Ints ((w3.setCell ⟨n, 0, none⟩ qv).setCell ⟨n, 1, none⟩ cv) ((w3.setCell ⟨n, 0, none⟩ qv).setCell ⟨n, 1, none⟩ cv).heap.size qv qs ∧ Cons ((w3.setCell ⟨n, 0, none⟩ qv).setCell ⟨n, 1, none⟩ cv) ((w3.setCell ⟨n, 0, none⟩ qv).setCell ⟨n, 1, none⟩ cv).heap.size cv cs := by
  have hsz : ((w3.setCell ⟨n, 0, none⟩ qv).setCell ⟨n, 1, none⟩ cv).heap.size = w3.heap.size := by simp
  have hno : ∀ o x, w3.cell? ⟨n, o, none⟩ ≠ some (.int .i64 x) := fun o x h => by
    rw [cell_blk hn o] at h
    match o, h with
    | 0, h => simp at h
    | 1, h => simp at h
    | k + 2, h => simp at h
  refine ⟨two_cells (cell_blk hn 0) (cell_blk hn 1) qv cv, ?_, ?_⟩
  · rw [hsz]
    obtain ⟨A, k, e, h1, h2, h3⟩ := hq
    refine ⟨A, k, e, h1, h2, fun hp => ?_⟩
    obtain ⟨b, o, e1, h4, h5⟩ := h3 hp
    have hbn : b ≠ n := fun e => by subst e; exact hno _ _ (h5 0 hp)
    refine ⟨b, o, e1, h4, fun j hj => ?_⟩
    have hb1 : (⟨b, o + j, none⟩ : Addr) ≠ ⟨n, 1, none⟩ := fun e => hbn (congrArg Addr.block e)
    have hb0 : (⟨b, o + j, none⟩ : Addr) ≠ ⟨n, 0, none⟩ := fun e => hbn (congrArg Addr.block e)
    rw [World.cell?_setCell_other _ _ _ _ (fun e => hb1 e.symm), World.cell?_setCell_other _ _ _ _ (fun e => hb0 e.symm)]
    exact h5 j hj
  · rw [hsz]
    obtain ⟨A, k, e, h1, h2, h3⟩ := hc
    refine ⟨A, k, e, h1, h2, fun hp => ?_⟩
    obtain ⟨b, o, e1, h4, h5⟩ := h3 hp
    have hbn : b ≠ n := fun e => by subst e; exact hno _ _ (h5 0 hp).1
    exact ⟨b, o, e1, h4, fun j hj => conAt_two (h5 j hj) hbn _ _⟩
end Go.Proofs.YtgnlanfpholdaaaDoor

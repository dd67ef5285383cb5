/- Nodes in memory; New of a mission that is not valid. -/
import Derived.Test.YtclkjjdfdndplaaGreatDoorA8
import Derived.Test.YtclkjjdfdndplaaGreatDoorH5
import Derived.Deep.MidRow
import Derived.Laws.ResultCell
import Derived.Laws.Rows
namespace Go.Proofs.YtclkjjdfdndplaaGreatDoor
open Go.RowKit
theorem results_row_tmp {fn : Func} {p u : Tmp} {ty : TypeId} (h : fn.results = #[.cell p ty, .tmp u]) (tmps : Array Value) (P : Program) (w : World) (g : Nat) (t : TypeId) (cs : Array Value) (fr : Nat × Nat) (d : TypeDesc)
    (hp : tmps.getD p undef = .pointer (some ⟨g, 0, none⟩)) (hg : w.heap[g]? = some (.cells cs t fr)) (hu : P.underlying ty = some d) (hd : d.isRow = true) (hi : (P.info? ty).map (·.size) = some cs.size) (e : Value) (he : tmps.getD u undef = e) :
    (results fn tmps).run P w = .ok (.tuple #[.agg cs, e]) w := by
  rw [results_cell_tmp h, hp, he]
  simp only [asAddr, Sem.run_pure, Result.andThen_ok, run_loadVar_row w g t ty cs fr d hg hu (by cases d <;> simp_all) hi]
def ndVals (i : Nat) (q : Int) : List Value := [.int .i64 i, .int .i64 q, .bool true, .string ⟨#[]⟩, .int .i64 0, .slice none 0 0, .slice none 0 0, .slice none 0 0]
/-- the cells of the nodes from number i on -/
def ndCells : Nat → List Int → List Value
  | _, [] => []
  | i, q :: t => ndVals i q ++ ndCells (i + 1) t
theorem ndCells_snoc : ∀ (i : Nat) (l : List Int) (q : Int), ndCells i (l ++ [q]) = ndCells i l ++ ndVals (i + l.length) q
  | i, [], q => by simp [ndCells]
  | i, a :: t, q => by
    have := ndCells_snoc (i + 1) t q
    simp only [List.cons_append, ndCells, this, List.append_assoc, List.length_cons]
    rw [show i + 1 + t.length = i + (t.length + 1) by omega]
theorem ndCells_len : ∀ (i : Nat) (l : List Int), (ndCells i l).length = l.length * 8
  | _, [] => rfl
  | i, a :: t => by rw [ndCells, List.length_append, ndCells_len (i + 1) t]; simp [ndVals]; omega
theorem ndCells_get : ∀ (i : Nat) (l : List Int) (j k : Nat), j < l.length → k < 8 → (ndCells i l)[j * 8 + k]? = (ndVals (i + j) (l.getD j 0))[k]?
  | _, [], j, k, h, _ => by simp at h
  | i, c :: t, 0, k, _, hk => by
    rw [ndCells, List.getElem?_append_left (by simp [ndVals]; omega)]
    simp
  | i, c :: t, j + 1, k, h, hk => by
    have ih := ndCells_get (i + 1) t j k (by simpa using h) hk
    rw [ndCells, List.getElem?_append_right (by simp [ndVals]; omega)]
    have e : (j + 1) * 8 + k - (ndVals i c).length = j * 8 + k := by simp [ndVals]; omega
    rw [e, ih, show i + 1 + j = i + (j + 1) by omega]
    simp
theorem ndVals_one (i : Nat) (q : Int) : ∀ u ∈ ndVals i q, u.oneCell' = true := by
  intro u hu
  simp only [ndVals, List.mem_cons, List.not_mem_nil, or_false] at hu
  rcases hu with rfl | rfl | rfl | rfl | rfl | rfl | rfl | rfl <;> rfl
/-- the eight cells of a node at its beginning -/
structure NdAt (w : World) (b o : Nat) (i : Nat) (q : Int) : Prop where
  c0 : w.cell? ⟨b, o, none⟩ = some (.int .i64 i)
  c1 : w.cell? ⟨b, o + 1, none⟩ = some (.int .i64 q)
  c2 : w.cell? ⟨b, o + 2, none⟩ = some (.bool true)
  c3 : w.cell? ⟨b, o + 3, none⟩ = some (.string ⟨#[]⟩)
  c4 : w.cell? ⟨b, o + 4, none⟩ = some (.int .i64 0)
  c5 : w.cell? ⟨b, o + 5, none⟩ = some (.slice none 0 0)
  c6 : w.cell? ⟨b, o + 6, none⟩ = some (.slice none 0 0)
  c7 : w.cell? ⟨b, o + 7, none⟩ = some (.slice none 0 0)
/-- a slice that reads as nodes at their beginning -/
def Nds (w : World) (B : Nat) (v : Value) (qs : List Int) : Prop :=
  ∃ A c, v = .slice A qs.length c ∧ qs.length ≤ c ∧ c ≤ maxLen ∧ (0 < qs.length → ∃ b o, A = some ⟨b, o, none⟩ ∧ b < B ∧ ∀ j, j < qs.length → NdAt w b (o + j * 8) j (qs.getD j 0))
theorem Nds.below {w w' : World} {B : Nat} {v : Value} {qs : List Int} (h : Nds w B v qs) (hb : Below B w w') : Nds w' B v qs := by
  obtain ⟨A, c, e, h1, h2, h3⟩ := h
  refine ⟨A, c, e, h1, h2, fun hp => ?_⟩
  obtain ⟨b, o, e1, h4, h5⟩ := h3 hp
  refine ⟨b, o, e1, h4, fun j hj => ?_⟩
  have e : ∀ k, w'.cell? ⟨b, k, none⟩ = w.cell? ⟨b, k, none⟩ := fun k => hb.cell (p := ⟨b, k, none⟩) h4
  have := h5 j hj
  exact ⟨(e _).trans this.c0, (e _).trans this.c1, (e _).trans this.c2, (e _).trans this.c3, (e _).trans this.c4, (e _).trans this.c5, (e _).trans this.c6, (e _).trans this.c7⟩
theorem Nds.more {w : World} {B B' : Nat} {v : Value} {qs : List Int} (h : Nds w B v qs) (hB : B ≤ B') : Nds w B' v qs := by
  obtain ⟨A, c, e, h1, h2, h3⟩ := h
  refine ⟨A, c, e, h1, h2, fun hp => ?_⟩
  obtain ⟨b, o, e1, h4, h5⟩ := h3 hp
  exact ⟨b, o, e1, by omega, h5⟩
theorem nds_nil (w : World) (B : Nat) : Nds w B (.slice none 0 0) [] := ⟨none, 0, rfl, by simp, by simp [maxLen], fun h => by simp at h⟩
theorem nds_of_own {w : World} {base : Nat} {v : Value} {qs : List Int} {n : Nat} (hn : n = qs.length) (h : w.ownsRow base 69 8 v n (ndCells 0 qs)) : Nds w w.heap.size v qs := by
  subst hn
  rcases h.2 with ⟨rfl, h0⟩ | ⟨g, cap, cur, rfl, hb, hg, hn, hm, hs, ht⟩
  · obtain rfl : qs = [] := List.eq_nil_of_length_eq_zero h0
    exact nds_nil _ _
  · refine ⟨_, cap, rfl, hn, hm, fun _ => ⟨g, 0, rfl, (Array.getElem?_eq_some_iff.1 hg).1, fun j hj => ?_⟩⟩
    have go : ∀ k v, k < 8 → (ndVals j (qs.getD j 0))[k]? = some v → w.cell? ⟨g, 0 + j * 8 + k, none⟩ = some v := fun k v hk hv => by
      have h0 := ndCells_get 0 qs j k hj hk
      rw [Nat.zero_add] at h0
      have := h.cells (g := g) rfl (j * 8 + k) v (h0.trans hv)
      rw [addr_lit] at this
      rw [Nat.add_assoc]; exact this
    exact ⟨go 0 _ (by omega) rfl, go 1 _ (by omega) rfl, go 2 _ (by omega) rfl, go 3 _ (by omega) rfl, go 4 _ (by omega) rfl, go 5 _ (by omega) rfl, go 6 _ (by omega) rfl, go 7 _ (by omega) rfl⟩
theorem ints_of_own {w : World} {base : Nat} {v : Value} {l : List Int} {n : Nat} (hn : n = l.length) (h : w.ownsRow base 3 1 v n (l.map (fun q => .int .i64 q))) : Ints w w.heap.size v l := by
  subst hn
  rcases h.2 with ⟨rfl, h0⟩ | ⟨g, cap, cur, rfl, hb, hg, hn, hm, hs, ht⟩
  · obtain rfl : l = [] := List.eq_nil_of_length_eq_zero h0
    exact ints_nil _ _
  · refine ⟨_, cap, rfl, hn, hm, fun _ => ⟨g, 0, rfl, (Array.getElem?_eq_some_iff.1 hg).1, fun j hj => ?_⟩⟩
    have := h.cells (g := g) rfl j (.int .i64 (l.getD j 0)) (by simp [List.getD, List.getElem?_eq_getElem hj])
    rw [addr_lit] at this
    exact this
theorem wp_make_ints {o : Oper} {a : Act} {w : World} {K : Act → World → Prop} {Q : Exit → Act → World → Prop} (x y : Operand) (ho : o.op = .makeSlice 22 x y) (n : Nat) (hx : a.eval x = .int .i64 n) (hy : a.eval y = .int .i64 n) (hn : n ≤ 1000)
    (h : ∀ w', w'.ownsRow w.heap.size 3 1 (.slice (some ⟨w.heap.size, 0, none⟩) n n) n ((List.replicate n (0 : Int)).map (fun q => .int .i64 q)) → Below w.heap.size w w' → K (a.put o.dst (.slice (some ⟨w.heap.size, 0, none⟩) n n)) w') : o.wp Tryz.prog a w K Q := by
  obtain ⟨i0, hi, hz0, hz1, hz2⟩ : ∃ i0, Tryz.prog.info? 3 = some i0 ∧ i0.zero = some (.int .i64 0) ∧ i0.size = 1 ∧ i0.bytes = 8 := by
    have h : (Tryz.prog.info? 3).map (fun i => (i.zero, i.size, i.bytes)) = some (some (.int .i64 0), 1, 8) := by kernel_rfl
    obtain ⟨j, hj, hjs⟩ := Option.map_eq_some_iff.1 h
    injection hjs with hz hjs; injection hjs with hs hby
    exact ⟨j, hj, hz, hs, hby⟩
  obtain ⟨w', hr, h2, h3⟩ := run_make_full (P := Tryz.prog) w w.heap.size 22 3 i0 (.int .i64 0) 1 Tryz.underlying22 hi hz0 hz1 .i64 .i64 n (by rw [hz2]; omega) (by unfold maxLen; omega) (Nat.le_refl _)
  have hc : (madeCells (Value.int .i64 0).cells (n * 1)).toList = (List.replicate n (0 : Int)).map (fun q => .int .i64 q) := by
    rw [Nat.mul_one]
    show (madeCells #[.int .i64 0] n).toList = _
    rw [toList_madeCells_one]; simp
  rw [hc] at h2
  unfold Oper.wp execOp
  simp only [ho, hx, hy, Sem.run_bind, Sem.run_pure, Result.andThen_ok, hr]
  exact h w' h2 ((Below.refl _ w).grown h3 (Nat.le_refl _) (fun j e => by cases e))
/-- the seventeen cells of a network -/
def netZ : Value := .agg #[.slice none 0 0, .slice none 0 0, .slice none 0 0, .slice none 0 0, .slice none 0 0, .bool false, .int .i64 0, .int .i64 0, .slice none 0 0, .slice none 0 0, .slice none 0 0, .slice none 0 0, .slice none 0 0, .slice none 0 0, .slice none 0 0, .slice none 0 0, .slice none 0 0]
def netV (VQ VC VO VF VX : Value) (bd : Bool) (VN VE VA : Value) : Value := .agg #[VQ, VC, VO, VF, VX, .bool bd, .int .i64 0, .int .i64 0, VQ, VC, .slice none 0 0, .slice none 0 0, VN, VE, .slice none 0 0, VA, .slice none 0 0]
set_option maxRecDepth 100000 in
set_option maxHeartbeats 8000000 in
theorem new_bad (VQ VC VO VF VX : Value) (m : Mis) (w : World) (hM : MisAt w w.heap.size VQ VC VO VF VX m) (hE : misE m ≠ 0) : Calls Tryz.prog 6 #[.agg #[VQ, VC, VO, VF, VX, .bool m.bd]] w fun e w' => e = .returned (.tuple #[netZ, .int .i64 (misE m)]) ∧ Below w.heap.size w w' := by
  have HM := Lib.hid hM
  have hEb : (misE m != 0) = true := by simpa using hE
  obtain ⟨⟨A1, c1, rfl, -⟩, ⟨A2, c2, rfl, -⟩, ⟨A3, c3, rfl, -⟩, ⟨A4, c4, rfl, -⟩, ⟨A5, c5, rfl, -⟩⟩ := hM
  clear hE
  go_enter Tryz.func6, Tryz.ntmps6
  go_wp2_with fail
  refine (mis_any _ _ _ _ _ m _ (HM.out.on (by (repeat' (first | (with_reducible exact Below.refl _ _) | (with_reducible refine Below.alloc ?_ ?_ _) | (with_reducible refine Below.drew ?_) | (with_reducible refine below_drewN ?_ _) | (with_reducible refine Below.setCell ?_ ?_ _) | (with_reducible refine Below.trans ?_ (Below.mono (by assumption) ?_)) | (with_reducible exact Nat.le_refl _) | omega | (simp; omega) | (simp; done)))))).mono ?_
  rintro e w1 ⟨rfl, hb1⟩
  generalize hee : misE m = er at *
  have HEE := Lib.hid hee
  clear hee
  have hsz : w.heap.size + 1 + 1 ≤ w1.heap.size := Nat.le_trans (by simp) hb1.size
  have r0 : w1.heap[w.heap.size + 1]? = some (.cells #[.slice none 0 0, .slice none 0 0, .slice none 0 0, .slice none 0 0, .slice none 0 0, .bool false, .int .i64 0, .int .i64 0, .slice none 0 0, .slice none 0 0, .slice none 0 0, .slice none 0 0, .slice none 0 0, .slice none 0 0, .slice none 0 0, .slice none 0 0, .slice none 0 0] 42 (0, 0)) := (hb1.block (w.heap.size + 1) (by simp)).trans (by rw [← show (w.alloc (.cells #[.slice A1 m.q.length c1, .slice A2 m.cs.length c2, .slice A3 m.os.length c3, .slice A4 m.fs.length c4, .slice A5 m.xs.length c5, .bool m.bd] 30)).heap.size = w.heap.size + 1 by simp]; exact heap_alloc_last _ _)
  have hB : Below w.heap.size w w1 := by (repeat' (first | (with_reducible exact Below.refl _ _) | (with_reducible refine Below.alloc ?_ ?_ _) | (with_reducible refine Below.drew ?_) | (with_reducible refine below_drewN ?_ _) | (with_reducible refine Below.setCell ?_ ?_ _) | (with_reducible refine Below.trans ?_ (Below.mono (by assumption) ?_)) | (with_reducible exact Nat.le_refl _) | omega | (simp; omega) | (simp; done)))
  clear hb1
  go_wp2_with (refine wpList_store_row rfl 42 (.tmp 2) (.tmp 20) rfl (w.heap.size + 1) #[.slice none 0 0, .slice none 0 0, .slice none 0 0, .slice none 0 0, .slice none 0 0, .bool false, .int .i64 0, .int .i64 0, .slice none 0 0, .slice none 0 0, .slice none 0 0, .slice none 0 0, .slice none 0 0, .slice none 0 0, .slice none 0 0, .slice none 0 0, .slice none 0 0] rfl rfl 42 _ r0 (by kernel_rfl) (by kernel_rfl) (by simp [Value.oneCell']) ?_)
  have HB : Hid (Below w.heap.size w (w1.setRow (w.heap.size + 1) #[.slice none 0 0, .slice none 0 0, .slice none 0 0, .slice none 0 0, .slice none 0 0, .bool false, .int .i64 0, .int .i64 0, .slice none 0 0, .slice none 0 0, .slice none 0 0, .slice none 0 0, .slice none 0 0, .slice none 0 0, .slice none 0 0, .slice none 0 0, .slice none 0 0])) := below_setRow hB (by omega) _
  have hr := setRow_heap w1 (w.heap.size + 1) _ #[.slice none 0 0, .slice none 0 0, .slice none 0 0, .slice none 0 0, .slice none 0 0, .bool false, .int .i64 0, .int .i64 0, .slice none 0 0, .slice none 0 0, .slice none 0 0, .slice none 0 0, .slice none 0 0, .slice none 0 0, .slice none 0 0, .slice none 0 0, .slice none 0 0] 42 (0, 0) r0
  clear r0 hB HM hsz
  have HR := Lib.hid hr
  clear hr
  generalize w1.setRow (w.heap.size + 1) #[.slice none 0 0, .slice none 0 0, .slice none 0 0, .slice none 0 0, .slice none 0 0, .bool false, .int .i64 0, .int .i64 0, .slice none 0 0, .slice none 0 0, .slice none 0 0, .slice none 0 0, .slice none 0 0, .slice none 0 0, .slice none 0 0, .slice none 0 0, .slice none 0 0] = w2 at *
  go_wp2_with fail
  exact bodyPost_ret (results_row_tmp rfl _ _ _ (w.heap.size + 1) 42 #[.slice none 0 0, .slice none 0 0, .slice none 0 0, .slice none 0 0, .slice none 0 0, .bool false, .int .i64 0, .int .i64 0, .slice none 0 0, .slice none 0 0, .slice none 0 0, .slice none 0 0, .slice none 0 0, .slice none 0 0, .slice none 0 0, .slice none 0 0, .slice none 0 0] (0, 0) _ rfl HR.out Tryz.underlying42 rfl (by kernel_rfl) _ rfl) rfl ⟨by rw [HEE.out]; rfl, HB.out⟩
end Go.Proofs.YtclkjjdfdndplaaGreatDoor

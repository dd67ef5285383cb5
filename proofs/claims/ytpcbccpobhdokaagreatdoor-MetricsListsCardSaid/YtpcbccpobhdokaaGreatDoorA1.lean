/- Rows of metrics that a call owns; append of one, append of many. -/
import Derived.Test.YtpcbccpobhdokaaGreatDoorE7
import Derived.Laws.AppendOwnNone
import Derived.Laws.AppendOwn
import Derived.Maps.AppendAt
import Derived.Laws.OwnMore
import Derived.OwnWalk
import Derived.Deep.AppendLies
import Derived.Shelf.Spec.SlicesGrow
import Derived.Ground.Names7Prog
set_option linter.unusedSimpArgs false
set_option linter.unusedVariables false
set_option linter.all false
namespace Go.Proofs.YtpcbccpobhdokaaGreatDoor
open Go.RowKit
theorem mets_nil (w : World) (B : Nat) : Mets w B (.slice none 0 0) [] := ⟨none, 0, rfl, by simp, by simp [maxLen], fun h => by simp at h⟩
theorem Mets.base {w w' : World} {base base' : Nat} {V : Value} {l : List Met} (h : Mets w base V l) (hb : Below base w w') (hl : base ≤ base') : Mets w' base' V l := by
  obtain ⟨A, c, rfl, h1, h2, h3⟩ := h.below hb
  exact ⟨A, c, rfl, h1, h2, fun h0 => by obtain ⟨B, o, e1, e2, e3⟩ := h3 h0; exact ⟨B, o, e1, by omega, e3⟩⟩
def metVals (x : Met) : List Value := [.string x.n, .int .i64 x.i, .int .i64 x.a, .int .i64 x.b]
def metCells (X : List Met) : List Value := X.flatMap metVals
theorem metCells_len (C : List Met) : (metCells C).length = C.length * 4 := by
  induction C with
  | nil => rfl
  | cons c t ih => simp only [metCells, List.flatMap_cons, List.length_append, List.length_cons] at *; rw [ih]; simp [metVals]; omega
theorem metCells_snoc (C : List Met) (c : Met) : metCells (C ++ [c]) = metCells C ++ metVals c := by simp [metCells]
theorem metCells_get : ∀ (C : List Met) (j k : Nat), j < C.length → k < 4 → (metCells C)[j * 4 + k]? = (metVals (C.getD j mz))[k]?
  | [], j, k, h, _ => by cases h
  | c :: t, 0, k, _, hk => by
    show (metVals c ++ metCells t)[0 * 4 + k]? = _
    rw [List.getElem?_append_left (by simp [metVals]; omega)]
    simp
  | c :: t, j + 1, k, h, hk => by
    have ih := metCells_get t j k (by simpa using h) hk
    show (metVals c ++ metCells t)[(j + 1) * 4 + k]? = _
    rw [List.getElem?_append_right (by simp [metVals]; omega)]
    rw [show (j + 1) * 4 + k - (metVals c).length = j * 4 + k by simp [metVals]; omega, ih]
    simp
theorem mets_of_own {w : World} {base : Nat} {v : Value} {l : List Met} (h : w.ownsRow base 37 4 v l.length (metCells l)) : Mets w w.heap.size v l := by
  rcases h.2 with ⟨rfl, h0⟩ | ⟨g, cap, cur, rfl, hb, hg, hn, hm, hs, ht⟩
  · obtain rfl : l = [] := List.eq_nil_of_length_eq_zero h0
    exact mets_nil _ _
  · refine ⟨_, cap, rfl, hn, hm, fun _ => ⟨g, 0, rfl, (Array.getElem?_eq_some_iff.1 hg).1, fun j hj => ?_⟩⟩
    have ha : ∀ n, (⟨g, 0, none⟩ : Addr).add n = ⟨g, 0 + n, none⟩ := fun n => by unfold Addr.add; split <;> simp_all
    have go : ∀ k v, k < 4 → (metVals (l.getD j mz))[k]? = some v → w.cell? ⟨g, 0 + j * 4 + k, none⟩ = some v := fun k v hk hv => by
      have := h.cells (g := g) rfl (j * 4 + k) v ((metCells_get l j k hj hk).trans hv)
      rw [ha] at this
      rw [Nat.add_assoc]; exact this
    exact ⟨go 0 _ (by omega) rfl, go 1 _ (by omega) rfl, go 2 _ (by omega) rfl, go 3 _ (by omega) rfl⟩
theorem own_ne_lt {w : World} {B : Nat} {e : TypeId} {size : Nat} {v : Value} {n : Nat} {xs : List Value} (h : w.ownsRow B e size v n xs) {g : Nat} (hg : g < B ∨ w.heap.size ≤ g) : v.ownBlock ≠ some g := by
  intro hv
  obtain ⟨h1, h2⟩ := h.lt g hv
  omega
theorem own_shape {w : World} {base : Nat} {e : TypeId} {size : Nat} {v : Value} {n : Nat} {xs : List Value} (h : w.ownsRow base e size v n xs) (hn : 0 < n) : ∃ g c, v = .slice (some ⟨g, 0, none⟩) n c := by
  rcases h.2 with ⟨rfl, h0⟩ | ⟨g, cap, cur, rfl, hb, hg, hn, hm, hs, ht⟩
  · omega
  · exact ⟨g, cap, rfl⟩
theorem info37 : (Tryz.prog.info? 37).map (fun i => (i.zero, i.size, i.bytes)) = some (some (.agg #[.string ⟨#[]⟩, .int .i64 0, .int .i64 0, .int .i64 0]), 4, 40) := by kernel_rfl
theorem app_met {ops : Array Oper} {rest : List Oper} {o : Oper} {a : Act} {Q : Exit → Act → World → Prop} (Wp : World) (hgd : o.guard = none) (s x : Operand) (ho : o.op = .call { callee := .builtin .append, args := #[s, x], argTypes := #[22, 22] })
    (base : Nat) (v : Value) (l : List Met) (d : Met) (hs : a.eval s = v) (hx : a.eval x = .slice (some ⟨Wp.heap.size, 0, none⟩) 1 1) (hown : Wp.ownsRow base 37 4 v l.length (metCells l)) (hl : l.length ≤ 70000) (hbase : base ≤ Wp.heap.size)
    (h : ∀ g c w', w'.ownsRow base 37 4 (.slice (some ⟨g, 0, none⟩) (l.length + 1) c) (l ++ [d]).length (metCells (l ++ [d])) → (Wp.alloc (.cells #[.string d.n, .int .i64 d.i, .int .i64 d.a, .int .i64 d.b] 37)).grownBy w' v.ownBlock → Below base Wp w' → (v.ownBlock = some g ∨ Wp.heap.size + 1 = g) →
      wpList Tryz.prog ops Q rest (a.put o.dst (.slice (some ⟨g, 0, none⟩) (l.length + 1) c)) w') : wpList Tryz.prog ops Q (o :: rest) a (Wp.alloc (.cells #[.string d.n, .int .i64 d.i, .int .i64 d.a, .int .i64 d.b] 37)) := by
  obtain ⟨i0, hi, hz0, hz1, hz2⟩ := info_parts info37
  refine wpList_append_own_at _ hgd s x 22 ho base 37 i0 _ 4 40 Tryz.underlying22 hi hz0 hz1 hz2 rfl (by decide) v l.length (metCells l) hs (hown.alloc _) ⟨Wp.heap.size, 0, none⟩ 1 1 (metVals d) hx rfl (World.news_of_block (heap_alloc_last Wp _)) (by simp [metVals, Value.oneCell']) (by unfold maxLen; omega) (by omega) (by simp; omega) ?_
  intro v' w' hown' hgrow _ hat
  obtain ⟨g, c, rfl⟩ := own_shape hown' (by omega)
  refine h g c w' (by rw [List.length_append, metCells_snoc]; exact hown') hgrow (Below.grown ((Below.refl _ Wp).mono hbase |>.alloc hbase _) hgrow (by simp; omega) (fun j e => (hown.lt j e).1)) ?_
  rcases hat with e | e
  · exact .inl (e.symm.trans rfl)
  · have : g = Wp.heap.size + 1 := by simpa [Value.ownBlock] using e
    exact .inr this.symm
theorem metVals_at {w : World} {b o : Nat} {c : Met} (h : MetAt w b o c) (k : Nat) (u : Value) (hu : (metVals c)[k]? = some u) : w.cell? ⟨b, o + k, none⟩ = some u := by
  obtain ⟨h0, h1, h2, h3⟩ := h
  match k, hu with
  | 0, hu => cases hu; exact h0
  | 1, hu => cases hu; exact h1
  | 2, hu => cases hu; exact h2
  | 3, hu => cases hu; exact h3
  | k + 4, hu => simp [metVals] at hu
theorem addr_add (b o n : Nat) : (⟨b, o, none⟩ : Addr).add n = ⟨b, o + n, none⟩ := by unfold Addr.add; split <;> simp_all
theorem mets_cells {w : World} {b o : Nat} {cs : List Met} (h : ∀ j, j < cs.length → MetAt w b (o + j * 4) (cs.getD j mz)) : ∀ j u, (metCells cs)[j]? = some u → w.cell? ((⟨b, o, none⟩ : Addr).add j) = some u := fun j u hu => by
  have hj : j < cs.length * 4 := by have := (List.getElem?_eq_some_iff.1 hu).1; rwa [metCells_len] at this
  have hd : j / 4 * 4 + j % 4 = j := by omega
  have hg := metCells_get cs (j / 4) (j % 4) (by omega) (by omega)
  rw [hd, hu] at hg
  have := metVals_at (h (j / 4) (by omega)) (j % 4) u hg.symm
  rw [addr_add]
  rwa [show o + j / 4 * 4 + j % 4 = o + j by omega] at this
theorem metCells_one (cs : List Met) : ∀ u ∈ metCells cs, u.oneCell' = true := by
  intro u hu
  unfold metCells at hu
  obtain ⟨c, _, hc⟩ := List.mem_flatMap.1 hu
  simp only [metVals, List.mem_cons, List.not_mem_nil, or_false] at hc
  rcases hc with rfl | rfl | rfl | rfl <;> rfl
theorem run_append_none_c (ty : TypeId) (base : Nat) (v : Value) (n c : Nat) (xs : List Value) (w : World) (hown : w.ownsRow base 37 4 v n xs) :
    (Builtin.append_ #[22, 22] ty #[v, .slice none 0 c]).run Tryz.prog w = .ok v w := by
  obtain ⟨i0, hi, _⟩ := info_parts info37
  rcases hown.2 with ⟨rfl, rfl⟩ | ⟨g, cap, cur, rfl, _, _, hnc, _⟩
  · simp [Builtin.append_, run_underlying Tryz.underlying22, sizeOf, typeInfo, hi, Builtin.lenOf, Builtin.firstCells]
  · simp [Builtin.append_, run_underlying Tryz.underlying22, sizeOf, typeInfo, hi, Builtin.lenOf, Builtin.firstCells, hnc, storeCells]
def MetsAt (w : World) (A : Option Addr) (l : List Met) : Prop := 0 < l.length → ∃ b o, A = some ⟨b, o, none⟩ ∧ ∀ j, j < l.length → MetAt w b (o + j * 4) (l.getD j mz)
theorem wp_append_met {o : Oper} {a : Act} {K : Act → World → Prop} {Q : Exit → Act → World → Prop} (s x : Operand) (ho : o.op = .call { callee := .builtin .append, args := #[s, x], argTypes := #[22, 22] })
    (W : World) (base : Nat) (v : Value) (l news : List Met) (hs : a.eval s = v) (hown : W.ownsRow base 37 4 v l.length (metCells l)) (A : Option Addr) (c : Nat) (hx : a.eval x = .slice A news.length c) (hsrc : MetsAt W A news)
    (hl : l.length + news.length ≤ 70000) (hbase : base ≤ W.heap.size)
    (h : ∀ v' w', w'.ownsRow base 37 4 v' (l ++ news).length (metCells (l ++ news)) → W.grownBy w' v.ownBlock → (v'.ownBlock = v.ownBlock ∨ v'.ownBlock = some W.heap.size) → K (a.put o.dst v') w') : o.wp Tryz.prog a W K Q := by
  have main : ∃ v' w', (Builtin.append_ #[22, 22] o.type #[v, .slice A news.length c]).run Tryz.prog W = .ok v' w' ∧ w'.ownsRow base 37 4 v' (l ++ news).length (metCells (l ++ news)) ∧ W.grownBy w' v.ownBlock ∧ (v'.ownBlock = v.ownBlock ∨ v'.ownBlock = some W.heap.size) := by
    cases A with
    | none =>
      have hn : news = [] := by
        cases news with
        | nil => rfl
        | cons d t => obtain ⟨b, o', e, _⟩ := hsrc (by simp); cases e
      subst hn
      exact ⟨v, W, run_append_none_c o.type base v l.length c _ W hown, by simpa using hown, ⟨rfl, rfl, rfl, Nat.le_refl _, fun _ _ _ => rfl⟩, .inl rfl⟩
    | some ad =>
      obtain ⟨i0, hi, hz0, hz1, hz2⟩ := info_parts info37
      have hnews : ∀ j u, (metCells news)[j]? = some u → W.cell? (ad.add j) = some u := by
        cases news with
        | nil => intro j u hu; simp [metCells] at hu
        | cons d t =>
          obtain ⟨b, o', e, hcell⟩ := hsrc (by simp)
          cases e
          exact mets_cells hcell
      obtain ⟨v', w', hr, h2, h3, _, h5⟩ := run_append_own_at (P := Tryz.prog) (w := W) base 22 o.type 37 i0 _ 4 40 Tryz.underlying22 hi hz0 hz1 hz2 rfl (by decide) v l.length (metCells l) hown ad news.length c (metCells news) (by rw [metCells_len]) hnews (fun u hu => by
        obtain ⟨d, _, hd⟩ := List.mem_flatMap.1 hu
        simp only [metVals, List.mem_cons, List.not_mem_nil, or_false] at hd
        rcases hd with rfl | rfl | rfl | rfl <;> rfl) (by unfold maxLen; omega) (by omega) hbase
      exact ⟨v', w', hr, by rw [List.length_append, show metCells (l ++ news) = metCells l ++ metCells news by simp [metCells]]; exact h2, h3, h5⟩
  obtain ⟨v', w', hr, h2, h3, h5⟩ := main
  unfold Oper.wp execOp
  simp only [ho, resolve, invoke, builtin, Sem.run_bind, Sem.run_pure, Result.andThen_ok, List.map_toArray, List.map_cons, List.map_nil, hs, hx, hr]
  exact h v' w' h2 h3 h5
end Go.Proofs.YtpcbccpobhdokaaGreatDoor
namespace Go.Proofs.YtpcbccpobhdokaaGreatDoor
open Go.RowKit Go.Shelf Go.Sort
def Tryz.growM_ren : Go.Shelf.Ren := ⟨fun | 4 => 56 | n => n, fun | 22 => 22 | 25 => 37 | 3 => 3 | 4 => 4 | 9 => 9 | 20 => 20 | 0 => 0 | n => n, fun | n => n⟩
theorem Tryz.growM : Go.Proofs.Lays8.n4 Tryz.prog Tryz.growM_ren := {
  mixed := by kernel_rfl
  f4 := ⟨Tryz.f56.name, by decide, Tryz.func56.trans (congrArg some (by kernel_rfl))⟩
  t0 := Tryz.underlying0
  a0 := Tryz.isAgg0
  z0 := Tryz.sizeOf0
  v0 := Tryz.zeroValue0
  t3 := Tryz.underlying3
  a3 := Tryz.isAgg3
  z3 := Tryz.sizeOf3
  v3 := Tryz.zeroValue3
  t4 := Tryz.underlying4
  a4 := Tryz.isAgg4
  z4 := Tryz.sizeOf4
  v4 := Tryz.zeroValue4
  t9 := Tryz.underlying9
  a9 := Tryz.isAgg9
  z9 := Tryz.sizeOf9
  v9 := Tryz.zeroValue9
  t20 := Tryz.underlying20
  a20 := Tryz.isAgg20
  z20 := Tryz.sizeOf20
  v20 := Tryz.zeroValue20
  t22 := Tryz.underlying22
  a22 := Tryz.isAgg22
  z22 := Tryz.sizeOf22
  v22 := Tryz.zeroValue22 }
theorem app_mets {ops : Array Oper} {rest : List Oper} {o : Oper} {a : Act} {Q : Exit → Act → World → Prop} (hgd : o.guard = none) (s x : Operand) (ho : o.op = .call { callee := .builtin .append, args := #[s, x], argTypes := #[22, 22] })
    (W : World) (base : Nat) (v : Value) (l news : List Met) (hs : a.eval s = v) (hown : W.ownsRow base 37 4 v l.length (metCells l)) (A : Option Addr) (c : Nat) (hx : a.eval x = .slice A news.length c) (hsrc : MetsAt W A news)
    (hl : l.length + news.length ≤ 70000) (hbase : base ≤ W.heap.size)
    (h : ∀ v' w', w'.ownsRow base 37 4 v' (l ++ news).length (metCells (l ++ news)) → W.grownBy w' v.ownBlock → (v'.ownBlock = v.ownBlock ∨ v'.ownBlock = some W.heap.size) → wpList Tryz.prog ops Q rest (a.put o.dst v') w') : wpList Tryz.prog ops Q (o :: rest) a W := by
  refine wpList_plain hgd fun K hK => ?_
  exact wp_append_met s x ho W base v l news hs hown A c hx hsrc hl hbase (fun v' w' h1 h2 h3 => hK _ _ (h v' w' h1 h2 h3))
theorem grow_own (n : Nat) (hn : n ≤ 70000) (base : Nat) (w : World) (hb : base ≤ w.heap.size) : Calls Tryz.prog 56 #[.slice none 0 0, .int .i64 n] w fun e w' => ∃ v, e = .returned v ∧ w'.ownsRow base 37 4 v 0 (metCells []) ∧ Below w.heap.size w w' := by
  by_cases h0 : n = 0
  · refine (Any8.slices_Grow_room Tryz.growM none 0 0 n w (Nat.le_refl _) (by omega) (by omega) (by omega)).mono ?_
    rintro e w' ⟨rfl, rfl⟩
    exact ⟨_, rfl, ⟨rfl, .inl ⟨rfl, rfl⟩⟩, Below.refl _ _⟩
  · obtain ⟨i0, hi, hz0, hz1, hz2⟩ := info_parts info37
    refine (Any8.slices_Grow_grow Tryz.growM i0 _ hi hz0 (by rw [hz1]; decide) none 0 0 n [] w (Nat.le_refl _) (by omega) (by rw [hz2]; omega) (by omega) (by simp) (fun _ => rfl) (fun a h => by cases h)).mono ?_
    rintro e w' ⟨rfl, rfl⟩
    refine ⟨_, rfl, ⟨rfl, .inr ⟨_, _, _, rfl, hb, heap_alloc_last w.drew _, Nat.zero_le _, grownCap_le_maxLen _ _ _ _ (by unfold maxLen; omega), ?_, by simp [metCells]⟩⟩, Gr.below (((Gr.refl w).drew).alloc _)⟩
    have hg : 0 + n ≤ grownCap w (0 + n) 0 37 := grownCap_ge w _ _ _
    rw [Array.size_append, Array.size_append, size_zeroCells, size_zeroCells]
    show 0 + (0 + n - 0) * 4 + (grownCap w (0 + n) 0 37 - (0 + n)) * 4 = grownCap w (0 + n) 0 37 * 4
    omega
theorem mets_at {w : World} {base n c : Nat} {A : Option Addr} {l : List Met} (h : Mets w base (.slice A n c) l) : MetsAt w A l := by
  obtain ⟨A', c', e, h1, h2, h3⟩ := h
  injection e with e1 e2 e3
  subst e1
  exact fun hp => by
    obtain ⟨B, o, e1, _, e2⟩ := h3 hp
    exact ⟨B, o, e1, e2⟩
set_option maxHeartbeats 4000000 in
theorem concat_any (a b : List Met) (A A' : Option Addr) (ca cb B c : Nat) (w : World) (h0 : w.cell? ⟨B, 0, none⟩ = some (.slice A a.length ca)) (h1 : w.cell? ⟨B, 1, none⟩ = some (.slice A' b.length cb)) (ha : Mets w w.heap.size (.slice A a.length ca) a) (hb : Mets w w.heap.size (.slice A' b.length cb) b) (hla : a.length ≤ 10000) (hlb : b.length ≤ 10000) :
    Calls Tryz.prog 23 #[.slice (some ⟨B, 0, none⟩) 2 c] w fun e w' => ∃ v, e = .returned v ∧ w'.ownsRow w.heap.size 37 4 v (a ++ b).length (metCells (a ++ b)) ∧ Below w.heap.size w w' := by
  have HA := Lib.hid ha
  have HB := Lib.hid hb
  have hBl : B < w.heap.size := World.block_lt_of_cell? _ _ h0
  clear ha hb
  have r1 : IntKind.i64.wrap ((a.length : Int) + (b.length : Int)) = (a.length : Int) + (b.length : Int) := by rw [IntKind.wrap_i64]; omega
  have r2 : IntKind.i64.wrap (a.length : Int) = (a.length : Int) := by rw [IntKind.wrap_i64]; omega
  have n1 : ¬ ((a.length : Int) + (b.length : Int)) < 0 := by omega
  have n2 : ¬ (a.length : Int) < 0 := by omega
  have HG := Lib.hid (grow_own (a.length + b.length) (by omega) w.heap.size w (Nat.le_refl _))
  rw [show ((a.length + b.length : Nat) : Int) = (a.length : Int) + (b.length : Int) by omega] at HG
  go_enter Tryz.func23, Tryz.ntmps23
  go_wp2_with fail
  refine wp_loop_rounds 3 ?_
  rw [rounds_succ]
  go_wp2_with fail
  rw [rounds_succ]
  go_wp2_with fail
  rw [rounds_succ]
  go_wp2_with fail
  refine HG.out.mono ?_
  rintro e w1 ⟨v1, rfl, ho1, hb1⟩
  have HO1 := Lib.hid ho1
  have HB1 := Lib.hid hb1
  have c0 : w1.cell? ⟨B, 0, none⟩ = some (.slice A a.length ca) := (hb1.cell (p := ⟨B, 0, none⟩) hBl).trans h0
  have c1 : w1.cell? ⟨B, 1, none⟩ = some (.slice A' b.length cb) := (hb1.cell (p := ⟨B, 1, none⟩) hBl).trans h1
  clear ho1 hb1 h0 h1 HG r1 r2 n1 n2
  go_wp2_with fail
  refine wp_loop_rounds 3 ?_
  rw [rounds_succ]
  go_wp2_with (at_builtin; refine app_mets rfl (.tmp 31) (.tmp 32) rfl w1 w.heap.size v1 [] a ?q1 HO1.out A ca ?q2 (mets_at (HA.out.below HB1.out)) (by simp; omega) HB1.out.size ?_)
  case q1 => rfl
  case q2 => rfl
  intro v2 w2 ho2 hg2 _
  have HO2 := Lib.hid ho2
  have hb2 := Below.grown HB1.out hg2 HB1.out.size (fun j e => (HO1.out.lt j e).1)
  have HB2 := Lib.hid hb2
  have d0 : w2.cell? ⟨B, 0, none⟩ = some (.slice A a.length ca) := by
    have := hb2.cell (p := ⟨B, 0, none⟩) hBl
    have h3 := HB1.out.cell (p := ⟨B, 0, none⟩) hBl
    rw [this, ← h3]; exact c0
  have d1 : w2.cell? ⟨B, 1, none⟩ = some (.slice A' b.length cb) := by
    have := hb2.cell (p := ⟨B, 1, none⟩) hBl
    have h3 := HB1.out.cell (p := ⟨B, 1, none⟩) hBl
    rw [this, ← h3]; exact c1
  clear ho2 hg2 hb2 c0 c1
  go_wp2_with fail
  rw [rounds_succ]
  go_wp2_with (at_builtin; refine app_mets rfl (.tmp 31) (.tmp 32) rfl w2 w.heap.size v2 a b ?q3 HO2.out A' cb ?q4 (mets_at (HB.out.below HB2.out)) (by omega) HB2.out.size ?_)
  case q3 => rfl
  case q4 => rfl
  intro v3 w3 ho3 hg3 _
  have HO3 := Lib.hid ho3
  have HB3 := Lib.hid (Below.grown HB2.out hg3 HB2.out.size (fun j e => (HO2.out.lt j e).1))
  clear ho3 hg3
  go_wp2_with fail
  rw [rounds_succ]
  go_wp2_with fail
  refine bodyPost_ret (by (simp [results, Tryz.results23, go_sem, *]; try rfl)) rfl ?_
  exact ⟨_, rfl, by rw [List.length_append]; exact HO3.out, HB3.out⟩
end Go.Proofs.YtpcbccpobhdokaaGreatDoor

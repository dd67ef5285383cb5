/- slices.Concat of two lists of metrics. -/
import Derived.Test.YtpcbccpobhdokaaGreatDoorA1
import Derived.Shelf.Spec.SlicesGrow
import Derived.Ground.Names7Prog
set_option linter.unusedSimpArgs false
set_option linter.unusedVariables false
set_option linter.all false
namespace Go.Proofs.YtpcbccpobhdokaaGreatDoor
open Go.RowKit Go.Shelf Go.Sort
def Tryz.growM_ren : Go.Shelf.Ren := ⟨fun | 4 => 56 | n => n, fun | 22 => 22 | 25 => 37 | 3 => 3 | 4 => 4 | 9 => 9 | 20 => 20 | 0 => 0 | n => n, fun | n => n⟩
theorem Tryz.growM : Go.Proofs.Lays8.n4 Tryz.prog Tryz.growM_ren := {
  mixed := by kernel_rfl
  f4 := ⟨Tryz.f56.name, by decide, Tryz.func56.trans (congrArg some (by kernel_rfl))⟩
  t0 := Tryz.underlying0
  a0 := Tryz.isAgg0
  z0 := Tryz.sizeOf0
  v0 := Tryz.zeroValue0
  t3 := Tryz.underlying3
  a3 := Tryz.isAgg3
  z3 := Tryz.sizeOf3
  v3 := Tryz.zeroValue3
  t4 := Tryz.underlying4
  a4 := Tryz.isAgg4
  z4 := Tryz.sizeOf4
  v4 := Tryz.zeroValue4
  t9 := Tryz.underlying9
  a9 := Tryz.isAgg9
  z9 := Tryz.sizeOf9
  v9 := Tryz.zeroValue9
  t20 := Tryz.underlying20
  a20 := Tryz.isAgg20
  z20 := Tryz.sizeOf20
  v20 := Tryz.zeroValue20
  t22 := Tryz.underlying22
  a22 := Tryz.isAgg22
  z22 := Tryz.sizeOf22
  v22 := Tryz.zeroValue22 }
/-- append of many metrics in a plain region -/
theorem app_mets {ops : Array Oper} {rest : List Oper} {o : Oper} {a : Act} {Q : Exit → Act → World → Prop} (hgd : o.guard = none) (s x : Operand) (ho : o.op = .call { callee := .builtin .append, args := #[s, x], argTypes := #[22, 22] })
    (W : World) (base : Nat) (v : Value) (l news : List Met) (hs : a.eval s = v) (hown : W.ownsRow base 37 4 v l.length (metCells l)) (A : Option Addr) (c : Nat) (hx : a.eval x = .slice A news.length c) (hsrc : MetsAt W A news)
    (hl : l.length + news.length ≤ 70000) (hbase : base ≤ W.heap.size)
    (h : ∀ v' w', w'.ownsRow base 37 4 v' (l ++ news).length (metCells (l ++ news)) → W.grownBy w' v.ownBlock → (v'.ownBlock = v.ownBlock ∨ v'.ownBlock = some W.heap.size) → wpList Tryz.prog ops Q rest (a.put o.dst v') w') : wpList Tryz.prog ops Q (o :: rest) a W := by
  refine wpList_plain hgd fun K hK => ?_
  exact wp_append_met s x ho W base v l news hs hown A c hx hsrc hl hbase (fun v' w' h1 h2 h3 => hK _ _ (h v' w' h1 h2 h3))
theorem grow_own (n : Nat) (hn : n ≤ 70000) (base : Nat) (w : World) (hb : base ≤ w.heap.size) : Calls Tryz.prog 56 #[.slice none 0 0, .int .i64 n] w fun e w' => ∃ v, e = .returned v ∧ w'.ownsRow base 37 4 v 0 (metCells []) ∧ Below w.heap.size w w' := by
  by_cases h0 : n = 0
  · refine (Any8.slices_Grow_room Tryz.growM none 0 0 n w (Nat.le_refl _) (by omega) (by omega) (by omega)).mono ?_
    rintro e w' ⟨rfl, rfl⟩
    exact ⟨_, rfl, ⟨rfl, .inl ⟨rfl, rfl⟩⟩, Below.refl _ _⟩
  · obtain ⟨i0, hi, hz0, hz1, hz2⟩ := info_parts info37
    refine (Any8.slices_Grow_grow Tryz.growM i0 _ hi hz0 (by rw [hz1]; decide) none 0 0 n [] w (Nat.le_refl _) (by omega) (by rw [hz2]; omega) (by omega) (by simp) (fun _ => rfl) (fun a h => by cases h)).mono ?_
    rintro e w' ⟨rfl, rfl⟩
    refine ⟨_, rfl, ⟨rfl, .inr ⟨_, _, _, rfl, hb, heap_alloc_last w.drew _, Nat.zero_le _, grownCap_le_maxLen _ _ _ _ (by unfold maxLen; omega), ?_, by simp [metCells]⟩⟩, Gr.below (((Gr.refl w).drew).alloc _)⟩
    have hg : 0 + n ≤ grownCap w (0 + n) 0 37 := grownCap_ge w _ _ _
    rw [Array.size_append, Array.size_append, size_zeroCells, size_zeroCells]
    show 0 + (0 + n - 0) * 4 + (grownCap w (0 + n) 0 37 - (0 + n)) * 4 = grownCap w (0 + n) 0 37 * 4
    omega
theorem mets_at {w : World} {base n c : Nat} {A : Option Addr} {l : List Met} (h : Mets w base (.slice A n c) l) : MetsAt w A l := by
  obtain ⟨A', c', e, h1, h2, h3⟩ := h
  injection e with e1 e2 e3
  subst e1
  exact fun hp => by
    obtain ⟨B, o, e1, _, e2⟩ := h3 hp
    exact ⟨B, o, e1, e2⟩
set_option maxHeartbeats 4000000 in
theorem concat_any (a b : List Met) (A A' : Option Addr) (ca cb B c : Nat) (w : World) (h0 : w.cell? ⟨B, 0, none⟩ = some (.slice A a.length ca)) (h1 : w.cell? ⟨B, 1, none⟩ = some (.slice A' b.length cb)) (ha : Mets w w.heap.size (.slice A a.length ca) a) (hb : Mets w w.heap.size (.slice A' b.length cb) b) (hla : a.length ≤ 10000) (hlb : b.length ≤ 10000) :
    Calls Tryz.prog 23 #[.slice (some ⟨B, 0, none⟩) 2 c] w fun e w' => ∃ v, e = .returned v ∧ w'.ownsRow w.heap.size 37 4 v (a ++ b).length (metCells (a ++ b)) ∧ Below w.heap.size w w' := by
  have HA := Lib.hid ha
  have HB := Lib.hid hb
  have hBl : B < w.heap.size := World.block_lt_of_cell? _ _ h0
  clear ha hb
  have r1 : IntKind.i64.wrap ((a.length : Int) + (b.length : Int)) = (a.length : Int) + (b.length : Int) := by rw [IntKind.wrap_i64]; omega
  have r2 : IntKind.i64.wrap (a.length : Int) = (a.length : Int) := by rw [IntKind.wrap_i64]; omega
  have n1 : ¬ ((a.length : Int) + (b.length : Int)) < 0 := by omega
  have n2 : ¬ (a.length : Int) < 0 := by omega
  have HG := Lib.hid (grow_own (a.length + b.length) (by omega) w.heap.size w (Nat.le_refl _))
  rw [show ((a.length + b.length : Nat) : Int) = (a.length : Int) + (b.length : Int) by omega] at HG
  go_enter Tryz.func23, Tryz.ntmps23
  go_wp2_with fail
  refine wp_loop_rounds 3 ?_
  rw [rounds_succ]
  go_wp2_with fail
  rw [rounds_succ]
  go_wp2_with fail
  rw [rounds_succ]
  go_wp2_with fail
  refine HG.out.mono ?_
  rintro e w1 ⟨v1, rfl, ho1, hb1⟩
  have HO1 := Lib.hid ho1
  have HB1 := Lib.hid hb1
  have c0 : w1.cell? ⟨B, 0, none⟩ = some (.slice A a.length ca) := (hb1.cell (p := ⟨B, 0, none⟩) hBl).trans h0
  have c1 : w1.cell? ⟨B, 1, none⟩ = some (.slice A' b.length cb) := (hb1.cell (p := ⟨B, 1, none⟩) hBl).trans h1
  clear ho1 hb1 h0 h1 HG r1 r2 n1 n2
  go_wp2_with fail
  refine wp_loop_rounds 3 ?_
  rw [rounds_succ]
  go_wp2_with (at_builtin; refine app_mets rfl (.tmp 31) (.tmp 32) rfl w1 w.heap.size v1 [] a ?q1 HO1.out A ca ?q2 (mets_at (HA.out.below HB1.out)) (by simp; omega) HB1.out.size ?_)
  case q1 => rfl
  case q2 => rfl
  intro v2 w2 ho2 hg2 _
  have HO2 := Lib.hid ho2
  have hb2 := Below.grown HB1.out hg2 HB1.out.size (fun j e => (HO1.out.lt j e).1)
  have HB2 := Lib.hid hb2
  have d0 : w2.cell? ⟨B, 0, none⟩ = some (.slice A a.length ca) := by
    have := hb2.cell (p := ⟨B, 0, none⟩) hBl
    have h3 := HB1.out.cell (p := ⟨B, 0, none⟩) hBl
    rw [this, ← h3]; exact c0
  have d1 : w2.cell? ⟨B, 1, none⟩ = some (.slice A' b.length cb) := by
    have := hb2.cell (p := ⟨B, 1, none⟩) hBl
    have h3 := HB1.out.cell (p := ⟨B, 1, none⟩) hBl
    rw [this, ← h3]; exact c1
  clear ho2 hg2 hb2 c0 c1
  go_wp2_with fail
  rw [rounds_succ]
  go_wp2_with (at_builtin; refine app_mets rfl (.tmp 31) (.tmp 32) rfl w2 w.heap.size v2 a b ?q3 HO2.out A' cb ?q4 (mets_at (HB.out.below HB2.out)) (by omega) HB2.out.size ?_)
  case q3 => rfl
  case q4 => rfl
  intro v3 w3 ho3 hg3 _
  have HO3 := Lib.hid ho3
  have HB3 := Lib.hid (Below.grown HB2.out hg3 HB2.out.size (fun j e => (HO2.out.lt j e).1))
  clear ho3 hg3
  go_wp2_with fail
  rw [rounds_succ]
  go_wp2_with fail
  refine bodyPost_ret (by (simp [results, Tryz.results23, go_sem, *]; try rfl)) rfl ?_
  exact ⟨_, rfl, by rw [List.length_append]; exact HO3.out, HB3.out⟩
end Go.Proofs.YtpcbccpobhdokaaGreatDoor

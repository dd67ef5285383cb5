/- slices.Sort of a slice that is nil. -/
import Derived.WalkKit
import Derived.WalkSpells
import Derived.WalkLawsBesides
import Derived.Handy
import Derived.IntWalk
import Derived.BigQuiet
import Derived.Deep.Draws
import Derived.Lib.Hide
import Derived.Test.YthlfhfliidhelaaGreatDoorProg
import Derived.Laws.IdiomRangeMap
import Derived.Laws.AppendOwn
import Derived.Shelf.Spec.SlicesGrow
import Derived.Ground.Names7Prog
import Derived.Shelf.LaysM
import Derived.Shelf.Strconv.Itoa0
import Derived.Shelf.Strconv.Itoa1
import Derived.Shelf.Strconv.Itoa2
import Derived.Shelf.Strconv.Itoa3
import Derived.Shelf.Strings.OnBuilder
set_option linter.unusedSimpArgs false
set_option linter.unusedVariables false
set_option linter.all false
namespace Go.Proofs.YthlfhfliidhelaaGreatDoor
open Go.RowKit
set_option maxHeartbeats 4000000 in
theorem ins_none (w : World) : Calls Tryz.prog 493 #[.slice none 0 0, .int .i64 0, .int .i64 0] w fun e w' => e = .returned (.tuple #[]) ∧ w' = w := by
  go_enter Tryz.func493, Tryz.ntmps493
  go_wp2_with fail
  refine wp_loop_rounds 1 ?_
  rw [rounds_succ]
  go_wp2_with fail
  go_end0
  exact ⟨rfl, rfl⟩
set_option maxHeartbeats 4000000 in
theorem pdq_none (k : Int) (w : World) : Calls Tryz.prog 401 #[.slice none 0 0, .int .i64 0, .int .i64 0, .int .i64 k] w fun e w' => e = .returned (.tuple #[]) ∧ w' = w := by
  have hi := Lib.hid (fun W => ins_none W)
  go_enter Tryz.func401, Tryz.ntmps401
  go_wp2_with fail
  refine wp_loop_rounds 1 ?_
  rw [rounds_succ]
  go_wp2_with fail
  refine (hi.out _).mono ?_
  rintro e w1 ⟨rfl, rfl⟩
  go_wp2_with fail
  refine bodyPost_ret (results_none rfl _ _ _) rfl ?_
  exact ⟨rfl, rfl⟩
set_option maxRecDepth 100000 in
set_option maxHeartbeats 4000000 in
theorem len64_none (w : World) : Calls Tryz.prog 319 #[.int .u64 0] w fun e w' => e = .returned (.int .i64 0) ∧ w' = w := by
  go_enter Tryz.func319, Tryz.ntmps319
  go_wp2_with fail
  go_ret
  exact ⟨by kernel_rfl, rfl⟩
set_option maxHeartbeats 4000000 in
theorem len_none (w : World) : Calls Tryz.prog 207 #[.int .u64 0] w fun e w' => e = .returned (.int .i64 0) ∧ w' = w := by
  have hi := Lib.hid (fun W => len64_none W)
  go_enter Tryz.func207, Tryz.ntmps207
  go_wp2_with fail
  refine (hi.out _).mono ?_
  rintro e w1 ⟨rfl, rfl⟩
  go_wp2_with fail
  go_ret
  exact ⟨rfl, rfl⟩
set_option maxHeartbeats 4000000 in
theorem sort_none (w : World) : Calls Tryz.prog 308 #[.slice none 0 0] w fun e w' => e = .returned (.tuple #[]) ∧ w' = w := by
  have hi := Lib.hid (fun W => len_none W)
  have hp := Lib.hid (fun k W => pdq_none k W)
  go_enter Tryz.func308, Tryz.ntmps308
  go_wp2_with fail
  refine (hi.out _).mono ?_
  rintro e w1 ⟨rfl, rfl⟩
  go_wp2_with fail
  refine (hp.out _ _).mono ?_
  rintro e w1 ⟨rfl, rfl⟩
  go_wp2_with fail
  go_end0
  exact ⟨rfl, rfl⟩
end Go.Proofs.YthlfhfliidhelaaGreatDoor
namespace Go.Proofs.YthlfhfliidhelaaGreatDoor
open Go.RowKit
theorem range_nil (w : World) : (Instr.range 297 (.map none)).run Tryz.prog w = .ok (.pointer (some ⟨w.heap.size, 0, none⟩)) (w.alloc (.mapIter none 0 #[] 0)) := run_range_nilMap w 297 _ _ Tryz.underlying297
theorem range_no (w : World) (B c : Nat) (h : w.heap[B]? = some (.map #[] c)) : (Instr.range 297 (.map (some B))).run Tryz.prog w = .ok (.pointer (some ⟨w.heap.size, 0, none⟩)) (w.alloc (.mapIter (some B) c #[] c)) := run_range_map w 297 _ _ B #[] c Tryz.underlying297 h
theorem next_no (w : World) (ty : TypeId) (B c : Nat) (h : w.heap[B]? = some (.map #[] c)) : (Instr.next (.pointer (some ⟨w.heap.size, 0, none⟩)) false ty).run Tryz.prog (w.alloc (.mapIter (some B) c #[] c)) = .ok (.tuple #[.bool false]) (w.alloc (.mapIter (some B) c #[] c)) := by
  rcases run_next_map (P := Tryz.prog) w ty B c c #[] #[] c h (by simp) (Nat.le_refl _) with ⟨_, h1⟩ | ⟨e, he, _⟩
  · exact h1
  · simp [leftOf] at he
set_option maxHeartbeats 4000000 in
theorem iv_nil (w : World) : Calls Tryz.prog 201 #[.map none] w fun e w' => e = .returned (.tuple #[.slice none 0 0, .slice none 0 0, .bool true]) ∧ Below w.heap.size w w' := by
  have h1 := range_nil w
  have h2 := fun ty => run_next_nilMap (P := Tryz.prog) w ty 0 0 #[]
  have hs := Lib.hid (fun W => sort_none W)
  have hB := Lib.hid ((Below.refl w.heap.size w).alloc (Nat.le_refl _) (.mapIter none 0 #[] 0))
  go_enter Tryz.func201, Tryz.ntmps201
  go_wp2_with fail
  refine wp_loop_rounds 1 ?_
  rw [rounds_succ]
  go_wp2_with fail
  clear h1 h2
  generalize w.alloc (.mapIter none 0 #[] 0) = W at *
  refine (hs.out _).mono ?_
  rintro e w1 ⟨rfl, rfl⟩
  go_wp2_with fail
  refine wp_loop_rounds 1 ?_
  rw [rounds_succ]
  go_wp2_with fail
  refine bodyPost_ret (by (simp [results, Tryz.results201, go_sem]; try rfl)) rfl ?_
  exact ⟨rfl, hB.out⟩
set_option maxHeartbeats 4000000 in
theorem iv_no (w : World) (B c : Nat) (h : w.heap[B]? = some (.map #[] c)) : Calls Tryz.prog 201 #[.map (some B)] w fun e w' => e = .returned (.tuple #[.slice none 0 0, .slice none 0 0, .bool true]) ∧ Below w.heap.size w w' := by
  have h1 := range_no w B c h
  have h2 := fun ty => next_no w ty B c h
  have hs := Lib.hid (fun W => sort_none W)
  have hB := Lib.hid ((Below.refl w.heap.size w).alloc (Nat.le_refl _) (.mapIter (some B) c #[] c))
  clear h
  go_enter Tryz.func201, Tryz.ntmps201
  go_wp2_with fail
  refine wp_loop_rounds 1 ?_
  rw [rounds_succ]
  go_wp2_with fail
  clear h1 h2
  generalize w.alloc (.mapIter (some B) c #[] c) = W at *
  refine (hs.out _).mono ?_
  rintro e w1 ⟨rfl, rfl⟩
  go_wp2_with fail
  refine wp_loop_rounds 1 ?_
  rw [rounds_succ]
  go_wp2_with fail
  refine bodyPost_ret (by (simp [results, Tryz.results201, go_sem]; try rfl)) rfl ?_
  exact ⟨rfl, hB.out⟩
end Go.Proofs.YthlfhfliidhelaaGreatDoor
namespace Go.Proofs.YthlfhfliidhelaaGreatDoor
open Go.RowKit Go.Shelf
def Tryz.growB_ren : Go.Shelf.Ren := ⟨fun | 4 => 202 | n => n, fun | 22 => 71 | 25 => 172 | 3 => 3 | 4 => 4 | 9 => 9 | 20 => 20 | 0 => 0 | n => n, fun | n => n⟩
theorem Tryz.growB : Go.Proofs.Lays8.n4 Tryz.prog Tryz.growB_ren := {
  mixed := by kernel_rfl
  f4 := ⟨Tryz.f202.name, by decide, Tryz.func202.trans (congrArg some (by kernel_rfl))⟩
  t0 := Tryz.underlying0
  a0 := Tryz.isAgg0
  z0 := Tryz.sizeOf0
  v0 := Tryz.zeroValue0
  t3 := Tryz.underlying3
  a3 := Tryz.isAgg3
  z3 := Tryz.sizeOf3
  v3 := Tryz.zeroValue3
  t4 := Tryz.underlying4
  a4 := Tryz.isAgg4
  z4 := Tryz.sizeOf4
  v4 := Tryz.zeroValue4
  t9 := Tryz.underlying9
  a9 := Tryz.isAgg9
  z9 := Tryz.sizeOf9
  v9 := Tryz.zeroValue9
  t20 := Tryz.underlying20
  a20 := Tryz.isAgg20
  z20 := Tryz.sizeOf20
  v20 := Tryz.zeroValue20
  t22 := Tryz.underlying71
  a22 := Tryz.isAgg71
  z22 := Tryz.sizeOf71
  v22 := Tryz.zeroValue71 }
theorem info228B : ∃ i z, Tryz.prog.info? 172 = some i ∧ i.zero = some z ∧ i.size = 4 ∧ i.bytes = 32 ∧ z.cells.size = 4 := by
  obtain ⟨i, hi⟩ := Option.isSome_iff_exists.1 (show (Tryz.prog.info? 172).isSome = true by kernel_rfl)
  have h := (show (Tryz.prog.info? 172).map (fun i => (i.size, i.bytes, i.zero.map (·.cells.size))) = some (4, 32, some 4) by kernel_rfl)
  rw [hi] at h
  have h := Option.some.inj h
  obtain ⟨h1, h2⟩ := Prod.mk.inj h
  obtain ⟨h2, h3⟩ := Prod.mk.inj h2
  obtain ⟨z, hz, hs⟩ := Option.map_eq_some_iff.1 h3
  exact ⟨i, z, hi, hz, h1, h2, hs⟩
theorem grow0_202 (w : World) : Calls Tryz.prog 202 #[.slice none 0 0, .int .i64 0] w fun ed w' => ed = .returned (.slice none 0 0) ∧ w' = w :=
  Any8.slices_Grow_room Tryz.growB none 0 0 0 w (Nat.le_refl _) (by omega) (by omega) (by omega)
theorem grow_202 (n : Nat) (w : World) (h1 : 1 ≤ n) (h2 : n ≤ 10000) : Calls Tryz.prog 202 #[.slice none 0 0, .int .i64 (n : Int)] w fun ed w' => ∃ cs c', ed = .returned (.slice (some ⟨w.heap.size, 0, none⟩) 0 c') ∧ w' = w.drew.alloc (.cells cs 172) ∧ c' * 4 ≤ cs.size := by
  obtain ⟨i0, z, hi, hz0, hz1, hz2, hzs⟩ := info228B
  refine (Any8.slices_Grow_grow Tryz.growB i0 _ hi hz0 (by rw [hz1]; decide) none 0 0 n [] w (Nat.le_refl _) (by omega) (by rw [hz2]; omega) (by omega) (by simp) (fun _ => rfl) (fun a h => by cases h)).mono ?_
  rintro e w' ⟨rfl, rfl⟩
  refine ⟨_, _, rfl, rfl, ?_⟩
  have hg : 0 + n ≤ grownCap w (0 + n) 0 172 := grownCap_ge w _ _ _
  rw [Array.size_append, Array.size_append, size_zeroCells, size_zeroCells, hzs]
  show grownCap w (0 + n) 0 172 * 4 ≤ 0 + (0 + n - 0) * 4 + (grownCap w (0 + n) 0 172 - (0 + n)) * 4
  omega
def Tryz.growH_ren : Go.Shelf.Ren := ⟨fun | 4 => 205 | n => n, fun | 22 => 84 | 25 => 246 | 3 => 3 | 4 => 4 | 9 => 9 | 20 => 20 | 0 => 0 | n => n, fun | n => n⟩
theorem Tryz.growH : Go.Proofs.Lays8.n4 Tryz.prog Tryz.growH_ren := {
  mixed := by kernel_rfl
  f4 := ⟨Tryz.f205.name, by decide, Tryz.func205.trans (congrArg some (by kernel_rfl))⟩
  t0 := Tryz.underlying0
  a0 := Tryz.isAgg0
  z0 := Tryz.sizeOf0
  v0 := Tryz.zeroValue0
  t3 := Tryz.underlying3
  a3 := Tryz.isAgg3
  z3 := Tryz.sizeOf3
  v3 := Tryz.zeroValue3
  t4 := Tryz.underlying4
  a4 := Tryz.isAgg4
  z4 := Tryz.sizeOf4
  v4 := Tryz.zeroValue4
  t9 := Tryz.underlying9
  a9 := Tryz.isAgg9
  z9 := Tryz.sizeOf9
  v9 := Tryz.zeroValue9
  t20 := Tryz.underlying20
  a20 := Tryz.isAgg20
  z20 := Tryz.sizeOf20
  v20 := Tryz.zeroValue20
  t22 := Tryz.underlying84
  a22 := Tryz.isAgg84
  z22 := Tryz.sizeOf84
  v22 := Tryz.zeroValue84 }
theorem info302H : ∃ i z, Tryz.prog.info? 246 = some i ∧ i.zero = some z ∧ i.size = 5 ∧ i.bytes = 40 ∧ z.cells.size = 5 := by
  obtain ⟨i, hi⟩ := Option.isSome_iff_exists.1 (show (Tryz.prog.info? 246).isSome = true by kernel_rfl)
  have h := (show (Tryz.prog.info? 246).map (fun i => (i.size, i.bytes, i.zero.map (·.cells.size))) = some (5, 40, some 5) by kernel_rfl)
  rw [hi] at h
  have h := Option.some.inj h
  obtain ⟨h1, h2⟩ := Prod.mk.inj h
  obtain ⟨h2, h3⟩ := Prod.mk.inj h2
  obtain ⟨z, hz, hs⟩ := Option.map_eq_some_iff.1 h3
  exact ⟨i, z, hi, hz, h1, h2, hs⟩
theorem grow0_205 (w : World) : Calls Tryz.prog 205 #[.slice none 0 0, .int .i64 0] w fun ed w' => ed = .returned (.slice none 0 0) ∧ w' = w :=
  Any8.slices_Grow_room Tryz.growH none 0 0 0 w (Nat.le_refl _) (by omega) (by omega) (by omega)
theorem grow_205 (n : Nat) (w : World) (h1 : 1 ≤ n) (h2 : n ≤ 10000) : Calls Tryz.prog 205 #[.slice none 0 0, .int .i64 (n : Int)] w fun ed w' => ∃ cs c', ed = .returned (.slice (some ⟨w.heap.size, 0, none⟩) 0 c') ∧ w' = w.drew.alloc (.cells cs 246) ∧ c' * 5 ≤ cs.size := by
  obtain ⟨i0, z, hi, hz0, hz1, hz2, hzs⟩ := info302H
  refine (Any8.slices_Grow_grow Tryz.growH i0 _ hi hz0 (by rw [hz1]; decide) none 0 0 n [] w (Nat.le_refl _) (by omega) (by rw [hz2]; omega) (by omega) (by simp) (fun _ => rfl) (fun a h => by cases h)).mono ?_
  rintro e w' ⟨rfl, rfl⟩
  refine ⟨_, _, rfl, rfl, ?_⟩
  have hg : 0 + n ≤ grownCap w (0 + n) 0 246 := grownCap_ge w _ _ _
  rw [Array.size_append, Array.size_append, size_zeroCells, size_zeroCells, hzs]
  show grownCap w (0 + n) 0 246 * 5 ≤ 0 + (0 + n - 0) * 5 + (grownCap w (0 + n) 0 246 - (0 + n)) * 5
  omega
def Tryz.growI_ren : Go.Shelf.Ren := ⟨fun | 4 => 384 | n => n, fun | 22 => 46 | 25 => 3 | 3 => 3 | 4 => 4 | 9 => 9 | 20 => 20 | 0 => 0 | n => n, fun | n => n⟩
theorem Tryz.growI : Go.Proofs.Lays8.n4 Tryz.prog Tryz.growI_ren := {
  mixed := by kernel_rfl
  f4 := ⟨Tryz.f384.name, by decide, Tryz.func384.trans (congrArg some (by kernel_rfl))⟩
  t0 := Tryz.underlying0
  a0 := Tryz.isAgg0
  z0 := Tryz.sizeOf0
  v0 := Tryz.zeroValue0
  t3 := Tryz.underlying3
  a3 := Tryz.isAgg3
  z3 := Tryz.sizeOf3
  v3 := Tryz.zeroValue3
  t4 := Tryz.underlying4
  a4 := Tryz.isAgg4
  z4 := Tryz.sizeOf4
  v4 := Tryz.zeroValue4
  t9 := Tryz.underlying9
  a9 := Tryz.isAgg9
  z9 := Tryz.sizeOf9
  v9 := Tryz.zeroValue9
  t20 := Tryz.underlying20
  a20 := Tryz.isAgg20
  z20 := Tryz.sizeOf20
  v20 := Tryz.zeroValue20
  t22 := Tryz.underlying46
  a22 := Tryz.isAgg46
  z22 := Tryz.sizeOf46
  v22 := Tryz.zeroValue46 }
theorem info3I : ∃ i z, Tryz.prog.info? 3 = some i ∧ i.zero = some z ∧ i.size = 1 ∧ i.bytes = 8 ∧ z.cells.size = 1 := by
  obtain ⟨i, hi⟩ := Option.isSome_iff_exists.1 (show (Tryz.prog.info? 3).isSome = true by kernel_rfl)
  have h := (show (Tryz.prog.info? 3).map (fun i => (i.size, i.bytes, i.zero.map (·.cells.size))) = some (1, 8, some 1) by kernel_rfl)
  rw [hi] at h
  have h := Option.some.inj h
  obtain ⟨h1, h2⟩ := Prod.mk.inj h
  obtain ⟨h2, h3⟩ := Prod.mk.inj h2
  obtain ⟨z, hz, hs⟩ := Option.map_eq_some_iff.1 h3
  exact ⟨i, z, hi, hz, h1, h2, hs⟩
theorem grow0_384 (w : World) : Calls Tryz.prog 384 #[.slice none 0 0, .int .i64 0] w fun ed w' => ed = .returned (.slice none 0 0) ∧ w' = w :=
  Any8.slices_Grow_room Tryz.growI none 0 0 0 w (Nat.le_refl _) (by omega) (by omega) (by omega)
theorem grow_384 (n : Nat) (w : World) (h1 : 1 ≤ n) (h2 : n ≤ 10000) : Calls Tryz.prog 384 #[.slice none 0 0, .int .i64 (n : Int)] w fun ed w' => ∃ cs c', ed = .returned (.slice (some ⟨w.heap.size, 0, none⟩) 0 c') ∧ w' = w.drew.alloc (.cells cs 3) ∧ c' * 1 ≤ cs.size := by
  obtain ⟨i0, z, hi, hz0, hz1, hz2, hzs⟩ := info3I
  refine (Any8.slices_Grow_grow Tryz.growI i0 _ hi hz0 (by rw [hz1]; decide) none 0 0 n [] w (Nat.le_refl _) (by omega) (by rw [hz2]; omega) (by omega) (by simp) (fun _ => rfl) (fun a h => by cases h)).mono ?_
  rintro e w' ⟨rfl, rfl⟩
  refine ⟨_, _, rfl, rfl, ?_⟩
  have hg : 0 + n ≤ grownCap w (0 + n) 0 3 := grownCap_ge w _ _ _
  rw [Array.size_append, Array.size_append, size_zeroCells, size_zeroCells, hzs]
  show grownCap w (0 + n) 0 3 * 1 ≤ 0 + (0 + n - 0) * 1 + (grownCap w (0 + n) 0 3 - (0 + n)) * 1
  omega
end Go.Proofs.YthlfhfliidhelaaGreatDoor
namespace Go.Proofs.YthlfhfliidhelaaGreatDoor
open Go.RowKit
theorem idx_name : (Tryz.f507.name == "runtime.NumGoroutine") = false := by kernel_rfl
theorem idx_body : Tryz.f507.body.isNone = true := by kernel_rfl
theorem idx_next : (Extern.findNext Tryz.f507).isNone = true := by kernel_rfl
theorem idx_find : Extern.find Tryz.f507 = some Extern.BytealgIndexByte.indexByte := by
  first | rfl | kernel_rfl
theorem idx_run (vs : Array Value) (w : World) : (callFunc 507 vs).run Tryz.prog w = ((Extern.BytealgIndexByte.indexByte vs).run Tryz.prog w).andThen fun v w' => .ok (.value v) w' := by
  have hp : Sem.run Tryz.prog program w = .ok Tryz.prog w := rfl
  have hn : Extern.findNext Tryz.f507 = none := by
    cases h : Extern.findNext Tryz.f507 with
    | none => rfl
    | some e => have := idx_next; rw [h] at this; cases this
  unfold callFunc
  simp only [Sem.run_bind, hp, Result.andThen, Tryz.func507, idx_name, idx_body, Bool.false_eq_true, if_false, if_true, hn, idx_find]
  rfl
end Go.Proofs.YthlfhfliidhelaaGreatDoor
namespace Go.Proofs
open Go.Shelf
def Tryz.laysM171_ren : Go.Shelf.Ren := ⟨fun | 171 => 45 | 243 => 88 | 246 => 164 | 283 => 285 | 284 => 286 | 285 => 287 | 286 => 288 | 129 => 319 | 317 => 388 | 318 => 389 | 319 => 390 | 320 => 391 | 337 => 484 | 338 => 485 | n => n, fun | 3 => 3 | 9 => 9 | 2 => 2 | 4 => 4 | 171 => 479 | 0 => 0 | 53 => 480 | 37 => 125 | 5 => 5 | 173 => 483 | 212 => 607 | 51 => 275 | 20 => 20 | 213 => 608 | 46 => 188 | 232 => 791 | 233 => 792 | n => n, fun | 17 => 2 | 18 => 6 | 19 => 7 | n => n⟩
theorem Tryz.laysM171 : Go.Proofs.LaysM.n171 Tryz.prog Tryz.laysM171_ren := {
  mixed := by kernel_rfl
  f129 := Tryz.func319.trans (congrArg some (by kernel_rfl))
  f171 := Tryz.func45.trans (congrArg some (by kernel_rfl))
  f243 := Tryz.func88.trans (congrArg some (by kernel_rfl))
  f246 := Tryz.func164.trans (congrArg some (by kernel_rfl))
  f283 := Tryz.func285.trans (congrArg some (by kernel_rfl))
  f284 := Tryz.func286.trans (congrArg some (by kernel_rfl))
  f285 := Tryz.func287.trans (congrArg some (by kernel_rfl))
  f286 := Tryz.func288.trans (congrArg some (by kernel_rfl))
  f317 := Tryz.func388.trans (congrArg some (by kernel_rfl))
  f318 := Tryz.func389.trans (congrArg some (by kernel_rfl))
  f319 := Tryz.func390.trans (congrArg some (by kernel_rfl))
  f320 := Tryz.func391.trans (congrArg some (by kernel_rfl))
  f337 := Tryz.func484.trans (congrArg some (by kernel_rfl))
  f338 := Tryz.func485.trans (congrArg some (by kernel_rfl))
  t0 := Tryz.underlying0
  a0 := Tryz.isAgg0
  z0 := Tryz.sizeOf0
  v0 := Tryz.zeroValue0
  t2 := Tryz.underlying2
  a2 := Tryz.isAgg2
  z2 := Tryz.sizeOf2
  v2 := Tryz.zeroValue2
  t3 := Tryz.underlying3
  a3 := Tryz.isAgg3
  z3 := Tryz.sizeOf3
  v3 := Tryz.zeroValue3
  t4 := Tryz.underlying4
  a4 := Tryz.isAgg4
  z4 := Tryz.sizeOf4
  v4 := Tryz.zeroValue4
  t5 := Tryz.underlying5
  a5 := Tryz.isAgg5
  z5 := Tryz.sizeOf5
  v5 := Tryz.zeroValue5
  t9 := Tryz.underlying9
  a9 := Tryz.isAgg9
  z9 := Tryz.sizeOf9
  v9 := Tryz.zeroValue9
  t20 := Tryz.underlying20
  a20 := Tryz.isAgg20
  z20 := Tryz.sizeOf20
  v20 := Tryz.zeroValue20
  t37 := Tryz.underlying125
  a37 := Tryz.isAgg125
  z37 := Tryz.sizeOf125
  v37 := Tryz.zeroValue125
  t46 := Tryz.underlying188
  a46 := Tryz.isAgg188
  z46 := Tryz.sizeOf188
  v46 := Tryz.zeroValue188
  t51 := Tryz.underlying275
  a51 := Tryz.isAgg275
  z51 := Tryz.sizeOf275
  v51 := Tryz.zeroValue275
  t53 := Tryz.underlying480
  a53 := Tryz.isAgg480
  z53 := Tryz.sizeOf480
  v53 := Tryz.zeroValue480
  t171 := Tryz.underlying479
  a171 := Tryz.isAgg479
  z171 := Tryz.sizeOf479
  v171 := Tryz.zeroValue479
  t173 := Tryz.underlying483
  a173 := Tryz.isAgg483
  z173 := Tryz.sizeOf483
  v173 := Tryz.zeroValue483
  t212 := Tryz.underlying607
  a212 := Tryz.isAgg607
  z212 := Tryz.sizeOf607
  v212 := Tryz.zeroValue607
  t213 := Tryz.underlying608
  a213 := Tryz.isAgg608
  z213 := Tryz.sizeOf608
  t232 := Tryz.underlying791
  a232 := Tryz.isAgg791
  z232 := Tryz.sizeOf791
  v232 := Tryz.zeroValue791
  t233 := Tryz.underlying792
  a233 := Tryz.isAgg792
  z233 := Tryz.sizeOf792
  v233 := Tryz.zeroValue792
  g17 := by kernel_rfl
  g18 := by kernel_rfl
  g19 := by kernel_rfl
  i0 := by kernel_rfl
  i2 := by kernel_rfl
  i3 := by kernel_rfl
  i4 := by kernel_rfl
  i5 := by kernel_rfl
  i9 := by kernel_rfl
  i20 := by kernel_rfl
  i37 := by kernel_rfl
  i46 := by kernel_rfl
  i51 := by kernel_rfl
  i53 := by kernel_rfl
  i171 := by kernel_rfl
  i173 := by kernel_rfl
  i212 := by kernel_rfl
  i232 := by kernel_rfl
  i233 := by kernel_rfl
  m17 := by kernel_rfl
  m18 := by kernel_rfl
  m19 := by kernel_rfl }
open Go.RowKit Go.Sort Go.Lib in
theorem Tryz.strconv_Itoa (n : Int) (h0 : -9223372036854775808 ≤ n) (h1 : n ≤ 9223372036854775807) (w : World) (htab : Lib.TabIs Tryz.prog w "internal/strconv.uint64pow10" .u64 Lib.pow10Tab) :
    Calls Tryz.prog 45 #[.int .i64 n] w fun e w' => e = .returned (.string ⟨(Lib.itoa n).toArray⟩) ∧ ∃ k os, w' = grow (w.drewN k) os := Any.strconv_Itoa Tryz.laysM171 n h0 h1 w htab
end Go.Proofs
namespace Go.Proofs
open Go.Shelf
def Tryz.lays156_ren : Go.Shelf.Ren := ⟨fun | 156 => 92 | 165 => 167 | 166 => 43 | 169 => 48 | 240 => 86 | 241 => 290 | 276 => 162 | 277 => 392 | n => n, fun | 31 => 66 | 9 => 9 | 3 => 3 | 4 => 4 | 0 => 0 | 20 => 20 | 72 => 140 | 76 => 143 | 70 => 138 | 37 => 125 | 75 => 142 | 127 => 206 | 164 => 317 | 5 => 5 | 80 => 153 | n => n, fun | n => n⟩
theorem Tryz.lays452 : Go.Proofs.Lays.n156 Tryz.prog Tryz.lays156_ren := {
  mixed := by kernel_rfl
  f156 := Tryz.func92.trans (congrArg some (by kernel_rfl))
  f165 := Tryz.func167.trans (congrArg some (by kernel_rfl))
  f166 := Tryz.func43.trans (congrArg some (by kernel_rfl))
  f169 := Tryz.func48.trans (congrArg some (by kernel_rfl))
  f240 := Tryz.func86.trans (congrArg some (by kernel_rfl))
  f241 := Tryz.func290.trans (congrArg some (by kernel_rfl))
  f276 := Tryz.func162.trans (congrArg some (by kernel_rfl))
  f277 := Tryz.func392.trans (congrArg some (by kernel_rfl))
  t0 := Tryz.underlying0
  a0 := Tryz.isAgg0
  z0 := Tryz.sizeOf0
  v0 := Tryz.zeroValue0
  t3 := Tryz.underlying3
  a3 := Tryz.isAgg3
  z3 := Tryz.sizeOf3
  v3 := Tryz.zeroValue3
  t4 := Tryz.underlying4
  a4 := Tryz.isAgg4
  z4 := Tryz.sizeOf4
  v4 := Tryz.zeroValue4
  t9 := Tryz.underlying9
  a9 := Tryz.isAgg9
  z9 := Tryz.sizeOf9
  v9 := Tryz.zeroValue9
  t20 := Tryz.underlying20
  a20 := Tryz.isAgg20
  z20 := Tryz.sizeOf20
  v20 := Tryz.zeroValue20
  t31 := Tryz.underlying66
  a31 := Tryz.isAgg66
  z31 := Tryz.sizeOf66
  v31 := Tryz.zeroValue66
  t37 := Tryz.underlying125
  a37 := Tryz.isAgg125
  z37 := Tryz.sizeOf125
  v37 := Tryz.zeroValue125
  t70 := Tryz.underlying138
  a70 := Tryz.isAgg138
  z70 := Tryz.sizeOf138
  v70 := Tryz.zeroValue138
  t72 := Tryz.underlying140
  a72 := Tryz.isAgg140
  z72 := Tryz.sizeOf140
  v72 := Tryz.zeroValue140
  t75 := Tryz.underlying142
  a75 := Tryz.isAgg142
  z75 := Tryz.sizeOf142
  v75 := Tryz.zeroValue142
  t76 := Tryz.underlying143
  a76 := Tryz.isAgg143
  z76 := Tryz.sizeOf143
  v76 := Tryz.zeroValue143
  t127 := Tryz.underlying206
  a127 := Tryz.isAgg206
  z127 := Tryz.sizeOf206
  v127 := Tryz.zeroValue206
  t164 := Tryz.underlying317
  a164 := Tryz.isAgg317
  z164 := Tryz.sizeOf317
  v164 := Tryz.zeroValue317 }
theorem Tryz.Builder_Extra_156 : Builder.Extra Tryz.prog Tryz.lays156_ren := {
  sizeBuilder := by kernel_rfl
  liesBuilder := by kernel_rfl
  t5 := Tryz.underlying5
  a5 := Tryz.isAgg5
  z5 := Tryz.sizeOf5
  v5 := Tryz.zeroValue5
  infoByte := by kernel_rfl
  cellsByte := by kernel_rfl
  sizeByte := by kernel_rfl
  neB5 := by decide }
open Go.RowKit in
theorem Tryz.strings_Join_none (a : Option Addr) (c : Nat) (sep : ByteArray) (w : World) :
    Calls Tryz.prog 92 #[.slice a 0 c, .string sep] w fun e w' => e = .returned (.string ⟨#[]⟩) ∧ w' = w := Any.strings_Join_none Tryz.lays452 Tryz.Builder_Extra_156 a c sep w
open Go.RowKit in
theorem Tryz.strings_Join (bk o c : Nat) (xs : List ByteArray) (sep : ByteArray) (w : World) (hcells : ∀ (j : Nat) x, xs[j]? = some x → w.cell? ⟨bk, o + j, none⟩ = some (.string x)) (hbk : bk < w.heap.size) (hN : xs.length ≤ 140737488355328) (hcap : xs.length ≤ c) (hlen : (Lib.join (xs.map (·.data.toList)) sep.data.toList).length ≤ 140737488355328) :
    Calls Tryz.prog 92 #[.slice (some ⟨bk, o, none⟩) xs.length c, .string sep] w fun e w' => e = .returned (.string ⟨(Lib.join (xs.map (·.data.toList)) sep.data.toList).toArray⟩) ∧ Below w.heap.size w w' := Any.strings_Join Tryz.lays452 Tryz.Builder_Extra_156 bk o c xs sep w hcells hbk hN hcap hlen

end Go.Proofs

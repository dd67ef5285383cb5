/- node.New (18, 21), ledger.New (17, 20). -/
import Derived.Test.YtclkjjdfdndplaaGreatDoorA7
import Derived.Laws.CopyOwn
import Derived.Laws.Tables
namespace Go.Proofs.YtclkjjdfdndplaaGreatDoor
open Go.RowKit
theorem within3_any (n lo hi : Int) (w : World) : Calls Tryz.prog 35 #[.int .i64 n, .int .i64 lo, .int .i64 hi] w fun e w' => e = .returned (.bool (inB lo hi n)) ∧ w' = w := by
  by_cases h1 : lo ≤ n
  · by_cases h2 : n ≤ hi
    · have HE : Hid (inB lo hi n = true) := inB_iff.2 ⟨h1, h2⟩
      go_enter Tryz.func35, Tryz.ntmps35
      go_wp2_with fail
      go_ret
      exact ⟨by rw [HE.out]; rfl, rfl⟩
    · have HE : Hid (inB lo hi n = false) := inB_not.2 (fun h => h2 h.2)
      go_enter Tryz.func35, Tryz.ntmps35
      go_wp2_with fail
      go_ret
      exact ⟨by rw [HE.out]; rfl, rfl⟩
  · have HE : Hid (inB lo hi n = false) := inB_not.2 (fun h => h1 h.1)
    go_enter Tryz.func35, Tryz.ntmps35
    go_wp2_with fail
    go_ret
    exact ⟨by rw [HE.out]; rfl, rfl⟩
/-- a whole row is stored -/
theorem wpList_store_row {P : Program} {ops : Array Oper} {rest : List Oper} {o : Oper} {a : Act} {w : World} {Q : Exit → Act → World → Prop} (hgd : o.guard = none) (ty : TypeId) (x y : Operand) (ho : o.op = .store ty x y)
    (g : Nat) (cells : Array Value) (hx : a.eval x = .pointer (some ⟨g, 0, none⟩)) (hy : a.eval y = .agg cells)
    (t : TypeId) (old : Array Value) (hg : w.heap[g]? = some (.cells old t (0, 0))) (hi : (P.info? ty).map (·.size) = some cells.size)
    (hold : old.size = cells.size) (h1 : cells.all (·.oneCell') = true)
    (h : wpList P ops Q rest (a.put o.dst undef) (w.setRow g cells)) : wpList P ops Q (o :: rest) a w :=
  wpList_plain hgd fun _ hK => wp_store_row ty x y ho g cells hx hy t old hg hi hold h1 (hK _ _ h)
theorem frb_setRow (B : Nat) (w : World) (pb : Nat) (cs : Array Value) : Frb B pb w (w.setRow pb cs) :=
  ⟨rfl, rfl, rfl, by simp, fun k _ hn => setRow_other w pb k cs hn⟩
/-- a node at its beginning -/
def nodeV (i q : Int) : Value := .agg #[.int .i64 i, .int .i64 q, .bool true, .string ⟨#[]⟩, .int .i64 0, .slice none 0 0, .slice none 0 0, .slice none 0 0]
set_option maxRecDepth 100000 in
set_option maxHeartbeats 4000000 in
theorem node_new (i q : Int) (h1 : 0 ≤ i) (h2 : i ≤ 15) (h3 : 0 ≤ q) (h4 : q ≤ 1073741824) (w : World) : Calls Tryz.prog 18 #[.int .i64 i, .int .i64 q] w fun e w' => e = .returned (.tuple #[nodeV i q, .int .i64 0]) ∧ Below w.heap.size w w' := by
  have g1 : Hid (inB 0 15 i = true) := inB_iff.2 ⟨h1, h2⟩
  have g2 : Hid (inB 0 1073741824 q = true) := inB_iff.2 ⟨h3, h4⟩
  go_enter Tryz.func18, Tryz.ntmps18
  go_wp2_with fail
  refine (within3_any i 0 15 _).mono ?_
  rw [g1.out]
  rintro e w1 ⟨rfl, rfl⟩
  go_wp2_with fail
  refine (within3_any q 0 1073741824 _).mono ?_
  rw [g2.out]
  rintro e w1 ⟨rfl, rfl⟩
  go_wp2_with fail
  refine bodyPost_ret (v := .tuple #[nodeV i q, .int .i64 0]) (by simp [results, Tryz.results18, go_sem, nodeV]) rfl ⟨rfl, by (repeat' (first | (with_reducible exact Below.refl _ _) | (with_reducible refine Below.alloc ?_ ?_ _) | (with_reducible refine Below.drew ?_) | (with_reducible refine below_drewN ?_ _) | (with_reducible refine Below.setCell ?_ ?_ _) | (with_reducible refine Below.trans ?_ (Below.mono (by assumption) ?_)) | (with_reducible exact Nat.le_refl _) | omega | (simp; omega) | (simp; done)))⟩
set_option maxRecDepth 100000 in
set_option maxHeartbeats 4000000 in
theorem rnode_new (i q : Int) (h1 : 0 ≤ i) (h2 : i ≤ 15) (h3 : 0 ≤ q) (h4 : q ≤ 1073741824) (w : World) : Calls Tryz.prog 21 #[.int .i64 i, .int .i64 q] w fun e w' => e = .returned (.tuple #[nodeV i q, .int .i64 0]) ∧ Below w.heap.size w w' := by
  have g1 : ¬ i < 0 := by omega
  have g2 : ¬ 16 ≤ i := by omega
  have g3 : ¬ q < 0 := by omega
  have g4 : ¬ 1073741824 < q := by omega
  go_enter Tryz.func21, Tryz.ntmps21
  go_wp2_with fail
  refine bodyPost_ret (v := .tuple #[nodeV i q, .int .i64 0]) (by simp [results, Tryz.results21, go_sem, nodeV]) rfl ⟨rfl, by (repeat' (first | (with_reducible exact Below.refl _ _) | (with_reducible refine Below.alloc ?_ ?_ _) | (with_reducible refine Below.drew ?_) | (with_reducible refine below_drewN ?_ _) | (with_reducible refine Below.setCell ?_ ?_ _) | (with_reducible refine Below.trans ?_ (Below.mono (by assumption) ?_)) | (with_reducible exact Nat.le_refl _) | omega | (simp; omega) | (simp; done)))⟩
set_option maxRecDepth 100000 in
set_option maxHeartbeats 4000000 in
theorem ledger_new (qv cv : Value) (qs : List Int) (cs : List Con) (w : World) (hq : Ints w w.heap.size qv qs) (hc : Cons w w.heap.size cv cs) (hE : planE qs cs = 0) : Calls Tryz.prog 17 #[.agg #[qv, cv]] w fun e w' => e = .returned (.tuple #[.agg #[qv, cv, .slice none 0 0, .slice none 0 0], .int .i64 0]) ∧ Below w.heap.size w w' := by
  have HE := Lib.hid hE
  have HQ := Lib.hid hq
  have HC := Lib.hid hc
  clear hE
  obtain ⟨A1, c1, rfl, -, -, -⟩ := hq
  obtain ⟨A2, c2, rfl, -, -, -⟩ := hc
  go_enter Tryz.func17, Tryz.ntmps17
  go_wp2_with fail
  refine (pcheck_any _ _ qs cs _ ((HQ.out.below (by (repeat' (first | (with_reducible exact Below.refl _ _) | (with_reducible refine Below.alloc ?_ ?_ _) | (with_reducible refine Below.drew ?_) | (with_reducible refine below_drewN ?_ _) | (with_reducible refine Below.setCell ?_ ?_ _) | (with_reducible refine Below.trans ?_ (Below.mono (by assumption) ?_)) | (with_reducible exact Nat.le_refl _) | omega | (simp; omega) | (simp; done))))).more (by (first | omega | (simp; done) | (simp; omega)))) ((HC.out.below (by (repeat' (first | (with_reducible exact Below.refl _ _) | (with_reducible refine Below.alloc ?_ ?_ _) | (with_reducible refine Below.drew ?_) | (with_reducible refine below_drewN ?_ _) | (with_reducible refine Below.setCell ?_ ?_ _) | (with_reducible refine Below.trans ?_ (Below.mono (by assumption) ?_)) | (with_reducible exact Nat.le_refl _) | omega | (simp; omega) | (simp; done))))).more (by (first | omega | (simp; done) | (simp; omega))))).mono ?_
  rw [HE.out]
  rintro e w1 ⟨rfl, hb1⟩
  have hsz : w.heap.size + 1 + 1 ≤ w1.heap.size := Nat.le_trans (by simp) hb1.size
  have n0 : w1.cell? ⟨w.heap.size, 0, none⟩ = some (.slice A1 qs.length c1) := (hb1.cell (p := ⟨w.heap.size, 0, none⟩) (by simp; omega)).trans (by simp [go_sem])
  have n1 : w1.cell? ⟨w.heap.size, 1, none⟩ = some (.slice A2 cs.length c2) := (hb1.cell (p := ⟨w.heap.size, 1, none⟩) (by simp; omega)).trans (by simp [go_sem])
  have r0 : w1.heap[w.heap.size + 1]? = some (.cells #[.slice none 0 0, .slice none 0 0, .slice none 0 0, .slice none 0 0] 36 (0, 0)) := (hb1.block (w.heap.size + 1) (by simp)).trans (by rw [← show (w.alloc (.cells #[.slice A1 qs.length c1, .slice A2 cs.length c2] 25)).heap.size = w.heap.size + 1 by simp]; exact heap_alloc_last _ _)
  have hB : Below w.heap.size w w1 := by (repeat' (first | (with_reducible exact Below.refl _ _) | (with_reducible refine Below.alloc ?_ ?_ _) | (with_reducible refine Below.drew ?_) | (with_reducible refine below_drewN ?_ _) | (with_reducible refine Below.setCell ?_ ?_ _) | (with_reducible refine Below.trans ?_ (Below.mono (by assumption) ?_)) | (with_reducible exact Nat.le_refl _) | omega | (simp; omega) | (simp; done)))
  clear hb1
  go_wp2_with (refine wpList_store_row rfl 36 (.tmp 2) (.tmp 12) rfl (w.heap.size + 1) #[.slice A1 qs.length c1, .slice A2 cs.length c2, .slice none 0 0, .slice none 0 0] rfl rfl 36 _ r0 (by kernel_rfl) (by kernel_rfl) (by simp [Value.oneCell']) ?_)
  have HB : Hid (Below w.heap.size w (w1.setRow (w.heap.size + 1) #[.slice A1 qs.length c1, .slice A2 cs.length c2, .slice none 0 0, .slice none 0 0])) := below_setRow hB (by omega) _
  have hr := setRow_heap w1 (w.heap.size + 1) _ #[.slice A1 qs.length c1, .slice A2 cs.length c2, .slice none 0 0, .slice none 0 0] 36 (0, 0) r0
  have t0 := cell_blk hr 0
  have t1 := cell_blk hr 1
  have t2 := cell_blk hr 2
  have t3 := cell_blk hr 3
  simp only [List.getElem?_toArray, List.getElem?_cons_succ, List.getElem?_cons_zero] at t0 t1 t2 t3
  clear hr r0 n0 n1 hB HQ HC hsz
  generalize w1.setRow (w.heap.size + 1) #[.slice A1 qs.length c1, .slice A2 cs.length c2, .slice none 0 0, .slice none 0 0] = w2 at *
  go_wp2_with fail
  refine bodyPost_ret (v := .tuple #[.agg #[.slice A1 qs.length c1, .slice A2 cs.length c2, .slice none 0 0, .slice none 0 0], .int .i64 0]) (by simp [results, Tryz.results17, go_sem, t0, t1, t2, t3]) rfl ⟨rfl, HB.out⟩
set_option maxRecDepth 100000 in
set_option maxHeartbeats 4000000 in
theorem rledger_new (qv cv : Value) (qs : List Int) (cs : List Con) (w : World) (hq : Ints w w.heap.size qv qs) (hc : Cons w w.heap.size cv cs) (hE : planE qs cs = 0) : Calls Tryz.prog 20 #[.agg #[qv, cv]] w fun e w' => e = .returned (.tuple #[.agg #[qv, cv, .slice none 0 0, .slice none 0 0], .int .i64 0]) ∧ Below w.heap.size w w' := by
  have HE := Lib.hid hE
  have HQ := Lib.hid hq
  have HC := Lib.hid hc
  clear hE
  obtain ⟨A1, c1, rfl, -, -, -⟩ := hq
  obtain ⟨A2, c2, rfl, -, -, -⟩ := hc
  go_enter Tryz.func20, Tryz.ntmps20
  go_wp2_with fail
  refine (rpcheck_any _ _ qs cs _ ((HQ.out.below (by (repeat' (first | (with_reducible exact Below.refl _ _) | (with_reducible refine Below.alloc ?_ ?_ _) | (with_reducible refine Below.drew ?_) | (with_reducible refine below_drewN ?_ _) | (with_reducible refine Below.setCell ?_ ?_ _) | (with_reducible refine Below.trans ?_ (Below.mono (by assumption) ?_)) | (with_reducible exact Nat.le_refl _) | omega | (simp; omega) | (simp; done))))).more (by (first | omega | (simp; done) | (simp; omega)))) ((HC.out.below (by (repeat' (first | (with_reducible exact Below.refl _ _) | (with_reducible refine Below.alloc ?_ ?_ _) | (with_reducible refine Below.drew ?_) | (with_reducible refine below_drewN ?_ _) | (with_reducible refine Below.setCell ?_ ?_ _) | (with_reducible refine Below.trans ?_ (Below.mono (by assumption) ?_)) | (with_reducible exact Nat.le_refl _) | omega | (simp; omega) | (simp; done))))).more (by (first | omega | (simp; done) | (simp; omega))))).mono ?_
  rw [HE.out]
  rintro e w1 ⟨rfl, hb1⟩
  have hsz : w.heap.size + 1 + 1 ≤ w1.heap.size := Nat.le_trans (by simp) hb1.size
  have n0 : w1.cell? ⟨w.heap.size, 0, none⟩ = some (.slice A1 qs.length c1) := (hb1.cell (p := ⟨w.heap.size, 0, none⟩) (by simp; omega)).trans (by simp [go_sem])
  have n1 : w1.cell? ⟨w.heap.size, 1, none⟩ = some (.slice A2 cs.length c2) := (hb1.cell (p := ⟨w.heap.size, 1, none⟩) (by simp; omega)).trans (by simp [go_sem])
  have r0 : w1.heap[w.heap.size + 1]? = some (.cells #[.slice none 0 0, .slice none 0 0, .slice none 0 0, .slice none 0 0] 36 (0, 0)) := (hb1.block (w.heap.size + 1) (by simp)).trans (by rw [← show (w.alloc (.cells #[.slice A1 qs.length c1, .slice A2 cs.length c2] 25)).heap.size = w.heap.size + 1 by simp]; exact heap_alloc_last _ _)
  have hB : Below w.heap.size w w1 := by (repeat' (first | (with_reducible exact Below.refl _ _) | (with_reducible refine Below.alloc ?_ ?_ _) | (with_reducible refine Below.drew ?_) | (with_reducible refine below_drewN ?_ _) | (with_reducible refine Below.setCell ?_ ?_ _) | (with_reducible refine Below.trans ?_ (Below.mono (by assumption) ?_)) | (with_reducible exact Nat.le_refl _) | omega | (simp; omega) | (simp; done)))
  clear hb1
  go_wp2_with (refine wpList_store_row rfl 36 (.tmp 2) (.tmp 12) rfl (w.heap.size + 1) #[.slice A1 qs.length c1, .slice A2 cs.length c2, .slice none 0 0, .slice none 0 0] rfl rfl 36 _ r0 (by kernel_rfl) (by kernel_rfl) (by simp [Value.oneCell']) ?_)
  have HB : Hid (Below w.heap.size w (w1.setRow (w.heap.size + 1) #[.slice A1 qs.length c1, .slice A2 cs.length c2, .slice none 0 0, .slice none 0 0])) := below_setRow hB (by omega) _
  have hr := setRow_heap w1 (w.heap.size + 1) _ #[.slice A1 qs.length c1, .slice A2 cs.length c2, .slice none 0 0, .slice none 0 0] 36 (0, 0) r0
  have t0 := cell_blk hr 0
  have t1 := cell_blk hr 1
  have t2 := cell_blk hr 2
  have t3 := cell_blk hr 3
  simp only [List.getElem?_toArray, List.getElem?_cons_succ, List.getElem?_cons_zero] at t0 t1 t2 t3
  clear hr r0 n0 n1 hB HQ HC hsz
  generalize w1.setRow (w.heap.size + 1) #[.slice A1 qs.length c1, .slice A2 cs.length c2, .slice none 0 0, .slice none 0 0] = w2 at *
  go_wp2_with fail
  refine bodyPost_ret (v := .tuple #[.agg #[.slice A1 qs.length c1, .slice A2 cs.length c2, .slice none 0 0, .slice none 0 0], .int .i64 0]) (by simp [results, Tryz.results20, go_sem, t0, t1, t2, t3]) rfl ⟨rfl, HB.out⟩
end Go.Proofs.YtclkjjdfdndplaaGreatDoor

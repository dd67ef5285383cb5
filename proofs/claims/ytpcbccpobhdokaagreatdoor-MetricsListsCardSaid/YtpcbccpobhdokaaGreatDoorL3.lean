/- MetricsLists: the law returns true. -/
import Derived.Test.YtpcbccpobhdokaaGreatDoorB5
import Derived.Test.YtpcbccpobhdokaaGreatDoorB8
import Derived.Test.YtpcbccpobhdokaaGreatDoorB9
import Derived.Test.YtpcbccpobhdokaaGreatDoorA7
set_option linter.unusedSimpArgs false
set_option linter.unusedVariables false
set_option linter.all false
namespace Go.Proofs.YtpcbccpobhdokaaGreatDoor
open Go.RowKit
def AwakeOk : Prop := ∀ w : World, GOk w → Calls Tryz.prog 7 #[] w fun e w' => e = .returned (.bool true) ∧ Below w.heap.size w w'
def LawPost (w : World) (e : Ending) (w' : World) : Prop := e = .returned (.bool true) ∧ Below w.heap.size w w'
def prS (l : List Met) : ByteArray := if chkE l = 0 then ⟨(catL l).toArray⟩ else ⟨#[]⟩
def prE (l : List Met) : Int := if chkE l = 0 then 0 else 1
theorem print_all (l : List Met) (V : Value) (w : World) (h : Mets w w.heap.size V l) (hG : GOk w) : Calls Tryz.prog 10 #[V] w fun e w' => e = .returned (.tuple #[.string (prS l), .int .i64 (prE l)]) ∧ Below w.heap.size w w' := by
  unfold prS prE
  by_cases hE : chkE l = 0
  · rw [if_pos hE, if_pos hE]; exact print_ok l V w h hG hE
  · rw [if_neg hE, if_neg hE]; exact print_bad l V w h hE
theorem rprint_all (l : List Met) (V : Value) (w : World) (h : Mets w w.heap.size V l) : Calls Tryz.prog 11 #[V] w fun e w' => e = .returned (.tuple #[.string (prS l), .int .i64 (prE l)]) ∧ Below w.heap.size w w' :=
  rprintM_any l V w h
theorem res_cells (o : Option (Int × Int)) : ∃ (u v : Int) (t : Bool), resV o = .tuple #[.agg #[.int .i64 u, .int .i64 v], .bool t] := by
  cases o with
  | none => exact ⟨0, 0, false, rfl⟩
  | some p => exact ⟨p.1, p.2, true, rfl⟩
theorem eql_rat (u v : Int) (W : World) : (binOp .eql 30 (.agg #[.int .i64 u, .int .i64 v]) (.agg #[.int .i64 u, .int .i64 v])).run Tryz.prog W = .ok (.bool true) W := by
  go_simp
set_option maxRecDepth 100000 in
set_option maxHeartbeats 8000000 in
theorem ls_1 (HW : AwakeOk) (a b : List Met) (V U : Value) (n : ByteArray) (i : Int) (w : World) (ha : Mets w w.heap.size V a) (hb : Mets w w.heap.size U b) (hG : GOk w) (h1 : (a.length : Int) > 60) : Calls Tryz.prog 3 #[V, U, .string n, .int .i64 i] w (LawPost w) := by
  obtain ⟨A1, c1, rfl, _, _, _⟩ := ha
  obtain ⟨A2, c2, rfl, _, _, _⟩ := hb
  go_enter Tryz.func3, Tryz.ntmps3
  go_wp2_with fail
  refine (HW _ hG).mono ?_
  rintro e w9 ⟨rfl, hb9⟩
  go_wp2_with fail
  go_ret
  exact ⟨rfl, hb9⟩
set_option maxRecDepth 100000 in
set_option maxHeartbeats 8000000 in
theorem ls_2 (HW : AwakeOk) (a b : List Met) (V U : Value) (n : ByteArray) (i : Int) (w : World) (ha : Mets w w.heap.size V a) (hb : Mets w w.heap.size U b) (hG : GOk w) (h1 : ¬ (a.length : Int) > 60) (h2 : (b.length : Int) > 60) : Calls Tryz.prog 3 #[V, U, .string n, .int .i64 i] w (LawPost w) := by
  obtain ⟨A1, c1, rfl, _, _, _⟩ := ha
  obtain ⟨A2, c2, rfl, _, _, _⟩ := hb
  go_enter Tryz.func3, Tryz.ntmps3
  go_wp2_with fail
  refine (HW _ hG).mono ?_
  rintro e w9 ⟨rfl, hb9⟩
  go_wp2_with fail
  go_ret
  exact ⟨rfl, hb9⟩
set_option maxRecDepth 100000 in
set_option maxHeartbeats 8000000 in
theorem ls_3 (HW : AwakeOk) (a b : List Met) (V U : Value) (n : ByteArray) (i : Int) (w : World) (ha : Mets w w.heap.size V a) (hb : Mets w w.heap.size U b) (hG : GOk w) (h1 : ¬ (a.length : Int) > 60) (h2 : ¬ (b.length : Int) > 60) : Calls Tryz.prog 3 #[V, U, .string n, .int .i64 i] w (LawPost w) := by
  have MA := Lib.hid (fun (W : World) (h : Below w.heap.size w W) => ha.base h h.size)
  have MB := Lib.hid (fun (W : World) (h : Below w.heap.size w W) => hb.base h h.size)
  have HG := Lib.hid (fun (W : World) (h : Below w.heap.size w W) => hG.below h)
  obtain ⟨A1, c1, rfl, _, _, _⟩ := ha
  obtain ⟨A2, c2, rfl, _, _, _⟩ := hb
  have B0 : Hid (Below w.heap.size w w) := Below.refl _ _
  clear hG
  have H8 := Lib.hid (fun (W : World) (x : Mets W W.heap.size (.slice A1 a.length c1) a) (y : Mets W W.heap.size (.slice A2 b.length c2) b) => merge_any a b _ _ W x y)
  have H9 := Lib.hid (fun (W : World) (x : Mets W W.heap.size (.slice A1 a.length c1) a) (y : Mets W W.heap.size (.slice A2 b.length c2) b) => rmerge_any a b _ _ W x y)
  have H10 := Lib.hid (fun (W : World) (x : Mets W W.heap.size (.slice A1 a.length c1) a) (g : GOk W) => print_all a _ W x g)
  have H11 := Lib.hid (fun (W : World) (x : Mets W W.heap.size (.slice A1 a.length c1) a) => rprint_all a _ W x)
  have H12 := Lib.hid (fun (W : World) (x : Mets W W.heap.size (.slice A1 a.length c1) a) => find_any a _ n i W x (by omega))
  have H13 := Lib.hid (fun (W : World) (x : Mets W W.heap.size (.slice A1 a.length c1) a) => rfind_any a _ n i W x (by omega))
  have H14 := Lib.hid (fun (W : World) (x : Mets W W.heap.size (.slice A1 a.length c1) a) => check_any a _ W x)
  have H15 := Lib.hid (fun (W : World) (x : Mets W W.heap.size (.slice A1 a.length c1) a) => rcheckM_any a _ W x)
  have H16 := Lib.hid (fun (p : List Met) (P Q : Value) (W : World) (x : Mets W W.heap.size P p) (y : Mets W W.heap.size Q p) => same_any P Q p p W x y)
  unfold MergePost at H8 H9
  generalize mergeE a b = me at *
  generalize mergeL a b = ml at *
  generalize prS a = ps at *
  generalize prE a = pe at *
  generalize chkE a = ck at *
  obtain ⟨fu, fv, ft, hf⟩ := res_cells (findV a n i)
  rw [hf] at H12 H13
  clear hf
  have heq := fun W => eql_rat fu fv W
  go_enter Tryz.func3, Tryz.ntmps3
  go_wp2_with fail
  refine (H8.out _ (MA.out _ B0.out) (MB.out _ B0.out)).mono ?_
  rintro e w1 ⟨V1, rfl, hm1, hb1⟩
  have B1 : Hid (Below w.heap.size w w1) := B0.out.trans (hb1.mono B0.out.size)
  have M1 := Lib.hid hm1
  clear hb1 hm1 H8
  go_wp2_with fail
  refine (H9.out _ (MA.out _ B1.out) (MB.out _ B1.out)).mono ?_
  rintro e w2 ⟨V2, rfl, hm1, hb1⟩
  have B2 : Hid (Below w.heap.size w w2) := B1.out.trans (hb1.mono B1.out.size)
  have M2 := Lib.hid hm1
  have T2 := Lib.hid hb1
  clear hb1 hm1 H9
  go_wp2_with fail
  refine (H10.out _ (MA.out _ B2.out) (HG.out _ B2.out)).mono ?_
  rintro e w3 ⟨rfl, hb1⟩
  have B3 : Hid (Below w.heap.size w w3) := B2.out.trans (hb1.mono B2.out.size)
  have T3 := Lib.hid hb1
  clear hb1 H10
  go_wp2_with fail
  refine (H11.out _ (MA.out _ B3.out)).mono ?_
  rintro e w4 ⟨rfl, hb1⟩
  have B4 : Hid (Below w.heap.size w w4) := B3.out.trans (hb1.mono B3.out.size)
  have T4 := Lib.hid hb1
  clear hb1 H11
  go_wp2_with fail
  refine (H12.out _ (MA.out _ B4.out)).mono ?_
  rintro e w5 ⟨rfl, hb1⟩
  have B5 : Hid (Below w.heap.size w w5) := B4.out.trans (hb1.mono B4.out.size)
  have T5 := Lib.hid hb1
  clear hb1 H12
  have B5a : Hid (Below w.heap.size w (w5.alloc (.cells #[.int .i64 fu, .int .i64 fv] 30))) := B5.out.alloc B5.out.size _
  have T5a : Hid (Below w5.heap.size w5 (w5.alloc (.cells #[.int .i64 fu, .int .i64 fv] 30))) := (Below.refl _ w5).alloc (Nat.le_refl _) _
  have H13b := Lib.hid (H13.out _ (MA.out _ B5a.out))
  have x0 : (w5.alloc (.cells #[.int .i64 fu, .int .i64 fv] 30)).cell? ⟨w5.heap.size, 0, none⟩ = some (.int .i64 fu) := cell_of_row _ _ 0 _ _ _ (heap_alloc_last _ _)
  have x1 : (w5.alloc (.cells #[.int .i64 fu, .int .i64 fv] 30)).cell? ⟨w5.heap.size, 1, none⟩ = some (.int .i64 fv) := cell_of_row _ _ 1 _ _ _ (heap_alloc_last _ _)
  have hz5 : w5.heap.size < (w5.alloc (.cells #[.int .i64 fu, .int .i64 fv] 30)).heap.size := by simp
  clear H13
  go_wp2_with fail
  refine H13b.out.mono ?_
  rintro e w6 ⟨rfl, hb1⟩
  have y0 := cal (o := .cells #[.int .i64 fu, .int .i64 fv] 30) ((hb1.cell (p := ⟨w5.heap.size, 0, none⟩) hz5).trans x0)
  have y1 := cal (o := .cells #[.int .i64 fu, .int .i64 fv] 30) ((hb1.cell (p := ⟨w5.heap.size, 1, none⟩) hz5).trans x1)
  have hz6 : w5.heap.size < w6.heap.size := Nat.lt_of_lt_of_le hz5 hb1.size
  have T6 : Hid (Below w5.heap.size w5 w6) := T5a.out.trans (hb1.mono T5a.out.size)
  have B6 : Hid (Below w.heap.size w w6) := B5.out.trans (T6.out.mono B5.out.size)
  have T6a : Hid (Below w6.heap.size w6 (w6.alloc (.cells #[.int .i64 fu, .int .i64 fv] 30))) := (Below.refl _ w6).alloc (Nat.le_refl _) _
  have B6a : Hid (Below w.heap.size w (w6.alloc (.cells #[.int .i64 fu, .int .i64 fv] 30))) := B6.out.alloc B6.out.size _
  have z0 : (w6.alloc (.cells #[.int .i64 fu, .int .i64 fv] 30)).cell? ⟨w6.heap.size, 0, none⟩ = some (.int .i64 fu) := cell_of_row _ _ 0 _ _ _ (heap_alloc_last _ _)
  have z1 : (w6.alloc (.cells #[.int .i64 fu, .int .i64 fv] 30)).cell? ⟨w6.heap.size, 1, none⟩ = some (.int .i64 fv) := cell_of_row _ _ 1 _ _ _ (heap_alloc_last _ _)
  have hs6 : w5.heap.size < (w6.alloc (.cells #[.int .i64 fu, .int .i64 fv] 30)).heap.size ∧ w6.heap.size < (w6.alloc (.cells #[.int .i64 fu, .int .i64 fv] 30)).heap.size := ⟨Nat.lt_of_lt_of_le hz6 T6a.out.size, by simp⟩
  have H14b := Lib.hid (H14.out _ (MA.out _ B6a.out))
  clear hb1 H13b x0 x1 hz5 H14
  go_wp2_with fail
  refine H14b.out.mono ?_
  rintro e w7 ⟨rfl, hb1⟩
  have B7 : Hid (Below w.heap.size w w7) := B6a.out.trans (hb1.mono B6a.out.size)
  have T7 : Hid (Below w6.heap.size w6 w7) := T6a.out.trans (hb1.mono T6a.out.size)
  have p0 := (hb1.cell (p := ⟨w5.heap.size, 0, none⟩) hs6.1).trans y0
  have p1 := (hb1.cell (p := ⟨w5.heap.size, 1, none⟩) hs6.1).trans y1
  have p2 := (hb1.cell (p := ⟨w6.heap.size, 0, none⟩) hs6.2).trans z0
  have p3 := (hb1.cell (p := ⟨w6.heap.size, 1, none⟩) hs6.2).trans z1
  have hs7 : w5.heap.size < w7.heap.size ∧ w6.heap.size < w7.heap.size := ⟨Nat.lt_of_lt_of_le hs6.1 hb1.size, Nat.lt_of_lt_of_le hs6.2 hb1.size⟩
  have H15b := Lib.hid (H15.out _ (MA.out _ B7.out))
  clear hb1 H14b y0 y1 z0 z1 hs6 H15
  go_wp2_with fail
  refine H15b.out.mono ?_
  rintro e w8 ⟨rfl, hb1⟩
  have B8 : Hid (Below w.heap.size w w8) := B7.out.trans (hb1.mono B7.out.size)
  have T8 : Hid (Below w6.heap.size w6 w8) := T7.out.trans (hb1.mono T7.out.size)
  have q0 := (hb1.cell (p := ⟨w5.heap.size, 0, none⟩) hs7.1).trans p0
  have q1 := (hb1.cell (p := ⟨w5.heap.size, 1, none⟩) hs7.1).trans p1
  have q2 := (hb1.cell (p := ⟨w6.heap.size, 0, none⟩) hs7.2).trans p2
  have q3 := (hb1.cell (p := ⟨w6.heap.size, 1, none⟩) hs7.2).trans p3
  have hs8 : w5.heap.size < w8.heap.size ∧ w6.heap.size < w8.heap.size := ⟨Nat.lt_of_lt_of_le hs7.1 hb1.size, Nat.lt_of_lt_of_le hs7.2 hb1.size⟩
  have U6 : Hid (Below w2.heap.size w2 w6) := T3.out.trans ((T4.out.trans ((T5.out.trans (T6.out.mono T5.out.size)).mono T4.out.size)).mono T3.out.size)
  have U8 : Hid (Below w2.heap.size w2 w8) := U6.out.trans (T8.out.mono U6.out.size)
  have W8 : Hid (Below w1.heap.size w1 w8) := T2.out.trans (U8.out.mono T2.out.size)
  have S1 := H16.out ml V1 V2 w8 (M1.out.base W8.out W8.out.size) (M2.out.base U8.out U8.out.size)
  rw [(sameL_iff ml ml).2 rfl] at S1
  have S1H := Lib.hid S1
  clear hb1 H15b p0 p1 p2 p3 hs7 H16 S1
  go_wp2_with fail
  refine S1H.out.mono ?_
  rintro e w9 ⟨rfl, hb1⟩
  have B9 : Hid (Below w.heap.size w w9) := B8.out.trans (hb1.mono B8.out.size)
  have r0 := (hb1.cell (p := ⟨w5.heap.size, 0, none⟩) hs8.1).trans q0
  have r1 := (hb1.cell (p := ⟨w5.heap.size, 1, none⟩) hs8.1).trans q1
  have r2 := (hb1.cell (p := ⟨w6.heap.size, 0, none⟩) hs8.2).trans q2
  have r3 := (hb1.cell (p := ⟨w6.heap.size, 1, none⟩) hs8.2).trans q3
  clear hb1 S1H q0 q1 q2 q3 hs8
  go_wp2_with fail
  refine (HW _ (HG.out _ B9.out)).mono ?_
  rintro e w10 ⟨rfl, hb9⟩
  have B10 : Hid (Below w.heap.size w w10) := B9.out.trans (hb9.mono B9.out.size)
  clear hb9
  go_wp2_with fail
  go_ret
  exact ⟨rfl, B10.out⟩
theorem lists_any (HW : AwakeOk) (a b : List Met) (V U : Value) (n : ByteArray) (i : Int) (w : World) (ha : Mets w w.heap.size V a) (hb : Mets w w.heap.size U b) (hG : GOk w) : Calls Tryz.prog 3 #[V, U, .string n, .int .i64 i] w (LawPost w) := by
  by_cases h1 : (a.length : Int) > 60
  · exact ls_1 HW a b V U n i w ha hb hG h1
  · by_cases h2 : (b.length : Int) > 60
    · exact ls_2 HW a b V U n i w ha hb hG h1 h2
    · exact ls_3 HW a b V U n i w ha hb hG h1 h2
end Go.Proofs.YtpcbccpobhdokaaGreatDoor

/- ArchiveEqual: the law returns true for any two archives, given that awake does. -/
import Derived.Test.YthlfhfliidhelaaGreatDoorN1e
import Derived.Test.YthlfhfliidhelaaGreatDoorU2
import Derived.Test.YthlfhfliidhelaaGreatDoorG1
import Derived.Deep.RegionHeld3
import Derived.Lib.LaidTab
import Derived.Lib.ItoaNum
import Derived.Test.YthlfhfliidhelaaGreatDoorRK
import Derived.Deep.RegionHeld
set_option linter.unusedSimpArgs false
set_option linter.unusedVariables false
set_option linter.all false
namespace Go.Proofs.YthlfhfliidhelaaGreatDoor
open Go.RowKit
attribute [local go_sem] Oper.semAt_some
def spL : List Value := (List.range 256).map fun i => .int .u8 (if i = 9 ∨ i = 10 ∨ i = 11 ∨ i = 12 ∨ i = 13 ∨ i = 32 then 1 else 0)
def GOk (w : World) : Prop := 11 ≤ w.heap.size ∧ Lib.TabIs Tryz.prog w "internal/strconv.uint64pow10" .u64 Lib.pow10Tab ∧ ∃ fz : Nat × Nat, w.heap[0]? = some (.cells ⟨spL⟩ 399 fz) ∧ fz.2 ≤ fz.1
theorem gPow : Tryz.prog.globalNamed "internal/strconv.uint64pow10" = some 2 := by kernel_rfl
theorem GOk.below {w w' : World} (h : GOk w) (hb : Below w.heap.size w w') : GOk w' := by
  refine ⟨Nat.le_trans h.1 hb.size, ?_, ?_⟩
  · have h2 := h.2.1
    unfold Lib.TabIs World.var? at h2 ⊢
    rw [gPow] at h2 ⊢
    simp only [Option.bind_some] at h2 ⊢
    rw [hb.block 2 (by have := h.1; omega)]
    exact h2
  · obtain ⟨fz, h2, h3⟩ := h.2.2
    exact ⟨fz, (hb.block 0 (by have := h.1; omega)).trans h2, h3⟩
def AwakeOk : Prop := ∀ w : World, GOk w → Calls Tryz.prog 5 #[] w fun e w' => e = .returned (.bool true) ∧ Below w.heap.size w w'
def LawPost (w : World) (e : Ending) (w' : World) : Prop := e = .returned (.bool true) ∧ Below w.heap.size w w'
theorem same_q (a b : Arc) (VT VA VD UT UA UD : Value) (w : World) (hG : GB a) (hG' : GB b) (h : ArcAt w w.heap.size VT VA VD a) (h' : ArcAt w w.heap.size UT UA UD b) {q : Bool} (hq : q = true ↔ ArcEq a b) :
    Calls Tryz.prog 7 #[.agg #[.string a.ms, .string a.lg, VT, VA, VD], .agg #[.string b.ms, .string b.lg, UT, UA, UD]] w fun e w' => e = .returned (.bool q) ∧ Below w.heap.size w w' := by
  refine (same_any a b VT VA VD UT UA UD w hG hG' h h').mono ?_
  rintro e w' ⟨⟨r, rfl, hr⟩, hb⟩
  have : r = q := Bool.eq_iff_iff.2 (hr.trans hq.symm)
  exact ⟨by rw [this], hb⟩
theorem arcEq_comm {a b : Arc} : ArcEq a b ↔ ArcEq b a := ⟨fun ⟨h1, h2, h3, h4, h5⟩ => ⟨h1.symm, h2.symm, h3.symm, h4.symm, h5.symm⟩, fun ⟨h1, h2, h3, h4, h5⟩ => ⟨h1.symm, h2.symm, h3.symm, h4.symm, h5.symm⟩⟩
theorem seal_iff {a b : Arc} (ga : GB a) (gb : GB b) (ra : ArcRng a) (rb : ArcRng b) (la : (encO a).length ≤ 65536) (lb : (encO b).length ≤ 65536) :
    (⟨(sealL (intL (encO a).length) (encO a)).toArray⟩ : ByteArray) = ⟨(sealL (intL (encO b).length) (encO b)).toArray⟩ ↔ ArcEq a b := by
  constructor
  · intro h
    have h := congrArg (fun x : ByteArray => x.data.toList) h
    simp only [List.toList_toArray] at h
    exact encO_inj ga gb ra rb la lb (seal_cancel (by omega) (by omega) h)
  · intro h
    rw [encO_of h]
def EncA (w : World) (a : Arc) (s : ByteArray) (x : Int) (w' : World) : Prop := Below w.heap.size w w' ∧ (x = 0 → ArcRng a ∧ (encO a).length ≤ 65536 ∧ s = ⟨(sealL (intL (encO a).length) (encO a)).toArray⟩)
theorem encode_a (HT : TableOk) (a : Arc) (VT VA VD : Value) (w : World) (hG : GB a) (h : ArcAt w w.heap.size VT VA VD a) : Calls Tryz.prog 6 #[.agg #[.string a.ms, .string a.lg, VT, VA, VD]] w fun e w' => ∃ s x, e = .returned (.tuple #[.string s, .int .i64 x]) ∧ EncA w a s x w' := by
  refine (encode_any HT a VT VA VD w hG h).mono ?_
  rintro e w' ⟨hb, ⟨h1, h2, rfl⟩ | ⟨h1, rfl⟩ | ⟨h1, h2, rfl⟩⟩
  · exact ⟨_, 0, rfl, hb, fun _ => ⟨h1, h2, rfl⟩⟩
  · exact ⟨_, 2, rfl, hb, fun h => absurd h (by decide)⟩
  · exact ⟨_, 4, rfl, hb, fun h => absurd h (by decide)⟩
structure Two (w X : World) (ra rb : Array Value) : Prop where
  a : X.heap[w.heap.size]? = some (.cells ra 26 (0, 0))
  b : X.heap[w.heap.size + 1]? = some (.cells rb 26 (0, 0))
  bl : Below w.heap.size w X
theorem Two.mk0 (w : World) (ra rb : Array Value) : Two w ((w.alloc (.cells ra 26)).alloc (.cells rb 26)) ra rb :=
  ⟨(Below.heap_alloc _ _ w.heap.size (by simp)).trans (World.alloc_heap_new w _), news_at (w.alloc (.cells ra 26)) (w.heap.size + 1) (by simp) _, ((Below.refl _ w).alloc (Nat.le_refl _) _).alloc (by simp) _⟩
theorem Two.lt {w X : World} {ra rb : Array Value} (h : Two w X ra rb) : w.heap.size + 1 < X.heap.size := (Array.getElem?_eq_some_iff.1 h.b).1
theorem Two.below {w X Y : World} {ra rb : Array Value} (h : Two w X ra rb) (hb : Below X.heap.size X Y) : Two w Y ra rb :=
  ⟨(hb.block _ (by have := h.lt; omega)).trans h.a, (hb.block _ h.lt).trans h.b, h.bl.trans (hb.mono h.bl.size)⟩
theorem Two.ca {w X : World} {ra rb : Array Value} (h : Two w X ra rb) (j : Nat) : X.cell? ⟨w.heap.size, j, none⟩ = ra[j]? := cell_of_row _ _ j _ _ _ h.a
theorem Two.cb {w X : World} {ra rb : Array Value} (h : Two w X ra rb) (j : Nat) : X.cell? ⟨w.heap.size + 1, j, none⟩ = rb[j]? := cell_of_row _ _ j _ _ _ h.b
end Go.Proofs.YthlfhfliidhelaaGreatDoor
namespace Go.Proofs.YthlfhfliidhelaaGreatDoor
open Go.RowKit
attribute [local go_sem] Oper.semAt_some
section
variable {P : Program} {ops : Array Oper} {Q : Exit → Act → World → Prop} {md : Region.Mode} {S : World → Prop}
theorem wpAnyH_one {j : Nat} {o : Oper} {fuel : Nat} {listed : Array Bool} {a : Act} {w : World} (hr : Region.ready md ops listed = [j]) (ho : ops[j]? = some o)
    (h : ∀ K' : Act → World → Prop, Shut (∀ a w, S w → wpAnyH P md ops Q S fuel (listed.setIfInBounds j true) a w → K' a w) → if Region.wanted o (yielded ops a.tmps) = true then Oper.wp P o a w K' Q else K' (a.put o.dst undef) w) :
    wpAnyH P md ops Q S (fuel + 1) listed a w := by
  refine ⟨fun h0 => (by rw [hr] at h0; cases h0), ?_⟩
  rw [hr]
  intro i hi
  rw [List.mem_singleton.1 hi]
  exact wpOp_step ho (fun K' hK => h K' (fun a w hS hW => hK a w ⟨hS, hW⟩))
end
theorem Two.cells {w X : World} {v0 v1 v2 v3 v4 u0 u1 u2 u3 u4 : Value} (h : Two w X #[v0, v1, v2, v3, v4] #[u0, u1, u2, u3, u4]) :
    X.cell? ⟨w.heap.size, 0, none⟩ = some v0 ∧ X.cell? ⟨w.heap.size, 1, none⟩ = some v1 ∧ X.cell? ⟨w.heap.size, 2, none⟩ = some v2 ∧ X.cell? ⟨w.heap.size, 3, none⟩ = some v3 ∧ X.cell? ⟨w.heap.size, 4, none⟩ = some v4 ∧
    X.cell? ⟨w.heap.size + 1, 0, none⟩ = some u0 ∧ X.cell? ⟨w.heap.size + 1, 1, none⟩ = some u1 ∧ X.cell? ⟨w.heap.size + 1, 2, none⟩ = some u2 ∧ X.cell? ⟨w.heap.size + 1, 3, none⟩ = some u3 ∧ X.cell? ⟨w.heap.size + 1, 4, none⟩ = some u4 :=
  ⟨h.ca 0, h.ca 1, h.ca 2, h.ca 3, h.ca 4, h.cb 0, h.cb 1, h.cb 2, h.cb 3, h.cb 4⟩
set_option maxRecDepth 100000 in
set_option maxHeartbeats 8000000 in
theorem law_any (HT : TableOk) (HW : AwakeOk) (a b : Arc) (VT VA VD UT UA UD : Value) (w : World) (h : ArcAt w w.heap.size VT VA VD a) (h' : ArcAt w w.heap.size UT UA UD b) (h6 : GOk w) :
    Calls Tryz.prog 3 #[.agg #[.string a.ms, .string a.lg, VT, VA, VD], .agg #[.string b.ms, .string b.lg, UT, UA, UD]] w (LawPost w) := by
  have HA := Lib.hid h
  have HB := Lib.hid h'
  obtain ⟨AT, cT, rfl, x0, y0, z0⟩ := h.tk
  obtain ⟨AA, cA, rfl, x1, y1, z1⟩ := h.an
  obtain ⟨AD, cD, rfl, x2, y2, z2⟩ := h.dm
  obtain ⟨BT, dT, rfl, x3, y3, z3⟩ := h'.tk
  obtain ⟨BA, dA, rfl, x4, y4, z4⟩ := h'.an
  obtain ⟨BD, dD, rfl, x5, y5, z5⟩ := h'.dm
  clear h h' x0 y0 z0 x1 y1 z1 x2 y2 z2 x3 y3 z3 x4 y4 z4 x5 y5 z5
  have HN : Hid (∀ X : World, Below w.heap.size w X → GOk X) := fun X hX => h6.below hX
  clear h6
  have H2 := Lib.hid (Two.mk0 w #[.string a.ms, .string a.lg, .slice AT a.tk.length cT, .slice AA a.an.length cA, .slice AD a.dm.length cD] #[.string b.ms, .string b.lg, .slice BT b.tk.length dT, .slice BA b.an.length dA, .slice BD b.dm.length dD])
  go_enter Tryz.func3, Tryz.ntmps3
  go_wp2_with fail
  refine (great_any a _ _ _ _ ((HA.out.below H2.out.bl).more H2.out.bl.size)).mono ?_
  rintro e w1 ⟨g, rfl, hb1, hG⟩
  have H3 := Lib.hid (H2.out.below hb1)
  clear hb1 H2
  cases g
  case true =>
    clear hG
    go_wp2_with fail
    refine (HW _ (HN.out _ H3.out.bl)).mono ?_
    rintro e w2 ⟨rfl, hb2⟩
    go_wp2_with fail
    go_ret
    exact ⟨rfl, H3.out.bl.trans (hb2.mono H3.out.bl.size)⟩
  case false =>
  have HG := Lib.hid (hG rfl)
  clear hG
  obtain ⟨a0, a1, a2, a3, a4, b0, b1, b2, b3, b4⟩ := H3.out.cells
  go_wp2_with fail
  refine (great_any b _ _ _ _ ((HB.out.below H3.out.bl).more H3.out.bl.size)).mono ?_
  rintro e w2 ⟨g, rfl, hb2, hG⟩
  have H4 := Lib.hid (H3.out.below hb2)
  clear hb2 H3 a0 a1 a2 a3 a4 b0 b1 b2 b3 b4
  cases g
  case true =>
    clear hG
    go_wp2_with fail
    refine (HW _ (HN.out _ H4.out.bl)).mono ?_
    rintro e w3 ⟨rfl, hb3⟩
    go_wp2_with fail
    go_ret
    exact ⟨rfl, H4.out.bl.trans (hb3.mono H4.out.bl.size)⟩
  case false =>
  have HG' := Lib.hid (hG rfl)
  clear hG
  obtain ⟨a0, a1, a2, a3, a4, b0, b1, b2, b3, b4⟩ := H4.out.cells
  go_wp2_with fail
  refine (encode_a HT a _ _ _ _ HG.out ((HA.out.below H4.out.bl).more H4.out.bl.size)).mono ?_
  rintro e w3 ⟨s, x, rfl, hb3, hE⟩
  have HE := Lib.hid hE
  have H5 := Lib.hid (H4.out.below hb3)
  clear hb3 hE H4 a0 a1 a2 a3 a4 b0 b1 b2 b3 b4
  obtain ⟨a0, a1, a2, a3, a4, b0, b1, b2, b3, b4⟩ := H5.out.cells
  go_wp2_with fail
  refine (encode_a HT b _ _ _ _ HG'.out ((HB.out.below H5.out.bl).more H5.out.bl.size)).mono ?_
  rintro e w4 ⟨t, y, rfl, hb4, hF⟩
  have HF := Lib.hid hF
  have H6 := Lib.hid (H5.out.below hb4)
  clear hb4 hF H5 a0 a1 a2 a3 a4 b0 b1 b2 b3 b4
  obtain ⟨q, hq⟩ : ∃ q : Bool, q = true ↔ ArcEq a b := ⟨@decide (ArcEq a b) (Classical.propDecidable _), by simp⟩
  have HQ := Lib.hid hq
  have HQ' := Lib.hid (hq.trans arcEq_comm)
  clear hq
  go_upto_region 5 with fail
  go_cut [32] (fun s32 wx => s32 = .bool false ∧ Two w wx #[.string a.ms, .string a.lg, .slice AT a.tk.length cT, .slice AA a.an.length cA, .slice AD a.dm.length cD] #[.string b.ms, .string b.lg, .slice BT b.tk.length dT, .slice BA b.an.length dA, .slice BD b.dm.length dD])
  case first =>
    have HH : Hid (∀ X, Below w4.heap.size w4 X → Two w X #[.string a.ms, .string a.lg, .slice AT a.tk.length cT, .slice AA a.an.length cA, .slice AD a.dm.length cD] #[.string b.ms, .string b.lg, .slice BT b.tk.length dT, .slice BA b.an.length dA, .slice BD b.dm.length dD]) := fun X hX => H6.out.below hX
    have HC : Hid (∀ w', Below w4.heap.size w4 w' → w'.cell? ⟨w.heap.size, 0, none⟩ = some (.string a.ms) ∧ w'.cell? ⟨w.heap.size, 1, none⟩ = some (.string a.lg) ∧ w'.cell? ⟨w.heap.size, 2, none⟩ = some (.slice AT a.tk.length cT) ∧ w'.cell? ⟨w.heap.size, 3, none⟩ = some (.slice AA a.an.length cA) ∧ w'.cell? ⟨w.heap.size, 4, none⟩ = some (.slice AD a.dm.length cD) ∧ w'.cell? ⟨w.heap.size + 1, 0, none⟩ = some (.string b.ms) ∧ w'.cell? ⟨w.heap.size + 1, 1, none⟩ = some (.string b.lg) ∧ w'.cell? ⟨w.heap.size + 1, 2, none⟩ = some (.slice BT b.tk.length dT) ∧ w'.cell? ⟨w.heap.size + 1, 3, none⟩ = some (.slice BA b.an.length dA) ∧ w'.cell? ⟨w.heap.size + 1, 4, none⟩ = some (.slice BD b.dm.length dD) ∧ Below w4.heap.size w4 w') := fun w' hb => by
      obtain ⟨a0, a1, a2, a3, a4, b0, b1, b2, b3, b4⟩ := (HH.out w' hb).cells
      exact ⟨a0, a1, a2, a3, a4, b0, b1, b2, b3, b4, hb⟩
    have HS1 : Hid (∀ X, Below w4.heap.size w4 X → Calls Tryz.prog 7 #[.agg #[.string a.ms, .string a.lg, .slice AT a.tk.length cT, .slice AA a.an.length cA, .slice AD a.dm.length cD], .agg #[.string b.ms, .string b.lg, .slice BT b.tk.length dT, .slice BA b.an.length dA, .slice BD b.dm.length dD]] X fun e w' => e = .returned (.bool q) ∧ w'.cell? ⟨w.heap.size, 0, none⟩ = some (.string a.ms) ∧ w'.cell? ⟨w.heap.size, 1, none⟩ = some (.string a.lg) ∧ w'.cell? ⟨w.heap.size, 2, none⟩ = some (.slice AT a.tk.length cT) ∧ w'.cell? ⟨w.heap.size, 3, none⟩ = some (.slice AA a.an.length cA) ∧ w'.cell? ⟨w.heap.size, 4, none⟩ = some (.slice AD a.dm.length cD) ∧ w'.cell? ⟨w.heap.size + 1, 0, none⟩ = some (.string b.ms) ∧ w'.cell? ⟨w.heap.size + 1, 1, none⟩ = some (.string b.lg) ∧ w'.cell? ⟨w.heap.size + 1, 2, none⟩ = some (.slice BT b.tk.length dT) ∧ w'.cell? ⟨w.heap.size + 1, 3, none⟩ = some (.slice BA b.an.length dA) ∧ w'.cell? ⟨w.heap.size + 1, 4, none⟩ = some (.slice BD b.dm.length dD) ∧ Below w4.heap.size w4 w') := fun X hX =>
      (same_q a b _ _ _ _ _ _ X HG.out HG'.out ((HA.out.below (HH.out X hX).bl).more (HH.out X hX).bl.size) ((HB.out.below (HH.out X hX).bl).more (HH.out X hX).bl.size) HQ.out).mono fun e w' ⟨he, hb⟩ => ⟨he, HC.out _ (hX.trans (hb.mono hX.size))⟩
    have HS2 : Hid (∀ X, Below w4.heap.size w4 X → Calls Tryz.prog 7 #[.agg #[.string b.ms, .string b.lg, .slice BT b.tk.length dT, .slice BA b.an.length dA, .slice BD b.dm.length dD], .agg #[.string a.ms, .string a.lg, .slice AT a.tk.length cT, .slice AA a.an.length cA, .slice AD a.dm.length cD]] X fun e w' => e = .returned (.bool q) ∧ w'.cell? ⟨w.heap.size, 0, none⟩ = some (.string a.ms) ∧ w'.cell? ⟨w.heap.size, 1, none⟩ = some (.string a.lg) ∧ w'.cell? ⟨w.heap.size, 2, none⟩ = some (.slice AT a.tk.length cT) ∧ w'.cell? ⟨w.heap.size, 3, none⟩ = some (.slice AA a.an.length cA) ∧ w'.cell? ⟨w.heap.size, 4, none⟩ = some (.slice AD a.dm.length cD) ∧ w'.cell? ⟨w.heap.size + 1, 0, none⟩ = some (.string b.ms) ∧ w'.cell? ⟨w.heap.size + 1, 1, none⟩ = some (.string b.lg) ∧ w'.cell? ⟨w.heap.size + 1, 2, none⟩ = some (.slice BT b.tk.length dT) ∧ w'.cell? ⟨w.heap.size + 1, 3, none⟩ = some (.slice BA b.an.length dA) ∧ w'.cell? ⟨w.heap.size + 1, 4, none⟩ = some (.slice BD b.dm.length dD) ∧ Below w4.heap.size w4 w') := fun X hX =>
      (same_q b a _ _ _ _ _ _ X HG'.out HG.out ((HB.out.below (HH.out X hX).bl).more (HH.out X hX).bl.size) ((HA.out.below (HH.out X hX).bl).more (HH.out X hX).bl.size) HQ'.out).mono fun e w' ⟨he, hb⟩ => ⟨he, HC.out _ (hX.trans (hb.mono hX.size))⟩
    have hX := Below.drew (Below.refl w4.heap.size w4)
    refine wp_region_held_drew (S := (fun w' => w'.cell? ⟨w.heap.size, 0, none⟩ = some (.string a.ms) ∧ w'.cell? ⟨w.heap.size, 1, none⟩ = some (.string a.lg) ∧ w'.cell? ⟨w.heap.size, 2, none⟩ = some (.slice AT a.tk.length cT) ∧ w'.cell? ⟨w.heap.size, 3, none⟩ = some (.slice AA a.an.length cA) ∧ w'.cell? ⟨w.heap.size, 4, none⟩ = some (.slice AD a.dm.length cD) ∧ w'.cell? ⟨w.heap.size + 1, 0, none⟩ = some (.string b.ms) ∧ w'.cell? ⟨w.heap.size + 1, 1, none⟩ = some (.string b.lg) ∧ w'.cell? ⟨w.heap.size + 1, 2, none⟩ = some (.slice BT b.tk.length dT) ∧ w'.cell? ⟨w.heap.size + 1, 3, none⟩ = some (.slice BA b.an.length dA) ∧ w'.cell? ⟨w.heap.size + 1, 4, none⟩ = some (.slice BD b.dm.length dD) ∧ Below w4.heap.size w4 w')) (by kernel_rfl) (HC.out _ hX) (fun hHeld => ?_)
    (refine wpAnyH_take (i := 0) (v := ?_) rfl (by kernel_rfl) (by kernel_rfl) (by kernel_rfl) (fun _ _ _ h => h) (Or.inl ⟨by kernel_rfl, fun w0 hSw => ?_⟩) hHeld ?_; rotate_left; (focus ((try dsimp only at hSw); simp only [List.getElem_toArray, List.getElem_cons_zero, List.getElem_cons_succ]; (first | (go_simp; done) | (go_simp; with_reducible rfl)))); (try simp only [List.getElem_toArray, List.getElem_cons_zero, List.getElem_cons_succ, Act.put, List.setIfInBounds_toArray, List.set_cons_zero, List.set_cons_succ]))
    (refine wpAnyH_take (i := 1) (v := ?_) rfl (by kernel_rfl) (by kernel_rfl) (by kernel_rfl) (fun _ _ _ h => h) (Or.inl ⟨by kernel_rfl, fun w0 hSw => ?_⟩) hHeld ?_; rotate_left; (focus ((try dsimp only at hSw); simp only [List.getElem_toArray, List.getElem_cons_zero, List.getElem_cons_succ]; (first | (go_simp; done) | (go_simp; with_reducible rfl)))); (try simp only [List.getElem_toArray, List.getElem_cons_zero, List.getElem_cons_succ, Act.put, List.setIfInBounds_toArray, List.set_cons_zero, List.set_cons_succ]))
    (refine wpAnyH_take (i := 3) (v := ?_) rfl (by kernel_rfl) (by kernel_rfl) (by kernel_rfl) (fun _ _ _ h => h) (Or.inl ⟨by kernel_rfl, fun w0 hSw => ?_⟩) hHeld ?_; rotate_left; (focus ((try dsimp only at hSw); simp only [List.getElem_toArray, List.getElem_cons_zero, List.getElem_cons_succ]; (first | (go_simp; done) | (go_simp; with_reducible rfl)))); (try simp only [List.getElem_toArray, List.getElem_cons_zero, List.getElem_cons_succ, Act.put, List.setIfInBounds_toArray, List.set_cons_zero, List.set_cons_succ]))
    (refine wpAnyH_take (i := 4) (v := ?_) rfl (by kernel_rfl) (by kernel_rfl) (by kernel_rfl) (fun _ _ _ h => h) (Or.inl ⟨by kernel_rfl, fun w0 hSw => ?_⟩) hHeld ?_; rotate_left; (focus ((try dsimp only at hSw); simp only [List.getElem_toArray, List.getElem_cons_zero, List.getElem_cons_succ]; (first | (go_simp; done) | (go_simp; with_reducible rfl)))); (try simp only [List.getElem_toArray, List.getElem_cons_zero, List.getElem_cons_succ, Act.put, List.setIfInBounds_toArray, List.set_cons_zero, List.set_cons_succ]))
    clear hHeld
    generalize w4.drew = X0 at *
    refine wpAnyH_one (j := 2) (by kernel_rfl) rfl (fun K hK => ?_)
    (try simp only [List.getElem_toArray, List.getElem_cons_zero, List.getElem_cons_succ])
    go_simp
    refine (HS1.out _ hX).mono ?_
    rintro e X1 ⟨rfl, hS1⟩
    have hX1 := hS1.2.2.2.2.2.2.2.2.2.2
    go_simp
    refine hK.out _ _ hS1 ?_
    clear hK K hS1
    (try simp only [List.getElem_toArray, List.getElem_cons_zero, List.getElem_cons_succ, Act.put, List.setIfInBounds_toArray, List.set_cons_zero, List.set_cons_succ])
    refine wpAnyH_one (j := 5) (by kernel_rfl) rfl (fun K hK => ?_)
    (try simp only [List.getElem_toArray, List.getElem_cons_zero, List.getElem_cons_succ])
    go_simp
    refine (HS2.out _ hX1).mono ?_
    rintro e X2 ⟨rfl, hS2⟩
    have hX2 := hS2.2.2.2.2.2.2.2.2.2.2
    go_simp
    refine hK.out _ _ hS2 ?_
    clear hK K hS2
    (try simp only [List.getElem_toArray, List.getElem_cons_zero, List.getElem_cons_succ, Act.put, List.setIfInBounds_toArray, List.set_cons_zero, List.set_cons_succ])
    refine wpAnyH_one (j := 6) (by kernel_rfl) rfl (fun K hK => ?_)
    (try simp only [List.getElem_toArray, List.getElem_cons_zero, List.getElem_cons_succ])
    go_simp
    refine hK.out _ _ (HC.out _ hX2) ?_
    clear hK K
    refine wpAnyH_done (by kernel_rfl) ?_ _
    go_wp2_with fail
    go_meet
    exact ⟨by cases q <;> rfl, HH.out _ hX2⟩
  case rest =>
    obtain ⟨rfl, h7⟩ := hcut
    have H7 := Lib.hid h7
    clear h7 H6
    have HSQ : Hid (∀ X, Two w X #[.string a.ms, .string a.lg, .slice AT a.tk.length cT, .slice AA a.an.length cA, .slice AD a.dm.length cD] #[.string b.ms, .string b.lg, .slice BT b.tk.length dT, .slice BA b.an.length dA, .slice BD b.dm.length dD] → Calls Tryz.prog 7 #[.agg #[.string a.ms, .string a.lg, .slice AT a.tk.length cT, .slice AA a.an.length cA, .slice AD a.dm.length cD], .agg #[.string b.ms, .string b.lg, .slice BT b.tk.length dT, .slice BA b.an.length dA, .slice BD b.dm.length dD]] X fun e w' => e = .returned (.bool q) ∧ Below X.heap.size X w') := fun X hX =>
      same_q a b _ _ _ _ _ _ X HG.out HG'.out ((HA.out.below hX.bl).more hX.bl.size) ((HB.out.below hX.bl).more hX.bl.size) HQ.out
    by_cases hx : x = 0
    · subst hx
      by_cases hy : y = 0
      · subst hy
        have hst : s = t ↔ q = true := by
          obtain ⟨ra, la, hs⟩ := HE.out rfl
          obtain ⟨rb, lb, ht⟩ := HF.out rfl
          rw [hs, ht]
          exact (seal_iff HG.out HG'.out ra rb la lb).trans HQ.out.symm
        obtain ⟨a0, a1, a2, a3, a4, b0, b1, b2, b3, b4⟩ := H7.out.cells
        clear HQ HQ' HE HF
        cases q
        case true =>
          obtain rfl := hst.2 rfl
          clear hst
          go_wp2_with fail
          refine (HSQ.out _ H7.out).mono ?_
          rintro e w6 ⟨rfl, hb6⟩
          have H8 := Lib.hid (H7.out.below hb6)
          clear hb6
          go_wp2_with fail
          refine (HW _ (HN.out _ H8.out.bl)).mono ?_
          rintro e w7 ⟨rfl, hb7⟩
          go_wp2_with fail
          go_ret
          exact ⟨rfl, H8.out.bl.trans (hb7.mono H8.out.bl.size)⟩
        case false =>
          have hne : ¬ s = t := fun h => by cases hst.1 h
          have hnl : (s.toList == t.toList) = false := beq_eq_false_iff_ne.2 fun h => hne ((bl_iff s t).1 h)
          clear hst
          go_wp2_with fail
          refine (HSQ.out _ H7.out).mono ?_
          rintro e w6 ⟨rfl, hb6⟩
          have H8 := Lib.hid (H7.out.below hb6)
          clear hb6
          go_wp2_with fail
          refine (HW _ (HN.out _ H8.out.bl)).mono ?_
          rintro e w7 ⟨rfl, hb7⟩
          go_wp2_with fail
          go_ret
          exact ⟨rfl, H8.out.bl.trans (hb7.mono H8.out.bl.size)⟩
      · have hyb : (y == 0) = false := by simpa using hy
        have hyn : (y != 0) = true := by simpa using hy
        have hye : (y = 0) = False := by simpa using hy
        clear hy HSQ
        go_wp2_with fail
        refine (HW _ (HN.out _ H7.out.bl)).mono ?_
        rintro e w6 ⟨rfl, hb6⟩
        go_wp2_with fail
        go_ret
        exact ⟨rfl, H7.out.bl.trans (hb6.mono H7.out.bl.size)⟩
    · have hxb : (x == 0) = false := by simpa using hx
      have hxn : (x != 0) = true := by simpa using hx
      have hxe : (x = 0) = False := by simpa using hx
      clear hx HSQ
      go_wp2_with fail
      refine (HW _ (HN.out _ H7.out.bl)).mono ?_
      rintro e w6 ⟨rfl, hb6⟩
      go_wp2_with fail
      go_ret
      exact ⟨rfl, H7.out.bl.trans (hb6.mono H7.out.bl.size)⟩
end Go.Proofs.YthlfhfliidhelaaGreatDoor

/- Whether two archives are the same. -/
import Derived.Test.YthlfhfliidhelaaGreatDoorU1
import Derived.Test.YthlfhfliidhelaaGreatDoorRK
import Derived.Deep.DeepMust
set_option linter.unusedSimpArgs false
set_option linter.unusedVariables false
set_option linter.all false
namespace Go.Proofs.YthlfhfliidhelaaGreatDoor
open Go.RowKit
attribute [local go_sem] Oper.semAt_some
def LsA (w : World) (V0 V1 V2 : Value) (a : Arc) : Prop :=
  Ints w w.heap.size V0 (tksL a.tk) ∧ Ints w w.heap.size V1 (ansL a.an) ∧ Ints w w.heap.size V2 (demsL a.dm) ∧ (tksL a.tk).length ≤ 8000 ∧ (ansL a.an).length ≤ 8000 ∧ (demsL a.dm).length ≤ 8000
def SlV (v : Value) : Prop := ∃ A n c, v = .slice A n c
structure SaA (w : World) (a b : Arc) (CA CB : Array Value) (b5 b6 : Nat) (V0 V1 V2 U0 U1 U2 : Value) (wx : World) : Prop where
  ra : wx.heap[w.heap.size]? = some (.cells CA 26 (0, 0))
  rb : wx.heap[w.heap.size + 1]? = some (.cells CB 26 (0, 0))
  r5 : wx.heap[b5]? = some (.cells #[V0, V1, V2] 67 (0, 0))
  r6 : wx.heap[b6]? = some (.cells #[U0, U1, U2] 67 (0, 0))
  la : LsA wx V0 V1 V2 a
  lb : LsA wx U0 U1 U2 b
  bl : Below w.heap.size w wx
def MidP (w : World) (a b : Arc) (CA CB : Array Value) (s5 s6 : Value) (wx : World) : Prop :=
  ∃ b5 b6 V0 V1 V2 U0 U1 U2, s5 = .pointer (some ⟨b5, 0, none⟩) ∧ s6 = .pointer (some ⟨b6, 0, none⟩) ∧ SlV V0 ∧ SlV V1 ∧ SlV V2 ∧ SlV U0 ∧ SlV U1 ∧ SlV U2 ∧ SaA w a b CA CB b5 b6 V0 V1 V2 U0 U1 U2 wx
def LiPost (a : Arc) (w : World) (e : Ending) (w' : World) : Prop := Below w.heap.size w w' ∧ ∃ V0 V1 V2, e = .returned (.agg #[V0, V1, V2]) ∧ LsA w' V0 V1 V2 a ∧ SlV V0 ∧ SlV V1 ∧ SlV V2
theorem lists_ls (a : Arc) (VT VA VD : Value) (w : World) (hG : GB a) (h : ArcAt w w.heap.size VT VA VD a) : Calls Tryz.prog 14 #[.agg #[.string a.ms, .string a.lg, VT, VA, VD]] w (LiPost a w) := by
  refine (lists_any a VT VA VD w hG h).mono ?_
  rintro e w' ⟨hb, V0, V1, V2, l0, l1, l2, he, h0, h1, h2, n0, n1, n2, rfl, rfl, rfl⟩
  refine ⟨hb, V0, V1, V2, he, ⟨h0, h1, h2, n0, n1, n2⟩, ?_, ?_, ?_⟩
  · obtain ⟨A, c, e, _⟩ := h0; exact ⟨A, _, c, e⟩
  · obtain ⟨A, c, e, _⟩ := h1; exact ⟨A, _, c, e⟩
  · obtain ⟨A, c, e, _⟩ := h2; exact ⟨A, _, c, e⟩
theorem bl_iff (a b : ByteArray) : a.toList = b.toList ↔ a = b := by
  rw [ByteArray.toList_eq, ByteArray.toList_eq]
  exact ⟨fun h => ByteArray.ext (Array.toList_inj.1 h), fun h => by rw [h]⟩
def Zr (w : World) (b : Nat) : Prop := w.heap[b]? = some (.cells #[.slice none 0 0, .slice none 0 0, .slice none 0 0] 67 (0, 0))
theorem Zr.below {w w' : World} {b : Nat} (h : Zr w b) (hb : Below w.heap.size w w') : Zr w' b := (hb.block b (Array.getElem?_eq_some_iff.1 h).1).trans h
theorem Zr.alloc {w : World} {b : Nat} (h : Zr w b) (o : Obj) : Zr (w.alloc o) b := h.below ((Below.refl _ w).alloc (Nat.le_refl _) o)
theorem LsA.below {w w' : World} {V0 V1 V2 : Value} {a : Arc} (h : LsA w V0 V1 V2 a) (hb : Below w.heap.size w w') : LsA w' V0 V1 V2 a :=
  ⟨(h.1.below hb).more hb.size, (h.2.1.below hb).more hb.size, (h.2.2.1.below hb).more hb.size, h.2.2.2⟩
theorem LsA.alloc {w : World} {V0 V1 V2 : Value} {a : Arc} (h : LsA w V0 V1 V2 a) (o : Obj) : LsA (w.alloc o) V0 V1 V2 a := h.below ((Below.refl _ w).alloc (Nat.le_refl _) o)
theorem SaA.below {w wx wy : World} {a b : Arc} {CA CB : Array Value} {b5 b6 : Nat} {V0 V1 V2 U0 U1 U2 : Value} (h : SaA w a b CA CB b5 b6 V0 V1 V2 U0 U1 U2 wx) (hb : Below wx.heap.size wx wy) : SaA w a b CA CB b5 b6 V0 V1 V2 U0 U1 U2 wy :=
  ⟨(hb.block _ (Array.getElem?_eq_some_iff.1 h.ra).1).trans h.ra, (hb.block _ (Array.getElem?_eq_some_iff.1 h.rb).1).trans h.rb, (hb.block _ (Array.getElem?_eq_some_iff.1 h.r5).1).trans h.r5, (hb.block _ (Array.getElem?_eq_some_iff.1 h.r6).1).trans h.r6, h.la.below hb, h.lb.below hb, h.bl.trans (hb.mono h.bl.size)⟩
theorem st3 {w0 X : World} {b : Nat} {V0 V1 V2 : Value} (FW : Below w0.heap.size w0 X) (hk : w0.heap.size ≤ b) (h : Zr X b) :
    Below w0.heap.size w0 (((X.setCell ⟨b, 0, none⟩ V0).setCell ⟨b, 1, none⟩ V1).setCell ⟨b, 2, none⟩ V2) ∧
    (((X.setCell ⟨b, 0, none⟩ V0).setCell ⟨b, 1, none⟩ V1).setCell ⟨b, 2, none⟩ V2).heap[b]? = some (.cells #[V0, V1, V2] 67 (0, 0)) ∧
    (∀ c o, c ≠ b → X.heap[c]? = some o → (((X.setCell ⟨b, 0, none⟩ V0).setCell ⟨b, 1, none⟩ V1).setCell ⟨b, 2, none⟩ V2).heap[c]? = some o) ∧
    ∀ U0 U1 U2 a, LsA X U0 U1 U2 a → LsA (((X.setCell ⟨b, 0, none⟩ V0).setCell ⟨b, 1, none⟩ V1).setCell ⟨b, 2, none⟩ V2) U0 U1 U2 a := by
  have g := gtrans (gtrans (grown_set X b 0 V0) (grown_set (X.setCell ⟨b, 0, none⟩ V0) b 1 V1) (fun j e => .inl e)) (grown_set ((X.setCell ⟨b, 0, none⟩ V0).setCell ⟨b, 1, none⟩ V1) b 2 V2) (fun j e => .inl e)
  have r := heap_set (heap_set (heap_set h 0 V0) 1 V1) 2 V2
  generalize ((X.setCell ⟨b, 0, none⟩ V0).setCell ⟨b, 1, none⟩ V1).setCell ⟨b, 2, none⟩ V2 = Y at *
  refine ⟨FW.grown g FW.size (fun j e => by cases e; exact hk), by simpa using r, ?_, ?_⟩
  · intro c o hc ho
    exact (g.block c (Array.getElem?_eq_some_iff.1 ho).1 (fun e => hc (by cases e; rfl))).trans ho
  · rintro U0 U1 U2 a ⟨h0, h1, h2, h3⟩
    exact ⟨ints_grow h0 g h (noint3 _ _ _ _ _ _ _ _ _), ints_grow h1 g h (noint3 _ _ _ _ _ _ _ _ _), ints_grow h2 g h (noint3 _ _ _ _ _ _ _ _ _), h3⟩
set_option maxRecDepth 100000 in
set_option maxHeartbeats 8000000 in
theorem same_any (a b : Arc) (VT VA VD UT UA UD : Value) (w : World) (hG : GB a) (hG' : GB b) (h : ArcAt w w.heap.size VT VA VD a) (h' : ArcAt w w.heap.size UT UA UD b) :
    Calls Tryz.prog 7 #[.agg #[.string a.ms, .string a.lg, VT, VA, VD], .agg #[.string b.ms, .string b.lg, UT, UA, UD]] w fun e w' => (∃ r, e = .returned (.bool r) ∧ (r = true ↔ ArcEq a b)) ∧ Below w.heap.size w w' := by
  have HA := Lib.hid h
  have HB := Lib.hid h'
  have HG := Lib.hid hG
  have HG' := Lib.hid hG'
  obtain ⟨AT, cT, rfl, x1, y1, z1⟩ := h.tk
  obtain ⟨AA, cA, rfl, x2, y2, z2⟩ := h.an
  obtain ⟨AD, cD, rfl, x3, y3, z3⟩ := h.dm
  obtain ⟨BT, dT, rfl, x4, y4, z4⟩ := h'.tk
  obtain ⟨BA, dA, rfl, x5, y5, z5⟩ := h'.an
  obtain ⟨BD, dD, rfl, x6, y6, z6⟩ := h'.dm
  clear h h' hG hG' x1 x2 x3 x4 x5 x6 y1 y2 y3 y4 y5 y6 z1 z2 z3 z4 z5 z6
  go_enter Tryz.func7, Tryz.ntmps7
  go_upto_region 1 with fail
  go_cut [5, 6] (fun s5 s6 wx => MidP w a b #[.string a.ms, .string a.lg, .slice AT a.tk.length cT, .slice AA a.an.length cA, .slice AD a.dm.length cD] #[.string b.ms, .string b.lg, .slice BT b.tk.length dT, .slice BA b.an.length dA, .slice BD b.dm.length dD] s5 s6 wx)
  case first =>
    have HW : Below w.heap.size w ((w.alloc (.cells #[.string a.ms, .string a.lg, .slice AT a.tk.length cT, .slice AA a.an.length cA, .slice AD a.dm.length cD] 26)).alloc (.cells #[.string b.ms, .string b.lg, .slice BT b.tk.length dT, .slice BA b.an.length dA, .slice BD b.dm.length dD] 26)) := ((Below.refl _ w).alloc (Nat.le_refl _) _).alloc (by simp) _
    have HS : ∀ X, Below ((w.alloc (.cells #[.string a.ms, .string a.lg, .slice AT a.tk.length cT, .slice AA a.an.length cA, .slice AD a.dm.length cD] 26)).alloc (.cells #[.string b.ms, .string b.lg, .slice BT b.tk.length dT, .slice BA b.an.length dA, .slice BD b.dm.length dD] 26)).heap.size ((w.alloc (.cells #[.string a.ms, .string a.lg, .slice AT a.tk.length cT, .slice AA a.an.length cA, .slice AD a.dm.length cD] 26)).alloc (.cells #[.string b.ms, .string b.lg, .slice BT b.tk.length dT, .slice BA b.an.length dA, .slice BD b.dm.length dD] 26)) X → (fun w' => w'.cell? ⟨w.heap.size, 0, none⟩ = some (.string a.ms) ∧ w'.cell? ⟨w.heap.size, 1, none⟩ = some (.string a.lg) ∧ w'.cell? ⟨w.heap.size, 2, none⟩ = some (.slice AT a.tk.length cT) ∧ w'.cell? ⟨w.heap.size, 3, none⟩ = some (.slice AA a.an.length cA) ∧ w'.cell? ⟨w.heap.size, 4, none⟩ = some (.slice AD a.dm.length cD) ∧ w'.cell? ⟨w.heap.size + 1, 0, none⟩ = some (.string b.ms) ∧ w'.cell? ⟨w.heap.size + 1, 1, none⟩ = some (.string b.lg) ∧ w'.cell? ⟨w.heap.size + 1, 2, none⟩ = some (.slice BT b.tk.length dT) ∧ w'.cell? ⟨w.heap.size + 1, 3, none⟩ = some (.slice BA b.an.length dA) ∧ w'.cell? ⟨w.heap.size + 1, 4, none⟩ = some (.slice BD b.dm.length dD)) X := fun X hX => by
      have e0 : ∀ j, X.cell? ⟨w.heap.size, j, none⟩ = (#[.string a.ms, .string a.lg, .slice AT a.tk.length cT, .slice AA a.an.length cA, .slice AD a.dm.length cD] : Array Value)[j]? := fun j => (hX.cell (p := ⟨w.heap.size, j, none⟩) (by simp; omega)).trans ((World.cell?_of_block (a := ⟨w.heap.size, j, none⟩) (Below.heap_alloc _ _ w.heap.size (by simp))).trans (cell_of_row _ _ j _ _ _ (World.alloc_heap_new w _)))
      have e1 : ∀ j, X.cell? ⟨w.heap.size + 1, j, none⟩ = (#[.string b.ms, .string b.lg, .slice BT b.tk.length dT, .slice BA b.an.length dA, .slice BD b.dm.length dD] : Array Value)[j]? := fun j => (hX.cell (p := ⟨w.heap.size + 1, j, none⟩) (by simp)).trans (cell_of_row _ _ j _ _ _ (news_at (w.alloc (.cells #[.string a.ms, .string a.lg, .slice AT a.tk.length cT, .slice AA a.an.length cA, .slice AD a.dm.length cD] 26)) (w.heap.size + 1) (by simp) _))
      exact ⟨e0 0, e0 1, e0 2, e0 3, e0 4, e1 0, e1 1, e1 2, e1 3, e1 4⟩
    have HSH := Lib.hid HS
    clear HS
    have HS := HSH.out
    clear HSH
    have FW : Below ((w.alloc (.cells #[.string a.ms, .string a.lg, .slice AT a.tk.length cT, .slice AA a.an.length cA, .slice AD a.dm.length cD] 26)).alloc (.cells #[.string b.ms, .string b.lg, .slice BT b.tk.length dT, .slice BA b.an.length dA, .slice BD b.dm.length dD] 26)).heap.size ((w.alloc (.cells #[.string a.ms, .string a.lg, .slice AT a.tk.length cT, .slice AA a.an.length cA, .slice AD a.dm.length cD] 26)).alloc (.cells #[.string b.ms, .string b.lg, .slice BT b.tk.length dT, .slice BA b.an.length dA, .slice BD b.dm.length dD] 26)) (((w.alloc (.cells #[.string a.ms, .string a.lg, .slice AT a.tk.length cT, .slice AA a.an.length cA, .slice AD a.dm.length cD] 26)).alloc (.cells #[.string b.ms, .string b.lg, .slice BT b.tk.length dT, .slice BA b.an.length dA, .slice BD b.dm.length dD] 26)).drew) := Below.drew (Below.refl _ _)
    refine wp_region_last (fun w' => w'.cell? ⟨w.heap.size, 0, none⟩ = some (.string a.ms) ∧ w'.cell? ⟨w.heap.size, 1, none⟩ = some (.string a.lg) ∧ w'.cell? ⟨w.heap.size, 2, none⟩ = some (.slice AT a.tk.length cT) ∧ w'.cell? ⟨w.heap.size, 3, none⟩ = some (.slice AA a.an.length cA) ∧ w'.cell? ⟨w.heap.size, 4, none⟩ = some (.slice AD a.dm.length cD) ∧ w'.cell? ⟨w.heap.size + 1, 0, none⟩ = some (.string b.ms) ∧ w'.cell? ⟨w.heap.size + 1, 1, none⟩ = some (.string b.lg) ∧ w'.cell? ⟨w.heap.size + 1, 2, none⟩ = some (.slice BT b.tk.length dT) ∧ w'.cell? ⟨w.heap.size + 1, 3, none⟩ = some (.slice BA b.an.length dA) ∧ w'.cell? ⟨w.heap.size + 1, 4, none⟩ = some (.slice BD b.dm.length dD)) 7 (by kernel_rfl) (HS _ FW) (fun hHeld => ?_)
    (refine wpAnyK_take (i := 0) (v := ?_) rfl rfl (by kernel_rfl) (by kernel_rfl) (by kernel_rfl) (by kernel_rfl) (fun _ _ _ h => h) (Or.inl ⟨by kernel_rfl, fun w0 hSw => ?_⟩) hHeld ?_; rotate_left; (focus ((try dsimp only at hSw); simp only [List.getElem_toArray, List.getElem_cons_zero, List.getElem_cons_succ]; (first | (go_simp; done) | (go_simp; with_reducible rfl)))); (try simp only [List.getElem_toArray, List.getElem_cons_zero, List.getElem_cons_succ, Act.put, List.setIfInBounds_toArray, List.set_cons_zero, List.set_cons_succ]))
    (refine wpAnyK_take (i := 2) (v := ?_) rfl rfl (by kernel_rfl) (by kernel_rfl) (by kernel_rfl) (by kernel_rfl) (fun _ _ _ h => h) (Or.inl ⟨by kernel_rfl, fun w0 hSw => ?_⟩) hHeld ?_; rotate_left; (focus ((try dsimp only at hSw); simp only [List.getElem_toArray, List.getElem_cons_zero, List.getElem_cons_succ]; (first | (go_simp; done) | (go_simp; with_reducible rfl)))); (try simp only [List.getElem_toArray, List.getElem_cons_zero, List.getElem_cons_succ, Act.put, List.setIfInBounds_toArray, List.set_cons_zero, List.set_cons_succ]))
    clear hHeld
    generalize hX0 : (((w.alloc (.cells #[.string a.ms, .string a.lg, .slice AT a.tk.length cT, .slice AA a.an.length cA, .slice AD a.dm.length cD] 26)).alloc (.cells #[.string b.ms, .string b.lg, .slice BT b.tk.length dT, .slice BA b.an.length dA, .slice BD b.dm.length dD] 26))).drew = X0 at *
    clear hX0
    refine wpAnyK_three (i := 1) (j := 4) (l := 5) (by kernel_rfl) rfl rfl rfl (fun K hK => ?_) (fun K hK => ?_) (fun K hK => ?_)
    · (try simp only [List.getElem_toArray, List.getElem_cons_zero, List.getElem_cons_succ])
      go_simp
      refine (lists_ls a _ _ _ _ HG.out ((HA.out.below (HW.trans (FW.mono (by simp; omega)))).more (HW.trans (FW.mono (by simp; omega))).size)).mono ?_
      rintro e X1 ⟨hb, _, _, _, rfl, hL, ⟨VA, Vn, Vc, rfl⟩, ⟨VA', Vn', Vc', rfl⟩, ⟨VA2, Vn2, Vc2, rfl⟩⟩
      go_simp
      have FW := FW.trans (hb.mono FW.size)
      have FA := hL
      refine hK.out _ _ (.inr (HS _ FW)) ?_
      clear hK K hb hL
      (try simp only [List.getElem_toArray, List.getElem_cons_zero, List.getElem_cons_succ, Act.put, List.setIfInBounds_toArray, List.set_cons_zero, List.set_cons_succ])
      refine wpAnyK_three (i := 3) (j := 4) (l := 5) (by kernel_rfl) rfl rfl rfl (fun K hK => ?_) (fun K hK => ?_) (fun K hK => ?_)
      · (try simp only [List.getElem_toArray, List.getElem_cons_zero, List.getElem_cons_succ])
        go_simp
        refine (lists_ls b _ _ _ _ HG'.out ((HB.out.below (HW.trans (FW.mono (by simp; omega)))).more (HW.trans (FW.mono (by simp; omega))).size)).mono ?_
        rintro e X2 ⟨hb, _, _, _, rfl, hL, ⟨UA, Un, Uc, rfl⟩, ⟨UA', Un', Uc', rfl⟩, ⟨UA2, Un2, Uc2, rfl⟩⟩
        go_simp
        have FA := FA.below hb
        have FW := FW.trans (hb.mono FW.size)
        have FB := hL
        refine hK.out _ _ (.inr (HS _ FW)) ?_
        clear hK K hb hL
        (try simp only [List.getElem_toArray, List.getElem_cons_zero, List.getElem_cons_succ, Act.put, List.setIfInBounds_toArray, List.set_cons_zero, List.set_cons_succ])
        refine wpAnyK_two (i := 4) (j := 5) (by kernel_rfl) rfl rfl (fun K hK => ?_) (fun K hK => ?_)
        · (try simp only [List.getElem_toArray, List.getElem_cons_zero, List.getElem_cons_succ])
          go_simp
          have G5 : ((w.alloc (.cells #[.string a.ms, .string a.lg, .slice AT a.tk.length cT, .slice AA a.an.length cA, .slice AD a.dm.length cD] 26)).alloc (.cells #[.string b.ms, .string b.lg, .slice BT b.tk.length dT, .slice BA b.an.length dA, .slice BD b.dm.length dD] 26)).heap.size ≤ X2.heap.size := FW.size
          have FA := FA.alloc (.cells #[.slice none 0 0, .slice none 0 0, .slice none 0 0] 67)
          have FB := FB.alloc (.cells #[.slice none 0 0, .slice none 0 0, .slice none 0 0] 67)
          have FW := FW.alloc FW.size (.cells #[.slice none 0 0, .slice none 0 0, .slice none 0 0] 67)
          have F5 : Zr (X2.alloc (.cells #[.slice none 0 0, .slice none 0 0, .slice none 0 0] 67)) X2.heap.size := World.alloc_heap_new _ _
          refine hK.out _ _ (.inr (HS _ FW)) ?_
          clear hK K
          (try simp only [List.getElem_toArray, List.getElem_cons_zero, List.getElem_cons_succ, Act.put, List.setIfInBounds_toArray, List.set_cons_zero, List.set_cons_succ])
          generalize hb : X2.heap.size = b5 at *
          generalize X2.alloc (.cells #[.slice none 0 0, .slice none 0 0, .slice none 0 0] 67) = X3 at *
          refine wpAnyK_one (j := 5) (by kernel_rfl) rfl (fun K hK => ?_)
          · (try simp only [List.getElem_toArray, List.getElem_cons_zero, List.getElem_cons_succ])
            go_simp
            have NE : b5 ≠ X3.heap.size := by have := (Array.getElem?_eq_some_iff.1 F5).1; omega
            have G6 : ((w.alloc (.cells #[.string a.ms, .string a.lg, .slice AT a.tk.length cT, .slice AA a.an.length cA, .slice AD a.dm.length cD] 26)).alloc (.cells #[.string b.ms, .string b.lg, .slice BT b.tk.length dT, .slice BA b.an.length dA, .slice BD b.dm.length dD] 26)).heap.size ≤ X3.heap.size := FW.size
            have F5 := F5.alloc (.cells #[.slice none 0 0, .slice none 0 0, .slice none 0 0] 67)
            have FA := FA.alloc (.cells #[.slice none 0 0, .slice none 0 0, .slice none 0 0] 67)
            have FB := FB.alloc (.cells #[.slice none 0 0, .slice none 0 0, .slice none 0 0] 67)
            have FW := FW.alloc FW.size (.cells #[.slice none 0 0, .slice none 0 0, .slice none 0 0] 67)
            have F6 : Zr (X3.alloc (.cells #[.slice none 0 0, .slice none 0 0, .slice none 0 0] 67)) X3.heap.size := World.alloc_heap_new _ _
            refine hK.out _ _ (.inr (HS _ FW)) ?_
            clear hK K
            (try simp only [List.getElem_toArray, List.getElem_cons_zero, List.getElem_cons_succ, Act.put, List.setIfInBounds_toArray, List.set_cons_zero, List.set_cons_succ])
            generalize hb : X3.heap.size = b6 at *
            generalize X3.alloc (.cells #[.slice none 0 0, .slice none 0 0, .slice none 0 0] 67) = X4 at *
            have hsz : (((w.alloc (.cells #[.string a.ms, .string a.lg, .slice AT a.tk.length cT, .slice AA a.an.length cA, .slice AD a.dm.length cD] 26)).alloc (.cells #[.string b.ms, .string b.lg, .slice BT b.tk.length dT, .slice BA b.an.length dA, .slice BD b.dm.length dD] 26))).heap.size = w.heap.size + 2 := by simp
            have k0 := cell_of_row _ _ 0 _ _ _ F5
            have k1 := cell_of_row _ _ 1 _ _ _ F5
            have k2 := cell_of_row _ _ 2 _ _ _ F5
            have f0 := frozen_of_row _ _ 0 _ _ F5
            have f1 := frozen_of_row _ _ 1 _ _ F5
            have f2 := frozen_of_row _ _ 2 _ _ F5
            (refine wpAnyK_one (j := 6) (by kernel_rfl) rfl (fun K hK => ?_); (try simp only [List.getElem_toArray, List.getElem_cons_zero, List.getElem_cons_succ]))
            go_simp
            clear k0 k1 k2 f0 f1 f2
            obtain ⟨FW1, R5, FO, FL⟩ := st3 (V0 := .slice VA Vn Vc) (V1 := .slice VA' Vn' Vc') (V2 := .slice VA2 Vn2 Vc2) FW G5 F5
            have F61 := FO b6 _ (by omega) F6
            have FA1 := FL _ _ _ _ FA
            have FB1 := FL _ _ _ _ FB
            clear FO FL F5 F6 FA FB FW
            generalize (((X4.setCell ⟨b5, 0, none⟩ (.slice VA Vn Vc)).setCell ⟨b5, 1, none⟩ (.slice VA' Vn' Vc')).setCell ⟨b5, 2, none⟩ (.slice VA2 Vn2 Vc2)) = Y1 at *
            refine hK.out _ _ (.inr (HS _ FW1)) ?_
            clear hK K
            (try simp only [List.getElem_toArray, List.getElem_cons_zero, List.getElem_cons_succ, Act.put, List.setIfInBounds_toArray, List.set_cons_zero, List.set_cons_succ])
            have k0 := cell_of_row _ _ 0 _ _ _ F61
            have k1 := cell_of_row _ _ 1 _ _ _ F61
            have k2 := cell_of_row _ _ 2 _ _ _ F61
            have f0 := frozen_of_row _ _ 0 _ _ F61
            have f1 := frozen_of_row _ _ 1 _ _ F61
            have f2 := frozen_of_row _ _ 2 _ _ F61
            (refine wpAnyK_one (j := 7) (by kernel_rfl) rfl (fun K hK => ?_); (try simp only [List.getElem_toArray, List.getElem_cons_zero, List.getElem_cons_succ]))
            go_simp
            clear k0 k1 k2 f0 f1 f2
            obtain ⟨FW2, R6, FO, FL⟩ := st3 (V0 := .slice UA Un Uc) (V1 := .slice UA' Un' Uc') (V2 := .slice UA2 Un2 Uc2) FW1 G6 F61
            have R52 := FO b5 _ (by omega) R5
            have FA2 := FL _ _ _ _ FA1
            have FB2 := FL _ _ _ _ FB1
            clear FO FL F61 FA1 FB1 FW1 R5
            generalize (((Y1.setCell ⟨b6, 0, none⟩ (.slice UA Un Uc)).setCell ⟨b6, 1, none⟩ (.slice UA' Un' Uc')).setCell ⟨b6, 2, none⟩ (.slice UA2 Un2 Uc2)) = Y2 at *
            refine hK.out _ _ (.inl rfl) ?_
            clear hK K
            refine wpAnyK_done (by kernel_rfl) ?_ _
            go_wp2_with fail
            go_meet
            exact ⟨b5, b6, _, _, _, _, _, _, rfl, rfl, ⟨_, _, _, rfl⟩, ⟨_, _, _, rfl⟩, ⟨_, _, _, rfl⟩, ⟨_, _, _, rfl⟩, ⟨_, _, _, rfl⟩, ⟨_, _, _, rfl⟩, ⟨(FW2.block w.heap.size (by omega)).trans ((Below.heap_alloc _ _ w.heap.size (by simp)).trans (World.alloc_heap_new w _)), (FW2.block (w.heap.size + 1) (by omega)).trans (news_at (w.alloc (.cells #[.string a.ms, .string a.lg, .slice AT a.tk.length cT, .slice AA a.an.length cA, .slice AD a.dm.length cD] 26)) (w.heap.size + 1) (by simp) _), R52, R6, FA2, FB2, HW.trans (FW2.mono (by omega))⟩⟩
        · (try simp only [List.getElem_toArray, List.getElem_cons_zero, List.getElem_cons_succ])
          go_simp
          have G6 : ((w.alloc (.cells #[.string a.ms, .string a.lg, .slice AT a.tk.length cT, .slice AA a.an.length cA, .slice AD a.dm.length cD] 26)).alloc (.cells #[.string b.ms, .string b.lg, .slice BT b.tk.length dT, .slice BA b.an.length dA, .slice BD b.dm.length dD] 26)).heap.size ≤ X2.heap.size := FW.size
          have FA := FA.alloc (.cells #[.slice none 0 0, .slice none 0 0, .slice none 0 0] 67)
          have FB := FB.alloc (.cells #[.slice none 0 0, .slice none 0 0, .slice none 0 0] 67)
          have FW := FW.alloc FW.size (.cells #[.slice none 0 0, .slice none 0 0, .slice none 0 0] 67)
          have F6 : Zr (X2.alloc (.cells #[.slice none 0 0, .slice none 0 0, .slice none 0 0] 67)) X2.heap.size := World.alloc_heap_new _ _
          refine hK.out _ _ (.inr (HS _ FW)) ?_
          clear hK K
          (try simp only [List.getElem_toArray, List.getElem_cons_zero, List.getElem_cons_succ, Act.put, List.setIfInBounds_toArray, List.set_cons_zero, List.set_cons_succ])
          generalize hb : X2.heap.size = b6 at *
          generalize X2.alloc (.cells #[.slice none 0 0, .slice none 0 0, .slice none 0 0] 67) = X3 at *
          refine wpAnyK_one (j := 4) (by kernel_rfl) rfl (fun K hK => ?_)
          · (try simp only [List.getElem_toArray, List.getElem_cons_zero, List.getElem_cons_succ])
            go_simp
            have NE : b6 ≠ X3.heap.size := by have := (Array.getElem?_eq_some_iff.1 F6).1; omega
            have G5 : ((w.alloc (.cells #[.string a.ms, .string a.lg, .slice AT a.tk.length cT, .slice AA a.an.length cA, .slice AD a.dm.length cD] 26)).alloc (.cells #[.string b.ms, .string b.lg, .slice BT b.tk.length dT, .slice BA b.an.length dA, .slice BD b.dm.length dD] 26)).heap.size ≤ X3.heap.size := FW.size
            have F6 := F6.alloc (.cells #[.slice none 0 0, .slice none 0 0, .slice none 0 0] 67)
            have FA := FA.alloc (.cells #[.slice none 0 0, .slice none 0 0, .slice none 0 0] 67)
            have FB := FB.alloc (.cells #[.slice none 0 0, .slice none 0 0, .slice none 0 0] 67)
            have FW := FW.alloc FW.size (.cells #[.slice none 0 0, .slice none 0 0, .slice none 0 0] 67)
            have F5 : Zr (X3.alloc (.cells #[.slice none 0 0, .slice none 0 0, .slice none 0 0] 67)) X3.heap.size := World.alloc_heap_new _ _
            refine hK.out _ _ (.inr (HS _ FW)) ?_
            clear hK K
            (try simp only [List.getElem_toArray, List.getElem_cons_zero, List.getElem_cons_succ, Act.put, List.setIfInBounds_toArray, List.set_cons_zero, List.set_cons_succ])
            generalize hb : X3.heap.size = b5 at *
            generalize X3.alloc (.cells #[.slice none 0 0, .slice none 0 0, .slice none 0 0] 67) = X4 at *
            have hsz : (((w.alloc (.cells #[.string a.ms, .string a.lg, .slice AT a.tk.length cT, .slice AA a.an.length cA, .slice AD a.dm.length cD] 26)).alloc (.cells #[.string b.ms, .string b.lg, .slice BT b.tk.length dT, .slice BA b.an.length dA, .slice BD b.dm.length dD] 26))).heap.size = w.heap.size + 2 := by simp
            have k0 := cell_of_row _ _ 0 _ _ _ F5
            have k1 := cell_of_row _ _ 1 _ _ _ F5
            have k2 := cell_of_row _ _ 2 _ _ _ F5
            have f0 := frozen_of_row _ _ 0 _ _ F5
            have f1 := frozen_of_row _ _ 1 _ _ F5
            have f2 := frozen_of_row _ _ 2 _ _ F5
            (refine wpAnyK_one (j := 6) (by kernel_rfl) rfl (fun K hK => ?_); (try simp only [List.getElem_toArray, List.getElem_cons_zero, List.getElem_cons_succ]))
            go_simp
            clear k0 k1 k2 f0 f1 f2
            obtain ⟨FW1, R5, FO, FL⟩ := st3 (V0 := .slice VA Vn Vc) (V1 := .slice VA' Vn' Vc') (V2 := .slice VA2 Vn2 Vc2) FW G5 F5
            have F61 := FO b6 _ (by omega) F6
            have FA1 := FL _ _ _ _ FA
            have FB1 := FL _ _ _ _ FB
            clear FO FL F5 F6 FA FB FW
            generalize (((X4.setCell ⟨b5, 0, none⟩ (.slice VA Vn Vc)).setCell ⟨b5, 1, none⟩ (.slice VA' Vn' Vc')).setCell ⟨b5, 2, none⟩ (.slice VA2 Vn2 Vc2)) = Y1 at *
            refine hK.out _ _ (.inr (HS _ FW1)) ?_
            clear hK K
            (try simp only [List.getElem_toArray, List.getElem_cons_zero, List.getElem_cons_succ, Act.put, List.setIfInBounds_toArray, List.set_cons_zero, List.set_cons_succ])
            have k0 := cell_of_row _ _ 0 _ _ _ F61
            have k1 := cell_of_row _ _ 1 _ _ _ F61
            have k2 := cell_of_row _ _ 2 _ _ _ F61
            have f0 := frozen_of_row _ _ 0 _ _ F61
            have f1 := frozen_of_row _ _ 1 _ _ F61
            have f2 := frozen_of_row _ _ 2 _ _ F61
            (refine wpAnyK_one (j := 7) (by kernel_rfl) rfl (fun K hK => ?_); (try simp only [List.getElem_toArray, List.getElem_cons_zero, List.getElem_cons_succ]))
            go_simp
            clear k0 k1 k2 f0 f1 f2
            obtain ⟨FW2, R6, FO, FL⟩ := st3 (V0 := .slice UA Un Uc) (V1 := .slice UA' Un' Uc') (V2 := .slice UA2 Un2 Uc2) FW1 G6 F61
            have R52 := FO b5 _ (by omega) R5
            have FA2 := FL _ _ _ _ FA1
            have FB2 := FL _ _ _ _ FB1
            clear FO FL F61 FA1 FB1 FW1 R5
            generalize (((Y1.setCell ⟨b6, 0, none⟩ (.slice UA Un Uc)).setCell ⟨b6, 1, none⟩ (.slice UA' Un' Uc')).setCell ⟨b6, 2, none⟩ (.slice UA2 Un2 Uc2)) = Y2 at *
            refine hK.out _ _ (.inl rfl) ?_
            clear hK K
            refine wpAnyK_done (by kernel_rfl) ?_ _
            go_wp2_with fail
            go_meet
            exact ⟨b5, b6, _, _, _, _, _, _, rfl, rfl, ⟨_, _, _, rfl⟩, ⟨_, _, _, rfl⟩, ⟨_, _, _, rfl⟩, ⟨_, _, _, rfl⟩, ⟨_, _, _, rfl⟩, ⟨_, _, _, rfl⟩, ⟨(FW2.block w.heap.size (by omega)).trans ((Below.heap_alloc _ _ w.heap.size (by simp)).trans (World.alloc_heap_new w _)), (FW2.block (w.heap.size + 1) (by omega)).trans (news_at (w.alloc (.cells #[.string a.ms, .string a.lg, .slice AT a.tk.length cT, .slice AA a.an.length cA, .slice AD a.dm.length cD] 26)) (w.heap.size + 1) (by simp) _), R52, R6, FA2, FB2, HW.trans (FW2.mono (by omega))⟩⟩
      · (try simp only [List.getElem_toArray, List.getElem_cons_zero, List.getElem_cons_succ])
        go_simp
        have G5 : ((w.alloc (.cells #[.string a.ms, .string a.lg, .slice AT a.tk.length cT, .slice AA a.an.length cA, .slice AD a.dm.length cD] 26)).alloc (.cells #[.string b.ms, .string b.lg, .slice BT b.tk.length dT, .slice BA b.an.length dA, .slice BD b.dm.length dD] 26)).heap.size ≤ X1.heap.size := FW.size
        have FA := FA.alloc (.cells #[.slice none 0 0, .slice none 0 0, .slice none 0 0] 67)
        have FW := FW.alloc FW.size (.cells #[.slice none 0 0, .slice none 0 0, .slice none 0 0] 67)
        have F5 : Zr (X1.alloc (.cells #[.slice none 0 0, .slice none 0 0, .slice none 0 0] 67)) X1.heap.size := World.alloc_heap_new _ _
        refine hK.out _ _ (.inr (HS _ FW)) ?_
        clear hK K
        (try simp only [List.getElem_toArray, List.getElem_cons_zero, List.getElem_cons_succ, Act.put, List.setIfInBounds_toArray, List.set_cons_zero, List.set_cons_succ])
        generalize hb : X1.heap.size = b5 at *
        generalize X1.alloc (.cells #[.slice none 0 0, .slice none 0 0, .slice none 0 0] 67) = X2 at *
        refine wpAnyK_two (i := 3) (j := 5) (by kernel_rfl) rfl rfl (fun K hK => ?_) (fun K hK => ?_)
        · (try simp only [List.getElem_toArray, List.getElem_cons_zero, List.getElem_cons_succ])
          go_simp
          refine (lists_ls b _ _ _ _ HG'.out ((HB.out.below (HW.trans (FW.mono (by simp; omega)))).more (HW.trans (FW.mono (by simp; omega))).size)).mono ?_
          rintro e X3 ⟨hb, _, _, _, rfl, hL, ⟨UA, Un, Uc, rfl⟩, ⟨UA', Un', Uc', rfl⟩, ⟨UA2, Un2, Uc2, rfl⟩⟩
          go_simp
          have F5 := F5.below hb
          have FA := FA.below hb
          have FW := FW.trans (hb.mono FW.size)
          have FB := hL
          refine hK.out _ _ (.inr (HS _ FW)) ?_
          clear hK K hb hL
          (try simp only [List.getElem_toArray, List.getElem_cons_zero, List.getElem_cons_succ, Act.put, List.setIfInBounds_toArray, List.set_cons_zero, List.set_cons_succ])
          refine wpAnyK_one (j := 5) (by kernel_rfl) rfl (fun K hK => ?_)
          · (try simp only [List.getElem_toArray, List.getElem_cons_zero, List.getElem_cons_succ])
            go_simp
            have NE : b5 ≠ X3.heap.size := by have := (Array.getElem?_eq_some_iff.1 F5).1; omega
            have G6 : ((w.alloc (.cells #[.string a.ms, .string a.lg, .slice AT a.tk.length cT, .slice AA a.an.length cA, .slice AD a.dm.length cD] 26)).alloc (.cells #[.string b.ms, .string b.lg, .slice BT b.tk.length dT, .slice BA b.an.length dA, .slice BD b.dm.length dD] 26)).heap.size ≤ X3.heap.size := FW.size
            have F5 := F5.alloc (.cells #[.slice none 0 0, .slice none 0 0, .slice none 0 0] 67)
            have FA := FA.alloc (.cells #[.slice none 0 0, .slice none 0 0, .slice none 0 0] 67)
            have FB := FB.alloc (.cells #[.slice none 0 0, .slice none 0 0, .slice none 0 0] 67)
            have FW := FW.alloc FW.size (.cells #[.slice none 0 0, .slice none 0 0, .slice none 0 0] 67)
            have F6 : Zr (X3.alloc (.cells #[.slice none 0 0, .slice none 0 0, .slice none 0 0] 67)) X3.heap.size := World.alloc_heap_new _ _
            refine hK.out _ _ (.inr (HS _ FW)) ?_
            clear hK K
            (try simp only [List.getElem_toArray, List.getElem_cons_zero, List.getElem_cons_succ, Act.put, List.setIfInBounds_toArray, List.set_cons_zero, List.set_cons_succ])
            generalize hb : X3.heap.size = b6 at *
            generalize X3.alloc (.cells #[.slice none 0 0, .slice none 0 0, .slice none 0 0] 67) = X4 at *
            have hsz : (((w.alloc (.cells #[.string a.ms, .string a.lg, .slice AT a.tk.length cT, .slice AA a.an.length cA, .slice AD a.dm.length cD] 26)).alloc (.cells #[.string b.ms, .string b.lg, .slice BT b.tk.length dT, .slice BA b.an.length dA, .slice BD b.dm.length dD] 26))).heap.size = w.heap.size + 2 := by simp
            have k0 := cell_of_row _ _ 0 _ _ _ F5
            have k1 := cell_of_row _ _ 1 _ _ _ F5
            have k2 := cell_of_row _ _ 2 _ _ _ F5
            have f0 := frozen_of_row _ _ 0 _ _ F5
            have f1 := frozen_of_row _ _ 1 _ _ F5
            have f2 := frozen_of_row _ _ 2 _ _ F5
            (refine wpAnyK_one (j := 6) (by kernel_rfl) rfl (fun K hK => ?_); (try simp only [List.getElem_toArray, List.getElem_cons_zero, List.getElem_cons_succ]))
            go_simp
            clear k0 k1 k2 f0 f1 f2
            obtain ⟨FW1, R5, FO, FL⟩ := st3 (V0 := .slice VA Vn Vc) (V1 := .slice VA' Vn' Vc') (V2 := .slice VA2 Vn2 Vc2) FW G5 F5
            have F61 := FO b6 _ (by omega) F6
            have FA1 := FL _ _ _ _ FA
            have FB1 := FL _ _ _ _ FB
            clear FO FL F5 F6 FA FB FW
            generalize (((X4.setCell ⟨b5, 0, none⟩ (.slice VA Vn Vc)).setCell ⟨b5, 1, none⟩ (.slice VA' Vn' Vc')).setCell ⟨b5, 2, none⟩ (.slice VA2 Vn2 Vc2)) = Y1 at *
            refine hK.out _ _ (.inr (HS _ FW1)) ?_
            clear hK K
            (try simp only [List.getElem_toArray, List.getElem_cons_zero, List.getElem_cons_succ, Act.put, List.setIfInBounds_toArray, List.set_cons_zero, List.set_cons_succ])
            have k0 := cell_of_row _ _ 0 _ _ _ F61
            have k1 := cell_of_row _ _ 1 _ _ _ F61
            have k2 := cell_of_row _ _ 2 _ _ _ F61
            have f0 := frozen_of_row _ _ 0 _ _ F61
            have f1 := frozen_of_row _ _ 1 _ _ F61
            have f2 := frozen_of_row _ _ 2 _ _ F61
            (refine wpAnyK_one (j := 7) (by kernel_rfl) rfl (fun K hK => ?_); (try simp only [List.getElem_toArray, List.getElem_cons_zero, List.getElem_cons_succ]))
            go_simp
            clear k0 k1 k2 f0 f1 f2
            obtain ⟨FW2, R6, FO, FL⟩ := st3 (V0 := .slice UA Un Uc) (V1 := .slice UA' Un' Uc') (V2 := .slice UA2 Un2 Uc2) FW1 G6 F61
            have R52 := FO b5 _ (by omega) R5
            have FA2 := FL _ _ _ _ FA1
            have FB2 := FL _ _ _ _ FB1
            clear FO FL F61 FA1 FB1 FW1 R5
            generalize (((Y1.setCell ⟨b6, 0, none⟩ (.slice UA Un Uc)).setCell ⟨b6, 1, none⟩ (.slice UA' Un' Uc')).setCell ⟨b6, 2, none⟩ (.slice UA2 Un2 Uc2)) = Y2 at *
            refine hK.out _ _ (.inl rfl) ?_
            clear hK K
            refine wpAnyK_done (by kernel_rfl) ?_ _
            go_wp2_with fail
            go_meet
            exact ⟨b5, b6, _, _, _, _, _, _, rfl, rfl, ⟨_, _, _, rfl⟩, ⟨_, _, _, rfl⟩, ⟨_, _, _, rfl⟩, ⟨_, _, _, rfl⟩, ⟨_, _, _, rfl⟩, ⟨_, _, _, rfl⟩, ⟨(FW2.block w.heap.size (by omega)).trans ((Below.heap_alloc _ _ w.heap.size (by simp)).trans (World.alloc_heap_new w _)), (FW2.block (w.heap.size + 1) (by omega)).trans (news_at (w.alloc (.cells #[.string a.ms, .string a.lg, .slice AT a.tk.length cT, .slice AA a.an.length cA, .slice AD a.dm.length cD] 26)) (w.heap.size + 1) (by simp) _), R52, R6, FA2, FB2, HW.trans (FW2.mono (by omega))⟩⟩
        · (try simp only [List.getElem_toArray, List.getElem_cons_zero, List.getElem_cons_succ])
          go_simp
          have NE : b5 ≠ X2.heap.size := by have := (Array.getElem?_eq_some_iff.1 F5).1; omega
          have G6 : ((w.alloc (.cells #[.string a.ms, .string a.lg, .slice AT a.tk.length cT, .slice AA a.an.length cA, .slice AD a.dm.length cD] 26)).alloc (.cells #[.string b.ms, .string b.lg, .slice BT b.tk.length dT, .slice BA b.an.length dA, .slice BD b.dm.length dD] 26)).heap.size ≤ X2.heap.size := FW.size
          have F5 := F5.alloc (.cells #[.slice none 0 0, .slice none 0 0, .slice none 0 0] 67)
          have FA := FA.alloc (.cells #[.slice none 0 0, .slice none 0 0, .slice none 0 0] 67)
          have FW := FW.alloc FW.size (.cells #[.slice none 0 0, .slice none 0 0, .slice none 0 0] 67)
          have F6 : Zr (X2.alloc (.cells #[.slice none 0 0, .slice none 0 0, .slice none 0 0] 67)) X2.heap.size := World.alloc_heap_new _ _
          refine hK.out _ _ (.inr (HS _ FW)) ?_
          clear hK K
          (try simp only [List.getElem_toArray, List.getElem_cons_zero, List.getElem_cons_succ, Act.put, List.setIfInBounds_toArray, List.set_cons_zero, List.set_cons_succ])
          generalize hb : X2.heap.size = b6 at *
          generalize X2.alloc (.cells #[.slice none 0 0, .slice none 0 0, .slice none 0 0] 67) = X3 at *
          refine wpAnyK_one (j := 3) (by kernel_rfl) rfl (fun K hK => ?_)
          · (try simp only [List.getElem_toArray, List.getElem_cons_zero, List.getElem_cons_succ])
            go_simp
            refine (lists_ls b _ _ _ _ HG'.out ((HB.out.below (HW.trans (FW.mono (by simp; omega)))).more (HW.trans (FW.mono (by simp; omega))).size)).mono ?_
            rintro e X4 ⟨hb, _, _, _, rfl, hL, ⟨UA, Un, Uc, rfl⟩, ⟨UA', Un', Uc', rfl⟩, ⟨UA2, Un2, Uc2, rfl⟩⟩
            go_simp
            have F5 := F5.below hb
            have F6 := F6.below hb
            have FA := FA.below hb
            have FW := FW.trans (hb.mono FW.size)
            have FB := hL
            refine hK.out _ _ (.inr (HS _ FW)) ?_
            clear hK K hb hL
            (try simp only [List.getElem_toArray, List.getElem_cons_zero, List.getElem_cons_succ, Act.put, List.setIfInBounds_toArray, List.set_cons_zero, List.set_cons_succ])
            have hsz : (((w.alloc (.cells #[.string a.ms, .string a.lg, .slice AT a.tk.length cT, .slice AA a.an.length cA, .slice AD a.dm.length cD] 26)).alloc (.cells #[.string b.ms, .string b.lg, .slice BT b.tk.length dT, .slice BA b.an.length dA, .slice BD b.dm.length dD] 26))).heap.size = w.heap.size + 2 := by simp
            have k0 := cell_of_row _ _ 0 _ _ _ F5
            have k1 := cell_of_row _ _ 1 _ _ _ F5
            have k2 := cell_of_row _ _ 2 _ _ _ F5
            have f0 := frozen_of_row _ _ 0 _ _ F5
            have f1 := frozen_of_row _ _ 1 _ _ F5
            have f2 := frozen_of_row _ _ 2 _ _ F5
            (refine wpAnyK_one (j := 6) (by kernel_rfl) rfl (fun K hK => ?_); (try simp only [List.getElem_toArray, List.getElem_cons_zero, List.getElem_cons_succ]))
            go_simp
            clear k0 k1 k2 f0 f1 f2
            obtain ⟨FW1, R5, FO, FL⟩ := st3 (V0 := .slice VA Vn Vc) (V1 := .slice VA' Vn' Vc') (V2 := .slice VA2 Vn2 Vc2) FW G5 F5
            have F61 := FO b6 _ (by omega) F6
            have FA1 := FL _ _ _ _ FA
            have FB1 := FL _ _ _ _ FB
            clear FO FL F5 F6 FA FB FW
            generalize (((X4.setCell ⟨b5, 0, none⟩ (.slice VA Vn Vc)).setCell ⟨b5, 1, none⟩ (.slice VA' Vn' Vc')).setCell ⟨b5, 2, none⟩ (.slice VA2 Vn2 Vc2)) = Y1 at *
            refine hK.out _ _ (.inr (HS _ FW1)) ?_
            clear hK K
            (try simp only [List.getElem_toArray, List.getElem_cons_zero, List.getElem_cons_succ, Act.put, List.setIfInBounds_toArray, List.set_cons_zero, List.set_cons_succ])
            have k0 := cell_of_row _ _ 0 _ _ _ F61
            have k1 := cell_of_row _ _ 1 _ _ _ F61
            have k2 := cell_of_row _ _ 2 _ _ _ F61
            have f0 := frozen_of_row _ _ 0 _ _ F61
            have f1 := frozen_of_row _ _ 1 _ _ F61
            have f2 := frozen_of_row _ _ 2 _ _ F61
            (refine wpAnyK_one (j := 7) (by kernel_rfl) rfl (fun K hK => ?_); (try simp only [List.getElem_toArray, List.getElem_cons_zero, List.getElem_cons_succ]))
            go_simp
            clear k0 k1 k2 f0 f1 f2
            obtain ⟨FW2, R6, FO, FL⟩ := st3 (V0 := .slice UA Un Uc) (V1 := .slice UA' Un' Uc') (V2 := .slice UA2 Un2 Uc2) FW1 G6 F61
            have R52 := FO b5 _ (by omega) R5
            have FA2 := FL _ _ _ _ FA1
            have FB2 := FL _ _ _ _ FB1
            clear FO FL F61 FA1 FB1 FW1 R5
            generalize (((Y1.setCell ⟨b6, 0, none⟩ (.slice UA Un Uc)).setCell ⟨b6, 1, none⟩ (.slice UA' Un' Uc')).setCell ⟨b6, 2, none⟩ (.slice UA2 Un2 Uc2)) = Y2 at *
            refine hK.out _ _ (.inl rfl) ?_
            clear hK K
            refine wpAnyK_done (by kernel_rfl) ?_ _
            go_wp2_with fail
            go_meet
            exact ⟨b5, b6, _, _, _, _, _, _, rfl, rfl, ⟨_, _, _, rfl⟩, ⟨_, _, _, rfl⟩, ⟨_, _, _, rfl⟩, ⟨_, _, _, rfl⟩, ⟨_, _, _, rfl⟩, ⟨_, _, _, rfl⟩, ⟨(FW2.block w.heap.size (by omega)).trans ((Below.heap_alloc _ _ w.heap.size (by simp)).trans (World.alloc_heap_new w _)), (FW2.block (w.heap.size + 1) (by omega)).trans (news_at (w.alloc (.cells #[.string a.ms, .string a.lg, .slice AT a.tk.length cT, .slice AA a.an.length cA, .slice AD a.dm.length cD] 26)) (w.heap.size + 1) (by simp) _), R52, R6, FA2, FB2, HW.trans (FW2.mono (by omega))⟩⟩
      · (try simp only [List.getElem_toArray, List.getElem_cons_zero, List.getElem_cons_succ])
        go_simp
        have G6 : ((w.alloc (.cells #[.string a.ms, .string a.lg, .slice AT a.tk.length cT, .slice AA a.an.length cA, .slice AD a.dm.length cD] 26)).alloc (.cells #[.string b.ms, .string b.lg, .slice BT b.tk.length dT, .slice BA b.an.length dA, .slice BD b.dm.length dD] 26)).heap.size ≤ X1.heap.size := FW.size
        have FA := FA.alloc (.cells #[.slice none 0 0, .slice none 0 0, .slice none 0 0] 67)
        have FW := FW.alloc FW.size (.cells #[.slice none 0 0, .slice none 0 0, .slice none 0 0] 67)
        have F6 : Zr (X1.alloc (.cells #[.slice none 0 0, .slice none 0 0, .slice none 0 0] 67)) X1.heap.size := World.alloc_heap_new _ _
        refine hK.out _ _ (.inr (HS _ FW)) ?_
        clear hK K
        (try simp only [List.getElem_toArray, List.getElem_cons_zero, List.getElem_cons_succ, Act.put, List.setIfInBounds_toArray, List.set_cons_zero, List.set_cons_succ])
        generalize hb : X1.heap.size = b6 at *
        generalize X1.alloc (.cells #[.slice none 0 0, .slice none 0 0, .slice none 0 0] 67) = X2 at *
        refine wpAnyK_two (i := 3) (j := 4) (by kernel_rfl) rfl rfl (fun K hK => ?_) (fun K hK => ?_)
        · (try simp only [List.getElem_toArray, List.getElem_cons_zero, List.getElem_cons_succ])
          go_simp
          refine (lists_ls b _ _ _ _ HG'.out ((HB.out.below (HW.trans (FW.mono (by simp; omega)))).more (HW.trans (FW.mono (by simp; omega))).size)).mono ?_
          rintro e X3 ⟨hb, _, _, _, rfl, hL, ⟨UA, Un, Uc, rfl⟩, ⟨UA', Un', Uc', rfl⟩, ⟨UA2, Un2, Uc2, rfl⟩⟩
          go_simp
          have F6 := F6.below hb
          have FA := FA.below hb
          have FW := FW.trans (hb.mono FW.size)
          have FB := hL
          refine hK.out _ _ (.inr (HS _ FW)) ?_
          clear hK K hb hL
          (try simp only [List.getElem_toArray, List.getElem_cons_zero, List.getElem_cons_succ, Act.put, List.setIfInBounds_toArray, List.set_cons_zero, List.set_cons_succ])
          refine wpAnyK_one (j := 4) (by kernel_rfl) rfl (fun K hK => ?_)
          · (try simp only [List.getElem_toArray, List.getElem_cons_zero, List.getElem_cons_succ])
            go_simp
            have NE : b6 ≠ X3.heap.size := by have := (Array.getElem?_eq_some_iff.1 F6).1; omega
            have G5 : ((w.alloc (.cells #[.string a.ms, .string a.lg, .slice AT a.tk.length cT, .slice AA a.an.length cA, .slice AD a.dm.length cD] 26)).alloc (.cells #[.string b.ms, .string b.lg, .slice BT b.tk.length dT, .slice BA b.an.length dA, .slice BD b.dm.length dD] 26)).heap.size ≤ X3.heap.size := FW.size
            have F6 := F6.alloc (.cells #[.slice none 0 0, .slice none 0 0, .slice none 0 0] 67)
            have FA := FA.alloc (.cells #[.slice none 0 0, .slice none 0 0, .slice none 0 0] 67)
            have FB := FB.alloc (.cells #[.slice none 0 0, .slice none 0 0, .slice none 0 0] 67)
            have FW := FW.alloc FW.size (.cells #[.slice none 0 0, .slice none 0 0, .slice none 0 0] 67)
            have F5 : Zr (X3.alloc (.cells #[.slice none 0 0, .slice none 0 0, .slice none 0 0] 67)) X3.heap.size := World.alloc_heap_new _ _
            refine hK.out _ _ (.inr (HS _ FW)) ?_
            clear hK K
            (try simp only [List.getElem_toArray, List.getElem_cons_zero, List.getElem_cons_succ, Act.put, List.setIfInBounds_toArray, List.set_cons_zero, List.set_cons_succ])
            generalize hb : X3.heap.size = b5 at *
            generalize X3.alloc (.cells #[.slice none 0 0, .slice none 0 0, .slice none 0 0] 67) = X4 at *
            have hsz : (((w.alloc (.cells #[.string a.ms, .string a.lg, .slice AT a.tk.length cT, .slice AA a.an.length cA, .slice AD a.dm.length cD] 26)).alloc (.cells #[.string b.ms, .string b.lg, .slice BT b.tk.length dT, .slice BA b.an.length dA, .slice BD b.dm.length dD] 26))).heap.size = w.heap.size + 2 := by simp
            have k0 := cell_of_row _ _ 0 _ _ _ F5
            have k1 := cell_of_row _ _ 1 _ _ _ F5
            have k2 := cell_of_row _ _ 2 _ _ _ F5
            have f0 := frozen_of_row _ _ 0 _ _ F5
            have f1 := frozen_of_row _ _ 1 _ _ F5
            have f2 := frozen_of_row _ _ 2 _ _ F5
            (refine wpAnyK_one (j := 6) (by kernel_rfl) rfl (fun K hK => ?_); (try simp only [List.getElem_toArray, List.getElem_cons_zero, List.getElem_cons_succ]))
            go_simp
            clear k0 k1 k2 f0 f1 f2
            obtain ⟨FW1, R5, FO, FL⟩ := st3 (V0 := .slice VA Vn Vc) (V1 := .slice VA' Vn' Vc') (V2 := .slice VA2 Vn2 Vc2) FW G5 F5
            have F61 := FO b6 _ (by omega) F6
            have FA1 := FL _ _ _ _ FA
            have FB1 := FL _ _ _ _ FB
            clear FO FL F5 F6 FA FB FW
            generalize (((X4.setCell ⟨b5, 0, none⟩ (.slice VA Vn Vc)).setCell ⟨b5, 1, none⟩ (.slice VA' Vn' Vc')).setCell ⟨b5, 2, none⟩ (.slice VA2 Vn2 Vc2)) = Y1 at *
            refine hK.out _ _ (.inr (HS _ FW1)) ?_
            clear hK K
            (try simp only [List.getElem_toArray, List.getElem_cons_zero, List.getElem_cons_succ, Act.put, List.setIfInBounds_toArray, List.set_cons_zero, List.set_cons_succ])
            have k0 := cell_of_row _ _ 0 _ _ _ F61
            have k1 := cell_of_row _ _ 1 _ _ _ F61
            have k2 := cell_of_row _ _ 2 _ _ _ F61
            have f0 := frozen_of_row _ _ 0 _ _ F61
            have f1 := frozen_of_row _ _ 1 _ _ F61
            have f2 := frozen_of_row _ _ 2 _ _ F61
            (refine wpAnyK_one (j := 7) (by kernel_rfl) rfl (fun K hK => ?_); (try simp only [List.getElem_toArray, List.getElem_cons_zero, List.getElem_cons_succ]))
            go_simp
            clear k0 k1 k2 f0 f1 f2
            obtain ⟨FW2, R6, FO, FL⟩ := st3 (V0 := .slice UA Un Uc) (V1 := .slice UA' Un' Uc') (V2 := .slice UA2 Un2 Uc2) FW1 G6 F61
            have R52 := FO b5 _ (by omega) R5
            have FA2 := FL _ _ _ _ FA1
            have FB2 := FL _ _ _ _ FB1
            clear FO FL F61 FA1 FB1 FW1 R5
            generalize (((Y1.setCell ⟨b6, 0, none⟩ (.slice UA Un Uc)).setCell ⟨b6, 1, none⟩ (.slice UA' Un' Uc')).setCell ⟨b6, 2, none⟩ (.slice UA2 Un2 Uc2)) = Y2 at *
            refine hK.out _ _ (.inl rfl) ?_
            clear hK K
            refine wpAnyK_done (by kernel_rfl) ?_ _
            go_wp2_with fail
            go_meet
            exact ⟨b5, b6, _, _, _, _, _, _, rfl, rfl, ⟨_, _, _, rfl⟩, ⟨_, _, _, rfl⟩, ⟨_, _, _, rfl⟩, ⟨_, _, _, rfl⟩, ⟨_, _, _, rfl⟩, ⟨_, _, _, rfl⟩, ⟨(FW2.block w.heap.size (by omega)).trans ((Below.heap_alloc _ _ w.heap.size (by simp)).trans (World.alloc_heap_new w _)), (FW2.block (w.heap.size + 1) (by omega)).trans (news_at (w.alloc (.cells #[.string a.ms, .string a.lg, .slice AT a.tk.length cT, .slice AA a.an.length cA, .slice AD a.dm.length cD] 26)) (w.heap.size + 1) (by simp) _), R52, R6, FA2, FB2, HW.trans (FW2.mono (by omega))⟩⟩
        · (try simp only [List.getElem_toArray, List.getElem_cons_zero, List.getElem_cons_succ])
          go_simp
          have NE : b6 ≠ X2.heap.size := by have := (Array.getElem?_eq_some_iff.1 F6).1; omega
          have G5 : ((w.alloc (.cells #[.string a.ms, .string a.lg, .slice AT a.tk.length cT, .slice AA a.an.length cA, .slice AD a.dm.length cD] 26)).alloc (.cells #[.string b.ms, .string b.lg, .slice BT b.tk.length dT, .slice BA b.an.length dA, .slice BD b.dm.length dD] 26)).heap.size ≤ X2.heap.size := FW.size
          have F6 := F6.alloc (.cells #[.slice none 0 0, .slice none 0 0, .slice none 0 0] 67)
          have FA := FA.alloc (.cells #[.slice none 0 0, .slice none 0 0, .slice none 0 0] 67)
          have FW := FW.alloc FW.size (.cells #[.slice none 0 0, .slice none 0 0, .slice none 0 0] 67)
          have F5 : Zr (X2.alloc (.cells #[.slice none 0 0, .slice none 0 0, .slice none 0 0] 67)) X2.heap.size := World.alloc_heap_new _ _
          refine hK.out _ _ (.inr (HS _ FW)) ?_
          clear hK K
          (try simp only [List.getElem_toArray, List.getElem_cons_zero, List.getElem_cons_succ, Act.put, List.setIfInBounds_toArray, List.set_cons_zero, List.set_cons_succ])
          generalize hb : X2.heap.size = b5 at *
          generalize X2.alloc (.cells #[.slice none 0 0, .slice none 0 0, .slice none 0 0] 67) = X3 at *
          refine wpAnyK_one (j := 3) (by kernel_rfl) rfl (fun K hK => ?_)
          · (try simp only [List.getElem_toArray, List.getElem_cons_zero, List.getElem_cons_succ])
            go_simp
            refine (lists_ls b _ _ _ _ HG'.out ((HB.out.below (HW.trans (FW.mono (by simp; omega)))).more (HW.trans (FW.mono (by simp; omega))).size)).mono ?_
            rintro e X4 ⟨hb, _, _, _, rfl, hL, ⟨UA, Un, Uc, rfl⟩, ⟨UA', Un', Uc', rfl⟩, ⟨UA2, Un2, Uc2, rfl⟩⟩
            go_simp
            have F5 := F5.below hb
            have F6 := F6.below hb
            have FA := FA.below hb
            have FW := FW.trans (hb.mono FW.size)
            have FB := hL
            refine hK.out _ _ (.inr (HS _ FW)) ?_
            clear hK K hb hL
            (try simp only [List.getElem_toArray, List.getElem_cons_zero, List.getElem_cons_succ, Act.put, List.setIfInBounds_toArray, List.set_cons_zero, List.set_cons_succ])
            have hsz : (((w.alloc (.cells #[.string a.ms, .string a.lg, .slice AT a.tk.length cT, .slice AA a.an.length cA, .slice AD a.dm.length cD] 26)).alloc (.cells #[.string b.ms, .string b.lg, .slice BT b.tk.length dT, .slice BA b.an.length dA, .slice BD b.dm.length dD] 26))).heap.size = w.heap.size + 2 := by simp
            have k0 := cell_of_row _ _ 0 _ _ _ F5
            have k1 := cell_of_row _ _ 1 _ _ _ F5
            have k2 := cell_of_row _ _ 2 _ _ _ F5
            have f0 := frozen_of_row _ _ 0 _ _ F5
            have f1 := frozen_of_row _ _ 1 _ _ F5
            have f2 := frozen_of_row _ _ 2 _ _ F5
            (refine wpAnyK_one (j := 6) (by kernel_rfl) rfl (fun K hK => ?_); (try simp only [List.getElem_toArray, List.getElem_cons_zero, List.getElem_cons_succ]))
            go_simp
            clear k0 k1 k2 f0 f1 f2
            obtain ⟨FW1, R5, FO, FL⟩ := st3 (V0 := .slice VA Vn Vc) (V1 := .slice VA' Vn' Vc') (V2 := .slice VA2 Vn2 Vc2) FW G5 F5
            have F61 := FO b6 _ (by omega) F6
            have FA1 := FL _ _ _ _ FA
            have FB1 := FL _ _ _ _ FB
            clear FO FL F5 F6 FA FB FW
            generalize (((X4.setCell ⟨b5, 0, none⟩ (.slice VA Vn Vc)).setCell ⟨b5, 1, none⟩ (.slice VA' Vn' Vc')).setCell ⟨b5, 2, none⟩ (.slice VA2 Vn2 Vc2)) = Y1 at *
            refine hK.out _ _ (.inr (HS _ FW1)) ?_
            clear hK K
            (try simp only [List.getElem_toArray, List.getElem_cons_zero, List.getElem_cons_succ, Act.put, List.setIfInBounds_toArray, List.set_cons_zero, List.set_cons_succ])
            have k0 := cell_of_row _ _ 0 _ _ _ F61
            have k1 := cell_of_row _ _ 1 _ _ _ F61
            have k2 := cell_of_row _ _ 2 _ _ _ F61
            have f0 := frozen_of_row _ _ 0 _ _ F61
            have f1 := frozen_of_row _ _ 1 _ _ F61
            have f2 := frozen_of_row _ _ 2 _ _ F61
            (refine wpAnyK_one (j := 7) (by kernel_rfl) rfl (fun K hK => ?_); (try simp only [List.getElem_toArray, List.getElem_cons_zero, List.getElem_cons_succ]))
            go_simp
            clear k0 k1 k2 f0 f1 f2
            obtain ⟨FW2, R6, FO, FL⟩ := st3 (V0 := .slice UA Un Uc) (V1 := .slice UA' Un' Uc') (V2 := .slice UA2 Un2 Uc2) FW1 G6 F61
            have R52 := FO b5 _ (by omega) R5
            have FA2 := FL _ _ _ _ FA1
            have FB2 := FL _ _ _ _ FB1
            clear FO FL F61 FA1 FB1 FW1 R5
            generalize (((Y1.setCell ⟨b6, 0, none⟩ (.slice UA Un Uc)).setCell ⟨b6, 1, none⟩ (.slice UA' Un' Uc')).setCell ⟨b6, 2, none⟩ (.slice UA2 Un2 Uc2)) = Y2 at *
            refine hK.out _ _ (.inl rfl) ?_
            clear hK K
            refine wpAnyK_done (by kernel_rfl) ?_ _
            go_wp2_with fail
            go_meet
            exact ⟨b5, b6, _, _, _, _, _, _, rfl, rfl, ⟨_, _, _, rfl⟩, ⟨_, _, _, rfl⟩, ⟨_, _, _, rfl⟩, ⟨_, _, _, rfl⟩, ⟨_, _, _, rfl⟩, ⟨_, _, _, rfl⟩, ⟨(FW2.block w.heap.size (by omega)).trans ((Below.heap_alloc _ _ w.heap.size (by simp)).trans (World.alloc_heap_new w _)), (FW2.block (w.heap.size + 1) (by omega)).trans (news_at (w.alloc (.cells #[.string a.ms, .string a.lg, .slice AT a.tk.length cT, .slice AA a.an.length cA, .slice AD a.dm.length cD] 26)) (w.heap.size + 1) (by simp) _), R52, R6, FA2, FB2, HW.trans (FW2.mono (by omega))⟩⟩
    · (try simp only [List.getElem_toArray, List.getElem_cons_zero, List.getElem_cons_succ])
      go_simp
      have G5 : ((w.alloc (.cells #[.string a.ms, .string a.lg, .slice AT a.tk.length cT, .slice AA a.an.length cA, .slice AD a.dm.length cD] 26)).alloc (.cells #[.string b.ms, .string b.lg, .slice BT b.tk.length dT, .slice BA b.an.length dA, .slice BD b.dm.length dD] 26)).heap.size ≤ X0.heap.size := FW.size
      have FW := FW.alloc FW.size (.cells #[.slice none 0 0, .slice none 0 0, .slice none 0 0] 67)
      have F5 : Zr (X0.alloc (.cells #[.slice none 0 0, .slice none 0 0, .slice none 0 0] 67)) X0.heap.size := World.alloc_heap_new _ _
      refine hK.out _ _ (.inr (HS _ FW)) ?_
      clear hK K
      (try simp only [List.getElem_toArray, List.getElem_cons_zero, List.getElem_cons_succ, Act.put, List.setIfInBounds_toArray, List.set_cons_zero, List.set_cons_succ])
      generalize hb : X0.heap.size = b5 at *
      generalize X0.alloc (.cells #[.slice none 0 0, .slice none 0 0, .slice none 0 0] 67) = X1 at *
      refine wpAnyK_two (i := 1) (j := 5) (by kernel_rfl) rfl rfl (fun K hK => ?_) (fun K hK => ?_)
      · (try simp only [List.getElem_toArray, List.getElem_cons_zero, List.getElem_cons_succ])
        go_simp
        refine (lists_ls a _ _ _ _ HG.out ((HA.out.below (HW.trans (FW.mono (by simp; omega)))).more (HW.trans (FW.mono (by simp; omega))).size)).mono ?_
        rintro e X2 ⟨hb, _, _, _, rfl, hL, ⟨VA, Vn, Vc, rfl⟩, ⟨VA', Vn', Vc', rfl⟩, ⟨VA2, Vn2, Vc2, rfl⟩⟩
        go_simp
        have F5 := F5.below hb
        have FW := FW.trans (hb.mono FW.size)
        have FA := hL
        refine hK.out _ _ (.inr (HS _ FW)) ?_
        clear hK K hb hL
        (try simp only [List.getElem_toArray, List.getElem_cons_zero, List.getElem_cons_succ, Act.put, List.setIfInBounds_toArray, List.set_cons_zero, List.set_cons_succ])
        refine wpAnyK_two (i := 3) (j := 5) (by kernel_rfl) rfl rfl (fun K hK => ?_) (fun K hK => ?_)
        · (try simp only [List.getElem_toArray, List.getElem_cons_zero, List.getElem_cons_succ])
          go_simp
          refine (lists_ls b _ _ _ _ HG'.out ((HB.out.below (HW.trans (FW.mono (by simp; omega)))).more (HW.trans (FW.mono (by simp; omega))).size)).mono ?_
          rintro e X3 ⟨hb, _, _, _, rfl, hL, ⟨UA, Un, Uc, rfl⟩, ⟨UA', Un', Uc', rfl⟩, ⟨UA2, Un2, Uc2, rfl⟩⟩
          go_simp
          have F5 := F5.below hb
          have FA := FA.below hb
          have FW := FW.trans (hb.mono FW.size)
          have FB := hL
          refine hK.out _ _ (.inr (HS _ FW)) ?_
          clear hK K hb hL
          (try simp only [List.getElem_toArray, List.getElem_cons_zero, List.getElem_cons_succ, Act.put, List.setIfInBounds_toArray, List.set_cons_zero, List.set_cons_succ])
          refine wpAnyK_one (j := 5) (by kernel_rfl) rfl (fun K hK => ?_)
          · (try simp only [List.getElem_toArray, List.getElem_cons_zero, List.getElem_cons_succ])
            go_simp
            have NE : b5 ≠ X3.heap.size := by have := (Array.getElem?_eq_some_iff.1 F5).1; omega
            have G6 : ((w.alloc (.cells #[.string a.ms, .string a.lg, .slice AT a.tk.length cT, .slice AA a.an.length cA, .slice AD a.dm.length cD] 26)).alloc (.cells #[.string b.ms, .string b.lg, .slice BT b.tk.length dT, .slice BA b.an.length dA, .slice BD b.dm.length dD] 26)).heap.size ≤ X3.heap.size := FW.size
            have F5 := F5.alloc (.cells #[.slice none 0 0, .slice none 0 0, .slice none 0 0] 67)
            have FA := FA.alloc (.cells #[.slice none 0 0, .slice none 0 0, .slice none 0 0] 67)
            have FB := FB.alloc (.cells #[.slice none 0 0, .slice none 0 0, .slice none 0 0] 67)
            have FW := FW.alloc FW.size (.cells #[.slice none 0 0, .slice none 0 0, .slice none 0 0] 67)
            have F6 : Zr (X3.alloc (.cells #[.slice none 0 0, .slice none 0 0, .slice none 0 0] 67)) X3.heap.size := World.alloc_heap_new _ _
            refine hK.out _ _ (.inr (HS _ FW)) ?_
            clear hK K
            (try simp only [List.getElem_toArray, List.getElem_cons_zero, List.getElem_cons_succ, Act.put, List.setIfInBounds_toArray, List.set_cons_zero, List.set_cons_succ])
            generalize hb : X3.heap.size = b6 at *
            generalize X3.alloc (.cells #[.slice none 0 0, .slice none 0 0, .slice none 0 0] 67) = X4 at *
            have hsz : (((w.alloc (.cells #[.string a.ms, .string a.lg, .slice AT a.tk.length cT, .slice AA a.an.length cA, .slice AD a.dm.length cD] 26)).alloc (.cells #[.string b.ms, .string b.lg, .slice BT b.tk.length dT, .slice BA b.an.length dA, .slice BD b.dm.length dD] 26))).heap.size = w.heap.size + 2 := by simp
            have k0 := cell_of_row _ _ 0 _ _ _ F5
            have k1 := cell_of_row _ _ 1 _ _ _ F5
            have k2 := cell_of_row _ _ 2 _ _ _ F5
            have f0 := frozen_of_row _ _ 0 _ _ F5
            have f1 := frozen_of_row _ _ 1 _ _ F5
            have f2 := frozen_of_row _ _ 2 _ _ F5
            (refine wpAnyK_one (j := 6) (by kernel_rfl) rfl (fun K hK => ?_); (try simp only [List.getElem_toArray, List.getElem_cons_zero, List.getElem_cons_succ]))
            go_simp
            clear k0 k1 k2 f0 f1 f2
            obtain ⟨FW1, R5, FO, FL⟩ := st3 (V0 := .slice VA Vn Vc) (V1 := .slice VA' Vn' Vc') (V2 := .slice VA2 Vn2 Vc2) FW G5 F5
            have F61 := FO b6 _ (by omega) F6
            have FA1 := FL _ _ _ _ FA
            have FB1 := FL _ _ _ _ FB
            clear FO FL F5 F6 FA FB FW
            generalize (((X4.setCell ⟨b5, 0, none⟩ (.slice VA Vn Vc)).setCell ⟨b5, 1, none⟩ (.slice VA' Vn' Vc')).setCell ⟨b5, 2, none⟩ (.slice VA2 Vn2 Vc2)) = Y1 at *
            refine hK.out _ _ (.inr (HS _ FW1)) ?_
            clear hK K
            (try simp only [List.getElem_toArray, List.getElem_cons_zero, List.getElem_cons_succ, Act.put, List.setIfInBounds_toArray, List.set_cons_zero, List.set_cons_succ])
            have k0 := cell_of_row _ _ 0 _ _ _ F61
            have k1 := cell_of_row _ _ 1 _ _ _ F61
            have k2 := cell_of_row _ _ 2 _ _ _ F61
            have f0 := frozen_of_row _ _ 0 _ _ F61
            have f1 := frozen_of_row _ _ 1 _ _ F61
            have f2 := frozen_of_row _ _ 2 _ _ F61
            (refine wpAnyK_one (j := 7) (by kernel_rfl) rfl (fun K hK => ?_); (try simp only [List.getElem_toArray, List.getElem_cons_zero, List.getElem_cons_succ]))
            go_simp
            clear k0 k1 k2 f0 f1 f2
            obtain ⟨FW2, R6, FO, FL⟩ := st3 (V0 := .slice UA Un Uc) (V1 := .slice UA' Un' Uc') (V2 := .slice UA2 Un2 Uc2) FW1 G6 F61
            have R52 := FO b5 _ (by omega) R5
            have FA2 := FL _ _ _ _ FA1
            have FB2 := FL _ _ _ _ FB1
            clear FO FL F61 FA1 FB1 FW1 R5
            generalize (((Y1.setCell ⟨b6, 0, none⟩ (.slice UA Un Uc)).setCell ⟨b6, 1, none⟩ (.slice UA' Un' Uc')).setCell ⟨b6, 2, none⟩ (.slice UA2 Un2 Uc2)) = Y2 at *
            refine hK.out _ _ (.inl rfl) ?_
            clear hK K
            refine wpAnyK_done (by kernel_rfl) ?_ _
            go_wp2_with fail
            go_meet
            exact ⟨b5, b6, _, _, _, _, _, _, rfl, rfl, ⟨_, _, _, rfl⟩, ⟨_, _, _, rfl⟩, ⟨_, _, _, rfl⟩, ⟨_, _, _, rfl⟩, ⟨_, _, _, rfl⟩, ⟨_, _, _, rfl⟩, ⟨(FW2.block w.heap.size (by omega)).trans ((Below.heap_alloc _ _ w.heap.size (by simp)).trans (World.alloc_heap_new w _)), (FW2.block (w.heap.size + 1) (by omega)).trans (news_at (w.alloc (.cells #[.string a.ms, .string a.lg, .slice AT a.tk.length cT, .slice AA a.an.length cA, .slice AD a.dm.length cD] 26)) (w.heap.size + 1) (by simp) _), R52, R6, FA2, FB2, HW.trans (FW2.mono (by omega))⟩⟩
        · (try simp only [List.getElem_toArray, List.getElem_cons_zero, List.getElem_cons_succ])
          go_simp
          have NE : b5 ≠ X2.heap.size := by have := (Array.getElem?_eq_some_iff.1 F5).1; omega
          have G6 : ((w.alloc (.cells #[.string a.ms, .string a.lg, .slice AT a.tk.length cT, .slice AA a.an.length cA, .slice AD a.dm.length cD] 26)).alloc (.cells #[.string b.ms, .string b.lg, .slice BT b.tk.length dT, .slice BA b.an.length dA, .slice BD b.dm.length dD] 26)).heap.size ≤ X2.heap.size := FW.size
          have F5 := F5.alloc (.cells #[.slice none 0 0, .slice none 0 0, .slice none 0 0] 67)
          have FA := FA.alloc (.cells #[.slice none 0 0, .slice none 0 0, .slice none 0 0] 67)
          have FW := FW.alloc FW.size (.cells #[.slice none 0 0, .slice none 0 0, .slice none 0 0] 67)
          have F6 : Zr (X2.alloc (.cells #[.slice none 0 0, .slice none 0 0, .slice none 0 0] 67)) X2.heap.size := World.alloc_heap_new _ _
          refine hK.out _ _ (.inr (HS _ FW)) ?_
          clear hK K
          (try simp only [List.getElem_toArray, List.getElem_cons_zero, List.getElem_cons_succ, Act.put, List.setIfInBounds_toArray, List.set_cons_zero, List.set_cons_succ])
          generalize hb : X2.heap.size = b6 at *
          generalize X2.alloc (.cells #[.slice none 0 0, .slice none 0 0, .slice none 0 0] 67) = X3 at *
          refine wpAnyK_one (j := 3) (by kernel_rfl) rfl (fun K hK => ?_)
          · (try simp only [List.getElem_toArray, List.getElem_cons_zero, List.getElem_cons_succ])
            go_simp
            refine (lists_ls b _ _ _ _ HG'.out ((HB.out.below (HW.trans (FW.mono (by simp; omega)))).more (HW.trans (FW.mono (by simp; omega))).size)).mono ?_
            rintro e X4 ⟨hb, _, _, _, rfl, hL, ⟨UA, Un, Uc, rfl⟩, ⟨UA', Un', Uc', rfl⟩, ⟨UA2, Un2, Uc2, rfl⟩⟩
            go_simp
            have F5 := F5.below hb
            have F6 := F6.below hb
            have FA := FA.below hb
            have FW := FW.trans (hb.mono FW.size)
            have FB := hL
            refine hK.out _ _ (.inr (HS _ FW)) ?_
            clear hK K hb hL
            (try simp only [List.getElem_toArray, List.getElem_cons_zero, List.getElem_cons_succ, Act.put, List.setIfInBounds_toArray, List.set_cons_zero, List.set_cons_succ])
            have hsz : (((w.alloc (.cells #[.string a.ms, .string a.lg, .slice AT a.tk.length cT, .slice AA a.an.length cA, .slice AD a.dm.length cD] 26)).alloc (.cells #[.string b.ms, .string b.lg, .slice BT b.tk.length dT, .slice BA b.an.length dA, .slice BD b.dm.length dD] 26))).heap.size = w.heap.size + 2 := by simp
            have k0 := cell_of_row _ _ 0 _ _ _ F5
            have k1 := cell_of_row _ _ 1 _ _ _ F5
            have k2 := cell_of_row _ _ 2 _ _ _ F5
            have f0 := frozen_of_row _ _ 0 _ _ F5
            have f1 := frozen_of_row _ _ 1 _ _ F5
            have f2 := frozen_of_row _ _ 2 _ _ F5
            (refine wpAnyK_one (j := 6) (by kernel_rfl) rfl (fun K hK => ?_); (try simp only [List.getElem_toArray, List.getElem_cons_zero, List.getElem_cons_succ]))
            go_simp
            clear k0 k1 k2 f0 f1 f2
            obtain ⟨FW1, R5, FO, FL⟩ := st3 (V0 := .slice VA Vn Vc) (V1 := .slice VA' Vn' Vc') (V2 := .slice VA2 Vn2 Vc2) FW G5 F5
            have F61 := FO b6 _ (by omega) F6
            have FA1 := FL _ _ _ _ FA
            have FB1 := FL _ _ _ _ FB
            clear FO FL F5 F6 FA FB FW
            generalize (((X4.setCell ⟨b5, 0, none⟩ (.slice VA Vn Vc)).setCell ⟨b5, 1, none⟩ (.slice VA' Vn' Vc')).setCell ⟨b5, 2, none⟩ (.slice VA2 Vn2 Vc2)) = Y1 at *
            refine hK.out _ _ (.inr (HS _ FW1)) ?_
            clear hK K
            (try simp only [List.getElem_toArray, List.getElem_cons_zero, List.getElem_cons_succ, Act.put, List.setIfInBounds_toArray, List.set_cons_zero, List.set_cons_succ])
            have k0 := cell_of_row _ _ 0 _ _ _ F61
            have k1 := cell_of_row _ _ 1 _ _ _ F61
            have k2 := cell_of_row _ _ 2 _ _ _ F61
            have f0 := frozen_of_row _ _ 0 _ _ F61
            have f1 := frozen_of_row _ _ 1 _ _ F61
            have f2 := frozen_of_row _ _ 2 _ _ F61
            (refine wpAnyK_one (j := 7) (by kernel_rfl) rfl (fun K hK => ?_); (try simp only [List.getElem_toArray, List.getElem_cons_zero, List.getElem_cons_succ]))
            go_simp
            clear k0 k1 k2 f0 f1 f2
            obtain ⟨FW2, R6, FO, FL⟩ := st3 (V0 := .slice UA Un Uc) (V1 := .slice UA' Un' Uc') (V2 := .slice UA2 Un2 Uc2) FW1 G6 F61
            have R52 := FO b5 _ (by omega) R5
            have FA2 := FL _ _ _ _ FA1
            have FB2 := FL _ _ _ _ FB1
            clear FO FL F61 FA1 FB1 FW1 R5
            generalize (((Y1.setCell ⟨b6, 0, none⟩ (.slice UA Un Uc)).setCell ⟨b6, 1, none⟩ (.slice UA' Un' Uc')).setCell ⟨b6, 2, none⟩ (.slice UA2 Un2 Uc2)) = Y2 at *
            refine hK.out _ _ (.inl rfl) ?_
            clear hK K
            refine wpAnyK_done (by kernel_rfl) ?_ _
            go_wp2_with fail
            go_meet
            exact ⟨b5, b6, _, _, _, _, _, _, rfl, rfl, ⟨_, _, _, rfl⟩, ⟨_, _, _, rfl⟩, ⟨_, _, _, rfl⟩, ⟨_, _, _, rfl⟩, ⟨_, _, _, rfl⟩, ⟨_, _, _, rfl⟩, ⟨(FW2.block w.heap.size (by omega)).trans ((Below.heap_alloc _ _ w.heap.size (by simp)).trans (World.alloc_heap_new w _)), (FW2.block (w.heap.size + 1) (by omega)).trans (news_at (w.alloc (.cells #[.string a.ms, .string a.lg, .slice AT a.tk.length cT, .slice AA a.an.length cA, .slice AD a.dm.length cD] 26)) (w.heap.size + 1) (by simp) _), R52, R6, FA2, FB2, HW.trans (FW2.mono (by omega))⟩⟩
      · (try simp only [List.getElem_toArray, List.getElem_cons_zero, List.getElem_cons_succ])
        go_simp
        have NE : b5 ≠ X1.heap.size := by have := (Array.getElem?_eq_some_iff.1 F5).1; omega
        have G6 : ((w.alloc (.cells #[.string a.ms, .string a.lg, .slice AT a.tk.length cT, .slice AA a.an.length cA, .slice AD a.dm.length cD] 26)).alloc (.cells #[.string b.ms, .string b.lg, .slice BT b.tk.length dT, .slice BA b.an.length dA, .slice BD b.dm.length dD] 26)).heap.size ≤ X1.heap.size := FW.size
        have F5 := F5.alloc (.cells #[.slice none 0 0, .slice none 0 0, .slice none 0 0] 67)
        have FW := FW.alloc FW.size (.cells #[.slice none 0 0, .slice none 0 0, .slice none 0 0] 67)
        have F6 : Zr (X1.alloc (.cells #[.slice none 0 0, .slice none 0 0, .slice none 0 0] 67)) X1.heap.size := World.alloc_heap_new _ _
        refine hK.out _ _ (.inr (HS _ FW)) ?_
        clear hK K
        (try simp only [List.getElem_toArray, List.getElem_cons_zero, List.getElem_cons_succ, Act.put, List.setIfInBounds_toArray, List.set_cons_zero, List.set_cons_succ])
        generalize hb : X1.heap.size = b6 at *
        generalize X1.alloc (.cells #[.slice none 0 0, .slice none 0 0, .slice none 0 0] 67) = X2 at *
        refine wpAnyK_one (j := 1) (by kernel_rfl) rfl (fun K hK => ?_)
        · (try simp only [List.getElem_toArray, List.getElem_cons_zero, List.getElem_cons_succ])
          go_simp
          refine (lists_ls a _ _ _ _ HG.out ((HA.out.below (HW.trans (FW.mono (by simp; omega)))).more (HW.trans (FW.mono (by simp; omega))).size)).mono ?_
          rintro e X3 ⟨hb, _, _, _, rfl, hL, ⟨VA, Vn, Vc, rfl⟩, ⟨VA', Vn', Vc', rfl⟩, ⟨VA2, Vn2, Vc2, rfl⟩⟩
          go_simp
          have F5 := F5.below hb
          have F6 := F6.below hb
          have FW := FW.trans (hb.mono FW.size)
          have FA := hL
          refine hK.out _ _ (.inr (HS _ FW)) ?_
          clear hK K hb hL
          (try simp only [List.getElem_toArray, List.getElem_cons_zero, List.getElem_cons_succ, Act.put, List.setIfInBounds_toArray, List.set_cons_zero, List.set_cons_succ])
          refine wpAnyK_one (j := 3) (by kernel_rfl) rfl (fun K hK => ?_)
          · (try simp only [List.getElem_toArray, List.getElem_cons_zero, List.getElem_cons_succ])
            go_simp
            refine (lists_ls b _ _ _ _ HG'.out ((HB.out.below (HW.trans (FW.mono (by simp; omega)))).more (HW.trans (FW.mono (by simp; omega))).size)).mono ?_
            rintro e X4 ⟨hb, _, _, _, rfl, hL, ⟨UA, Un, Uc, rfl⟩, ⟨UA', Un', Uc', rfl⟩, ⟨UA2, Un2, Uc2, rfl⟩⟩
            go_simp
            have F5 := F5.below hb
            have F6 := F6.below hb
            have FA := FA.below hb
            have FW := FW.trans (hb.mono FW.size)
            have FB := hL
            refine hK.out _ _ (.inr (HS _ FW)) ?_
            clear hK K hb hL
            (try simp only [List.getElem_toArray, List.getElem_cons_zero, List.getElem_cons_succ, Act.put, List.setIfInBounds_toArray, List.set_cons_zero, List.set_cons_succ])
            have hsz : (((w.alloc (.cells #[.string a.ms, .string a.lg, .slice AT a.tk.length cT, .slice AA a.an.length cA, .slice AD a.dm.length cD] 26)).alloc (.cells #[.string b.ms, .string b.lg, .slice BT b.tk.length dT, .slice BA b.an.length dA, .slice BD b.dm.length dD] 26))).heap.size = w.heap.size + 2 := by simp
            have k0 := cell_of_row _ _ 0 _ _ _ F5
            have k1 := cell_of_row _ _ 1 _ _ _ F5
            have k2 := cell_of_row _ _ 2 _ _ _ F5
            have f0 := frozen_of_row _ _ 0 _ _ F5
            have f1 := frozen_of_row _ _ 1 _ _ F5
            have f2 := frozen_of_row _ _ 2 _ _ F5
            (refine wpAnyK_one (j := 6) (by kernel_rfl) rfl (fun K hK => ?_); (try simp only [List.getElem_toArray, List.getElem_cons_zero, List.getElem_cons_succ]))
            go_simp
            clear k0 k1 k2 f0 f1 f2
            obtain ⟨FW1, R5, FO, FL⟩ := st3 (V0 := .slice VA Vn Vc) (V1 := .slice VA' Vn' Vc') (V2 := .slice VA2 Vn2 Vc2) FW G5 F5
            have F61 := FO b6 _ (by omega) F6
            have FA1 := FL _ _ _ _ FA
            have FB1 := FL _ _ _ _ FB
            clear FO FL F5 F6 FA FB FW
            generalize (((X4.setCell ⟨b5, 0, none⟩ (.slice VA Vn Vc)).setCell ⟨b5, 1, none⟩ (.slice VA' Vn' Vc')).setCell ⟨b5, 2, none⟩ (.slice VA2 Vn2 Vc2)) = Y1 at *
            refine hK.out _ _ (.inr (HS _ FW1)) ?_
            clear hK K
            (try simp only [List.getElem_toArray, List.getElem_cons_zero, List.getElem_cons_succ, Act.put, List.setIfInBounds_toArray, List.set_cons_zero, List.set_cons_succ])
            have k0 := cell_of_row _ _ 0 _ _ _ F61
            have k1 := cell_of_row _ _ 1 _ _ _ F61
            have k2 := cell_of_row _ _ 2 _ _ _ F61
            have f0 := frozen_of_row _ _ 0 _ _ F61
            have f1 := frozen_of_row _ _ 1 _ _ F61
            have f2 := frozen_of_row _ _ 2 _ _ F61
            (refine wpAnyK_one (j := 7) (by kernel_rfl) rfl (fun K hK => ?_); (try simp only [List.getElem_toArray, List.getElem_cons_zero, List.getElem_cons_succ]))
            go_simp
            clear k0 k1 k2 f0 f1 f2
            obtain ⟨FW2, R6, FO, FL⟩ := st3 (V0 := .slice UA Un Uc) (V1 := .slice UA' Un' Uc') (V2 := .slice UA2 Un2 Uc2) FW1 G6 F61
            have R52 := FO b5 _ (by omega) R5
            have FA2 := FL _ _ _ _ FA1
            have FB2 := FL _ _ _ _ FB1
            clear FO FL F61 FA1 FB1 FW1 R5
            generalize (((Y1.setCell ⟨b6, 0, none⟩ (.slice UA Un Uc)).setCell ⟨b6, 1, none⟩ (.slice UA' Un' Uc')).setCell ⟨b6, 2, none⟩ (.slice UA2 Un2 Uc2)) = Y2 at *
            refine hK.out _ _ (.inl rfl) ?_
            clear hK K
            refine wpAnyK_done (by kernel_rfl) ?_ _
            go_wp2_with fail
            go_meet
            exact ⟨b5, b6, _, _, _, _, _, _, rfl, rfl, ⟨_, _, _, rfl⟩, ⟨_, _, _, rfl⟩, ⟨_, _, _, rfl⟩, ⟨_, _, _, rfl⟩, ⟨_, _, _, rfl⟩, ⟨_, _, _, rfl⟩, ⟨(FW2.block w.heap.size (by omega)).trans ((Below.heap_alloc _ _ w.heap.size (by simp)).trans (World.alloc_heap_new w _)), (FW2.block (w.heap.size + 1) (by omega)).trans (news_at (w.alloc (.cells #[.string a.ms, .string a.lg, .slice AT a.tk.length cT, .slice AA a.an.length cA, .slice AD a.dm.length cD] 26)) (w.heap.size + 1) (by simp) _), R52, R6, FA2, FB2, HW.trans (FW2.mono (by omega))⟩⟩
    · (try simp only [List.getElem_toArray, List.getElem_cons_zero, List.getElem_cons_succ])
      go_simp
      have G6 : ((w.alloc (.cells #[.string a.ms, .string a.lg, .slice AT a.tk.length cT, .slice AA a.an.length cA, .slice AD a.dm.length cD] 26)).alloc (.cells #[.string b.ms, .string b.lg, .slice BT b.tk.length dT, .slice BA b.an.length dA, .slice BD b.dm.length dD] 26)).heap.size ≤ X0.heap.size := FW.size
      have FW := FW.alloc FW.size (.cells #[.slice none 0 0, .slice none 0 0, .slice none 0 0] 67)
      have F6 : Zr (X0.alloc (.cells #[.slice none 0 0, .slice none 0 0, .slice none 0 0] 67)) X0.heap.size := World.alloc_heap_new _ _
      refine hK.out _ _ (.inr (HS _ FW)) ?_
      clear hK K
      (try simp only [List.getElem_toArray, List.getElem_cons_zero, List.getElem_cons_succ, Act.put, List.setIfInBounds_toArray, List.set_cons_zero, List.set_cons_succ])
      generalize hb : X0.heap.size = b6 at *
      generalize X0.alloc (.cells #[.slice none 0 0, .slice none 0 0, .slice none 0 0] 67) = X1 at *
      refine wpAnyK_two (i := 1) (j := 4) (by kernel_rfl) rfl rfl (fun K hK => ?_) (fun K hK => ?_)
      · (try simp only [List.getElem_toArray, List.getElem_cons_zero, List.getElem_cons_succ])
        go_simp
        refine (lists_ls a _ _ _ _ HG.out ((HA.out.below (HW.trans (FW.mono (by simp; omega)))).more (HW.trans (FW.mono (by simp; omega))).size)).mono ?_
        rintro e X2 ⟨hb, _, _, _, rfl, hL, ⟨VA, Vn, Vc, rfl⟩, ⟨VA', Vn', Vc', rfl⟩, ⟨VA2, Vn2, Vc2, rfl⟩⟩
        go_simp
        have F6 := F6.below hb
        have FW := FW.trans (hb.mono FW.size)
        have FA := hL
        refine hK.out _ _ (.inr (HS _ FW)) ?_
        clear hK K hb hL
        (try simp only [List.getElem_toArray, List.getElem_cons_zero, List.getElem_cons_succ, Act.put, List.setIfInBounds_toArray, List.set_cons_zero, List.set_cons_succ])
        refine wpAnyK_two (i := 3) (j := 4) (by kernel_rfl) rfl rfl (fun K hK => ?_) (fun K hK => ?_)
        · (try simp only [List.getElem_toArray, List.getElem_cons_zero, List.getElem_cons_succ])
          go_simp
          refine (lists_ls b _ _ _ _ HG'.out ((HB.out.below (HW.trans (FW.mono (by simp; omega)))).more (HW.trans (FW.mono (by simp; omega))).size)).mono ?_
          rintro e X3 ⟨hb, _, _, _, rfl, hL, ⟨UA, Un, Uc, rfl⟩, ⟨UA', Un', Uc', rfl⟩, ⟨UA2, Un2, Uc2, rfl⟩⟩
          go_simp
          have F6 := F6.below hb
          have FA := FA.below hb
          have FW := FW.trans (hb.mono FW.size)
          have FB := hL
          refine hK.out _ _ (.inr (HS _ FW)) ?_
          clear hK K hb hL
          (try simp only [List.getElem_toArray, List.getElem_cons_zero, List.getElem_cons_succ, Act.put, List.setIfInBounds_toArray, List.set_cons_zero, List.set_cons_succ])
          refine wpAnyK_one (j := 4) (by kernel_rfl) rfl (fun K hK => ?_)
          · (try simp only [List.getElem_toArray, List.getElem_cons_zero, List.getElem_cons_succ])
            go_simp
            have NE : b6 ≠ X3.heap.size := by have := (Array.getElem?_eq_some_iff.1 F6).1; omega
            have G5 : ((w.alloc (.cells #[.string a.ms, .string a.lg, .slice AT a.tk.length cT, .slice AA a.an.length cA, .slice AD a.dm.length cD] 26)).alloc (.cells #[.string b.ms, .string b.lg, .slice BT b.tk.length dT, .slice BA b.an.length dA, .slice BD b.dm.length dD] 26)).heap.size ≤ X3.heap.size := FW.size
            have F6 := F6.alloc (.cells #[.slice none 0 0, .slice none 0 0, .slice none 0 0] 67)
            have FA := FA.alloc (.cells #[.slice none 0 0, .slice none 0 0, .slice none 0 0] 67)
            have FB := FB.alloc (.cells #[.slice none 0 0, .slice none 0 0, .slice none 0 0] 67)
            have FW := FW.alloc FW.size (.cells #[.slice none 0 0, .slice none 0 0, .slice none 0 0] 67)
            have F5 : Zr (X3.alloc (.cells #[.slice none 0 0, .slice none 0 0, .slice none 0 0] 67)) X3.heap.size := World.alloc_heap_new _ _
            refine hK.out _ _ (.inr (HS _ FW)) ?_
            clear hK K
            (try simp only [List.getElem_toArray, List.getElem_cons_zero, List.getElem_cons_succ, Act.put, List.setIfInBounds_toArray, List.set_cons_zero, List.set_cons_succ])
            generalize hb : X3.heap.size = b5 at *
            generalize X3.alloc (.cells #[.slice none 0 0, .slice none 0 0, .slice none 0 0] 67) = X4 at *
            have hsz : (((w.alloc (.cells #[.string a.ms, .string a.lg, .slice AT a.tk.length cT, .slice AA a.an.length cA, .slice AD a.dm.length cD] 26)).alloc (.cells #[.string b.ms, .string b.lg, .slice BT b.tk.length dT, .slice BA b.an.length dA, .slice BD b.dm.length dD] 26))).heap.size = w.heap.size + 2 := by simp
            have k0 := cell_of_row _ _ 0 _ _ _ F5
            have k1 := cell_of_row _ _ 1 _ _ _ F5
            have k2 := cell_of_row _ _ 2 _ _ _ F5
            have f0 := frozen_of_row _ _ 0 _ _ F5
            have f1 := frozen_of_row _ _ 1 _ _ F5
            have f2 := frozen_of_row _ _ 2 _ _ F5
            (refine wpAnyK_one (j := 6) (by kernel_rfl) rfl (fun K hK => ?_); (try simp only [List.getElem_toArray, List.getElem_cons_zero, List.getElem_cons_succ]))
            go_simp
            clear k0 k1 k2 f0 f1 f2
            obtain ⟨FW1, R5, FO, FL⟩ := st3 (V0 := .slice VA Vn Vc) (V1 := .slice VA' Vn' Vc') (V2 := .slice VA2 Vn2 Vc2) FW G5 F5
            have F61 := FO b6 _ (by omega) F6
            have FA1 := FL _ _ _ _ FA
            have FB1 := FL _ _ _ _ FB
            clear FO FL F5 F6 FA FB FW
            generalize (((X4.setCell ⟨b5, 0, none⟩ (.slice VA Vn Vc)).setCell ⟨b5, 1, none⟩ (.slice VA' Vn' Vc')).setCell ⟨b5, 2, none⟩ (.slice VA2 Vn2 Vc2)) = Y1 at *
            refine hK.out _ _ (.inr (HS _ FW1)) ?_
            clear hK K
            (try simp only [List.getElem_toArray, List.getElem_cons_zero, List.getElem_cons_succ, Act.put, List.setIfInBounds_toArray, List.set_cons_zero, List.set_cons_succ])
            have k0 := cell_of_row _ _ 0 _ _ _ F61
            have k1 := cell_of_row _ _ 1 _ _ _ F61
            have k2 := cell_of_row _ _ 2 _ _ _ F61
            have f0 := frozen_of_row _ _ 0 _ _ F61
            have f1 := frozen_of_row _ _ 1 _ _ F61
            have f2 := frozen_of_row _ _ 2 _ _ F61
            (refine wpAnyK_one (j := 7) (by kernel_rfl) rfl (fun K hK => ?_); (try simp only [List.getElem_toArray, List.getElem_cons_zero, List.getElem_cons_succ]))
            go_simp
            clear k0 k1 k2 f0 f1 f2
            obtain ⟨FW2, R6, FO, FL⟩ := st3 (V0 := .slice UA Un Uc) (V1 := .slice UA' Un' Uc') (V2 := .slice UA2 Un2 Uc2) FW1 G6 F61
            have R52 := FO b5 _ (by omega) R5
            have FA2 := FL _ _ _ _ FA1
            have FB2 := FL _ _ _ _ FB1
            clear FO FL F61 FA1 FB1 FW1 R5
            generalize (((Y1.setCell ⟨b6, 0, none⟩ (.slice UA Un Uc)).setCell ⟨b6, 1, none⟩ (.slice UA' Un' Uc')).setCell ⟨b6, 2, none⟩ (.slice UA2 Un2 Uc2)) = Y2 at *
            refine hK.out _ _ (.inl rfl) ?_
            clear hK K
            refine wpAnyK_done (by kernel_rfl) ?_ _
            go_wp2_with fail
            go_meet
            exact ⟨b5, b6, _, _, _, _, _, _, rfl, rfl, ⟨_, _, _, rfl⟩, ⟨_, _, _, rfl⟩, ⟨_, _, _, rfl⟩, ⟨_, _, _, rfl⟩, ⟨_, _, _, rfl⟩, ⟨_, _, _, rfl⟩, ⟨(FW2.block w.heap.size (by omega)).trans ((Below.heap_alloc _ _ w.heap.size (by simp)).trans (World.alloc_heap_new w _)), (FW2.block (w.heap.size + 1) (by omega)).trans (news_at (w.alloc (.cells #[.string a.ms, .string a.lg, .slice AT a.tk.length cT, .slice AA a.an.length cA, .slice AD a.dm.length cD] 26)) (w.heap.size + 1) (by simp) _), R52, R6, FA2, FB2, HW.trans (FW2.mono (by omega))⟩⟩
        · (try simp only [List.getElem_toArray, List.getElem_cons_zero, List.getElem_cons_succ])
          go_simp
          have NE : b6 ≠ X2.heap.size := by have := (Array.getElem?_eq_some_iff.1 F6).1; omega
          have G5 : ((w.alloc (.cells #[.string a.ms, .string a.lg, .slice AT a.tk.length cT, .slice AA a.an.length cA, .slice AD a.dm.length cD] 26)).alloc (.cells #[.string b.ms, .string b.lg, .slice BT b.tk.length dT, .slice BA b.an.length dA, .slice BD b.dm.length dD] 26)).heap.size ≤ X2.heap.size := FW.size
          have F6 := F6.alloc (.cells #[.slice none 0 0, .slice none 0 0, .slice none 0 0] 67)
          have FA := FA.alloc (.cells #[.slice none 0 0, .slice none 0 0, .slice none 0 0] 67)
          have FW := FW.alloc FW.size (.cells #[.slice none 0 0, .slice none 0 0, .slice none 0 0] 67)
          have F5 : Zr (X2.alloc (.cells #[.slice none 0 0, .slice none 0 0, .slice none 0 0] 67)) X2.heap.size := World.alloc_heap_new _ _
          refine hK.out _ _ (.inr (HS _ FW)) ?_
          clear hK K
          (try simp only [List.getElem_toArray, List.getElem_cons_zero, List.getElem_cons_succ, Act.put, List.setIfInBounds_toArray, List.set_cons_zero, List.set_cons_succ])
          generalize hb : X2.heap.size = b5 at *
          generalize X2.alloc (.cells #[.slice none 0 0, .slice none 0 0, .slice none 0 0] 67) = X3 at *
          refine wpAnyK_one (j := 3) (by kernel_rfl) rfl (fun K hK => ?_)
          · (try simp only [List.getElem_toArray, List.getElem_cons_zero, List.getElem_cons_succ])
            go_simp
            refine (lists_ls b _ _ _ _ HG'.out ((HB.out.below (HW.trans (FW.mono (by simp; omega)))).more (HW.trans (FW.mono (by simp; omega))).size)).mono ?_
            rintro e X4 ⟨hb, _, _, _, rfl, hL, ⟨UA, Un, Uc, rfl⟩, ⟨UA', Un', Uc', rfl⟩, ⟨UA2, Un2, Uc2, rfl⟩⟩
            go_simp
            have F5 := F5.below hb
            have F6 := F6.below hb
            have FA := FA.below hb
            have FW := FW.trans (hb.mono FW.size)
            have FB := hL
            refine hK.out _ _ (.inr (HS _ FW)) ?_
            clear hK K hb hL
            (try simp only [List.getElem_toArray, List.getElem_cons_zero, List.getElem_cons_succ, Act.put, List.setIfInBounds_toArray, List.set_cons_zero, List.set_cons_succ])
            have hsz : (((w.alloc (.cells #[.string a.ms, .string a.lg, .slice AT a.tk.length cT, .slice AA a.an.length cA, .slice AD a.dm.length cD] 26)).alloc (.cells #[.string b.ms, .string b.lg, .slice BT b.tk.length dT, .slice BA b.an.length dA, .slice BD b.dm.length dD] 26))).heap.size = w.heap.size + 2 := by simp
            have k0 := cell_of_row _ _ 0 _ _ _ F5
            have k1 := cell_of_row _ _ 1 _ _ _ F5
            have k2 := cell_of_row _ _ 2 _ _ _ F5
            have f0 := frozen_of_row _ _ 0 _ _ F5
            have f1 := frozen_of_row _ _ 1 _ _ F5
            have f2 := frozen_of_row _ _ 2 _ _ F5
            (refine wpAnyK_one (j := 6) (by kernel_rfl) rfl (fun K hK => ?_); (try simp only [List.getElem_toArray, List.getElem_cons_zero, List.getElem_cons_succ]))
            go_simp
            clear k0 k1 k2 f0 f1 f2
            obtain ⟨FW1, R5, FO, FL⟩ := st3 (V0 := .slice VA Vn Vc) (V1 := .slice VA' Vn' Vc') (V2 := .slice VA2 Vn2 Vc2) FW G5 F5
            have F61 := FO b6 _ (by omega) F6
            have FA1 := FL _ _ _ _ FA
            have FB1 := FL _ _ _ _ FB
            clear FO FL F5 F6 FA FB FW
            generalize (((X4.setCell ⟨b5, 0, none⟩ (.slice VA Vn Vc)).setCell ⟨b5, 1, none⟩ (.slice VA' Vn' Vc')).setCell ⟨b5, 2, none⟩ (.slice VA2 Vn2 Vc2)) = Y1 at *
            refine hK.out _ _ (.inr (HS _ FW1)) ?_
            clear hK K
            (try simp only [List.getElem_toArray, List.getElem_cons_zero, List.getElem_cons_succ, Act.put, List.setIfInBounds_toArray, List.set_cons_zero, List.set_cons_succ])
            have k0 := cell_of_row _ _ 0 _ _ _ F61
            have k1 := cell_of_row _ _ 1 _ _ _ F61
            have k2 := cell_of_row _ _ 2 _ _ _ F61
            have f0 := frozen_of_row _ _ 0 _ _ F61
            have f1 := frozen_of_row _ _ 1 _ _ F61
            have f2 := frozen_of_row _ _ 2 _ _ F61
            (refine wpAnyK_one (j := 7) (by kernel_rfl) rfl (fun K hK => ?_); (try simp only [List.getElem_toArray, List.getElem_cons_zero, List.getElem_cons_succ]))
            go_simp
            clear k0 k1 k2 f0 f1 f2
            obtain ⟨FW2, R6, FO, FL⟩ := st3 (V0 := .slice UA Un Uc) (V1 := .slice UA' Un' Uc') (V2 := .slice UA2 Un2 Uc2) FW1 G6 F61
            have R52 := FO b5 _ (by omega) R5
            have FA2 := FL _ _ _ _ FA1
            have FB2 := FL _ _ _ _ FB1
            clear FO FL F61 FA1 FB1 FW1 R5
            generalize (((Y1.setCell ⟨b6, 0, none⟩ (.slice UA Un Uc)).setCell ⟨b6, 1, none⟩ (.slice UA' Un' Uc')).setCell ⟨b6, 2, none⟩ (.slice UA2 Un2 Uc2)) = Y2 at *
            refine hK.out _ _ (.inl rfl) ?_
            clear hK K
            refine wpAnyK_done (by kernel_rfl) ?_ _
            go_wp2_with fail
            go_meet
            exact ⟨b5, b6, _, _, _, _, _, _, rfl, rfl, ⟨_, _, _, rfl⟩, ⟨_, _, _, rfl⟩, ⟨_, _, _, rfl⟩, ⟨_, _, _, rfl⟩, ⟨_, _, _, rfl⟩, ⟨_, _, _, rfl⟩, ⟨(FW2.block w.heap.size (by omega)).trans ((Below.heap_alloc _ _ w.heap.size (by simp)).trans (World.alloc_heap_new w _)), (FW2.block (w.heap.size + 1) (by omega)).trans (news_at (w.alloc (.cells #[.string a.ms, .string a.lg, .slice AT a.tk.length cT, .slice AA a.an.length cA, .slice AD a.dm.length cD] 26)) (w.heap.size + 1) (by simp) _), R52, R6, FA2, FB2, HW.trans (FW2.mono (by omega))⟩⟩
      · (try simp only [List.getElem_toArray, List.getElem_cons_zero, List.getElem_cons_succ])
        go_simp
        have NE : b6 ≠ X1.heap.size := by have := (Array.getElem?_eq_some_iff.1 F6).1; omega
        have G5 : ((w.alloc (.cells #[.string a.ms, .string a.lg, .slice AT a.tk.length cT, .slice AA a.an.length cA, .slice AD a.dm.length cD] 26)).alloc (.cells #[.string b.ms, .string b.lg, .slice BT b.tk.length dT, .slice BA b.an.length dA, .slice BD b.dm.length dD] 26)).heap.size ≤ X1.heap.size := FW.size
        have F6 := F6.alloc (.cells #[.slice none 0 0, .slice none 0 0, .slice none 0 0] 67)
        have FW := FW.alloc FW.size (.cells #[.slice none 0 0, .slice none 0 0, .slice none 0 0] 67)
        have F5 : Zr (X1.alloc (.cells #[.slice none 0 0, .slice none 0 0, .slice none 0 0] 67)) X1.heap.size := World.alloc_heap_new _ _
        refine hK.out _ _ (.inr (HS _ FW)) ?_
        clear hK K
        (try simp only [List.getElem_toArray, List.getElem_cons_zero, List.getElem_cons_succ, Act.put, List.setIfInBounds_toArray, List.set_cons_zero, List.set_cons_succ])
        generalize hb : X1.heap.size = b5 at *
        generalize X1.alloc (.cells #[.slice none 0 0, .slice none 0 0, .slice none 0 0] 67) = X2 at *
        refine wpAnyK_one (j := 1) (by kernel_rfl) rfl (fun K hK => ?_)
        · (try simp only [List.getElem_toArray, List.getElem_cons_zero, List.getElem_cons_succ])
          go_simp
          refine (lists_ls a _ _ _ _ HG.out ((HA.out.below (HW.trans (FW.mono (by simp; omega)))).more (HW.trans (FW.mono (by simp; omega))).size)).mono ?_
          rintro e X3 ⟨hb, _, _, _, rfl, hL, ⟨VA, Vn, Vc, rfl⟩, ⟨VA', Vn', Vc', rfl⟩, ⟨VA2, Vn2, Vc2, rfl⟩⟩
          go_simp
          have F5 := F5.below hb
          have F6 := F6.below hb
          have FW := FW.trans (hb.mono FW.size)
          have FA := hL
          refine hK.out _ _ (.inr (HS _ FW)) ?_
          clear hK K hb hL
          (try simp only [List.getElem_toArray, List.getElem_cons_zero, List.getElem_cons_succ, Act.put, List.setIfInBounds_toArray, List.set_cons_zero, List.set_cons_succ])
          refine wpAnyK_one (j := 3) (by kernel_rfl) rfl (fun K hK => ?_)
          · (try simp only [List.getElem_toArray, List.getElem_cons_zero, List.getElem_cons_succ])
            go_simp
            refine (lists_ls b _ _ _ _ HG'.out ((HB.out.below (HW.trans (FW.mono (by simp; omega)))).more (HW.trans (FW.mono (by simp; omega))).size)).mono ?_
            rintro e X4 ⟨hb, _, _, _, rfl, hL, ⟨UA, Un, Uc, rfl⟩, ⟨UA', Un', Uc', rfl⟩, ⟨UA2, Un2, Uc2, rfl⟩⟩
            go_simp
            have F5 := F5.below hb
            have F6 := F6.below hb
            have FA := FA.below hb
            have FW := FW.trans (hb.mono FW.size)
            have FB := hL
            refine hK.out _ _ (.inr (HS _ FW)) ?_
            clear hK K hb hL
            (try simp only [List.getElem_toArray, List.getElem_cons_zero, List.getElem_cons_succ, Act.put, List.setIfInBounds_toArray, List.set_cons_zero, List.set_cons_succ])
            have hsz : (((w.alloc (.cells #[.string a.ms, .string a.lg, .slice AT a.tk.length cT, .slice AA a.an.length cA, .slice AD a.dm.length cD] 26)).alloc (.cells #[.string b.ms, .string b.lg, .slice BT b.tk.length dT, .slice BA b.an.length dA, .slice BD b.dm.length dD] 26))).heap.size = w.heap.size + 2 := by simp
            have k0 := cell_of_row _ _ 0 _ _ _ F5
            have k1 := cell_of_row _ _ 1 _ _ _ F5
            have k2 := cell_of_row _ _ 2 _ _ _ F5
            have f0 := frozen_of_row _ _ 0 _ _ F5
            have f1 := frozen_of_row _ _ 1 _ _ F5
            have f2 := frozen_of_row _ _ 2 _ _ F5
            (refine wpAnyK_one (j := 6) (by kernel_rfl) rfl (fun K hK => ?_); (try simp only [List.getElem_toArray, List.getElem_cons_zero, List.getElem_cons_succ]))
            go_simp
            clear k0 k1 k2 f0 f1 f2
            obtain ⟨FW1, R5, FO, FL⟩ := st3 (V0 := .slice VA Vn Vc) (V1 := .slice VA' Vn' Vc') (V2 := .slice VA2 Vn2 Vc2) FW G5 F5
            have F61 := FO b6 _ (by omega) F6
            have FA1 := FL _ _ _ _ FA
            have FB1 := FL _ _ _ _ FB
            clear FO FL F5 F6 FA FB FW
            generalize (((X4.setCell ⟨b5, 0, none⟩ (.slice VA Vn Vc)).setCell ⟨b5, 1, none⟩ (.slice VA' Vn' Vc')).setCell ⟨b5, 2, none⟩ (.slice VA2 Vn2 Vc2)) = Y1 at *
            refine hK.out _ _ (.inr (HS _ FW1)) ?_
            clear hK K
            (try simp only [List.getElem_toArray, List.getElem_cons_zero, List.getElem_cons_succ, Act.put, List.setIfInBounds_toArray, List.set_cons_zero, List.set_cons_succ])
            have k0 := cell_of_row _ _ 0 _ _ _ F61
            have k1 := cell_of_row _ _ 1 _ _ _ F61
            have k2 := cell_of_row _ _ 2 _ _ _ F61
            have f0 := frozen_of_row _ _ 0 _ _ F61
            have f1 := frozen_of_row _ _ 1 _ _ F61
            have f2 := frozen_of_row _ _ 2 _ _ F61
            (refine wpAnyK_one (j := 7) (by kernel_rfl) rfl (fun K hK => ?_); (try simp only [List.getElem_toArray, List.getElem_cons_zero, List.getElem_cons_succ]))
            go_simp
            clear k0 k1 k2 f0 f1 f2
            obtain ⟨FW2, R6, FO, FL⟩ := st3 (V0 := .slice UA Un Uc) (V1 := .slice UA' Un' Uc') (V2 := .slice UA2 Un2 Uc2) FW1 G6 F61
            have R52 := FO b5 _ (by omega) R5
            have FA2 := FL _ _ _ _ FA1
            have FB2 := FL _ _ _ _ FB1
            clear FO FL F61 FA1 FB1 FW1 R5
            generalize (((Y1.setCell ⟨b6, 0, none⟩ (.slice UA Un Uc)).setCell ⟨b6, 1, none⟩ (.slice UA' Un' Uc')).setCell ⟨b6, 2, none⟩ (.slice UA2 Un2 Uc2)) = Y2 at *
            refine hK.out _ _ (.inl rfl) ?_
            clear hK K
            refine wpAnyK_done (by kernel_rfl) ?_ _
            go_wp2_with fail
            go_meet
            exact ⟨b5, b6, _, _, _, _, _, _, rfl, rfl, ⟨_, _, _, rfl⟩, ⟨_, _, _, rfl⟩, ⟨_, _, _, rfl⟩, ⟨_, _, _, rfl⟩, ⟨_, _, _, rfl⟩, ⟨_, _, _, rfl⟩, ⟨(FW2.block w.heap.size (by omega)).trans ((Below.heap_alloc _ _ w.heap.size (by simp)).trans (World.alloc_heap_new w _)), (FW2.block (w.heap.size + 1) (by omega)).trans (news_at (w.alloc (.cells #[.string a.ms, .string a.lg, .slice AT a.tk.length cT, .slice AA a.an.length cA, .slice AD a.dm.length cD] 26)) (w.heap.size + 1) (by simp) _), R52, R6, FA2, FB2, HW.trans (FW2.mono (by omega))⟩⟩
  case rest =>
    clear HA HB HG HG'
    obtain ⟨b5, b6, V0, V1, V2, U0, U1, U2, rfl, rfl, ⟨A0, n0, c0, rfl⟩, ⟨A1, n1, c1, rfl⟩, ⟨A2, n2, c2, rfl⟩, ⟨B0, m0, d0, rfl⟩, ⟨B1, m1, d1, rfl⟩, ⟨B2, m2, d2, rfl⟩, hX⟩ := hcut
    have HX := Lib.hid hX
    clear hX
    obtain ⟨kHX0, kHX1, kHX2, iHX0, iHX1, iHX2⟩ := HX.out.la
    obtain ⟨lHX0, lHX1, lHX2, jHX0, jHX1, jHX2⟩ := HX.out.lb
    have p0HX := cell_of_row _ _ 0 _ _ _ HX.out.ra; have p1HX := cell_of_row _ _ 1 _ _ _ HX.out.ra; have q0HX := cell_of_row _ _ 0 _ _ _ HX.out.rb; have q1HX := cell_of_row _ _ 1 _ _ _ HX.out.rb; have r0HX := cell_of_row _ _ 0 _ _ _ HX.out.r5; have r1HX := cell_of_row _ _ 1 _ _ _ HX.out.r5; have r2HX := cell_of_row _ _ 2 _ _ _ HX.out.r5; have s0HX := cell_of_row _ _ 0 _ _ _ HX.out.r6; have s1HX := cell_of_row _ _ 1 _ _ _ HX.out.r6; have s2HX := cell_of_row _ _ 2 _ _ _ HX.out.r6
    by_cases e0 : a.ms.toList = b.ms.toList
    · by_cases e1 : a.lg.toList = b.lg.toList
      · by_cases e2 : tksL a.tk = tksL b.tk
        · by_cases e3 : ansL a.an = ansL b.an
          · by_cases e4 : demsL a.dm = demsL b.dm
            · go_wp2_with (first
                | (go_at_call 17; refine (equal_any (demsL a.dm) (demsL b.dm) iHX22 jHX22 (.slice A2 n2 c2) (.slice B2 m2 d2) _ kHX22 lHX22).mono ?_; rintro e w3 ⟨rfl, hb⟩; rw [decide_eq_true e4]; have HX3 := Lib.hid (HX2.out.below hb); clear hb; obtain ⟨kHX30, kHX31, kHX32, iHX30, iHX31, iHX32⟩ := HX3.out.la; obtain ⟨lHX30, lHX31, lHX32, jHX30, jHX31, jHX32⟩ := HX3.out.lb; have p0HX3 := cell_of_row _ _ 0 _ _ _ HX3.out.ra; have p1HX3 := cell_of_row _ _ 1 _ _ _ HX3.out.ra; have q0HX3 := cell_of_row _ _ 0 _ _ _ HX3.out.rb; have q1HX3 := cell_of_row _ _ 1 _ _ _ HX3.out.rb; have r0HX3 := cell_of_row _ _ 0 _ _ _ HX3.out.r5; have r1HX3 := cell_of_row _ _ 1 _ _ _ HX3.out.r5; have r2HX3 := cell_of_row _ _ 2 _ _ _ HX3.out.r5; have s0HX3 := cell_of_row _ _ 0 _ _ _ HX3.out.r6; have s1HX3 := cell_of_row _ _ 1 _ _ _ HX3.out.r6; have s2HX3 := cell_of_row _ _ 2 _ _ _ HX3.out.r6)
                | (go_at_call 17; refine (equal_any (ansL a.an) (ansL b.an) iHX11 jHX11 (.slice A1 n1 c1) (.slice B1 m1 d1) _ kHX11 lHX11).mono ?_; rintro e w2 ⟨rfl, hb⟩; rw [decide_eq_true e3]; have HX2 := Lib.hid (HX1.out.below hb); clear hb; obtain ⟨kHX20, kHX21, kHX22, iHX20, iHX21, iHX22⟩ := HX2.out.la; obtain ⟨lHX20, lHX21, lHX22, jHX20, jHX21, jHX22⟩ := HX2.out.lb; have p0HX2 := cell_of_row _ _ 0 _ _ _ HX2.out.ra; have p1HX2 := cell_of_row _ _ 1 _ _ _ HX2.out.ra; have q0HX2 := cell_of_row _ _ 0 _ _ _ HX2.out.rb; have q1HX2 := cell_of_row _ _ 1 _ _ _ HX2.out.rb; have r0HX2 := cell_of_row _ _ 0 _ _ _ HX2.out.r5; have r1HX2 := cell_of_row _ _ 1 _ _ _ HX2.out.r5; have r2HX2 := cell_of_row _ _ 2 _ _ _ HX2.out.r5; have s0HX2 := cell_of_row _ _ 0 _ _ _ HX2.out.r6; have s1HX2 := cell_of_row _ _ 1 _ _ _ HX2.out.r6; have s2HX2 := cell_of_row _ _ 2 _ _ _ HX2.out.r6)
                | (go_at_call 17; refine (equal_any (tksL a.tk) (tksL b.tk) iHX0 jHX0 (.slice A0 n0 c0) (.slice B0 m0 d0) _ kHX0 lHX0).mono ?_; rintro e w1 ⟨rfl, hb⟩; rw [decide_eq_true e2]; have HX1 := Lib.hid (HX.out.below hb); clear hb; obtain ⟨kHX10, kHX11, kHX12, iHX10, iHX11, iHX12⟩ := HX1.out.la; obtain ⟨lHX10, lHX11, lHX12, jHX10, jHX11, jHX12⟩ := HX1.out.lb; have p0HX1 := cell_of_row _ _ 0 _ _ _ HX1.out.ra; have p1HX1 := cell_of_row _ _ 1 _ _ _ HX1.out.ra; have q0HX1 := cell_of_row _ _ 0 _ _ _ HX1.out.rb; have q1HX1 := cell_of_row _ _ 1 _ _ _ HX1.out.rb; have r0HX1 := cell_of_row _ _ 0 _ _ _ HX1.out.r5; have r1HX1 := cell_of_row _ _ 1 _ _ _ HX1.out.r5; have r2HX1 := cell_of_row _ _ 2 _ _ _ HX1.out.r5; have s0HX1 := cell_of_row _ _ 0 _ _ _ HX1.out.r6; have s1HX1 := cell_of_row _ _ 1 _ _ _ HX1.out.r6; have s2HX1 := cell_of_row _ _ 2 _ _ _ HX1.out.r6))
              refine bodyPost_ret (by (simp [results, Tryz.results7, go_sem, *]; try rfl)) rfl ?_; exact ⟨⟨true, rfl, ⟨fun _ => ⟨(bl_iff _ _).1 e0, (bl_iff _ _).1 e1, e2, e3, e4⟩, fun _ => rfl⟩⟩, HX3.out.bl⟩
            · go_wp2_with (first
                | (go_at_call 17; refine (equal_any (demsL a.dm) (demsL b.dm) iHX22 jHX22 (.slice A2 n2 c2) (.slice B2 m2 d2) _ kHX22 lHX22).mono ?_; rintro e w3 ⟨rfl, hb⟩; rw [decide_eq_false e4]; have HX3 := Lib.hid (HX2.out.below hb); clear hb; obtain ⟨kHX30, kHX31, kHX32, iHX30, iHX31, iHX32⟩ := HX3.out.la; obtain ⟨lHX30, lHX31, lHX32, jHX30, jHX31, jHX32⟩ := HX3.out.lb; have p0HX3 := cell_of_row _ _ 0 _ _ _ HX3.out.ra; have p1HX3 := cell_of_row _ _ 1 _ _ _ HX3.out.ra; have q0HX3 := cell_of_row _ _ 0 _ _ _ HX3.out.rb; have q1HX3 := cell_of_row _ _ 1 _ _ _ HX3.out.rb; have r0HX3 := cell_of_row _ _ 0 _ _ _ HX3.out.r5; have r1HX3 := cell_of_row _ _ 1 _ _ _ HX3.out.r5; have r2HX3 := cell_of_row _ _ 2 _ _ _ HX3.out.r5; have s0HX3 := cell_of_row _ _ 0 _ _ _ HX3.out.r6; have s1HX3 := cell_of_row _ _ 1 _ _ _ HX3.out.r6; have s2HX3 := cell_of_row _ _ 2 _ _ _ HX3.out.r6)
                | (go_at_call 17; refine (equal_any (ansL a.an) (ansL b.an) iHX11 jHX11 (.slice A1 n1 c1) (.slice B1 m1 d1) _ kHX11 lHX11).mono ?_; rintro e w2 ⟨rfl, hb⟩; rw [decide_eq_true e3]; have HX2 := Lib.hid (HX1.out.below hb); clear hb; obtain ⟨kHX20, kHX21, kHX22, iHX20, iHX21, iHX22⟩ := HX2.out.la; obtain ⟨lHX20, lHX21, lHX22, jHX20, jHX21, jHX22⟩ := HX2.out.lb; have p0HX2 := cell_of_row _ _ 0 _ _ _ HX2.out.ra; have p1HX2 := cell_of_row _ _ 1 _ _ _ HX2.out.ra; have q0HX2 := cell_of_row _ _ 0 _ _ _ HX2.out.rb; have q1HX2 := cell_of_row _ _ 1 _ _ _ HX2.out.rb; have r0HX2 := cell_of_row _ _ 0 _ _ _ HX2.out.r5; have r1HX2 := cell_of_row _ _ 1 _ _ _ HX2.out.r5; have r2HX2 := cell_of_row _ _ 2 _ _ _ HX2.out.r5; have s0HX2 := cell_of_row _ _ 0 _ _ _ HX2.out.r6; have s1HX2 := cell_of_row _ _ 1 _ _ _ HX2.out.r6; have s2HX2 := cell_of_row _ _ 2 _ _ _ HX2.out.r6)
                | (go_at_call 17; refine (equal_any (tksL a.tk) (tksL b.tk) iHX0 jHX0 (.slice A0 n0 c0) (.slice B0 m0 d0) _ kHX0 lHX0).mono ?_; rintro e w1 ⟨rfl, hb⟩; rw [decide_eq_true e2]; have HX1 := Lib.hid (HX.out.below hb); clear hb; obtain ⟨kHX10, kHX11, kHX12, iHX10, iHX11, iHX12⟩ := HX1.out.la; obtain ⟨lHX10, lHX11, lHX12, jHX10, jHX11, jHX12⟩ := HX1.out.lb; have p0HX1 := cell_of_row _ _ 0 _ _ _ HX1.out.ra; have p1HX1 := cell_of_row _ _ 1 _ _ _ HX1.out.ra; have q0HX1 := cell_of_row _ _ 0 _ _ _ HX1.out.rb; have q1HX1 := cell_of_row _ _ 1 _ _ _ HX1.out.rb; have r0HX1 := cell_of_row _ _ 0 _ _ _ HX1.out.r5; have r1HX1 := cell_of_row _ _ 1 _ _ _ HX1.out.r5; have r2HX1 := cell_of_row _ _ 2 _ _ _ HX1.out.r5; have s0HX1 := cell_of_row _ _ 0 _ _ _ HX1.out.r6; have s1HX1 := cell_of_row _ _ 1 _ _ _ HX1.out.r6; have s2HX1 := cell_of_row _ _ 2 _ _ _ HX1.out.r6))
              refine bodyPost_ret (by (simp [results, Tryz.results7, go_sem, *]; try rfl)) rfl ?_; exact ⟨⟨false, rfl, ⟨fun h => absurd h (by decide), fun h => absurd (h.2.2.2.2) e4⟩⟩, HX3.out.bl⟩
          · go_wp2_with (first
              | (go_at_call 17; refine (equal_any (ansL a.an) (ansL b.an) iHX11 jHX11 (.slice A1 n1 c1) (.slice B1 m1 d1) _ kHX11 lHX11).mono ?_; rintro e w2 ⟨rfl, hb⟩; rw [decide_eq_false e3]; have HX2 := Lib.hid (HX1.out.below hb); clear hb; obtain ⟨kHX20, kHX21, kHX22, iHX20, iHX21, iHX22⟩ := HX2.out.la; obtain ⟨lHX20, lHX21, lHX22, jHX20, jHX21, jHX22⟩ := HX2.out.lb; have p0HX2 := cell_of_row _ _ 0 _ _ _ HX2.out.ra; have p1HX2 := cell_of_row _ _ 1 _ _ _ HX2.out.ra; have q0HX2 := cell_of_row _ _ 0 _ _ _ HX2.out.rb; have q1HX2 := cell_of_row _ _ 1 _ _ _ HX2.out.rb; have r0HX2 := cell_of_row _ _ 0 _ _ _ HX2.out.r5; have r1HX2 := cell_of_row _ _ 1 _ _ _ HX2.out.r5; have r2HX2 := cell_of_row _ _ 2 _ _ _ HX2.out.r5; have s0HX2 := cell_of_row _ _ 0 _ _ _ HX2.out.r6; have s1HX2 := cell_of_row _ _ 1 _ _ _ HX2.out.r6; have s2HX2 := cell_of_row _ _ 2 _ _ _ HX2.out.r6)
              | (go_at_call 17; refine (equal_any (tksL a.tk) (tksL b.tk) iHX0 jHX0 (.slice A0 n0 c0) (.slice B0 m0 d0) _ kHX0 lHX0).mono ?_; rintro e w1 ⟨rfl, hb⟩; rw [decide_eq_true e2]; have HX1 := Lib.hid (HX.out.below hb); clear hb; obtain ⟨kHX10, kHX11, kHX12, iHX10, iHX11, iHX12⟩ := HX1.out.la; obtain ⟨lHX10, lHX11, lHX12, jHX10, jHX11, jHX12⟩ := HX1.out.lb; have p0HX1 := cell_of_row _ _ 0 _ _ _ HX1.out.ra; have p1HX1 := cell_of_row _ _ 1 _ _ _ HX1.out.ra; have q0HX1 := cell_of_row _ _ 0 _ _ _ HX1.out.rb; have q1HX1 := cell_of_row _ _ 1 _ _ _ HX1.out.rb; have r0HX1 := cell_of_row _ _ 0 _ _ _ HX1.out.r5; have r1HX1 := cell_of_row _ _ 1 _ _ _ HX1.out.r5; have r2HX1 := cell_of_row _ _ 2 _ _ _ HX1.out.r5; have s0HX1 := cell_of_row _ _ 0 _ _ _ HX1.out.r6; have s1HX1 := cell_of_row _ _ 1 _ _ _ HX1.out.r6; have s2HX1 := cell_of_row _ _ 2 _ _ _ HX1.out.r6))
            refine bodyPost_ret (by (simp [results, Tryz.results7, go_sem, *]; try rfl)) rfl ?_; exact ⟨⟨false, rfl, ⟨fun h => absurd h (by decide), fun h => absurd (h.2.2.2.1) e3⟩⟩, HX2.out.bl⟩
        · go_wp2_with (first
            | (go_at_call 17; refine (equal_any (tksL a.tk) (tksL b.tk) iHX0 jHX0 (.slice A0 n0 c0) (.slice B0 m0 d0) _ kHX0 lHX0).mono ?_; rintro e w1 ⟨rfl, hb⟩; rw [decide_eq_false e2]; have HX1 := Lib.hid (HX.out.below hb); clear hb; obtain ⟨kHX10, kHX11, kHX12, iHX10, iHX11, iHX12⟩ := HX1.out.la; obtain ⟨lHX10, lHX11, lHX12, jHX10, jHX11, jHX12⟩ := HX1.out.lb; have p0HX1 := cell_of_row _ _ 0 _ _ _ HX1.out.ra; have p1HX1 := cell_of_row _ _ 1 _ _ _ HX1.out.ra; have q0HX1 := cell_of_row _ _ 0 _ _ _ HX1.out.rb; have q1HX1 := cell_of_row _ _ 1 _ _ _ HX1.out.rb; have r0HX1 := cell_of_row _ _ 0 _ _ _ HX1.out.r5; have r1HX1 := cell_of_row _ _ 1 _ _ _ HX1.out.r5; have r2HX1 := cell_of_row _ _ 2 _ _ _ HX1.out.r5; have s0HX1 := cell_of_row _ _ 0 _ _ _ HX1.out.r6; have s1HX1 := cell_of_row _ _ 1 _ _ _ HX1.out.r6; have s2HX1 := cell_of_row _ _ 2 _ _ _ HX1.out.r6))
          refine bodyPost_ret (by (simp [results, Tryz.results7, go_sem, *]; try rfl)) rfl ?_; exact ⟨⟨false, rfl, ⟨fun h => absurd h (by decide), fun h => absurd (h.2.2.1) e2⟩⟩, HX1.out.bl⟩
      · go_wp2_with fail
        refine bodyPost_ret (by (simp [results, Tryz.results7, go_sem, *]; try rfl)) rfl ?_; exact ⟨⟨false, rfl, ⟨fun h => absurd h (by decide), fun h => absurd ((bl_iff _ _).2 h.2.1) e1⟩⟩, HX.out.bl⟩
    · go_wp2_with fail
      refine bodyPost_ret (by (simp [results, Tryz.results7, go_sem, *]; try rfl)) rfl ?_; exact ⟨⟨false, rfl, ⟨fun h => absurd h (by decide), fun h => absurd ((bl_iff _ _).2 h.1) e0⟩⟩, HX.out.bl⟩
end Go.Proofs.YthlfhfliidhelaaGreatDoor

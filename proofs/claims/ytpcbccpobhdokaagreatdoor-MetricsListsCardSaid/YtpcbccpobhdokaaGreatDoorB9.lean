/- The reference's insert. -/
import Derived.Test.YtpcbccpobhdokaaGreatDoorQ1
import Derived.Test.YtpcbccpobhdokaaGreatDoorA5
import Derived.Test.YtpcbccpobhdokaaGreatDoorB4
set_option linter.unusedSimpArgs false
set_option linter.unusedVariables false
set_option linter.all false
namespace Go.Proofs.YtpcbccpobhdokaaGreatDoor
open Go.RowKit
theorem cell_blk {w : World} {g : Nat} {cs : Array Value} {t : TypeId} (h : w.heap[g]? = some (.cells cs t (0, 0))) (i : Nat) : w.cell? ⟨g, i, none⟩ = cs[i]? := cell_of_row w g i cs t (0, 0) h
theorem blk_lt {w : World} {g : Nat} {o : Obj} (h : w.heap[g]? = some o) : g < w.heap.size := (Array.getElem?_eq_some_iff.1 h).1
theorem metsAt_one {W : World} {nb : Nat} {m : Met} (h : W.heap[nb]? = some (.cells (metVals m).toArray 37 (0, 0))) : MetsAt W (some ⟨nb, 0, none⟩) [m] := fun _ => ⟨nb, 0, rfl, fun j hj => by
  obtain rfl : j = 0 := by simpa using hj
  exact ⟨cell_blk h 0, cell_blk h 1, cell_blk h 2, cell_blk h 3⟩⟩
theorem metsAt_take {w W : World} {A : Option Addr} {n c i : Nat} {l : List Met} (h : Mets w w.heap.size (.slice A n c) l) (hb : Below w.heap.size w W) (hi : i ≤ l.length) : MetsAt W A (l.take i) := fun hp => by
  have hl : (l.take i).length = i := by rw [List.length_take]; omega
  obtain ⟨b, o, e, hc⟩ := mets_at (h.below hb) (by omega)
  refine ⟨b, o, e, fun j hj => ?_⟩
  have e2 : (l.take i).getD j mz = l.getD j mz := by simp [List.getD, show j < i by omega]
  rw [e2]
  exact hc j (by omega)
theorem metsAt_drop {w W : World} {A : Option Addr} {n c k : Nat} {l : List Met} (h : Mets w w.heap.size (.slice A n c) l) (hb : Below w.heap.size w W) : MetsAt W (if c = k then A else A.map (fun x => x.add (k * 4))) (l.drop k) := fun hp => by
  rw [List.length_drop] at hp
  obtain ⟨b, o, e, hc⟩ := mets_at (h.below hb) (by omega)
  obtain ⟨A', c', e1, h1, _, _⟩ := h
  injection e1 with e3 e4 e5
  subst e
  refine ⟨b, o + k * 4, ?_, fun j hj => ?_⟩
  · rw [if_neg (by omega)]
    simp [addr_add]
  · rw [List.length_drop] at hj
    have e6 : (l.drop k).getD j mz = l.getD (k + j) mz := by simp [List.getD, List.getElem?_drop]
    rw [e6, show o + k * 4 + j * 4 = o + (k + j) * 4 by omega]
    exact hc (k + j) (by omega)
theorem metsAt_drop2 {w W : World} {B o n c k : Nat} {l : List Met} (h : Mets w w.heap.size (.slice (some ⟨B, o, none⟩) n c) l) (hb : Below w.heap.size w W) : MetsAt W (if c = k then some ⟨B, o, none⟩ else some ⟨B, o + k * 4, none⟩) (l.drop k) := by
  have h1 := metsAt_drop (k := k) h hb
  rw [show Option.map (fun x : Addr => x.add (k * 4)) (some ⟨B, o, none⟩) = some ⟨B, o + k * 4, none⟩ from congrArg some (addr_add B o (k * 4))] at h1
  exact h1
theorem own_base {w : World} {B B' : Nat} {v : Value} {n : Nat} {xs : List Value} (h : w.ownsRow B 37 4 v n xs) (hB : B' ≤ B) : w.ownsRow B' 37 4 v n xs := by
  refine ⟨h.1, ?_⟩
  rcases h.2 with h2 | ⟨g, cap, cur, e, hb, h3⟩
  · exact .inl h2
  · exact .inr ⟨g, cap, cur, e, Nat.le_trans hB hb, h3⟩
def InsPost (l : List Met) (m : Met) (w : World) (e : Ending) (w' : World) : Prop := ∃ v, e = .returned v ∧ w'.ownsRow w.heap.size 37 4 v (insL l m).length (metCells (insL l m)) ∧ Below w.heap.size w w'
set_option maxRecDepth 100000 in
set_option maxHeartbeats 8000000 in
theorem insert_any (l : List Met) (m : Met) (V : Value) (w : World) (h : Mets w w.heap.size V l) (hl : l.length ≤ 10000) : Calls Tryz.prog 27 #[V, .agg #[.string m.n, .int .i64 m.i, .int .i64 m.a, .int .i64 m.b]] w (InsPost l m w) := by
  unfold InsPost
  have HB0 := Lib.hid ((Below.refl _ w).alloc (Nat.le_refl _) (.cells #[.string m.n, .int .i64 m.i, .int .i64 m.a, .int .i64 m.b] 37))
  have HMA := Lib.hid h
  have HMW := Lib.hid (h.base HB0.out HB0.out.size)
  obtain ⟨A, c, rfl, h1, h2, h3⟩ := HMW.out
  have H3 := Lib.hid h3
  clear h3 h
  unfold maxLen at h2
  have b0 : (w.alloc (.cells #[.string m.n, .int .i64 m.i, .int .i64 m.a, .int .i64 m.b] 37)).cell? ⟨w.heap.size, 0, none⟩ = some (.string m.n) := cell_of_row _ _ 0 _ _ _ (heap_alloc_last _ _)
  have b1 : (w.alloc (.cells #[.string m.n, .int .i64 m.i, .int .i64 m.a, .int .i64 m.b] 37)).cell? ⟨w.heap.size, 1, none⟩ = some (.int .i64 m.i) := cell_of_row _ _ 1 _ _ _ (heap_alloc_last _ _)
  have b2 : (w.alloc (.cells #[.string m.n, .int .i64 m.i, .int .i64 m.a, .int .i64 m.b] 37)).cell? ⟨w.heap.size, 2, none⟩ = some (.int .i64 m.a) := cell_of_row _ _ 2 _ _ _ (heap_alloc_last _ _)
  have b3 : (w.alloc (.cells #[.string m.n, .int .i64 m.i, .int .i64 m.a, .int .i64 m.b] 37)).cell? ⟨w.heap.size, 3, none⟩ = some (.int .i64 m.b) := cell_of_row _ _ 3 _ _ _ (heap_alloc_last _ _)
  have hlt : w.heap.size < (w.alloc (.cells #[.string m.n, .int .i64 m.i, .int .i64 m.a, .int .i64 m.b] 37)).heap.size := by simp
  go_enter Tryz.func27, Tryz.ntmps27
  go_upto_region 1 with fail
  generalize w.alloc (.cells #[.string m.n, .int .i64 m.i, .int .i64 m.a, .int .i64 m.b] 37) = W at *
  go_wp2_with fail
  go_loopw [5] (fun s wr => ∃ k : Nat, k ≤ l.length ∧ s = .int .i64 k ∧ Hid (posL l m = k + posL (l.drop k) m) ∧ Hid (Below W.heap.size W wr)) (fun s _ => l.length - (intOf s).toNat)
  case atStart => exact ⟨0, Nat.zero_le _, rfl, (Nat.zero_add _).symm, Below.refl _ _⟩
  case round =>
    obtain ⟨k, hk, rfl, HP, HB⟩ := hrel
    rename World => wq
    have y0 := (HB.out.cell (p := ⟨w.heap.size, 0, none⟩) hlt).trans b0
    have y1 := (HB.out.cell (p := ⟨w.heap.size, 1, none⟩) hlt).trans b1
    have y2 := (HB.out.cell (p := ⟨w.heap.size, 2, none⟩) hlt).trans b2
    have y3 := (HB.out.cell (p := ⟨w.heap.size, 3, none⟩) hlt).trans b3
    have hbq : w.heap.size < wq.heap.size := Nat.lt_of_lt_of_le hlt HB.out.size
    clear b0 b1 b2 b3
    by_cases hkt : k < l.length
    · obtain ⟨B, o, rfl, hBl, hc⟩ := H3.out (by omega)
      have hx := hc k hkt
      have HST := Lib.hid (fun h => posL_step hkt HP.out h)
      have HSP := Lib.hid (fun h => posL_stop hkt HP.out h)
      obtain ⟨x, hxe⟩ : ∃ x, l.getD k mz = x := ⟨_, rfl⟩
      rw [hxe] at hx HST HSP
      obtain ⟨g0, g1, g2, g3⟩ := hx
      have ec : ∀ q, wq.cell? ⟨B, q, none⟩ = W.cell? ⟨B, q, none⟩ := fun q => HB.out.cell (p := ⟨B, q, none⟩) hBl
      have x0 := (ec _).trans g0
      have x1 := (ec _).trans g1
      have x2 := (ec _).trans g2
      have x3 := (ec _).trans g3
      have hBq : B < wq.heap.size := Nat.lt_of_lt_of_le hBl HB.out.size
      have hkz : (k : Int) < (l.length : Int) := by omega
      have HLS := Lib.hid (fun (W : World) => less_any x m W)
      clear hc hxe g0 g1 g2 g3 ec HP
      go_upto_region 2 with fail
      have hbd : Below wq.heap.size wq wq.drew := (Below.refl _ _).drew
      refine wp_region_held_drew (S := fun w' => w'.cell? ⟨B, o + k * 4, none⟩ = some (.string x.n) ∧ w'.cell? ⟨B, o + k * 4 + 1, none⟩ = some (.int .i64 x.i) ∧ w'.cell? ⟨B, o + k * 4 + 2, none⟩ = some (.int .i64 x.a) ∧ w'.cell? ⟨B, o + k * 4 + 3, none⟩ = some (.int .i64 x.b) ∧ w'.cell? ⟨w.heap.size, 0, none⟩ = some (.string m.n) ∧ w'.cell? ⟨w.heap.size, 1, none⟩ = some (.int .i64 m.i) ∧ w'.cell? ⟨w.heap.size, 2, none⟩ = some (.int .i64 m.a) ∧ w'.cell? ⟨w.heap.size, 3, none⟩ = some (.int .i64 m.b)) (by kernel_rfl) ⟨x0, x1, x2, x3, y0, y1, y2, y3⟩ (fun hHeld => ?_)
      generalize wq.drew = wd at *
      (refine wpAnyH_take (i := 0) (v := ?_) rfl (by kernel_rfl) (by kernel_rfl) (by kernel_rfl) (fun _ _ _ h => h) (Or.inl ⟨by kernel_rfl, fun w0 hSw => ?_⟩) hHeld ?_; rotate_left; (focus ((try dsimp only at hSw); simp only [List.getElem_toArray, List.getElem_cons_zero, List.getElem_cons_succ]; (first | (go_simp; done) | (go_simp; with_reducible rfl)))); (try simp only [List.getElem_toArray, List.getElem_cons_zero, List.getElem_cons_succ, Act.put, List.setIfInBounds_toArray, List.set_cons_zero, List.set_cons_succ]))
      (refine wpAnyH_take (i := 1) (v := ?_) rfl (by kernel_rfl) (by kernel_rfl) (by kernel_rfl) (fun _ _ _ h => h) (Or.inl ⟨by kernel_rfl, fun w0 hSw => ?_⟩) hHeld ?_; rotate_left; (focus ((try dsimp only at hSw); simp only [List.getElem_toArray, List.getElem_cons_zero, List.getElem_cons_succ]; (first | (go_simp; done) | (go_simp; with_reducible rfl)))); (try simp only [List.getElem_toArray, List.getElem_cons_zero, List.getElem_cons_succ, Act.put, List.setIfInBounds_toArray, List.set_cons_zero, List.set_cons_succ]))
      (refine wpAnyH_take (i := 2) (v := ?_) rfl (by kernel_rfl) (by kernel_rfl) (by kernel_rfl) (fun _ _ _ h => h) (Or.inl ⟨by kernel_rfl, fun w0 hSw => ?_⟩) hHeld ?_; rotate_left; (focus ((try dsimp only at hSw); simp only [List.getElem_toArray, List.getElem_cons_zero, List.getElem_cons_succ]; (first | (go_simp; done) | (go_simp; with_reducible rfl)))); (try simp only [List.getElem_toArray, List.getElem_cons_zero, List.getElem_cons_succ, Act.put, List.setIfInBounds_toArray, List.set_cons_zero, List.set_cons_succ]))
      (refine wpAnyH_take (i := 3) (v := ?_) rfl (by kernel_rfl) (by kernel_rfl) (by kernel_rfl) (fun _ _ _ h => h) (Or.inl ⟨by kernel_rfl, fun w0 hSw => ?_⟩) hHeld ?_; rotate_left; (focus ((try dsimp only at hSw); simp only [List.getElem_toArray, List.getElem_cons_zero, List.getElem_cons_succ]; (first | (go_simp; done) | (go_simp; with_reducible rfl)))); (try simp only [List.getElem_toArray, List.getElem_cons_zero, List.getElem_cons_succ, Act.put, List.setIfInBounds_toArray, List.set_cons_zero, List.set_cons_succ]))
      (refine wpAnyH_take (i := 4) (v := ?_) rfl (by kernel_rfl) (by kernel_rfl) (by kernel_rfl) (fun _ _ _ h => h) (Or.inl ⟨by kernel_rfl, fun w0 hSw => ?_⟩) hHeld ?_; rotate_left; (focus ((try dsimp only at hSw); simp only [List.getElem_toArray, List.getElem_cons_zero, List.getElem_cons_succ]; (first | (go_simp; done) | (go_simp; with_reducible rfl)))); (try simp only [List.getElem_toArray, List.getElem_cons_zero, List.getElem_cons_succ, Act.put, List.setIfInBounds_toArray, List.set_cons_zero, List.set_cons_succ]))
      (refine wpAnyH_take (i := 5) (v := ?_) rfl (by kernel_rfl) (by kernel_rfl) (by kernel_rfl) (fun _ _ _ h => h) (Or.inl ⟨by kernel_rfl, fun w0 hSw => ?_⟩) hHeld ?_; rotate_left; (focus ((try dsimp only at hSw); simp only [List.getElem_toArray, List.getElem_cons_zero, List.getElem_cons_succ]; (first | (go_simp; done) | (go_simp; with_reducible rfl)))); (try simp only [List.getElem_toArray, List.getElem_cons_zero, List.getElem_cons_succ, Act.put, List.setIfInBounds_toArray, List.set_cons_zero, List.set_cons_succ]))
      (refine wpAnyH_take (i := 6) (v := ?_) rfl (by kernel_rfl) (by kernel_rfl) (by kernel_rfl) (fun _ _ _ h => h) (Or.inl ⟨by kernel_rfl, fun w0 hSw => ?_⟩) hHeld ?_; rotate_left; (focus ((try dsimp only at hSw); simp only [List.getElem_toArray, List.getElem_cons_zero, List.getElem_cons_succ]; (first | (go_simp; done) | (go_simp; with_reducible rfl)))); (try simp only [List.getElem_toArray, List.getElem_cons_zero, List.getElem_cons_succ, Act.put, List.setIfInBounds_toArray, List.set_cons_zero, List.set_cons_succ]))
      (refine wpAnyH_take (i := 7) (v := ?_) rfl (by kernel_rfl) (by kernel_rfl) (by kernel_rfl) (fun _ _ _ h => h) (Or.inl ⟨by kernel_rfl, fun w0 hSw => ?_⟩) hHeld ?_; rotate_left; (focus ((try dsimp only at hSw); simp only [List.getElem_toArray, List.getElem_cons_zero, List.getElem_cons_succ]; (first | (go_simp; done) | (go_simp; with_reducible rfl)))); (try simp only [List.getElem_toArray, List.getElem_cons_zero, List.getElem_cons_succ, Act.put, List.setIfInBounds_toArray, List.set_cons_zero, List.set_cons_succ]))
      (refine wpAnyH_take (i := 8) (v := ?_) rfl (by kernel_rfl) (by kernel_rfl) (by kernel_rfl) (fun _ _ _ h => h) (Or.inl ⟨by kernel_rfl, fun w0 hSw => ?_⟩) hHeld ?_; rotate_left; (focus ((try dsimp only at hSw); simp only [List.getElem_toArray, List.getElem_cons_zero, List.getElem_cons_succ]; (first | (go_simp; done) | (go_simp; with_reducible rfl)))); (try simp only [List.getElem_toArray, List.getElem_cons_zero, List.getElem_cons_succ, Act.put, List.setIfInBounds_toArray, List.set_cons_zero, List.set_cons_succ]))
      (refine wpAnyH_take (i := 9) (v := ?_) rfl (by kernel_rfl) (by kernel_rfl) (by kernel_rfl) (fun _ _ _ h => h) (Or.inl ⟨by kernel_rfl, fun w0 hSw => ?_⟩) hHeld ?_; rotate_left; (focus ((try dsimp only at hSw); simp only [List.getElem_toArray, List.getElem_cons_zero, List.getElem_cons_succ]; (first | (go_simp; done) | (go_simp; with_reducible rfl)))); (try simp only [List.getElem_toArray, List.getElem_cons_zero, List.getElem_cons_succ, Act.put, List.setIfInBounds_toArray, List.set_cons_zero, List.set_cons_succ]))
      refine wpAnyH_ready (rs := [10]) (by kernel_rfl) (by simp) ?_
      refine AllReadyH.cons rfl (fun K hK => ?_) AllReadyH.nil
      simp only [List.getElem_toArray, List.getElem_cons_zero, List.getElem_cons_succ]
      go_simp
      refine (HLS.out _).mono ?_
      rintro e w3 ⟨rfl, hgr⟩
      have hb3 := hbd.trans (hgr.below.mono hbd.size)
      have HB3 := Lib.hid (HB.out.trans (hb3.mono HB.out.size))
      have yy := And.intro ((hb3.cell (p := ⟨w.heap.size, 0, none⟩) hbq).trans y0) (And.intro ((hb3.cell (p := ⟨w.heap.size, 1, none⟩) hbq).trans y1) (And.intro ((hb3.cell (p := ⟨w.heap.size, 2, none⟩) hbq).trans y2) ((hb3.cell (p := ⟨w.heap.size, 3, none⟩) hbq).trans y3)))
      refine hK.out _ _ ⟨(hb3.cell (p := ⟨B, o + k * 4, none⟩) hBq).trans x0, (hb3.cell (p := ⟨B, o + k * 4 + 1, none⟩) hBq).trans x1, (hb3.cell (p := ⟨B, o + k * 4 + 2, none⟩) hBq).trans x2, (hb3.cell (p := ⟨B, o + k * 4 + 3, none⟩) hBq).trans x3, yy⟩ (fun hHeld => ?_)
      clear hK K hgr hbd y0 y1 y2 y3 x0 x1 x2 x3
      (try simp only [List.getElem_toArray, List.getElem_cons_zero, List.getElem_cons_succ, Act.put, List.setIfInBounds_toArray, List.set_cons_zero, List.set_cons_succ])
      cases hlb : lessB x m with
      | true =>
        (refine wpAnyH_take (i := 11) (v := ?_) rfl (by kernel_rfl) (by kernel_rfl) (by kernel_rfl) (fun _ _ _ h => h) (Or.inl ⟨by kernel_rfl, fun w0 hSw => ?_⟩) hHeld ?_; rotate_left; (focus ((try dsimp only at hSw); simp only [List.getElem_toArray, List.getElem_cons_zero, List.getElem_cons_succ]; (first | (go_simp; done) | (go_simp; with_reducible rfl)))); (try simp only [List.getElem_toArray, List.getElem_cons_zero, List.getElem_cons_succ, Act.put, List.setIfInBounds_toArray, List.set_cons_zero, List.set_cons_succ]))
        refine wpAnyH_done (by kernel_rfl) ?_ _
        clear hHeld yy
        have HN := Lib.hid (HST.out hlb)
        clear hlb
        go_wp2_with fail
        go_roundw
        case rel => exact ⟨k + 1, by omega, by go_num, HN.out, HB3.out⟩
        case measure => simp [intOf]; omega
      | false =>
        (refine wpAnyH_take (i := 11) (v := ?_) rfl (by kernel_rfl) (by kernel_rfl) (by kernel_rfl) (fun _ _ _ h => h) (Or.inl ⟨by kernel_rfl, fun w0 hSw => ?_⟩) hHeld ?_; rotate_left; (focus ((try dsimp only at hSw); simp only [List.getElem_toArray, List.getElem_cons_zero, List.getElem_cons_succ]; (first | (go_simp; done) | (go_simp; with_reducible rfl)))); (try simp only [List.getElem_toArray, List.getElem_cons_zero, List.getElem_cons_succ, Act.put, List.setIfInBounds_toArray, List.set_cons_zero, List.set_cons_succ]))
        refine wpAnyH_done (by kernel_rfl) ?_ _
        clear hHeld
        have hpk := HSP.out hlb
        have HIN := Lib.hid (show insL l m = (l.take k ++ [m]) ++ l.drop k by unfold insL; rw [hpk])
        clear hpk hlb
        have HBX := Lib.hid (HB0.out.trans (HB3.out.mono HB0.out.size))
        have hbxx : w.heap.size < w3.heap.size := Nat.lt_of_lt_of_le hbq hb3.size
        clear hb3
        obtain ⟨w1, hw1⟩ : ∃ x, x = w3 := ⟨_, rfl⟩
        have HB1 := Lib.hid (show Below w.heap.size w w1 from hw1 ▸ HBX.out)
        have HCW := Lib.hid (HMA.out.base HB1.out HB1.out.size)
        have hbx : w.heap.size < w1.heap.size := by rw [hw1]; exact hbxx
        have y0 : w1.cell? ⟨w.heap.size, 0, none⟩ = some (.string m.n) := by rw [hw1]; exact yy.1
        have y1 : w1.cell? ⟨w.heap.size, 1, none⟩ = some (.int .i64 m.i) := by rw [hw1]; exact yy.2.1
        have y2 : w1.cell? ⟨w.heap.size, 2, none⟩ = some (.int .i64 m.a) := by rw [hw1]; exact yy.2.2.1
        have y3 : w1.cell? ⟨w.heap.size, 3, none⟩ = some (.int .i64 m.b) := by rw [hw1]; exact yy.2.2.2
        rw [← hw1]
        clear hw1 yy hbxx HBX
        have hic : (k : Int) ≤ (c : Int) := by omega
        have hil : (k : Int) ≤ (l.length : Int) := by omega
        have hi0 : (0 : Int) ≤ (k : Int) := by omega
        have HT := Lib.hid (show (l.take k).length = k by rw [List.length_take]; omega)
        have HT1 := Lib.hid (show (l.take k ++ [m]).length = k + 1 by rw [List.length_append, HT.out]; rfl)
        have HD := Lib.hid (show (l.drop k).length = l.length - k from List.length_drop)
        go_wp2_with fail
        have hd0 : Below w1.heap.size w1 w1.drew := Below.drew (Below.refl _ _)
        refine wp_region_held_drew (S := fun w' => w'.cell? ⟨w.heap.size, 0, none⟩ = some (.string m.n) ∧ w'.cell? ⟨w.heap.size, 1, none⟩ = some (.int .i64 m.i) ∧ w'.cell? ⟨w.heap.size, 2, none⟩ = some (.int .i64 m.a) ∧ w'.cell? ⟨w.heap.size, 3, none⟩ = some (.int .i64 m.b)) (by kernel_rfl) ⟨y0, y1, y2, y3⟩ (fun hHeld => ?_)
        generalize hX0 : w1.drew = w10 at *
        clear hX0
        (refine wpAnyH_take (i := 1) (v := ?_) rfl (by kernel_rfl) (by kernel_rfl) (by kernel_rfl) (fun _ _ _ h => h) (Or.inl ⟨by kernel_rfl, fun w0 hSw => ?_⟩) hHeld ?_; rotate_left; (focus ((try dsimp only at hSw); simp only [List.getElem_toArray, List.getElem_cons_zero, List.getElem_cons_succ]; (first | (go_simp; done) | (go_simp; with_reducible rfl)))); (try simp only [List.getElem_toArray, List.getElem_cons_zero, List.getElem_cons_succ, Act.put, List.setIfInBounds_toArray, List.set_cons_zero, List.set_cons_succ]))
        (refine wpAnyH_take (i := 2) (v := ?_) rfl (by kernel_rfl) (by kernel_rfl) (by kernel_rfl) (fun _ _ _ h => h) (Or.inl ⟨by kernel_rfl, fun w0 hSw => ?_⟩) hHeld ?_; rotate_left; (focus ((try dsimp only at hSw); simp only [List.getElem_toArray, List.getElem_cons_zero, List.getElem_cons_succ]; (first | (go_simp; done) | (go_simp; with_reducible rfl)))); (try simp only [List.getElem_toArray, List.getElem_cons_zero, List.getElem_cons_succ, Act.put, List.setIfInBounds_toArray, List.set_cons_zero, List.set_cons_succ]))
        (refine wpAnyH_take (i := 3) (v := ?_) rfl (by kernel_rfl) (by kernel_rfl) (by kernel_rfl) (fun _ _ _ h => h) (Or.inl ⟨by kernel_rfl, fun w0 hSw => ?_⟩) hHeld ?_; rotate_left; (focus ((try dsimp only at hSw); simp only [List.getElem_toArray, List.getElem_cons_zero, List.getElem_cons_succ]; (first | (go_simp; done) | (go_simp; with_reducible rfl)))); (try simp only [List.getElem_toArray, List.getElem_cons_zero, List.getElem_cons_succ, Act.put, List.setIfInBounds_toArray, List.set_cons_zero, List.set_cons_succ]))
        (refine wpAnyH_take (i := 5) (v := ?_) rfl (by kernel_rfl) (by kernel_rfl) (by kernel_rfl) (fun _ _ _ h => h) (Or.inl ⟨by kernel_rfl, fun w0 hSw => ?_⟩) hHeld ?_; rotate_left; (focus ((try dsimp only at hSw); simp only [List.getElem_toArray, List.getElem_cons_zero, List.getElem_cons_succ]; (first | (go_simp; done) | (go_simp; with_reducible rfl)))); (try simp only [List.getElem_toArray, List.getElem_cons_zero, List.getElem_cons_succ, Act.put, List.setIfInBounds_toArray, List.set_cons_zero, List.set_cons_succ]))
        (refine wpAnyH_take (i := 8) (v := ?_) rfl (by kernel_rfl) (by kernel_rfl) (by kernel_rfl) (fun _ _ _ h => h) (Or.inl ⟨by kernel_rfl, fun w0 hSw => ?_⟩) hHeld ?_; rotate_left; (focus ((try dsimp only at hSw); simp only [List.getElem_toArray, List.getElem_cons_zero, List.getElem_cons_succ]; (first | (go_simp; done) | (go_simp; with_reducible rfl)))); (try simp only [List.getElem_toArray, List.getElem_cons_zero, List.getElem_cons_succ, Act.put, List.setIfInBounds_toArray, List.set_cons_zero, List.set_cons_succ]))
        (refine wpAnyH_take (i := 9) (v := ?_) rfl (by kernel_rfl) (by kernel_rfl) (by kernel_rfl) (fun _ _ _ h => h) (Or.inl ⟨by kernel_rfl, fun w0 hSw => ?_⟩) hHeld ?_; rotate_left; (focus ((try dsimp only at hSw); simp only [List.getElem_toArray, List.getElem_cons_zero, List.getElem_cons_succ]; (first | (go_simp; done) | (go_simp; with_reducible rfl)))); (try simp only [List.getElem_toArray, List.getElem_cons_zero, List.getElem_cons_succ, Act.put, List.setIfInBounds_toArray, List.set_cons_zero, List.set_cons_succ]))
        (refine wpAnyH_take (i := 10) (v := ?_) rfl (by kernel_rfl) (by kernel_rfl) (by kernel_rfl) (fun _ _ _ h => h) (Or.inl ⟨by kernel_rfl, fun w0 hSw => ?_⟩) hHeld ?_; rotate_left; (focus ((try dsimp only at hSw); simp only [List.getElem_toArray, List.getElem_cons_zero, List.getElem_cons_succ]; (first | (go_simp; done) | (go_simp; with_reducible rfl)))); (try simp only [List.getElem_toArray, List.getElem_cons_zero, List.getElem_cons_succ, Act.put, List.setIfInBounds_toArray, List.set_cons_zero, List.set_cons_succ]))
        refine wpAnyH_ready (rs := [0, 6]) (by kernel_rfl) (by simp) ?_
        refine (AllReadyH.cons rfl (fun K hK => ?_) (AllReadyH.cons rfl (fun K hK => ?_) AllReadyH.nil))
        · simp only [List.getElem_toArray, List.getElem_cons_zero, List.getElem_cons_succ]
          go_simp
          have hd1 := hd0.alloc hd0.size (.cells #[] 37)
          have ho1 : (w10.alloc (.cells #[] 37)).ownsRow w1.heap.size 37 4 (.slice (some ⟨w10.heap.size, 0, none⟩) 0 0) ([] : List Met).length (metCells []) := World.ownsRow_lit (e := 37) (size := 4) w10 #[] 0 hd0.size (by simp [maxLen]) rfl
          refine hK.out _ _ ⟨(hd1.cell (p := ⟨w.heap.size, 0, none⟩) hbx).trans y0, (hd1.cell (p := ⟨w.heap.size, 1, none⟩) hbx).trans y1, (hd1.cell (p := ⟨w.heap.size, 2, none⟩) hbx).trans y2, (hd1.cell (p := ⟨w.heap.size, 3, none⟩) hbx).trans y3⟩ (fun hHeld => ?_)
          clear hK K
          (try simp only [List.getElem_toArray, List.getElem_cons_zero, List.getElem_cons_succ, Act.put, List.setIfInBounds_toArray, List.set_cons_zero, List.set_cons_succ])
          generalize hX1 : (w10.alloc (.cells #[] 37)) = w11 at *
          clear hX1
          refine wpAnyH_ready (rs := [4, 6]) (by kernel_rfl) (by simp) ?_
          refine (AllReadyH.cons rfl (fun K hK => ?_) (AllReadyH.cons rfl (fun K hK => ?_) AllReadyH.nil))
          · simp only [List.getElem_toArray, List.getElem_cons_zero, List.getElem_cons_succ]
            rw [if_pos (by simp [Region.wanted])]
            refine wp_append_met (.tmp 20) (.tmp 23) rfl w11 w1.heap.size (.slice (some ⟨w10.heap.size, 0, none⟩) 0 0) [] (l.take k) (by kernel_rfl) ho1 _ c (by rw [HT.out]; kernel_rfl) (metsAt_take HCW.out hd1 hk) (by rw [HT.out]; simp; omega) hd1.size ?_
            intro V2 w12 ho2 hg2 h52
            have hd2 : Below w1.heap.size w1 w12 := Below.grown hd1 hg2 hd1.size (fun j e => (ho1.lt j e).1)
            rw [List.nil_append, HT.out] at ho2
            obtain ⟨AV2, cV2, rfl⟩ := own_slice ho2
            clear h52 hg2
            refine hK.out _ _ ⟨(hd2.cell (p := ⟨w.heap.size, 0, none⟩) hbx).trans y0, (hd2.cell (p := ⟨w.heap.size, 1, none⟩) hbx).trans y1, (hd2.cell (p := ⟨w.heap.size, 2, none⟩) hbx).trans y2, (hd2.cell (p := ⟨w.heap.size, 3, none⟩) hbx).trans y3⟩ (fun hHeld => ?_)
            clear hK K
            (try simp only [List.getElem_toArray, List.getElem_cons_zero, List.getElem_cons_succ, Act.put, List.setIfInBounds_toArray, List.set_cons_zero, List.set_cons_succ])
            refine wpAnyH_ready (rs := [6]) (by kernel_rfl) (by simp) ?_
            refine (AllReadyH.cons rfl (fun K hK => ?_) AllReadyH.nil)
            simp only [List.getElem_toArray, List.getElem_cons_zero, List.getElem_cons_succ]
            go_simp
            have hd3 := hd2.alloc hd2.size (.cells #[.string m.n, .int .i64 m.i, .int .i64 m.a, .int .i64 m.b] 37)
            have ho3 := ho2.alloc (.cells #[.string m.n, .int .i64 m.i, .int .i64 m.a, .int .i64 m.b] 37)
            have hn3 : (w12.alloc (.cells #[.string m.n, .int .i64 m.i, .int .i64 m.a, .int .i64 m.b] 37)).heap[w12.heap.size]? = some (.cells (metVals m).toArray 37 (0, 0)) := heap_alloc_last _ _
            have hne3 := own_ne_lt ho2 (g := w12.heap.size) (.inr (Nat.le_refl _))
            refine hK.out _ _ ⟨(hd3.cell (p := ⟨w.heap.size, 0, none⟩) hbx).trans y0, (hd3.cell (p := ⟨w.heap.size, 1, none⟩) hbx).trans y1, (hd3.cell (p := ⟨w.heap.size, 2, none⟩) hbx).trans y2, (hd3.cell (p := ⟨w.heap.size, 3, none⟩) hbx).trans y3⟩ (fun hHeld => ?_)
            clear hK K
            (try simp only [List.getElem_toArray, List.getElem_cons_zero, List.getElem_cons_succ, Act.put, List.setIfInBounds_toArray, List.set_cons_zero, List.set_cons_succ])
            generalize hX3 : (w12.alloc (.cells #[.string m.n, .int .i64 m.i, .int .i64 m.a, .int .i64 m.b] 37)) = w13 at *
            clear hX3
            refine wpAnyH_ready (rs := [7]) (by kernel_rfl) (by simp) ?_
            refine (AllReadyH.cons rfl (fun K hK => ?_) AllReadyH.nil)
            simp only [List.getElem_toArray, List.getElem_cons_zero, List.getElem_cons_succ]
            rw [if_pos (by simp [Region.wanted])]
            refine wp_append_met (.tmp 24) (.tmp 26) rfl w13 w1.heap.size (.slice AV2 k cV2) (l.take k) [m] (by kernel_rfl) (by rw [HT.out]; exact ho3) (some ⟨w12.heap.size, 0, none⟩) 1 (by kernel_rfl) (metsAt_one hn3) (by rw [HT.out]; simp; omega) hd3.size ?_
            intro V4 w14 ho4 hg4 h54
            have hd4 : Below w1.heap.size w1 w14 := Below.grown hd3 hg4 hd3.size (fun j e => (ho3.lt j e).1)
            rw [HT1.out] at ho4
            obtain ⟨AV4, cV4, rfl⟩ := own_slice ho4
            clear h54 hg4
            refine hK.out _ _ ⟨(hd4.cell (p := ⟨w.heap.size, 0, none⟩) hbx).trans y0, (hd4.cell (p := ⟨w.heap.size, 1, none⟩) hbx).trans y1, (hd4.cell (p := ⟨w.heap.size, 2, none⟩) hbx).trans y2, (hd4.cell (p := ⟨w.heap.size, 3, none⟩) hbx).trans y3⟩ (fun hHeld => ?_)
            clear hK K
            (try simp only [List.getElem_toArray, List.getElem_cons_zero, List.getElem_cons_succ, Act.put, List.setIfInBounds_toArray, List.set_cons_zero, List.set_cons_succ])
            refine wpAnyH_ready (rs := [11]) (by kernel_rfl) (by simp) ?_
            refine (AllReadyH.cons rfl (fun K hK => ?_) AllReadyH.nil)
            simp only [List.getElem_toArray, List.getElem_cons_zero, List.getElem_cons_succ]
            rw [if_pos (by simp [Region.wanted])]
            refine wp_append_met (.tmp 27) (.tmp 30) rfl w14 w1.heap.size (.slice AV4 (k + 1) cV4) (l.take k ++ [m]) (l.drop k) (by kernel_rfl) (by rw [HT1.out]; exact ho4) _ (c - k) (by rw [HD.out]; kernel_rfl) (metsAt_drop2 HCW.out hd4) (by rw [HD.out, List.length_append, HT.out]; simp; omega) hd4.size ?_
            intro V5 w15 ho5 hg5 h55
            have hd5 : Below w1.heap.size w1 w15 := Below.grown hd4 hg5 hd4.size (fun j e => (ho4.lt j e).1)
            obtain ⟨AV5, cV5, rfl⟩ := own_slice ho5
            generalize hds : l.take k ++ [m] ++ l.drop k = ds at *
            clear hds
            clear h55 hg5
            refine hK.out _ _ ⟨(hd5.cell (p := ⟨w.heap.size, 0, none⟩) hbx).trans y0, (hd5.cell (p := ⟨w.heap.size, 1, none⟩) hbx).trans y1, (hd5.cell (p := ⟨w.heap.size, 2, none⟩) hbx).trans y2, (hd5.cell (p := ⟨w.heap.size, 3, none⟩) hbx).trans y3⟩ (fun hHeld => ?_)
            clear hK K
            (try simp only [List.getElem_toArray, List.getElem_cons_zero, List.getElem_cons_succ, Act.put, List.setIfInBounds_toArray, List.set_cons_zero, List.set_cons_succ])
            (refine wpAnyH_take (i := 12) (v := ?_) rfl (by kernel_rfl) (by kernel_rfl) (by kernel_rfl) (fun _ _ _ h => h) (Or.inl ⟨by kernel_rfl, fun w0 hSw => ?_⟩) hHeld ?_; rotate_left; (focus ((try dsimp only at hSw); simp only [List.getElem_toArray, List.getElem_cons_zero, List.getElem_cons_succ]; (first | (go_simp; done) | (go_simp; with_reducible rfl)))); (try simp only [List.getElem_toArray, List.getElem_cons_zero, List.getElem_cons_succ, Act.put, List.setIfInBounds_toArray, List.set_cons_zero, List.set_cons_succ]))
            refine wpAnyH_done (by kernel_rfl) ?_ _
            clear hHeld
            have HOF := Lib.hid ho5
            have HDF := Lib.hid hd5
            generalize w15 = wf at *
            go_wp2_with fail
            all_goals refine bodyPost_ret (by (simp [results, Tryz.results27, go_sem]; try rfl)) rfl ?_
            all_goals exact ⟨_, rfl, by rw [HIN.out]; exact own_base HOF.out (Nat.le_of_lt hbx), HB1.out.trans (HDF.out.mono (by omega))⟩
          · simp only [List.getElem_toArray, List.getElem_cons_zero, List.getElem_cons_succ]
            go_simp
            have hd2 := hd1.alloc hd1.size (.cells #[.string m.n, .int .i64 m.i, .int .i64 m.a, .int .i64 m.b] 37)
            have ho2 := ho1.alloc (.cells #[.string m.n, .int .i64 m.i, .int .i64 m.a, .int .i64 m.b] 37)
            have hn2 : (w11.alloc (.cells #[.string m.n, .int .i64 m.i, .int .i64 m.a, .int .i64 m.b] 37)).heap[w11.heap.size]? = some (.cells (metVals m).toArray 37 (0, 0)) := heap_alloc_last _ _
            have hne2 := own_ne_lt ho1 (g := w11.heap.size) (.inr (Nat.le_refl _))
            refine hK.out _ _ ⟨(hd2.cell (p := ⟨w.heap.size, 0, none⟩) hbx).trans y0, (hd2.cell (p := ⟨w.heap.size, 1, none⟩) hbx).trans y1, (hd2.cell (p := ⟨w.heap.size, 2, none⟩) hbx).trans y2, (hd2.cell (p := ⟨w.heap.size, 3, none⟩) hbx).trans y3⟩ (fun hHeld => ?_)
            clear hK K
            (try simp only [List.getElem_toArray, List.getElem_cons_zero, List.getElem_cons_succ, Act.put, List.setIfInBounds_toArray, List.set_cons_zero, List.set_cons_succ])
            generalize hX2 : (w11.alloc (.cells #[.string m.n, .int .i64 m.i, .int .i64 m.a, .int .i64 m.b] 37)) = w12 at *
            clear hX2
            refine wpAnyH_ready (rs := [4]) (by kernel_rfl) (by simp) ?_
            refine (AllReadyH.cons rfl (fun K hK => ?_) AllReadyH.nil)
            simp only [List.getElem_toArray, List.getElem_cons_zero, List.getElem_cons_succ]
            rw [if_pos (by simp [Region.wanted])]
            refine wp_append_met (.tmp 20) (.tmp 23) rfl w12 w1.heap.size (.slice (some ⟨w10.heap.size, 0, none⟩) 0 0) [] (l.take k) (by kernel_rfl) ho2 _ c (by rw [HT.out]; kernel_rfl) (metsAt_take HCW.out hd2 hk) (by rw [HT.out]; simp; omega) hd2.size ?_
            intro V3 w13 ho3 hg3 h53
            have hd3 : Below w1.heap.size w1 w13 := Below.grown hd2 hg3 hd2.size (fun j e => (ho2.lt j e).1)
            have hn3 := (hg3.block w11.heap.size (blk_lt hn2) (fun e => hne2 e.symm)).trans hn2
            have hne3 : V3.ownBlock ≠ some w11.heap.size := fun e => by have h1 := blk_lt hn2; rcases h53 with h | h; exact hne2 (h.symm.trans e); rw [h] at e; injection e; omega
            rw [List.nil_append, HT.out] at ho3
            obtain ⟨AV3, cV3, rfl⟩ := own_slice ho3
            clear h53 hg3
            refine hK.out _ _ ⟨(hd3.cell (p := ⟨w.heap.size, 0, none⟩) hbx).trans y0, (hd3.cell (p := ⟨w.heap.size, 1, none⟩) hbx).trans y1, (hd3.cell (p := ⟨w.heap.size, 2, none⟩) hbx).trans y2, (hd3.cell (p := ⟨w.heap.size, 3, none⟩) hbx).trans y3⟩ (fun hHeld => ?_)
            clear hK K
            (try simp only [List.getElem_toArray, List.getElem_cons_zero, List.getElem_cons_succ, Act.put, List.setIfInBounds_toArray, List.set_cons_zero, List.set_cons_succ])
            refine wpAnyH_ready (rs := [7]) (by kernel_rfl) (by simp) ?_
            refine (AllReadyH.cons rfl (fun K hK => ?_) AllReadyH.nil)
            simp only [List.getElem_toArray, List.getElem_cons_zero, List.getElem_cons_succ]
            rw [if_pos (by simp [Region.wanted])]
            refine wp_append_met (.tmp 24) (.tmp 26) rfl w13 w1.heap.size (.slice AV3 k cV3) (l.take k) [m] (by kernel_rfl) (by rw [HT.out]; exact ho3) (some ⟨w11.heap.size, 0, none⟩) 1 (by kernel_rfl) (metsAt_one hn3) (by rw [HT.out]; simp; omega) hd3.size ?_
            intro V4 w14 ho4 hg4 h54
            have hd4 : Below w1.heap.size w1 w14 := Below.grown hd3 hg4 hd3.size (fun j e => (ho3.lt j e).1)
            rw [HT1.out] at ho4
            obtain ⟨AV4, cV4, rfl⟩ := own_slice ho4
            clear h54 hg4
            refine hK.out _ _ ⟨(hd4.cell (p := ⟨w.heap.size, 0, none⟩) hbx).trans y0, (hd4.cell (p := ⟨w.heap.size, 1, none⟩) hbx).trans y1, (hd4.cell (p := ⟨w.heap.size, 2, none⟩) hbx).trans y2, (hd4.cell (p := ⟨w.heap.size, 3, none⟩) hbx).trans y3⟩ (fun hHeld => ?_)
            clear hK K
            (try simp only [List.getElem_toArray, List.getElem_cons_zero, List.getElem_cons_succ, Act.put, List.setIfInBounds_toArray, List.set_cons_zero, List.set_cons_succ])
            refine wpAnyH_ready (rs := [11]) (by kernel_rfl) (by simp) ?_
            refine (AllReadyH.cons rfl (fun K hK => ?_) AllReadyH.nil)
            simp only [List.getElem_toArray, List.getElem_cons_zero, List.getElem_cons_succ]
            rw [if_pos (by simp [Region.wanted])]
            refine wp_append_met (.tmp 27) (.tmp 30) rfl w14 w1.heap.size (.slice AV4 (k + 1) cV4) (l.take k ++ [m]) (l.drop k) (by kernel_rfl) (by rw [HT1.out]; exact ho4) _ (c - k) (by rw [HD.out]; kernel_rfl) (metsAt_drop2 HCW.out hd4) (by rw [HD.out, List.length_append, HT.out]; simp; omega) hd4.size ?_
            intro V5 w15 ho5 hg5 h55
            have hd5 : Below w1.heap.size w1 w15 := Below.grown hd4 hg5 hd4.size (fun j e => (ho4.lt j e).1)
            obtain ⟨AV5, cV5, rfl⟩ := own_slice ho5
            generalize hds : l.take k ++ [m] ++ l.drop k = ds at *
            clear hds
            clear h55 hg5
            refine hK.out _ _ ⟨(hd5.cell (p := ⟨w.heap.size, 0, none⟩) hbx).trans y0, (hd5.cell (p := ⟨w.heap.size, 1, none⟩) hbx).trans y1, (hd5.cell (p := ⟨w.heap.size, 2, none⟩) hbx).trans y2, (hd5.cell (p := ⟨w.heap.size, 3, none⟩) hbx).trans y3⟩ (fun hHeld => ?_)
            clear hK K
            (try simp only [List.getElem_toArray, List.getElem_cons_zero, List.getElem_cons_succ, Act.put, List.setIfInBounds_toArray, List.set_cons_zero, List.set_cons_succ])
            (refine wpAnyH_take (i := 12) (v := ?_) rfl (by kernel_rfl) (by kernel_rfl) (by kernel_rfl) (fun _ _ _ h => h) (Or.inl ⟨by kernel_rfl, fun w0 hSw => ?_⟩) hHeld ?_; rotate_left; (focus ((try dsimp only at hSw); simp only [List.getElem_toArray, List.getElem_cons_zero, List.getElem_cons_succ]; (first | (go_simp; done) | (go_simp; with_reducible rfl)))); (try simp only [List.getElem_toArray, List.getElem_cons_zero, List.getElem_cons_succ, Act.put, List.setIfInBounds_toArray, List.set_cons_zero, List.set_cons_succ]))
            refine wpAnyH_done (by kernel_rfl) ?_ _
            clear hHeld
            have HOF := Lib.hid ho5
            have HDF := Lib.hid hd5
            generalize w15 = wf at *
            go_wp2_with fail
            all_goals refine bodyPost_ret (by (simp [results, Tryz.results27, go_sem]; try rfl)) rfl ?_
            all_goals exact ⟨_, rfl, by rw [HIN.out]; exact own_base HOF.out (Nat.le_of_lt hbx), HB1.out.trans (HDF.out.mono (by omega))⟩
        · simp only [List.getElem_toArray, List.getElem_cons_zero, List.getElem_cons_succ]
          go_simp
          have hd1 := hd0.alloc hd0.size (.cells #[.string m.n, .int .i64 m.i, .int .i64 m.a, .int .i64 m.b] 37)
          have hn1 : (w10.alloc (.cells #[.string m.n, .int .i64 m.i, .int .i64 m.a, .int .i64 m.b] 37)).heap[w10.heap.size]? = some (.cells (metVals m).toArray 37 (0, 0)) := heap_alloc_last _ _
          refine hK.out _ _ ⟨(hd1.cell (p := ⟨w.heap.size, 0, none⟩) hbx).trans y0, (hd1.cell (p := ⟨w.heap.size, 1, none⟩) hbx).trans y1, (hd1.cell (p := ⟨w.heap.size, 2, none⟩) hbx).trans y2, (hd1.cell (p := ⟨w.heap.size, 3, none⟩) hbx).trans y3⟩ (fun hHeld => ?_)
          clear hK K
          (try simp only [List.getElem_toArray, List.getElem_cons_zero, List.getElem_cons_succ, Act.put, List.setIfInBounds_toArray, List.set_cons_zero, List.set_cons_succ])
          generalize hX1 : (w10.alloc (.cells #[.string m.n, .int .i64 m.i, .int .i64 m.a, .int .i64 m.b] 37)) = w11 at *
          clear hX1
          refine wpAnyH_ready (rs := [0]) (by kernel_rfl) (by simp) ?_
          refine (AllReadyH.cons rfl (fun K hK => ?_) AllReadyH.nil)
          simp only [List.getElem_toArray, List.getElem_cons_zero, List.getElem_cons_succ]
          go_simp
          have hd2 := hd1.alloc hd1.size (.cells #[] 37)
          have hn2 := (Below.heap_alloc _ (.cells #[] 37) _ (blk_lt hn1)).trans hn1
          have ho2 : (w11.alloc (.cells #[] 37)).ownsRow w1.heap.size 37 4 (.slice (some ⟨w11.heap.size, 0, none⟩) 0 0) ([] : List Met).length (metCells []) := World.ownsRow_lit (e := 37) (size := 4) w11 #[] 0 hd1.size (by simp [maxLen]) rfl
          have hne2 : (Value.slice (some ⟨w11.heap.size, 0, none⟩) 0 0).ownBlock ≠ some w10.heap.size := fun e => by have h1 := blk_lt hn1; have h2 : w11.heap.size = w10.heap.size := (by simpa [Value.ownBlock] using e); omega
          refine hK.out _ _ ⟨(hd2.cell (p := ⟨w.heap.size, 0, none⟩) hbx).trans y0, (hd2.cell (p := ⟨w.heap.size, 1, none⟩) hbx).trans y1, (hd2.cell (p := ⟨w.heap.size, 2, none⟩) hbx).trans y2, (hd2.cell (p := ⟨w.heap.size, 3, none⟩) hbx).trans y3⟩ (fun hHeld => ?_)
          clear hK K
          (try simp only [List.getElem_toArray, List.getElem_cons_zero, List.getElem_cons_succ, Act.put, List.setIfInBounds_toArray, List.set_cons_zero, List.set_cons_succ])
          generalize hX2 : (w11.alloc (.cells #[] 37)) = w12 at *
          clear hX2
          refine wpAnyH_ready (rs := [4]) (by kernel_rfl) (by simp) ?_
          refine (AllReadyH.cons rfl (fun K hK => ?_) AllReadyH.nil)
          simp only [List.getElem_toArray, List.getElem_cons_zero, List.getElem_cons_succ]
          rw [if_pos (by simp [Region.wanted])]
          refine wp_append_met (.tmp 20) (.tmp 23) rfl w12 w1.heap.size (.slice (some ⟨w11.heap.size, 0, none⟩) 0 0) [] (l.take k) (by kernel_rfl) ho2 _ c (by rw [HT.out]; kernel_rfl) (metsAt_take HCW.out hd2 hk) (by rw [HT.out]; simp; omega) hd2.size ?_
          intro V3 w13 ho3 hg3 h53
          have hd3 : Below w1.heap.size w1 w13 := Below.grown hd2 hg3 hd2.size (fun j e => (ho2.lt j e).1)
          have hn3 := (hg3.block w10.heap.size (blk_lt hn2) (fun e => hne2 e.symm)).trans hn2
          have hne3 : V3.ownBlock ≠ some w10.heap.size := fun e => by have h1 := blk_lt hn2; rcases h53 with h | h; exact hne2 (h.symm.trans e); rw [h] at e; injection e; omega
          rw [List.nil_append, HT.out] at ho3
          obtain ⟨AV3, cV3, rfl⟩ := own_slice ho3
          clear h53 hg3
          refine hK.out _ _ ⟨(hd3.cell (p := ⟨w.heap.size, 0, none⟩) hbx).trans y0, (hd3.cell (p := ⟨w.heap.size, 1, none⟩) hbx).trans y1, (hd3.cell (p := ⟨w.heap.size, 2, none⟩) hbx).trans y2, (hd3.cell (p := ⟨w.heap.size, 3, none⟩) hbx).trans y3⟩ (fun hHeld => ?_)
          clear hK K
          (try simp only [List.getElem_toArray, List.getElem_cons_zero, List.getElem_cons_succ, Act.put, List.setIfInBounds_toArray, List.set_cons_zero, List.set_cons_succ])
          refine wpAnyH_ready (rs := [7]) (by kernel_rfl) (by simp) ?_
          refine (AllReadyH.cons rfl (fun K hK => ?_) AllReadyH.nil)
          simp only [List.getElem_toArray, List.getElem_cons_zero, List.getElem_cons_succ]
          rw [if_pos (by simp [Region.wanted])]
          refine wp_append_met (.tmp 24) (.tmp 26) rfl w13 w1.heap.size (.slice AV3 k cV3) (l.take k) [m] (by kernel_rfl) (by rw [HT.out]; exact ho3) (some ⟨w10.heap.size, 0, none⟩) 1 (by kernel_rfl) (metsAt_one hn3) (by rw [HT.out]; simp; omega) hd3.size ?_
          intro V4 w14 ho4 hg4 h54
          have hd4 : Below w1.heap.size w1 w14 := Below.grown hd3 hg4 hd3.size (fun j e => (ho3.lt j e).1)
          rw [HT1.out] at ho4
          obtain ⟨AV4, cV4, rfl⟩ := own_slice ho4
          clear h54 hg4
          refine hK.out _ _ ⟨(hd4.cell (p := ⟨w.heap.size, 0, none⟩) hbx).trans y0, (hd4.cell (p := ⟨w.heap.size, 1, none⟩) hbx).trans y1, (hd4.cell (p := ⟨w.heap.size, 2, none⟩) hbx).trans y2, (hd4.cell (p := ⟨w.heap.size, 3, none⟩) hbx).trans y3⟩ (fun hHeld => ?_)
          clear hK K
          (try simp only [List.getElem_toArray, List.getElem_cons_zero, List.getElem_cons_succ, Act.put, List.setIfInBounds_toArray, List.set_cons_zero, List.set_cons_succ])
          refine wpAnyH_ready (rs := [11]) (by kernel_rfl) (by simp) ?_
          refine (AllReadyH.cons rfl (fun K hK => ?_) AllReadyH.nil)
          simp only [List.getElem_toArray, List.getElem_cons_zero, List.getElem_cons_succ]
          rw [if_pos (by simp [Region.wanted])]
          refine wp_append_met (.tmp 27) (.tmp 30) rfl w14 w1.heap.size (.slice AV4 (k + 1) cV4) (l.take k ++ [m]) (l.drop k) (by kernel_rfl) (by rw [HT1.out]; exact ho4) _ (c - k) (by rw [HD.out]; kernel_rfl) (metsAt_drop2 HCW.out hd4) (by rw [HD.out, List.length_append, HT.out]; simp; omega) hd4.size ?_
          intro V5 w15 ho5 hg5 h55
          have hd5 : Below w1.heap.size w1 w15 := Below.grown hd4 hg5 hd4.size (fun j e => (ho4.lt j e).1)
          obtain ⟨AV5, cV5, rfl⟩ := own_slice ho5
          generalize hds : l.take k ++ [m] ++ l.drop k = ds at *
          clear hds
          clear h55 hg5
          refine hK.out _ _ ⟨(hd5.cell (p := ⟨w.heap.size, 0, none⟩) hbx).trans y0, (hd5.cell (p := ⟨w.heap.size, 1, none⟩) hbx).trans y1, (hd5.cell (p := ⟨w.heap.size, 2, none⟩) hbx).trans y2, (hd5.cell (p := ⟨w.heap.size, 3, none⟩) hbx).trans y3⟩ (fun hHeld => ?_)
          clear hK K
          (try simp only [List.getElem_toArray, List.getElem_cons_zero, List.getElem_cons_succ, Act.put, List.setIfInBounds_toArray, List.set_cons_zero, List.set_cons_succ])
          (refine wpAnyH_take (i := 12) (v := ?_) rfl (by kernel_rfl) (by kernel_rfl) (by kernel_rfl) (fun _ _ _ h => h) (Or.inl ⟨by kernel_rfl, fun w0 hSw => ?_⟩) hHeld ?_; rotate_left; (focus ((try dsimp only at hSw); simp only [List.getElem_toArray, List.getElem_cons_zero, List.getElem_cons_succ]; (first | (go_simp; done) | (go_simp; with_reducible rfl)))); (try simp only [List.getElem_toArray, List.getElem_cons_zero, List.getElem_cons_succ, Act.put, List.setIfInBounds_toArray, List.set_cons_zero, List.set_cons_succ]))
          refine wpAnyH_done (by kernel_rfl) ?_ _
          clear hHeld
          have HOF := Lib.hid ho5
          have HDF := Lib.hid hd5
          generalize w15 = wf at *
          go_wp2_with fail
          all_goals refine bodyPost_ret (by (simp [results, Tryz.results27, go_sem]; try rfl)) rfl ?_
          all_goals exact ⟨_, rfl, by rw [HIN.out]; exact own_base HOF.out (Nat.le_of_lt hbx), HB1.out.trans (HDF.out.mono (by omega))⟩
    · have hke : k = l.length := by omega
      have hkz : ¬ (k : Int) < (l.length : Int) := by omega
      have HIN := Lib.hid (show insL l m = (l.take k ++ [m]) ++ l.drop k by
        have h9 := HP.out
        rw [hke] at h9
        unfold insL
        rw [posL_last h9, hke])
      clear HP hke
      go_upto_region 2 with fail
      refine wp_region_held_drew (S := fun _ => True) (by kernel_rfl) trivial (fun hHeld => ?_)
      have yy : wq.drew.cell? ⟨w.heap.size, 0, none⟩ = some (.string m.n) ∧ wq.drew.cell? ⟨w.heap.size, 1, none⟩ = some (.int .i64 m.i) ∧ wq.drew.cell? ⟨w.heap.size, 2, none⟩ = some (.int .i64 m.a) ∧ wq.drew.cell? ⟨w.heap.size, 3, none⟩ = some (.int .i64 m.b) := ⟨y0, y1, y2, y3⟩
      have HBX : Hid (Below w.heap.size w wq.drew) := HB0.out.trans (HB.out.drew.mono HB0.out.size)
      have hbxx : w.heap.size < wq.drew.heap.size := hbq
      generalize wq.drew = w3 at *
      clear y0 y1 y2 y3
      (refine wpAnyH_take (i := 0) (v := ?_) rfl (by kernel_rfl) (by kernel_rfl) (by kernel_rfl) (fun _ _ _ h => h) (Or.inl ⟨by kernel_rfl, fun w0 hSw => ?_⟩) hHeld ?_; rotate_left; (focus ((try dsimp only at hSw); simp only [List.getElem_toArray, List.getElem_cons_zero, List.getElem_cons_succ]; (first | (go_simp; done) | (go_simp; with_reducible rfl)))); (try simp only [List.getElem_toArray, List.getElem_cons_zero, List.getElem_cons_succ, Act.put, List.setIfInBounds_toArray, List.set_cons_zero, List.set_cons_succ]))
      (refine wpAnyH_take (i := 1) (v := ?_) rfl (by kernel_rfl) (by kernel_rfl) (by kernel_rfl) (fun _ _ _ h => h) (Or.inl ⟨by kernel_rfl, fun w0 hSw => ?_⟩) hHeld ?_; rotate_left; (focus ((try dsimp only at hSw); simp only [List.getElem_toArray, List.getElem_cons_zero, List.getElem_cons_succ]; (first | (go_simp; done) | (go_simp; with_reducible rfl)))); (try simp only [List.getElem_toArray, List.getElem_cons_zero, List.getElem_cons_succ, Act.put, List.setIfInBounds_toArray, List.set_cons_zero, List.set_cons_succ]))
      (refine wpAnyH_take (i := 2) (v := ?_) rfl (by kernel_rfl) (by kernel_rfl) (by kernel_rfl) (fun _ _ _ h => h) (Or.inl ⟨by kernel_rfl, fun w0 hSw => ?_⟩) hHeld ?_; rotate_left; (focus ((try dsimp only at hSw); simp only [List.getElem_toArray, List.getElem_cons_zero, List.getElem_cons_succ]; (first | (go_simp; done) | (go_simp; with_reducible rfl)))); (try simp only [List.getElem_toArray, List.getElem_cons_zero, List.getElem_cons_succ, Act.put, List.setIfInBounds_toArray, List.set_cons_zero, List.set_cons_succ]))
      (refine wpAnyH_take (i := 3) (v := ?_) rfl (by kernel_rfl) (by kernel_rfl) (by kernel_rfl) (fun _ _ _ h => h) (Or.inl ⟨by kernel_rfl, fun w0 hSw => ?_⟩) hHeld ?_; rotate_left; (focus ((try dsimp only at hSw); simp only [List.getElem_toArray, List.getElem_cons_zero, List.getElem_cons_succ]; (first | (go_simp; done) | (go_simp; with_reducible rfl)))); (try simp only [List.getElem_toArray, List.getElem_cons_zero, List.getElem_cons_succ, Act.put, List.setIfInBounds_toArray, List.set_cons_zero, List.set_cons_succ]))
      (refine wpAnyH_take (i := 4) (v := ?_) rfl (by kernel_rfl) (by kernel_rfl) (by kernel_rfl) (fun _ _ _ h => h) (Or.inl ⟨by kernel_rfl, fun w0 hSw => ?_⟩) hHeld ?_; rotate_left; (focus ((try dsimp only at hSw); simp only [List.getElem_toArray, List.getElem_cons_zero, List.getElem_cons_succ]; (first | (go_simp; done) | (go_simp; with_reducible rfl)))); (try simp only [List.getElem_toArray, List.getElem_cons_zero, List.getElem_cons_succ, Act.put, List.setIfInBounds_toArray, List.set_cons_zero, List.set_cons_succ]))
      (refine wpAnyH_take (i := 5) rfl (by kernel_rfl) (by kernel_rfl) (by kernel_rfl) (fun _ _ _ h => h) (Or.inr ⟨by kernel_rfl, rfl⟩) hHeld ?_; (try simp only [List.getElem_toArray, List.getElem_cons_zero, List.getElem_cons_succ, Act.put, List.setIfInBounds_toArray, List.set_cons_zero, List.set_cons_succ]))
      (refine wpAnyH_take (i := 6) rfl (by kernel_rfl) (by kernel_rfl) (by kernel_rfl) (fun _ _ _ h => h) (Or.inr ⟨by kernel_rfl, rfl⟩) hHeld ?_; (try simp only [List.getElem_toArray, List.getElem_cons_zero, List.getElem_cons_succ, Act.put, List.setIfInBounds_toArray, List.set_cons_zero, List.set_cons_succ]))
      (refine wpAnyH_take (i := 7) rfl (by kernel_rfl) (by kernel_rfl) (by kernel_rfl) (fun _ _ _ h => h) (Or.inr ⟨by kernel_rfl, rfl⟩) hHeld ?_; (try simp only [List.getElem_toArray, List.getElem_cons_zero, List.getElem_cons_succ, Act.put, List.setIfInBounds_toArray, List.set_cons_zero, List.set_cons_succ]))
      (refine wpAnyH_take (i := 8) rfl (by kernel_rfl) (by kernel_rfl) (by kernel_rfl) (fun _ _ _ h => h) (Or.inr ⟨by kernel_rfl, rfl⟩) hHeld ?_; (try simp only [List.getElem_toArray, List.getElem_cons_zero, List.getElem_cons_succ, Act.put, List.setIfInBounds_toArray, List.set_cons_zero, List.set_cons_succ]))
      (refine wpAnyH_take (i := 9) rfl (by kernel_rfl) (by kernel_rfl) (by kernel_rfl) (fun _ _ _ h => h) (Or.inr ⟨by kernel_rfl, rfl⟩) hHeld ?_; (try simp only [List.getElem_toArray, List.getElem_cons_zero, List.getElem_cons_succ, Act.put, List.setIfInBounds_toArray, List.set_cons_zero, List.set_cons_succ]))
      (refine wpAnyH_take (i := 10) rfl (by kernel_rfl) (by kernel_rfl) (by kernel_rfl) (fun _ _ _ h => h) (Or.inr ⟨by kernel_rfl, rfl⟩) hHeld ?_; (try simp only [List.getElem_toArray, List.getElem_cons_zero, List.getElem_cons_succ, Act.put, List.setIfInBounds_toArray, List.set_cons_zero, List.set_cons_succ]))
      (refine wpAnyH_take (i := 11) (v := ?_) rfl (by kernel_rfl) (by kernel_rfl) (by kernel_rfl) (fun _ _ _ h => h) (Or.inl ⟨by kernel_rfl, fun w0 hSw => ?_⟩) hHeld ?_; rotate_left; (focus ((try dsimp only at hSw); simp only [List.getElem_toArray, List.getElem_cons_zero, List.getElem_cons_succ]; (first | (go_simp; done) | (go_simp; with_reducible rfl)))); (try simp only [List.getElem_toArray, List.getElem_cons_zero, List.getElem_cons_succ, Act.put, List.setIfInBounds_toArray, List.set_cons_zero, List.set_cons_succ]))
      refine wpAnyH_done (by kernel_rfl) ?_ _
      clear hHeld
      obtain ⟨w1, hw1⟩ : ∃ x, x = w3 := ⟨_, rfl⟩
      have HB1 := Lib.hid (show Below w.heap.size w w1 from hw1 ▸ HBX.out)
      have HCW := Lib.hid (HMA.out.base HB1.out HB1.out.size)
      have hbx : w.heap.size < w1.heap.size := by rw [hw1]; exact hbxx
      have y0 : w1.cell? ⟨w.heap.size, 0, none⟩ = some (.string m.n) := by rw [hw1]; exact yy.1
      have y1 : w1.cell? ⟨w.heap.size, 1, none⟩ = some (.int .i64 m.i) := by rw [hw1]; exact yy.2.1
      have y2 : w1.cell? ⟨w.heap.size, 2, none⟩ = some (.int .i64 m.a) := by rw [hw1]; exact yy.2.2.1
      have y3 : w1.cell? ⟨w.heap.size, 3, none⟩ = some (.int .i64 m.b) := by rw [hw1]; exact yy.2.2.2
      rw [← hw1]
      clear hw1 yy hbxx HBX
      have hic : (k : Int) ≤ (c : Int) := by omega
      have hil : (k : Int) ≤ (l.length : Int) := by omega
      have hi0 : (0 : Int) ≤ (k : Int) := by omega
      have HT := Lib.hid (show (l.take k).length = k by rw [List.length_take]; omega)
      have HT1 := Lib.hid (show (l.take k ++ [m]).length = k + 1 by rw [List.length_append, HT.out]; rfl)
      have HD := Lib.hid (show (l.drop k).length = l.length - k from List.length_drop)
      go_wp2_with fail
      have hd0 : Below w1.heap.size w1 w1.drew := Below.drew (Below.refl _ _)
      refine wp_region_held_drew (S := fun w' => w'.cell? ⟨w.heap.size, 0, none⟩ = some (.string m.n) ∧ w'.cell? ⟨w.heap.size, 1, none⟩ = some (.int .i64 m.i) ∧ w'.cell? ⟨w.heap.size, 2, none⟩ = some (.int .i64 m.a) ∧ w'.cell? ⟨w.heap.size, 3, none⟩ = some (.int .i64 m.b)) (by kernel_rfl) ⟨y0, y1, y2, y3⟩ (fun hHeld => ?_)
      generalize hX0 : w1.drew = w10 at *
      clear hX0
      (refine wpAnyH_take (i := 1) (v := ?_) rfl (by kernel_rfl) (by kernel_rfl) (by kernel_rfl) (fun _ _ _ h => h) (Or.inl ⟨by kernel_rfl, fun w0 hSw => ?_⟩) hHeld ?_; rotate_left; (focus ((try dsimp only at hSw); simp only [List.getElem_toArray, List.getElem_cons_zero, List.getElem_cons_succ]; (first | (go_simp; done) | (go_simp; with_reducible rfl)))); (try simp only [List.getElem_toArray, List.getElem_cons_zero, List.getElem_cons_succ, Act.put, List.setIfInBounds_toArray, List.set_cons_zero, List.set_cons_succ]))
      (refine wpAnyH_take (i := 2) (v := ?_) rfl (by kernel_rfl) (by kernel_rfl) (by kernel_rfl) (fun _ _ _ h => h) (Or.inl ⟨by kernel_rfl, fun w0 hSw => ?_⟩) hHeld ?_; rotate_left; (focus ((try dsimp only at hSw); simp only [List.getElem_toArray, List.getElem_cons_zero, List.getElem_cons_succ]; (first | (go_simp; done) | (go_simp; with_reducible rfl)))); (try simp only [List.getElem_toArray, List.getElem_cons_zero, List.getElem_cons_succ, Act.put, List.setIfInBounds_toArray, List.set_cons_zero, List.set_cons_succ]))
      (refine wpAnyH_take (i := 3) (v := ?_) rfl (by kernel_rfl) (by kernel_rfl) (by kernel_rfl) (fun _ _ _ h => h) (Or.inl ⟨by kernel_rfl, fun w0 hSw => ?_⟩) hHeld ?_; rotate_left; (focus ((try dsimp only at hSw); simp only [List.getElem_toArray, List.getElem_cons_zero, List.getElem_cons_succ]; (first | (go_simp; done) | (go_simp; with_reducible rfl)))); (try simp only [List.getElem_toArray, List.getElem_cons_zero, List.getElem_cons_succ, Act.put, List.setIfInBounds_toArray, List.set_cons_zero, List.set_cons_succ]))
      (refine wpAnyH_take (i := 5) (v := ?_) rfl (by kernel_rfl) (by kernel_rfl) (by kernel_rfl) (fun _ _ _ h => h) (Or.inl ⟨by kernel_rfl, fun w0 hSw => ?_⟩) hHeld ?_; rotate_left; (focus ((try dsimp only at hSw); simp only [List.getElem_toArray, List.getElem_cons_zero, List.getElem_cons_succ]; (first | (go_simp; done) | (go_simp; with_reducible rfl)))); (try simp only [List.getElem_toArray, List.getElem_cons_zero, List.getElem_cons_succ, Act.put, List.setIfInBounds_toArray, List.set_cons_zero, List.set_cons_succ]))
      (refine wpAnyH_take (i := 8) (v := ?_) rfl (by kernel_rfl) (by kernel_rfl) (by kernel_rfl) (fun _ _ _ h => h) (Or.inl ⟨by kernel_rfl, fun w0 hSw => ?_⟩) hHeld ?_; rotate_left; (focus ((try dsimp only at hSw); simp only [List.getElem_toArray, List.getElem_cons_zero, List.getElem_cons_succ]; (first | (go_simp; done) | (go_simp; with_reducible rfl)))); (try simp only [List.getElem_toArray, List.getElem_cons_zero, List.getElem_cons_succ, Act.put, List.setIfInBounds_toArray, List.set_cons_zero, List.set_cons_succ]))
      (refine wpAnyH_take (i := 9) (v := ?_) rfl (by kernel_rfl) (by kernel_rfl) (by kernel_rfl) (fun _ _ _ h => h) (Or.inl ⟨by kernel_rfl, fun w0 hSw => ?_⟩) hHeld ?_; rotate_left; (focus ((try dsimp only at hSw); simp only [List.getElem_toArray, List.getElem_cons_zero, List.getElem_cons_succ]; (first | (go_simp; done) | (go_simp; with_reducible rfl)))); (try simp only [List.getElem_toArray, List.getElem_cons_zero, List.getElem_cons_succ, Act.put, List.setIfInBounds_toArray, List.set_cons_zero, List.set_cons_succ]))
      (refine wpAnyH_take (i := 10) (v := ?_) rfl (by kernel_rfl) (by kernel_rfl) (by kernel_rfl) (fun _ _ _ h => h) (Or.inl ⟨by kernel_rfl, fun w0 hSw => ?_⟩) hHeld ?_; rotate_left; (focus ((try dsimp only at hSw); simp only [List.getElem_toArray, List.getElem_cons_zero, List.getElem_cons_succ]; (first | (go_simp; done) | (go_simp; with_reducible rfl)))); (try simp only [List.getElem_toArray, List.getElem_cons_zero, List.getElem_cons_succ, Act.put, List.setIfInBounds_toArray, List.set_cons_zero, List.set_cons_succ]))
      refine wpAnyH_ready (rs := [0, 6]) (by kernel_rfl) (by simp) ?_
      refine (AllReadyH.cons rfl (fun K hK => ?_) (AllReadyH.cons rfl (fun K hK => ?_) AllReadyH.nil))
      · simp only [List.getElem_toArray, List.getElem_cons_zero, List.getElem_cons_succ]
        go_simp
        have hd1 := hd0.alloc hd0.size (.cells #[] 37)
        have ho1 : (w10.alloc (.cells #[] 37)).ownsRow w1.heap.size 37 4 (.slice (some ⟨w10.heap.size, 0, none⟩) 0 0) ([] : List Met).length (metCells []) := World.ownsRow_lit (e := 37) (size := 4) w10 #[] 0 hd0.size (by simp [maxLen]) rfl
        refine hK.out _ _ ⟨(hd1.cell (p := ⟨w.heap.size, 0, none⟩) hbx).trans y0, (hd1.cell (p := ⟨w.heap.size, 1, none⟩) hbx).trans y1, (hd1.cell (p := ⟨w.heap.size, 2, none⟩) hbx).trans y2, (hd1.cell (p := ⟨w.heap.size, 3, none⟩) hbx).trans y3⟩ (fun hHeld => ?_)
        clear hK K
        (try simp only [List.getElem_toArray, List.getElem_cons_zero, List.getElem_cons_succ, Act.put, List.setIfInBounds_toArray, List.set_cons_zero, List.set_cons_succ])
        generalize hX1 : (w10.alloc (.cells #[] 37)) = w11 at *
        clear hX1
        refine wpAnyH_ready (rs := [4, 6]) (by kernel_rfl) (by simp) ?_
        refine (AllReadyH.cons rfl (fun K hK => ?_) (AllReadyH.cons rfl (fun K hK => ?_) AllReadyH.nil))
        · simp only [List.getElem_toArray, List.getElem_cons_zero, List.getElem_cons_succ]
          rw [if_pos (by simp [Region.wanted])]
          refine wp_append_met (.tmp 20) (.tmp 23) rfl w11 w1.heap.size (.slice (some ⟨w10.heap.size, 0, none⟩) 0 0) [] (l.take k) (by kernel_rfl) ho1 _ c (by rw [HT.out]; kernel_rfl) (metsAt_take HCW.out hd1 hk) (by rw [HT.out]; simp; omega) hd1.size ?_
          intro V2 w12 ho2 hg2 h52
          have hd2 : Below w1.heap.size w1 w12 := Below.grown hd1 hg2 hd1.size (fun j e => (ho1.lt j e).1)
          rw [List.nil_append, HT.out] at ho2
          obtain ⟨AV2, cV2, rfl⟩ := own_slice ho2
          clear h52 hg2
          refine hK.out _ _ ⟨(hd2.cell (p := ⟨w.heap.size, 0, none⟩) hbx).trans y0, (hd2.cell (p := ⟨w.heap.size, 1, none⟩) hbx).trans y1, (hd2.cell (p := ⟨w.heap.size, 2, none⟩) hbx).trans y2, (hd2.cell (p := ⟨w.heap.size, 3, none⟩) hbx).trans y3⟩ (fun hHeld => ?_)
          clear hK K
          (try simp only [List.getElem_toArray, List.getElem_cons_zero, List.getElem_cons_succ, Act.put, List.setIfInBounds_toArray, List.set_cons_zero, List.set_cons_succ])
          refine wpAnyH_ready (rs := [6]) (by kernel_rfl) (by simp) ?_
          refine (AllReadyH.cons rfl (fun K hK => ?_) AllReadyH.nil)
          simp only [List.getElem_toArray, List.getElem_cons_zero, List.getElem_cons_succ]
          go_simp
          have hd3 := hd2.alloc hd2.size (.cells #[.string m.n, .int .i64 m.i, .int .i64 m.a, .int .i64 m.b] 37)
          have ho3 := ho2.alloc (.cells #[.string m.n, .int .i64 m.i, .int .i64 m.a, .int .i64 m.b] 37)
          have hn3 : (w12.alloc (.cells #[.string m.n, .int .i64 m.i, .int .i64 m.a, .int .i64 m.b] 37)).heap[w12.heap.size]? = some (.cells (metVals m).toArray 37 (0, 0)) := heap_alloc_last _ _
          have hne3 := own_ne_lt ho2 (g := w12.heap.size) (.inr (Nat.le_refl _))
          refine hK.out _ _ ⟨(hd3.cell (p := ⟨w.heap.size, 0, none⟩) hbx).trans y0, (hd3.cell (p := ⟨w.heap.size, 1, none⟩) hbx).trans y1, (hd3.cell (p := ⟨w.heap.size, 2, none⟩) hbx).trans y2, (hd3.cell (p := ⟨w.heap.size, 3, none⟩) hbx).trans y3⟩ (fun hHeld => ?_)
          clear hK K
          (try simp only [List.getElem_toArray, List.getElem_cons_zero, List.getElem_cons_succ, Act.put, List.setIfInBounds_toArray, List.set_cons_zero, List.set_cons_succ])
          generalize hX3 : (w12.alloc (.cells #[.string m.n, .int .i64 m.i, .int .i64 m.a, .int .i64 m.b] 37)) = w13 at *
          clear hX3
          refine wpAnyH_ready (rs := [7]) (by kernel_rfl) (by simp) ?_
          refine (AllReadyH.cons rfl (fun K hK => ?_) AllReadyH.nil)
          simp only [List.getElem_toArray, List.getElem_cons_zero, List.getElem_cons_succ]
          rw [if_pos (by simp [Region.wanted])]
          refine wp_append_met (.tmp 24) (.tmp 26) rfl w13 w1.heap.size (.slice AV2 k cV2) (l.take k) [m] (by kernel_rfl) (by rw [HT.out]; exact ho3) (some ⟨w12.heap.size, 0, none⟩) 1 (by kernel_rfl) (metsAt_one hn3) (by rw [HT.out]; simp; omega) hd3.size ?_
          intro V4 w14 ho4 hg4 h54
          have hd4 : Below w1.heap.size w1 w14 := Below.grown hd3 hg4 hd3.size (fun j e => (ho3.lt j e).1)
          rw [HT1.out] at ho4
          obtain ⟨AV4, cV4, rfl⟩ := own_slice ho4
          clear h54 hg4
          refine hK.out _ _ ⟨(hd4.cell (p := ⟨w.heap.size, 0, none⟩) hbx).trans y0, (hd4.cell (p := ⟨w.heap.size, 1, none⟩) hbx).trans y1, (hd4.cell (p := ⟨w.heap.size, 2, none⟩) hbx).trans y2, (hd4.cell (p := ⟨w.heap.size, 3, none⟩) hbx).trans y3⟩ (fun hHeld => ?_)
          clear hK K
          (try simp only [List.getElem_toArray, List.getElem_cons_zero, List.getElem_cons_succ, Act.put, List.setIfInBounds_toArray, List.set_cons_zero, List.set_cons_succ])
          refine wpAnyH_ready (rs := [11]) (by kernel_rfl) (by simp) ?_
          refine (AllReadyH.cons rfl (fun K hK => ?_) AllReadyH.nil)
          simp only [List.getElem_toArray, List.getElem_cons_zero, List.getElem_cons_succ]
          rw [if_pos (by simp [Region.wanted])]
          refine wp_append_met (.tmp 27) (.tmp 30) rfl w14 w1.heap.size (.slice AV4 (k + 1) cV4) (l.take k ++ [m]) (l.drop k) (by kernel_rfl) (by rw [HT1.out]; exact ho4) _ (c - k) (by rw [HD.out]; kernel_rfl) (metsAt_drop HCW.out hd4) (by rw [HD.out, List.length_append, HT.out]; simp; omega) hd4.size ?_
          intro V5 w15 ho5 hg5 h55
          have hd5 : Below w1.heap.size w1 w15 := Below.grown hd4 hg5 hd4.size (fun j e => (ho4.lt j e).1)
          obtain ⟨AV5, cV5, rfl⟩ := own_slice ho5
          generalize hds : l.take k ++ [m] ++ l.drop k = ds at *
          clear hds
          clear h55 hg5
          refine hK.out _ _ ⟨(hd5.cell (p := ⟨w.heap.size, 0, none⟩) hbx).trans y0, (hd5.cell (p := ⟨w.heap.size, 1, none⟩) hbx).trans y1, (hd5.cell (p := ⟨w.heap.size, 2, none⟩) hbx).trans y2, (hd5.cell (p := ⟨w.heap.size, 3, none⟩) hbx).trans y3⟩ (fun hHeld => ?_)
          clear hK K
          (try simp only [List.getElem_toArray, List.getElem_cons_zero, List.getElem_cons_succ, Act.put, List.setIfInBounds_toArray, List.set_cons_zero, List.set_cons_succ])
          (refine wpAnyH_take (i := 12) (v := ?_) rfl (by kernel_rfl) (by kernel_rfl) (by kernel_rfl) (fun _ _ _ h => h) (Or.inl ⟨by kernel_rfl, fun w0 hSw => ?_⟩) hHeld ?_; rotate_left; (focus ((try dsimp only at hSw); simp only [List.getElem_toArray, List.getElem_cons_zero, List.getElem_cons_succ]; (first | (go_simp; done) | (go_simp; with_reducible rfl)))); (try simp only [List.getElem_toArray, List.getElem_cons_zero, List.getElem_cons_succ, Act.put, List.setIfInBounds_toArray, List.set_cons_zero, List.set_cons_succ]))
          refine wpAnyH_done (by kernel_rfl) ?_ _
          clear hHeld
          have HOF := Lib.hid ho5
          have HDF := Lib.hid hd5
          generalize w15 = wf at *
          go_wp2_with fail
          all_goals refine bodyPost_ret (by (simp [results, Tryz.results27, go_sem]; try rfl)) rfl ?_
          all_goals exact ⟨_, rfl, by rw [HIN.out]; exact own_base HOF.out (Nat.le_of_lt hbx), HB1.out.trans (HDF.out.mono (by omega))⟩
        · simp only [List.getElem_toArray, List.getElem_cons_zero, List.getElem_cons_succ]
          go_simp
          have hd2 := hd1.alloc hd1.size (.cells #[.string m.n, .int .i64 m.i, .int .i64 m.a, .int .i64 m.b] 37)
          have ho2 := ho1.alloc (.cells #[.string m.n, .int .i64 m.i, .int .i64 m.a, .int .i64 m.b] 37)
          have hn2 : (w11.alloc (.cells #[.string m.n, .int .i64 m.i, .int .i64 m.a, .int .i64 m.b] 37)).heap[w11.heap.size]? = some (.cells (metVals m).toArray 37 (0, 0)) := heap_alloc_last _ _
          have hne2 := own_ne_lt ho1 (g := w11.heap.size) (.inr (Nat.le_refl _))
          refine hK.out _ _ ⟨(hd2.cell (p := ⟨w.heap.size, 0, none⟩) hbx).trans y0, (hd2.cell (p := ⟨w.heap.size, 1, none⟩) hbx).trans y1, (hd2.cell (p := ⟨w.heap.size, 2, none⟩) hbx).trans y2, (hd2.cell (p := ⟨w.heap.size, 3, none⟩) hbx).trans y3⟩ (fun hHeld => ?_)
          clear hK K
          (try simp only [List.getElem_toArray, List.getElem_cons_zero, List.getElem_cons_succ, Act.put, List.setIfInBounds_toArray, List.set_cons_zero, List.set_cons_succ])
          generalize hX2 : (w11.alloc (.cells #[.string m.n, .int .i64 m.i, .int .i64 m.a, .int .i64 m.b] 37)) = w12 at *
          clear hX2
          refine wpAnyH_ready (rs := [4]) (by kernel_rfl) (by simp) ?_
          refine (AllReadyH.cons rfl (fun K hK => ?_) AllReadyH.nil)
          simp only [List.getElem_toArray, List.getElem_cons_zero, List.getElem_cons_succ]
          rw [if_pos (by simp [Region.wanted])]
          refine wp_append_met (.tmp 20) (.tmp 23) rfl w12 w1.heap.size (.slice (some ⟨w10.heap.size, 0, none⟩) 0 0) [] (l.take k) (by kernel_rfl) ho2 _ c (by rw [HT.out]; kernel_rfl) (metsAt_take HCW.out hd2 hk) (by rw [HT.out]; simp; omega) hd2.size ?_
          intro V3 w13 ho3 hg3 h53
          have hd3 : Below w1.heap.size w1 w13 := Below.grown hd2 hg3 hd2.size (fun j e => (ho2.lt j e).1)
          have hn3 := (hg3.block w11.heap.size (blk_lt hn2) (fun e => hne2 e.symm)).trans hn2
          have hne3 : V3.ownBlock ≠ some w11.heap.size := fun e => by have h1 := blk_lt hn2; rcases h53 with h | h; exact hne2 (h.symm.trans e); rw [h] at e; injection e; omega
          rw [List.nil_append, HT.out] at ho3
          obtain ⟨AV3, cV3, rfl⟩ := own_slice ho3
          clear h53 hg3
          refine hK.out _ _ ⟨(hd3.cell (p := ⟨w.heap.size, 0, none⟩) hbx).trans y0, (hd3.cell (p := ⟨w.heap.size, 1, none⟩) hbx).trans y1, (hd3.cell (p := ⟨w.heap.size, 2, none⟩) hbx).trans y2, (hd3.cell (p := ⟨w.heap.size, 3, none⟩) hbx).trans y3⟩ (fun hHeld => ?_)
          clear hK K
          (try simp only [List.getElem_toArray, List.getElem_cons_zero, List.getElem_cons_succ, Act.put, List.setIfInBounds_toArray, List.set_cons_zero, List.set_cons_succ])
          refine wpAnyH_ready (rs := [7]) (by kernel_rfl) (by simp) ?_
          refine (AllReadyH.cons rfl (fun K hK => ?_) AllReadyH.nil)
          simp only [List.getElem_toArray, List.getElem_cons_zero, List.getElem_cons_succ]
          rw [if_pos (by simp [Region.wanted])]
          refine wp_append_met (.tmp 24) (.tmp 26) rfl w13 w1.heap.size (.slice AV3 k cV3) (l.take k) [m] (by kernel_rfl) (by rw [HT.out]; exact ho3) (some ⟨w11.heap.size, 0, none⟩) 1 (by kernel_rfl) (metsAt_one hn3) (by rw [HT.out]; simp; omega) hd3.size ?_
          intro V4 w14 ho4 hg4 h54
          have hd4 : Below w1.heap.size w1 w14 := Below.grown hd3 hg4 hd3.size (fun j e => (ho3.lt j e).1)
          rw [HT1.out] at ho4
          obtain ⟨AV4, cV4, rfl⟩ := own_slice ho4
          clear h54 hg4
          refine hK.out _ _ ⟨(hd4.cell (p := ⟨w.heap.size, 0, none⟩) hbx).trans y0, (hd4.cell (p := ⟨w.heap.size, 1, none⟩) hbx).trans y1, (hd4.cell (p := ⟨w.heap.size, 2, none⟩) hbx).trans y2, (hd4.cell (p := ⟨w.heap.size, 3, none⟩) hbx).trans y3⟩ (fun hHeld => ?_)
          clear hK K
          (try simp only [List.getElem_toArray, List.getElem_cons_zero, List.getElem_cons_succ, Act.put, List.setIfInBounds_toArray, List.set_cons_zero, List.set_cons_succ])
          refine wpAnyH_ready (rs := [11]) (by kernel_rfl) (by simp) ?_
          refine (AllReadyH.cons rfl (fun K hK => ?_) AllReadyH.nil)
          simp only [List.getElem_toArray, List.getElem_cons_zero, List.getElem_cons_succ]
          rw [if_pos (by simp [Region.wanted])]
          refine wp_append_met (.tmp 27) (.tmp 30) rfl w14 w1.heap.size (.slice AV4 (k + 1) cV4) (l.take k ++ [m]) (l.drop k) (by kernel_rfl) (by rw [HT1.out]; exact ho4) _ (c - k) (by rw [HD.out]; kernel_rfl) (metsAt_drop HCW.out hd4) (by rw [HD.out, List.length_append, HT.out]; simp; omega) hd4.size ?_
          intro V5 w15 ho5 hg5 h55
          have hd5 : Below w1.heap.size w1 w15 := Below.grown hd4 hg5 hd4.size (fun j e => (ho4.lt j e).1)
          obtain ⟨AV5, cV5, rfl⟩ := own_slice ho5
          generalize hds : l.take k ++ [m] ++ l.drop k = ds at *
          clear hds
          clear h55 hg5
          refine hK.out _ _ ⟨(hd5.cell (p := ⟨w.heap.size, 0, none⟩) hbx).trans y0, (hd5.cell (p := ⟨w.heap.size, 1, none⟩) hbx).trans y1, (hd5.cell (p := ⟨w.heap.size, 2, none⟩) hbx).trans y2, (hd5.cell (p := ⟨w.heap.size, 3, none⟩) hbx).trans y3⟩ (fun hHeld => ?_)
          clear hK K
          (try simp only [List.getElem_toArray, List.getElem_cons_zero, List.getElem_cons_succ, Act.put, List.setIfInBounds_toArray, List.set_cons_zero, List.set_cons_succ])
          (refine wpAnyH_take (i := 12) (v := ?_) rfl (by kernel_rfl) (by kernel_rfl) (by kernel_rfl) (fun _ _ _ h => h) (Or.inl ⟨by kernel_rfl, fun w0 hSw => ?_⟩) hHeld ?_; rotate_left; (focus ((try dsimp only at hSw); simp only [List.getElem_toArray, List.getElem_cons_zero, List.getElem_cons_succ]; (first | (go_simp; done) | (go_simp; with_reducible rfl)))); (try simp only [List.getElem_toArray, List.getElem_cons_zero, List.getElem_cons_succ, Act.put, List.setIfInBounds_toArray, List.set_cons_zero, List.set_cons_succ]))
          refine wpAnyH_done (by kernel_rfl) ?_ _
          clear hHeld
          have HOF := Lib.hid ho5
          have HDF := Lib.hid hd5
          generalize w15 = wf at *
          go_wp2_with fail
          all_goals refine bodyPost_ret (by (simp [results, Tryz.results27, go_sem]; try rfl)) rfl ?_
          all_goals exact ⟨_, rfl, by rw [HIN.out]; exact own_base HOF.out (Nat.le_of_lt hbx), HB1.out.trans (HDF.out.mono (by omega))⟩
      · simp only [List.getElem_toArray, List.getElem_cons_zero, List.getElem_cons_succ]
        go_simp
        have hd1 := hd0.alloc hd0.size (.cells #[.string m.n, .int .i64 m.i, .int .i64 m.a, .int .i64 m.b] 37)
        have hn1 : (w10.alloc (.cells #[.string m.n, .int .i64 m.i, .int .i64 m.a, .int .i64 m.b] 37)).heap[w10.heap.size]? = some (.cells (metVals m).toArray 37 (0, 0)) := heap_alloc_last _ _
        refine hK.out _ _ ⟨(hd1.cell (p := ⟨w.heap.size, 0, none⟩) hbx).trans y0, (hd1.cell (p := ⟨w.heap.size, 1, none⟩) hbx).trans y1, (hd1.cell (p := ⟨w.heap.size, 2, none⟩) hbx).trans y2, (hd1.cell (p := ⟨w.heap.size, 3, none⟩) hbx).trans y3⟩ (fun hHeld => ?_)
        clear hK K
        (try simp only [List.getElem_toArray, List.getElem_cons_zero, List.getElem_cons_succ, Act.put, List.setIfInBounds_toArray, List.set_cons_zero, List.set_cons_succ])
        generalize hX1 : (w10.alloc (.cells #[.string m.n, .int .i64 m.i, .int .i64 m.a, .int .i64 m.b] 37)) = w11 at *
        clear hX1
        refine wpAnyH_ready (rs := [0]) (by kernel_rfl) (by simp) ?_
        refine (AllReadyH.cons rfl (fun K hK => ?_) AllReadyH.nil)
        simp only [List.getElem_toArray, List.getElem_cons_zero, List.getElem_cons_succ]
        go_simp
        have hd2 := hd1.alloc hd1.size (.cells #[] 37)
        have hn2 := (Below.heap_alloc _ (.cells #[] 37) _ (blk_lt hn1)).trans hn1
        have ho2 : (w11.alloc (.cells #[] 37)).ownsRow w1.heap.size 37 4 (.slice (some ⟨w11.heap.size, 0, none⟩) 0 0) ([] : List Met).length (metCells []) := World.ownsRow_lit (e := 37) (size := 4) w11 #[] 0 hd1.size (by simp [maxLen]) rfl
        have hne2 : (Value.slice (some ⟨w11.heap.size, 0, none⟩) 0 0).ownBlock ≠ some w10.heap.size := fun e => by have h1 := blk_lt hn1; have h2 : w11.heap.size = w10.heap.size := (by simpa [Value.ownBlock] using e); omega
        refine hK.out _ _ ⟨(hd2.cell (p := ⟨w.heap.size, 0, none⟩) hbx).trans y0, (hd2.cell (p := ⟨w.heap.size, 1, none⟩) hbx).trans y1, (hd2.cell (p := ⟨w.heap.size, 2, none⟩) hbx).trans y2, (hd2.cell (p := ⟨w.heap.size, 3, none⟩) hbx).trans y3⟩ (fun hHeld => ?_)
        clear hK K
        (try simp only [List.getElem_toArray, List.getElem_cons_zero, List.getElem_cons_succ, Act.put, List.setIfInBounds_toArray, List.set_cons_zero, List.set_cons_succ])
        generalize hX2 : (w11.alloc (.cells #[] 37)) = w12 at *
        clear hX2
        refine wpAnyH_ready (rs := [4]) (by kernel_rfl) (by simp) ?_
        refine (AllReadyH.cons rfl (fun K hK => ?_) AllReadyH.nil)
        simp only [List.getElem_toArray, List.getElem_cons_zero, List.getElem_cons_succ]
        rw [if_pos (by simp [Region.wanted])]
        refine wp_append_met (.tmp 20) (.tmp 23) rfl w12 w1.heap.size (.slice (some ⟨w11.heap.size, 0, none⟩) 0 0) [] (l.take k) (by kernel_rfl) ho2 _ c (by rw [HT.out]; kernel_rfl) (metsAt_take HCW.out hd2 hk) (by rw [HT.out]; simp; omega) hd2.size ?_
        intro V3 w13 ho3 hg3 h53
        have hd3 : Below w1.heap.size w1 w13 := Below.grown hd2 hg3 hd2.size (fun j e => (ho2.lt j e).1)
        have hn3 := (hg3.block w10.heap.size (blk_lt hn2) (fun e => hne2 e.symm)).trans hn2
        have hne3 : V3.ownBlock ≠ some w10.heap.size := fun e => by have h1 := blk_lt hn2; rcases h53 with h | h; exact hne2 (h.symm.trans e); rw [h] at e; injection e; omega
        rw [List.nil_append, HT.out] at ho3
        obtain ⟨AV3, cV3, rfl⟩ := own_slice ho3
        clear h53 hg3
        refine hK.out _ _ ⟨(hd3.cell (p := ⟨w.heap.size, 0, none⟩) hbx).trans y0, (hd3.cell (p := ⟨w.heap.size, 1, none⟩) hbx).trans y1, (hd3.cell (p := ⟨w.heap.size, 2, none⟩) hbx).trans y2, (hd3.cell (p := ⟨w.heap.size, 3, none⟩) hbx).trans y3⟩ (fun hHeld => ?_)
        clear hK K
        (try simp only [List.getElem_toArray, List.getElem_cons_zero, List.getElem_cons_succ, Act.put, List.setIfInBounds_toArray, List.set_cons_zero, List.set_cons_succ])
        refine wpAnyH_ready (rs := [7]) (by kernel_rfl) (by simp) ?_
        refine (AllReadyH.cons rfl (fun K hK => ?_) AllReadyH.nil)
        simp only [List.getElem_toArray, List.getElem_cons_zero, List.getElem_cons_succ]
        rw [if_pos (by simp [Region.wanted])]
        refine wp_append_met (.tmp 24) (.tmp 26) rfl w13 w1.heap.size (.slice AV3 k cV3) (l.take k) [m] (by kernel_rfl) (by rw [HT.out]; exact ho3) (some ⟨w10.heap.size, 0, none⟩) 1 (by kernel_rfl) (metsAt_one hn3) (by rw [HT.out]; simp; omega) hd3.size ?_
        intro V4 w14 ho4 hg4 h54
        have hd4 : Below w1.heap.size w1 w14 := Below.grown hd3 hg4 hd3.size (fun j e => (ho3.lt j e).1)
        rw [HT1.out] at ho4
        obtain ⟨AV4, cV4, rfl⟩ := own_slice ho4
        clear h54 hg4
        refine hK.out _ _ ⟨(hd4.cell (p := ⟨w.heap.size, 0, none⟩) hbx).trans y0, (hd4.cell (p := ⟨w.heap.size, 1, none⟩) hbx).trans y1, (hd4.cell (p := ⟨w.heap.size, 2, none⟩) hbx).trans y2, (hd4.cell (p := ⟨w.heap.size, 3, none⟩) hbx).trans y3⟩ (fun hHeld => ?_)
        clear hK K
        (try simp only [List.getElem_toArray, List.getElem_cons_zero, List.getElem_cons_succ, Act.put, List.setIfInBounds_toArray, List.set_cons_zero, List.set_cons_succ])
        refine wpAnyH_ready (rs := [11]) (by kernel_rfl) (by simp) ?_
        refine (AllReadyH.cons rfl (fun K hK => ?_) AllReadyH.nil)
        simp only [List.getElem_toArray, List.getElem_cons_zero, List.getElem_cons_succ]
        rw [if_pos (by simp [Region.wanted])]
        refine wp_append_met (.tmp 27) (.tmp 30) rfl w14 w1.heap.size (.slice AV4 (k + 1) cV4) (l.take k ++ [m]) (l.drop k) (by kernel_rfl) (by rw [HT1.out]; exact ho4) _ (c - k) (by rw [HD.out]; kernel_rfl) (metsAt_drop HCW.out hd4) (by rw [HD.out, List.length_append, HT.out]; simp; omega) hd4.size ?_
        intro V5 w15 ho5 hg5 h55
        have hd5 : Below w1.heap.size w1 w15 := Below.grown hd4 hg5 hd4.size (fun j e => (ho4.lt j e).1)
        obtain ⟨AV5, cV5, rfl⟩ := own_slice ho5
        generalize hds : l.take k ++ [m] ++ l.drop k = ds at *
        clear hds
        clear h55 hg5
        refine hK.out _ _ ⟨(hd5.cell (p := ⟨w.heap.size, 0, none⟩) hbx).trans y0, (hd5.cell (p := ⟨w.heap.size, 1, none⟩) hbx).trans y1, (hd5.cell (p := ⟨w.heap.size, 2, none⟩) hbx).trans y2, (hd5.cell (p := ⟨w.heap.size, 3, none⟩) hbx).trans y3⟩ (fun hHeld => ?_)
        clear hK K
        (try simp only [List.getElem_toArray, List.getElem_cons_zero, List.getElem_cons_succ, Act.put, List.setIfInBounds_toArray, List.set_cons_zero, List.set_cons_succ])
        (refine wpAnyH_take (i := 12) (v := ?_) rfl (by kernel_rfl) (by kernel_rfl) (by kernel_rfl) (fun _ _ _ h => h) (Or.inl ⟨by kernel_rfl, fun w0 hSw => ?_⟩) hHeld ?_; rotate_left; (focus ((try dsimp only at hSw); simp only [List.getElem_toArray, List.getElem_cons_zero, List.getElem_cons_succ]; (first | (go_simp; done) | (go_simp; with_reducible rfl)))); (try simp only [List.getElem_toArray, List.getElem_cons_zero, List.getElem_cons_succ, Act.put, List.setIfInBounds_toArray, List.set_cons_zero, List.set_cons_succ]))
        refine wpAnyH_done (by kernel_rfl) ?_ _
        clear hHeld
        have HOF := Lib.hid ho5
        have HDF := Lib.hid hd5
        generalize w15 = wf at *
        go_wp2_with fail
        all_goals refine bodyPost_ret (by (simp [results, Tryz.results27, go_sem]; try rfl)) rfl ?_
        all_goals exact ⟨_, rfl, by rw [HIN.out]; exact own_base HOF.out (Nat.le_of_lt hbx), HB1.out.trans (HDF.out.mono (by omega))⟩
end Go.Proofs.YtpcbccpobhdokaaGreatDoor
namespace Go.Proofs.YtpcbccpobhdokaaGreatDoor
open Go.RowKit
theorem mets_empty (w : World) (B : Nat) (X : Option Addr) : Mets w B (.slice X 0 0) [] := ⟨X, 0, rfl, by simp, by simp [maxLen], fun h => by simp at h⟩
theorem rmerge_post_bad {a b : List Met} {w w' : World} {e : Int} {X : Option Addr} (h : mergeE a b = e) (he : e ≠ 0) (hb : Below w.heap.size w w') : MergePost a b w (.returned (.tuple #[.slice X 0 0, .int .i64 e])) w' :=
  ⟨_, by rw [h], by rw [mergeL, if_neg (by rw [h]; exact he)]; exact mets_empty _ _ _, hb⟩
set_option maxHeartbeats 4000000 in
theorem rmerge_bad (a b : List Met) (V U : Value) (w : World) (ha : Mets w w.heap.size V a) (hb : Mets w w.heap.size U b) (hE : chkE a ≠ 0 ∨ chkE b ≠ 0) : Calls Tryz.prog 9 #[V, U] w (MergePost a b w) := by
  have HE1 := Lib.hid (show mergeE a b = 1 by rw [mergeE, if_pos hE])
  have HA := Lib.hid (rcheckM_any a V w ha)
  have HB := Lib.hid (fun (W : World) (h : Mets W W.heap.size U b) => rcheckM_any b U W h)
  have HM := Lib.hid hb
  generalize chkE a = ea at *
  generalize chkE b = eb at *
  clear ha hb
  by_cases h1 : ea = 0
  · subst h1
    have h2 : ¬ eb = 0 := by rcases hE with h | h; exact absurd rfl h; exact h
    clear hE
    go_enter Tryz.func9, Tryz.ntmps9
    go_wp2_with fail
    refine HA.out.mono ?_
    rintro e w1 ⟨rfl, hb1⟩
    have HBC := Lib.hid (HB.out w1 (HM.out.base hb1 hb1.size))
    go_wp2_with fail
    refine HBC.out.mono ?_
    rintro e w2 ⟨rfl, hb2⟩
    go_wp2_with fail
    refine bodyPost_ret (by (simp [results, Tryz.results9, go_sem, *]; try rfl)) rfl ?_
    have hb3 := hb1.trans (hb2.mono hb1.size)
    exact rmerge_post_bad HE1.out (by decide) (hb3.alloc hb3.size _)
  · clear hE
    go_enter Tryz.func9, Tryz.ntmps9
    go_wp2_with fail
    refine HA.out.mono ?_
    rintro e w1 ⟨rfl, hb1⟩
    go_wp2_with fail
    refine bodyPost_ret (by (simp [results, Tryz.results9, go_sem, *]; try rfl)) rfl ?_
    exact rmerge_post_bad HE1.out (by decide) (hb1.alloc hb1.size _)
set_option maxRecDepth 100000 in
set_option maxHeartbeats 8000000 in
theorem rmerge_ok (a b : List Met) (V U : Value) (w : World) (ha : Mets w w.heap.size V a) (hb : Mets w w.heap.size U b) (h1 : chkE a = 0) (h2 : chkE b = 0) : Calls Tryz.prog 9 #[V, U] w (MergePost a b w) := by
  have hla := chk_len h1
  have hlb := chk_len h2
  have HV := Lib.hid (show (∀ x ∈ a, ratE x.a x.b = 0) ∧ (∀ x ∈ b, ratE x.a x.b = 0) from ⟨fun x hx => (chk_all h1 x hx).2.2.2, fun x hx => (chk_all h2 x hx).2.2.2⟩)
  have HA := Lib.hid (rcheckM_any a V w ha)
  have HB := Lib.hid (fun (W : World) (h : Mets W W.heap.size U b) => rcheckM_any b U W h)
  rw [h1] at HA
  rw [h2] at HB
  have HE := Lib.hid (show mergeE a b = (match refM a b with | none => 5 | some l => if l.length > 1000 then 4 else 0) by rw [(refM_mrg a (chk_asc h1) _ b rfl (chk_asc h2)).1, mergeE, if_neg (by simp [h1, h2])]; cases mrg a b <;> rfl)
  have HQ := Lib.hid (refM_mrg a (chk_asc h1) _ b rfl (chk_asc h2)).1
  have HMA := Lib.hid ha
  have HMB := Lib.hid hb
  obtain ⟨A, ca, rfl, _, _, _⟩ := ha
  obtain ⟨A', cb, rfl, _, _, _⟩ := hb
  clear h1 h2
  go_enter Tryz.func9, Tryz.ntmps9
  go_wp2_with fail
  refine HA.out.mono ?_
  rintro e w1 ⟨rfl, hb1⟩
  have HBC := Lib.hid (HB.out w1 (HMB.out.base hb1 hb1.size))
  go_wp2_with fail
  refine HBC.out.mono ?_
  rintro e w2 ⟨rfl, hb2⟩
  have D2 := Lib.hid (hb1.trans (hb2.mono hb1.size))
  have HMA2 := Lib.hid (HMA.out.base D2.out D2.out.size)
  have HMB2 := Lib.hid (HMB.out.base D2.out D2.out.size)
  have DA := Lib.hid ((Below.refl w2.heap.size w2).alloc (Nat.le_refl _) (.cells #[] 37))
  have HO0 : Hid ((w2.alloc (.cells #[] 37)).ownsRow w2.heap.size 37 4 (.slice (some ⟨w2.heap.size, 0, none⟩) 0 0) ([] : List Met).length (metCells [])) := World.ownsRow_lit (e := 37) (size := 4) w2 #[] 0 (Nat.le_refl _) (by simp [maxLen]) rfl
  clear hb1 hb2 HBC HA HB HMA HMB
  go_wp2_with (at_builtin; refine app_mets rfl (.tmp 21) (.tmp 22) rfl (w2.alloc (.cells #[] 37)) w2.heap.size _ [] a ?q1 HO0.out A ca ?q2 (mets_at (HMA2.out.base DA.out DA.out.size)) (by simp; omega) DA.out.size ?_)
  case q1 => rfl
  case q2 => rfl
  intro v w3 ho hg _
  have HO1 : Hid (w3.ownsRow w2.heap.size 37 4 v a.length (metCells a)) := ho
  have D3 := Lib.hid (Below.grown DA.out hg DA.out.size (fun j e => (HO0.out.lt j e).1))
  clear ho hg HO0 DA HMA2
  have hmb := HMB2.out
  obtain ⟨A'', cb', e0, hm1, hm2, h3⟩ := hmb
  injection e0 with e1 e2 e3
  subst e1 e3
  have H3 := Lib.hid h3
  clear h3 HMB2 e2
  unfold maxLen at hm2
  go_wp2_with fail
  go_loopw [6, 7] (fun s6 s7 wr => ∃ (i : Nat) (l : List Met), i ≤ b.length ∧ s7 = .int .i64 i ∧ l.length ≤ a.length + i ∧ Hid (refM a (b.take i) = some l) ∧ Hid (wr.ownsRow w2.heap.size 37 4 s6 l.length (metCells l)) ∧ Hid (Below w2.heap.size w2 wr) ∧ Hid (∀ u ∈ l, ratE u.a u.b = 0)) (fun _ s7 _ => b.length - (intOf s7).toNat)
  case atStart => exact ⟨0, a, Nat.zero_le _, rfl, Nat.le_refl _, rfl, HO1.out, D3.out, HV.out.1⟩
  case round =>
    obtain ⟨i, l, hib, rfl, hll, HC, HO, HBo, HLV⟩ := hrel
    rename World => wo
    obtain ⟨A6, c6, rfl⟩ := own_slice HO.out
    clear HO1 D3
    by_cases hit : i < b.length
    · obtain ⟨B', o', rfl, hBl, hc⟩ := H3.out (by omega)
      have hy := hc i hit
      obtain ⟨y, hye⟩ : ∃ y, b.getD i mz = y := ⟨_, rfl⟩
      rw [hye] at hy
      have HYE := Lib.hid hye
      have HRY := Lib.hid (show ratE y.a y.b = 0 from HV.out.2 y (by rw [← hye]; simp [List.getD, hit]))
      have HY := Lib.hid hy
      have hiz : (i : Int) < (b.length : Int) := by omega
      clear hc hye hy
      go_wp2_with fail
      go_loopw [8, 9] (fun s8 s9 wr => ∃ (k : Nat) (p : List Met) (f : Bool), k ≤ l.length ∧ s9 = .int .i64 k ∧ s8 = .bool f ∧ Hid (Inner l y k p f) ∧ Hid (wr.ownsRow w2.heap.size 37 4 (.slice A6 l.length c6) l.length (metCells (p ++ l.drop k))) ∧ Hid (Below w2.heap.size w2 wr) ∧ Hid (∀ u ∈ p, ratE u.a u.b = 0)) (fun _ s9 _ => l.length - (intOf s9).toNat)
      case atStart => exact ⟨0, [], false, Nat.zero_le _, rfl, rfl, inner_start l y, HO.out, HBo.out, fun u hu => absurd hu (by simp)⟩
      case round =>
        obtain ⟨k, p, f, hkl, rfl, rfl, HI, HOK, HBq, HPV⟩ := hrel
        rename World => wq
        clear HO HBo
        have hbw : ∀ q v, w2.cell? ⟨B', q, none⟩ = some v → wq.cell? ⟨B', q, none⟩ = some v := fun q v h => (HBq.out.cell (p := ⟨B', q, none⟩) hBl).trans h
        have b0 := hbw _ _ HY.out.1
        have b1 := hbw _ _ HY.out.2.1
        have b2 := hbw _ _ HY.out.2.2.1
        have b3 := hbw _ _ HY.out.2.2.2
        have hBW : B' < wq.heap.size := Nat.lt_of_lt_of_le hBl HBq.out.size
        clear hbw
        by_cases hkt : k < l.length
        · obtain ⟨x, hxe⟩ : ∃ x, l.getD k mz = x := ⟨_, rfl⟩
          have HXE := Lib.hid hxe
          have hdr : l.drop k = x :: l.drop (k + 1) := by rw [drop_get l k hkt, hxe]
          have HPL := Lib.hid HI.out.1
          have hcl : (p ++ x :: l.drop (k + 1)).length = l.length := by
            rw [List.length_append, HPL.out, List.length_cons, List.length_drop]; omega
          have HRX := Lib.hid (show ratE x.a x.b = 0 from HLV.out x (by rw [← hxe]; simp [List.getD, hkt]))
          have hox : wq.ownsRow w2.heap.size 37 4 (.slice A6 l.length c6) l.length (metCells (p ++ x :: l.drop (k + 1))) := by rw [← hdr]; exact HOK.out
          obtain ⟨g, rfl, hgb, hgW, hfz, hcells⟩ := own_last (l := p ++ x :: l.drop (k + 1)) (by rw [hcl]; exact hox) (by rw [hcl]; omega)
          have hx := hcells k (by rw [hcl]; exact hkt)
          have hgx : (p ++ x :: l.drop (k + 1)).getD k mz = x := by
            rw [List.getD_eq_getElem?_getD, List.getElem?_append_right (by rw [HPL.out]; exact Nat.le_refl _), HPL.out, Nat.sub_self]; rfl
          rw [hgx, Nat.zero_add] at hx
          obtain ⟨y0, y1, y2, y3⟩ := hx
          have HOX := Lib.hid hox
          have hkz : (k : Int) < (l.length : Int) := by omega
          clear hxe hdr hcl hox hcells hgx HOK
          cases hn : (x.n.toList == y.n.toList) with
          | false =>
            have hi := hn
            have HN := Lib.hid (show Inner l y (k + 1) (p ++ [x]) f from by
              have h := inner_skip hkt HI.out (by rw [HXE.out]; simp [hitM, hn])
              rwa [HXE.out] at h)
            have HNV := Lib.hid (show ∀ u ∈ p ++ [x], ratE u.a u.b = 0 from fun u hu => by
              rcases List.mem_append.1 hu with h | h
              · exact HPV.out u h
              · obtain rfl := List.mem_singleton.1 h
                exact HRX.out)
            clear HI
            clear hi HXE
            go_upto_region 11 with fail
            go_quiet (fail)
            clear hn
            go_wp2_with fail
            go_roundw
            case rel => exact ⟨k + 1, p ++ [x], f, by omega, by go_num, by first | rfl | trivial, HN.out, by rw [List.append_assoc]; exact HOX.out, below_drewN HBq.out _, HNV.out⟩
            case measure => simp [intOf]; omega
          | true =>
            cases hi : (x.i == y.i) with
            | false =>
              have HN := Lib.hid (show Inner l y (k + 1) (p ++ [x]) f from by
                have h := inner_skip hkt HI.out (by rw [HXE.out]; simp [hitM, hn, hi])
                rwa [HXE.out] at h)
              have HNV := Lib.hid (show ∀ u ∈ p ++ [x], ratE u.a u.b = 0 from fun u hu => by
                rcases List.mem_append.1 hu with h | h
                · exact HPV.out u h
                · obtain rfl := List.mem_singleton.1 h
                  exact HRX.out)
              clear HI
              clear HXE
              go_upto_region 11 with fail
              go_quiet (fail)
              clear hn hi
              go_wp2_with fail
              go_roundw
              case rel => exact ⟨k + 1, p ++ [x], f, by omega, by go_num, by first | rfl | trivial, HN.out, by rw [List.append_assoc]; exact HOX.out, below_drewN HBq.out _, HNV.out⟩
              case measure => simp [intOf]; omega
            | true =>
              have HHIT := Lib.hid (show ∀ z, addM x y = some z → Inner l y (k + 1) (p ++ [z]) true from fun z hz => by
                refine inner_hit hkt HI.out ?_ ?_
                · rw [HXE.out]; simp [hitM, hn, hi]
                · rw [HXE.out]; exact hz)
              have HBAD := Lib.hid (show addM x y = none → refS l y = none from fun hz => by
                refine inner_bad hkt HI.out ?_ ?_
                · rw [HXE.out]; simp [hitM, hn, hi]
                · rw [HXE.out]; exact hz)
              have hHXY := And.intro HRX.out HRY.out
              obtain ⟨vx, vy, ee, hres, HRES⟩ : ∃ (vx vy ee : Int), resR (addR x.a x.b y.a y.b) = .tuple #[.agg #[.int .i64 vx, .int .i64 vy], .int .i64 ee] ∧ Hid ((ee = 0 ∧ addR x.a x.b y.a y.b = some (vx, vy)) ∨ (ee = 5 ∧ addR x.a x.b y.a y.b = none)) := by
                cases hR : addR x.a x.b y.a y.b with
                | none => exact ⟨0, 0, 5, rfl, .inr ⟨rfl, rfl⟩⟩
                | some r => exact ⟨r.1, r.2, 0, rfl, .inl ⟨rfl, rfl⟩⟩
              have HAD := Lib.hid (fun (W : World) => fadd_any x.a x.b y.a y.b hHXY.1 hHXY.2 W)
              rw [hres] at HAD
              clear hres hHXY HI
              clear HXE
              go_upto_region 11 with fail
              go_quiet (fail)
              have HO5 : Hid ((wq.drewN nq).ownsRow w2.heap.size 37 4 (.slice (some ⟨g, 0, none⟩) l.length c6) l.length (metCells (p ++ x :: l.drop (k + 1)))) := HOX.out
              have HB5 : Hid (Below w2.heap.size w2 (wq.drewN nq)) := below_drewN HBq.out nq
              have k2 : (wq.drewN nq).cell? ⟨g, k * 4 + 2, none⟩ = some (.int .i64 x.a) := y2
              have k3 : (wq.drewN nq).cell? ⟨g, k * 4 + 2 + 1, none⟩ = some (.int .i64 x.b) := y3
              have l2 : (wq.drewN nq).cell? ⟨B', o' + i * 4 + 2, none⟩ = some (.int .i64 y.a) := b2
              have l3 : (wq.drewN nq).cell? ⟨B', o' + i * 4 + 2 + 1, none⟩ = some (.int .i64 y.b) := b3
              have fz5 : ∀ o, (wq.drewN nq).frozen? ⟨g, o, none⟩ = false := hfz
              have hgW5 : g < (wq.drewN nq).heap.size := hgW
              have hlt5 : B' < (wq.drewN nq).heap.size := hBW
              have hWz : w2.heap.size ≤ (wq.drewN nq).heap.size := HBq.out.size
              clear y0 y1 y2 y3 b0 b1 b2 b3 hfz hgW hBW HOX HBq hn hi
              generalize wq.drewN nq = w5 at *
              go_upto_region 12 with fail
              refine wp_region_held_drew (S := fun w' => w'.cell? ⟨g, k * 4 + 2, none⟩ = some (.int .i64 x.a) ∧ w'.cell? ⟨g, k * 4 + 2 + 1, none⟩ = some (.int .i64 x.b) ∧ w'.cell? ⟨B', o' + i * 4 + 2, none⟩ = some (.int .i64 y.a) ∧ w'.cell? ⟨B', o' + i * 4 + 2 + 1, none⟩ = some (.int .i64 y.b)) (by kernel_rfl) ⟨k2, k3, l2, l3⟩ (fun hHeld => ?_)
              (refine wpAnyH_take (i := 0) (v := ?_) rfl (by kernel_rfl) (by kernel_rfl) (by kernel_rfl) (fun _ _ _ h => h) (Or.inl ⟨by kernel_rfl, fun w0 hSw => ?_⟩) hHeld ?_; rotate_left; (focus ((try dsimp only at hSw); simp only [List.getElem_toArray, List.getElem_cons_zero, List.getElem_cons_succ]; (first | (go_simp; done) | (go_simp; with_reducible rfl)))); (try simp only [List.getElem_toArray, List.getElem_cons_zero, List.getElem_cons_succ, Act.put, List.setIfInBounds_toArray, List.set_cons_zero, List.set_cons_succ]))
              (refine wpAnyH_take (i := 1) (v := ?_) rfl (by kernel_rfl) (by kernel_rfl) (by kernel_rfl) (fun _ _ _ h => h) (Or.inl ⟨by kernel_rfl, fun w0 hSw => ?_⟩) hHeld ?_; rotate_left; (focus ((try dsimp only at hSw); simp only [List.getElem_toArray, List.getElem_cons_zero, List.getElem_cons_succ]; (first | (go_simp; done) | (go_simp; with_reducible rfl)))); (try simp only [List.getElem_toArray, List.getElem_cons_zero, List.getElem_cons_succ, Act.put, List.setIfInBounds_toArray, List.set_cons_zero, List.set_cons_succ]))
              (refine wpAnyH_take (i := 2) (v := ?_) rfl (by kernel_rfl) (by kernel_rfl) (by kernel_rfl) (fun _ _ _ h => h) (Or.inl ⟨by kernel_rfl, fun w0 hSw => ?_⟩) hHeld ?_; rotate_left; (focus ((try dsimp only at hSw); simp only [List.getElem_toArray, List.getElem_cons_zero, List.getElem_cons_succ]; (first | (go_simp; done) | (go_simp; with_reducible rfl)))); (try simp only [List.getElem_toArray, List.getElem_cons_zero, List.getElem_cons_succ, Act.put, List.setIfInBounds_toArray, List.set_cons_zero, List.set_cons_succ]))
              (refine wpAnyH_take (i := 3) (v := ?_) rfl (by kernel_rfl) (by kernel_rfl) (by kernel_rfl) (fun _ _ _ h => h) (Or.inl ⟨by kernel_rfl, fun w0 hSw => ?_⟩) hHeld ?_; rotate_left; (focus ((try dsimp only at hSw); simp only [List.getElem_toArray, List.getElem_cons_zero, List.getElem_cons_succ]; (first | (go_simp; done) | (go_simp; with_reducible rfl)))); (try simp only [List.getElem_toArray, List.getElem_cons_zero, List.getElem_cons_succ, Act.put, List.setIfInBounds_toArray, List.set_cons_zero, List.set_cons_succ]))
              (refine wpAnyH_take (i := 4) (v := ?_) rfl (by kernel_rfl) (by kernel_rfl) (by kernel_rfl) (fun _ _ _ h => h) (Or.inl ⟨by kernel_rfl, fun w0 hSw => ?_⟩) hHeld ?_; rotate_left; (focus ((try dsimp only at hSw); simp only [List.getElem_toArray, List.getElem_cons_zero, List.getElem_cons_succ]; (first | (go_simp; done) | (go_simp; with_reducible rfl)))); (try simp only [List.getElem_toArray, List.getElem_cons_zero, List.getElem_cons_succ, Act.put, List.setIfInBounds_toArray, List.set_cons_zero, List.set_cons_succ]))
              (refine wpAnyH_take (i := 5) (v := ?_) rfl (by kernel_rfl) (by kernel_rfl) (by kernel_rfl) (fun _ _ _ h => h) (Or.inl ⟨by kernel_rfl, fun w0 hSw => ?_⟩) hHeld ?_; rotate_left; (focus ((try dsimp only at hSw); simp only [List.getElem_toArray, List.getElem_cons_zero, List.getElem_cons_succ]; (first | (go_simp; done) | (go_simp; with_reducible rfl)))); (try simp only [List.getElem_toArray, List.getElem_cons_zero, List.getElem_cons_succ, Act.put, List.setIfInBounds_toArray, List.set_cons_zero, List.set_cons_succ]))
              (refine wpAnyH_take (i := 6) (v := ?_) rfl (by kernel_rfl) (by kernel_rfl) (by kernel_rfl) (fun _ _ _ h => h) (Or.inl ⟨by kernel_rfl, fun w0 hSw => ?_⟩) hHeld ?_; rotate_left; (focus ((try dsimp only at hSw); simp only [List.getElem_toArray, List.getElem_cons_zero, List.getElem_cons_succ]; (first | (go_simp; done) | (go_simp; with_reducible rfl)))); (try simp only [List.getElem_toArray, List.getElem_cons_zero, List.getElem_cons_succ, Act.put, List.setIfInBounds_toArray, List.set_cons_zero, List.set_cons_succ]))
              (refine wpAnyH_take (i := 7) (v := ?_) rfl (by kernel_rfl) (by kernel_rfl) (by kernel_rfl) (fun _ _ _ h => h) (Or.inl ⟨by kernel_rfl, fun w0 hSw => ?_⟩) hHeld ?_; rotate_left; (focus ((try dsimp only at hSw); simp only [List.getElem_toArray, List.getElem_cons_zero, List.getElem_cons_succ]; (first | (go_simp; done) | (go_simp; with_reducible rfl)))); (try simp only [List.getElem_toArray, List.getElem_cons_zero, List.getElem_cons_succ, Act.put, List.setIfInBounds_toArray, List.set_cons_zero, List.set_cons_succ]))
              (refine wpAnyH_take (i := 8) (v := ?_) rfl (by kernel_rfl) (by kernel_rfl) (by kernel_rfl) (fun _ _ _ h => h) (Or.inl ⟨by kernel_rfl, fun w0 hSw => ?_⟩) hHeld ?_; rotate_left; (focus ((try dsimp only at hSw); simp only [List.getElem_toArray, List.getElem_cons_zero, List.getElem_cons_succ]; (first | (go_simp; done) | (go_simp; with_reducible rfl)))); (try simp only [List.getElem_toArray, List.getElem_cons_zero, List.getElem_cons_succ, Act.put, List.setIfInBounds_toArray, List.set_cons_zero, List.set_cons_succ]))
              (refine wpAnyH_take (i := 9) (v := ?_) rfl (by kernel_rfl) (by kernel_rfl) (by kernel_rfl) (fun _ _ _ h => h) (Or.inl ⟨by kernel_rfl, fun w0 hSw => ?_⟩) hHeld ?_; rotate_left; (focus ((try dsimp only at hSw); simp only [List.getElem_toArray, List.getElem_cons_zero, List.getElem_cons_succ]; (first | (go_simp; done) | (go_simp; with_reducible rfl)))); (try simp only [List.getElem_toArray, List.getElem_cons_zero, List.getElem_cons_succ, Act.put, List.setIfInBounds_toArray, List.set_cons_zero, List.set_cons_succ]))
              refine wpAnyH_ready (rs := [10, 14]) (by kernel_rfl) (by simp) ?_
              refine AllReadyH.cons rfl (fun K hK => ?_) (AllReadyH.cons rfl (fun K hK => ?_) AllReadyH.nil)
              · simp only [List.getElem_toArray, List.getElem_cons_zero, List.getElem_cons_succ]
                go_simp
                refine (HAD.out _).mono ?_
                rintro e w6 ⟨rfl, hb6⟩
                have p2 := (hb6.cell (p := ⟨g, k * 4 + 2, none⟩) hgW5).trans k2
                have p3 := (hb6.cell (p := ⟨g, k * 4 + 2 + 1, none⟩) hgW5).trans k3
                have q2 := (hb6.cell (p := ⟨B', o' + i * 4 + 2, none⟩) hlt5).trans l2
                have q3 := (hb6.cell (p := ⟨B', o' + i * 4 + 2 + 1, none⟩) hlt5).trans l3
                have hb6' : Below w5.heap.size w5 w6 := (Below.refl _ w5).drew.trans hb6
                refine hK.out _ _ ⟨p2, p3, q2, q3⟩ (fun hHeld => ?_)
                clear hK K
                (try simp only [List.getElem_toArray, List.getElem_cons_zero, List.getElem_cons_succ, Act.put, List.setIfInBounds_toArray, List.set_cons_zero, List.set_cons_succ])
                (refine wpAnyH_take (i := 11) (v := ?_) rfl (by kernel_rfl) (by kernel_rfl) (by kernel_rfl) (fun _ _ _ h => h) (Or.inl ⟨by kernel_rfl, fun w0 hSw => ?_⟩) hHeld ?_; rotate_left; (focus ((try dsimp only at hSw); simp only [List.getElem_toArray, List.getElem_cons_zero, List.getElem_cons_succ]; (first | (go_simp; done) | (go_simp; with_reducible rfl)))); (try simp only [List.getElem_toArray, List.getElem_cons_zero, List.getElem_cons_succ, Act.put, List.setIfInBounds_toArray, List.set_cons_zero, List.set_cons_succ]))
                (refine wpAnyH_take (i := 12) (v := ?_) rfl (by kernel_rfl) (by kernel_rfl) (by kernel_rfl) (fun _ _ _ h => h) (Or.inl ⟨by kernel_rfl, fun w0 hSw => ?_⟩) hHeld ?_; rotate_left; (focus ((try dsimp only at hSw); simp only [List.getElem_toArray, List.getElem_cons_zero, List.getElem_cons_succ]; (first | (go_simp; done) | (go_simp; with_reducible rfl)))); (try simp only [List.getElem_toArray, List.getElem_cons_zero, List.getElem_cons_succ, Act.put, List.setIfInBounds_toArray, List.set_cons_zero, List.set_cons_succ]))
                (refine wpAnyH_take (i := 13) (v := ?_) rfl (by kernel_rfl) (by kernel_rfl) (by kernel_rfl) (fun _ _ _ h => h) (Or.inl ⟨by kernel_rfl, fun w0 hSw => ?_⟩) hHeld ?_; rotate_left; (focus ((try dsimp only at hSw); simp only [List.getElem_toArray, List.getElem_cons_zero, List.getElem_cons_succ]; (first | (go_simp; done) | (go_simp; with_reducible rfl)))); (try simp only [List.getElem_toArray, List.getElem_cons_zero, List.getElem_cons_succ, Act.put, List.setIfInBounds_toArray, List.set_cons_zero, List.set_cons_succ]))
                refine wpAnyH_ready (rs := [14]) (by kernel_rfl) (by simp) ?_
                refine AllReadyH.cons rfl (fun K hK => ?_) AllReadyH.nil
                simp only [List.getElem_toArray, List.getElem_cons_zero, List.getElem_cons_succ]
                go_simp
                refine hK.out _ _ ⟨cal p2, cal p3, cal q2, cal q3⟩ (fun hHeld => ?_)
                clear hK K
                (try simp only [List.getElem_toArray, List.getElem_cons_zero, List.getElem_cons_succ, Act.put, List.setIfInBounds_toArray, List.set_cons_zero, List.set_cons_succ])
                refine wpAnyH_ready (rs := [15]) (by kernel_rfl) (by simp) ?_
                refine AllReadyH.cons rfl (fun K hK => ?_) AllReadyH.nil
                simp only [List.getElem_toArray, List.getElem_cons_zero, List.getElem_cons_succ]
                go_simp
                refine hK.out _ _ ⟨cal p2, cal p3, cal q2, cal q3⟩ (fun hHeld => ?_)
                clear hK K
                (try simp only [List.getElem_toArray, List.getElem_cons_zero, List.getElem_cons_succ, Act.put, List.setIfInBounds_toArray, List.set_cons_zero, List.set_cons_succ])
                (refine wpAnyH_take (i := 16) (v := ?_) rfl (by kernel_rfl) (by kernel_rfl) (by kernel_rfl) (fun _ _ _ h => h) (Or.inl ⟨by kernel_rfl, fun w0 hSw => ?_⟩) hHeld ?_; rotate_left; (focus ((try dsimp only at hSw); simp only [List.getElem_toArray, List.getElem_cons_zero, List.getElem_cons_succ]; (first | (go_simp; done) | (go_simp; with_reducible rfl)))); (try simp only [List.getElem_toArray, List.getElem_cons_zero, List.getElem_cons_succ, Act.put, List.setIfInBounds_toArray, List.set_cons_zero, List.set_cons_succ]))
                refine wpAnyH_done (by kernel_rfl) ?_ _
                clear hHeld
                have d0 : (w6.alloc (.cells #[.int .i64 vx, .int .i64 vy] 30)).cell? ⟨w6.heap.size, 0, none⟩ = some (.int .i64 vx) := cell_of_row _ _ 0 _ _ _ (heap_alloc_last _ _)
                have d1 : (w6.alloc (.cells #[.int .i64 vx, .int .i64 vy] 30)).cell? ⟨w6.heap.size, 1, none⟩ = some (.int .i64 vy) := cell_of_row _ _ 1 _ _ _ (heap_alloc_last _ _)
                have hb6a : Below w5.heap.size w5 (w6.alloc (.cells #[.int .i64 vx, .int .i64 vy] 30)) := hb6'.alloc hb6'.size _
                have p2f : (w6.alloc (.cells #[.int .i64 vx, .int .i64 vy] 30)).cell? ⟨g, k * 4 + 2, none⟩ = some (.int .i64 x.a) := cal p2
                have p3f : (w6.alloc (.cells #[.int .i64 vx, .int .i64 vy] 30)).cell? ⟨g, k * 4 + 2 + 1, none⟩ = some (.int .i64 x.b) := cal p3
                have HOF : Hid ((w6.alloc (.cells #[.int .i64 vx, .int .i64 vy] 30)).ownsRow w2.heap.size 37 4 (.slice (some ⟨g, 0, none⟩) l.length c6) l.length (metCells (p ++ x :: l.drop (k + 1)))) := own_below HO5.out hb6a
                have HBF : Hid (Below w2.heap.size w2 (w6.alloc (.cells #[.int .i64 vx, .int .i64 vy] 30))) := HB5.out.trans (hb6a.mono hWz)
                have fzf : ∀ o, (w6.alloc (.cells #[.int .i64 vx, .int .i64 vy] 30)).frozen? ⟨g, o, none⟩ = false := fun o => (hb6a.frozen (p := ⟨g, o, none⟩) hgW5).trans (fz5 o)
                have hzf : w5.heap.size ≤ (w6.alloc (.cells #[.int .i64 vx, .int .i64 vy] 30)).heap.size := hb6a.size
                clear p2 p3 q2 q3 hb6 hb6' hb6a HO5 HB5 k2 k3 l2 l3 fz5 hWz
                generalize hWf : w6.alloc (.cells #[.int .i64 vx, .int .i64 vy] 30) = wf at *
                clear hWf
                have hgf : g < wf.heap.size := Nat.lt_of_lt_of_le hgW5 hzf
                rcases HRES.out with ⟨rfl, hR⟩ | ⟨rfl, hR⟩
                · have HN := Lib.hid (show Inner l y (k + 1) (p ++ [(⟨x.n, x.i, vx, vy⟩ : Met)]) true ∧ ∀ u ∈ p ++ [(⟨x.n, x.i, vx, vy⟩ : Met)], ratE u.a u.b = 0 from by
                    have hz : addM x y = some (⟨x.n, x.i, vx, vy⟩ : Met) := by unfold addM; rw [hR]; rfl
                    refine ⟨HHIT.out _ hz, fun u hu => ?_⟩
                    rcases List.mem_append.1 hu with h | h
                    · exact HPV.out u h
                    · obtain rfl := List.mem_singleton.1 h
                      exact addM_ok HRX.out HRY.out hz)
                  have HOZ := Lib.hid (own_put_mid (vx := vx) (vy := vy) HPL.out HOF.out)
                  have HBZ := Lib.hid ((HBF.out.setCell (p := ⟨g, k * 4 + 2, none⟩) hgb (.int .i64 vx)).setCell (p := ⟨g, k * 4 + 2 + 1, none⟩) hgb (.int .i64 vy))
                  have z0 := fzf (k * 4 + 2)
                  have z1 := fzf (k * 4 + 2 + 1)
                  clear hR HRES fzf HHIT HBAD
                  go_wp2_with fail
                  go_roundw
                  case rel => exact ⟨k + 1, p ++ [(⟨x.n, x.i, vx, vy⟩ : Met)], true, by omega, by go_num, rfl, HN.out.1, by rw [List.append_assoc]; exact HOZ.out, HBZ.out, HN.out.2⟩
                  case measure => simp [intOf]; omega
                · have HML := Lib.hid (show mergeE a b = 5 by
                    have hz : addM x y = none := by unfold addM; rw [hR]; rfl
                    have h1 := HBAD.out hz
                    have h2 : refM a (b.take (i + 1)) = none := by rw [refM_take hit, HC.out]; show refS l (b.getD i mz) = none; rw [HYE.out]; exact h1
                    rw [HE.out, refM_none (i + 1) a h2])
                  clear hR
                  go_wp2_with fail
                  refine bodyPost_ret (by (simp [results, Tryz.results9, go_sem, *]; try rfl)) rfl ?_
                  exact rmerge_post_bad HML.out (by decide) (D2.out.trans ((HBF.out.alloc HBF.out.size _).mono D2.out.size))
              · simp only [List.getElem_toArray, List.getElem_cons_zero, List.getElem_cons_succ]
                go_simp
                refine hK.out _ _ ⟨cal (w := w5.drew) k2, cal (w := w5.drew) k3, cal (w := w5.drew) l2, cal (w := w5.drew) l3⟩ (fun hHeld => ?_)
                clear hK K
                (try simp only [List.getElem_toArray, List.getElem_cons_zero, List.getElem_cons_succ, Act.put, List.setIfInBounds_toArray, List.set_cons_zero, List.set_cons_succ])
                refine wpAnyH_ready (rs := [10]) (by kernel_rfl) (by simp) ?_
                refine AllReadyH.cons rfl (fun K hK => ?_) AllReadyH.nil
                simp only [List.getElem_toArray, List.getElem_cons_zero, List.getElem_cons_succ]
                go_simp
                refine (HAD.out _).mono ?_
                rintro e w6 ⟨rfl, hb6⟩
                have hb6' : Below w5.heap.size w5 w6 := ((Below.refl _ w5).drew.alloc (Nat.le_refl _) _).trans (hb6.mono (by show w5.heap.size ≤ _; simp))
                have p2 := (hb6'.cell (p := ⟨g, k * 4 + 2, none⟩) hgW5).trans k2
                have p3 := (hb6'.cell (p := ⟨g, k * 4 + 2 + 1, none⟩) hgW5).trans k3
                have q2 := (hb6'.cell (p := ⟨B', o' + i * 4 + 2, none⟩) hlt5).trans l2
                have q3 := (hb6'.cell (p := ⟨B', o' + i * 4 + 2 + 1, none⟩) hlt5).trans l3
                have e0 : w6.cell? ⟨w5.heap.size, 0, none⟩ = some (.int .i64 0) := (hb6.cell (p := ⟨w5.heap.size, 0, none⟩) (by simp)).trans (c_box w5.drew 0).1
                have e1 : w6.cell? ⟨w5.heap.size, 1, none⟩ = some (.int .i64 0) := (hb6.cell (p := ⟨w5.heap.size, 1, none⟩) (by simp)).trans (c_box w5.drew 0).2
                have ez0 : w6.frozen? ⟨w5.heap.size, 0, none⟩ = false := (hb6.frozen (p := ⟨w5.heap.size, 0, none⟩) (by simp)).trans (f_box w5.drew 0)
                have ez1 : w6.frozen? ⟨w5.heap.size, 1, none⟩ = false := (hb6.frozen (p := ⟨w5.heap.size, 1, none⟩) (by simp)).trans (f_box w5.drew 1)
                refine hK.out _ _ ⟨p2, p3, q2, q3⟩ (fun hHeld => ?_)
                clear hK K
                (try simp only [List.getElem_toArray, List.getElem_cons_zero, List.getElem_cons_succ, Act.put, List.setIfInBounds_toArray, List.set_cons_zero, List.set_cons_succ])
                (refine wpAnyH_take (i := 11) (v := ?_) rfl (by kernel_rfl) (by kernel_rfl) (by kernel_rfl) (fun _ _ _ h => h) (Or.inl ⟨by kernel_rfl, fun w0 hSw => ?_⟩) hHeld ?_; rotate_left; (focus ((try dsimp only at hSw); simp only [List.getElem_toArray, List.getElem_cons_zero, List.getElem_cons_succ]; (first | (go_simp; done) | (go_simp; with_reducible rfl)))); (try simp only [List.getElem_toArray, List.getElem_cons_zero, List.getElem_cons_succ, Act.put, List.setIfInBounds_toArray, List.set_cons_zero, List.set_cons_succ]))
                (refine wpAnyH_take (i := 12) (v := ?_) rfl (by kernel_rfl) (by kernel_rfl) (by kernel_rfl) (fun _ _ _ h => h) (Or.inl ⟨by kernel_rfl, fun w0 hSw => ?_⟩) hHeld ?_; rotate_left; (focus ((try dsimp only at hSw); simp only [List.getElem_toArray, List.getElem_cons_zero, List.getElem_cons_succ]; (first | (go_simp; done) | (go_simp; with_reducible rfl)))); (try simp only [List.getElem_toArray, List.getElem_cons_zero, List.getElem_cons_succ, Act.put, List.setIfInBounds_toArray, List.set_cons_zero, List.set_cons_succ]))
                (refine wpAnyH_take (i := 13) (v := ?_) rfl (by kernel_rfl) (by kernel_rfl) (by kernel_rfl) (fun _ _ _ h => h) (Or.inl ⟨by kernel_rfl, fun w0 hSw => ?_⟩) hHeld ?_; rotate_left; (focus ((try dsimp only at hSw); simp only [List.getElem_toArray, List.getElem_cons_zero, List.getElem_cons_succ]; (first | (go_simp; done) | (go_simp; with_reducible rfl)))); (try simp only [List.getElem_toArray, List.getElem_cons_zero, List.getElem_cons_succ, Act.put, List.setIfInBounds_toArray, List.set_cons_zero, List.set_cons_succ]))
                refine wpAnyH_ready (rs := [15]) (by kernel_rfl) (by simp) ?_
                refine AllReadyH.cons rfl (fun K hK => ?_) AllReadyH.nil
                simp only [List.getElem_toArray, List.getElem_cons_zero, List.getElem_cons_succ]
                go_simp
                have p2f : ((w6.setCell ⟨w5.heap.size, 0, none⟩ (.int .i64 vx)).setCell ⟨w5.heap.size, 1, none⟩ (.int .i64 vy)).cell? ⟨g, k * 4 + 2, none⟩ = some (.int .i64 x.a) := two_other (by omega) p2 _ _
                have p3f : ((w6.setCell ⟨w5.heap.size, 0, none⟩ (.int .i64 vx)).setCell ⟨w5.heap.size, 1, none⟩ (.int .i64 vy)).cell? ⟨g, k * 4 + 2 + 1, none⟩ = some (.int .i64 x.b) := two_other (by omega) p3 _ _
                have hqn : B' ≠ w5.heap.size := by omega
                refine hK.out _ _ ⟨p2f, p3f, two_other hqn q2 _ _, two_other hqn q3 _ _⟩ (fun hHeld => ?_)
                clear hK K p2f p3f
                (try simp only [List.getElem_toArray, List.getElem_cons_zero, List.getElem_cons_succ, Act.put, List.setIfInBounds_toArray, List.set_cons_zero, List.set_cons_succ])
                (refine wpAnyH_take (i := 16) (v := ?_) rfl (by kernel_rfl) (by kernel_rfl) (by kernel_rfl) (fun _ _ _ h => h) (Or.inl ⟨by kernel_rfl, fun w0 hSw => ?_⟩) hHeld ?_; rotate_left; (focus ((try dsimp only at hSw); simp only [List.getElem_toArray, List.getElem_cons_zero, List.getElem_cons_succ]; (first | (go_simp; done) | (go_simp; with_reducible rfl)))); (try simp only [List.getElem_toArray, List.getElem_cons_zero, List.getElem_cons_succ, Act.put, List.setIfInBounds_toArray, List.set_cons_zero, List.set_cons_succ]))
                refine wpAnyH_done (by kernel_rfl) ?_ _
                clear hHeld
                obtain ⟨d0, d1⟩ := two_cells e0 e1 (.int .i64 vx) (.int .i64 vy)
                have hb6a : Below w5.heap.size w5 ((w6.setCell ⟨w5.heap.size, 0, none⟩ (.int .i64 vx)).setCell ⟨w5.heap.size, 1, none⟩ (.int .i64 vy)) := below_two hb6' (Nat.le_refl _) _ _
                have p2f : ((w6.setCell ⟨w5.heap.size, 0, none⟩ (.int .i64 vx)).setCell ⟨w5.heap.size, 1, none⟩ (.int .i64 vy)).cell? ⟨g, k * 4 + 2, none⟩ = some (.int .i64 x.a) := two_other (by omega) p2 _ _
                have p3f : ((w6.setCell ⟨w5.heap.size, 0, none⟩ (.int .i64 vx)).setCell ⟨w5.heap.size, 1, none⟩ (.int .i64 vy)).cell? ⟨g, k * 4 + 2 + 1, none⟩ = some (.int .i64 x.b) := two_other (by omega) p3 _ _
                have HOF : Hid (((w6.setCell ⟨w5.heap.size, 0, none⟩ (.int .i64 vx)).setCell ⟨w5.heap.size, 1, none⟩ (.int .i64 vy)).ownsRow w2.heap.size 37 4 (.slice (some ⟨g, 0, none⟩) l.length c6) l.length (metCells (p ++ x :: l.drop (k + 1)))) := own_below HO5.out hb6a
                have HBF : Hid (Below w2.heap.size w2 ((w6.setCell ⟨w5.heap.size, 0, none⟩ (.int .i64 vx)).setCell ⟨w5.heap.size, 1, none⟩ (.int .i64 vy))) := HB5.out.trans (hb6a.mono hWz)
                have fzf : ∀ o, ((w6.setCell ⟨w5.heap.size, 0, none⟩ (.int .i64 vx)).setCell ⟨w5.heap.size, 1, none⟩ (.int .i64 vy)).frozen? ⟨g, o, none⟩ = false := fun o => (hb6a.frozen (p := ⟨g, o, none⟩) hgW5).trans (fz5 o)
                have hzf : w5.heap.size ≤ ((w6.setCell ⟨w5.heap.size, 0, none⟩ (.int .i64 vx)).setCell ⟨w5.heap.size, 1, none⟩ (.int .i64 vy)).heap.size := hb6a.size
                clear p2 p3 q2 q3 e0 e1 ez0 ez1 hqn hb6 hb6' hb6a HO5 HB5 k2 k3 l2 l3 fz5 hWz
                generalize hWf : (w6.setCell ⟨w5.heap.size, 0, none⟩ (.int .i64 vx)).setCell ⟨w5.heap.size, 1, none⟩ (.int .i64 vy) = wf at *
                clear hWf
                have hgf : g < wf.heap.size := Nat.lt_of_lt_of_le hgW5 hzf
                rcases HRES.out with ⟨rfl, hR⟩ | ⟨rfl, hR⟩
                · have HN := Lib.hid (show Inner l y (k + 1) (p ++ [(⟨x.n, x.i, vx, vy⟩ : Met)]) true ∧ ∀ u ∈ p ++ [(⟨x.n, x.i, vx, vy⟩ : Met)], ratE u.a u.b = 0 from by
                    have hz : addM x y = some (⟨x.n, x.i, vx, vy⟩ : Met) := by unfold addM; rw [hR]; rfl
                    refine ⟨HHIT.out _ hz, fun u hu => ?_⟩
                    rcases List.mem_append.1 hu with h | h
                    · exact HPV.out u h
                    · obtain rfl := List.mem_singleton.1 h
                      exact addM_ok HRX.out HRY.out hz)
                  have HOZ := Lib.hid (own_put_mid (vx := vx) (vy := vy) HPL.out HOF.out)
                  have HBZ := Lib.hid ((HBF.out.setCell (p := ⟨g, k * 4 + 2, none⟩) hgb (.int .i64 vx)).setCell (p := ⟨g, k * 4 + 2 + 1, none⟩) hgb (.int .i64 vy))
                  have z0 := fzf (k * 4 + 2)
                  have z1 := fzf (k * 4 + 2 + 1)
                  clear hR HRES fzf HHIT HBAD
                  go_wp2_with fail
                  go_roundw
                  case rel => exact ⟨k + 1, p ++ [(⟨x.n, x.i, vx, vy⟩ : Met)], true, by omega, by go_num, rfl, HN.out.1, by rw [List.append_assoc]; exact HOZ.out, HBZ.out, HN.out.2⟩
                  case measure => simp [intOf]; omega
                · have HML := Lib.hid (show mergeE a b = 5 by
                    have hz : addM x y = none := by unfold addM; rw [hR]; rfl
                    have h1 := HBAD.out hz
                    have h2 : refM a (b.take (i + 1)) = none := by rw [refM_take hit, HC.out]; show refS l (b.getD i mz) = none; rw [HYE.out]; exact h1
                    rw [HE.out, refM_none (i + 1) a h2])
                  clear hR
                  go_wp2_with fail
                  refine bodyPost_ret (by (simp [results, Tryz.results9, go_sem, *]; try rfl)) rfl ?_
                  exact rmerge_post_bad HML.out (by decide) (D2.out.trans ((HBF.out.alloc HBF.out.size _).mono D2.out.size))
        · have hke : k = l.length := by omega
          have hkz : ¬ (k : Int) < (l.length : Int) := by omega
          have HRS := Lib.hid (show refM a (b.take (i + 1)) = some (if f = true then p else insL p y) by
            have h9 := HI.out
            rw [hke] at h9
            rw [refM_take hit, HC.out]
            show refS l (b.getD i mz) = _
            rw [HYE.out]
            exact inner_end h9)
          have hpl : p.length = l.length := by rw [HI.out.1, hke]
          have HOP : Hid (wq.ownsRow w2.heap.size 37 4 (.slice A6 l.length c6) p.length (metCells p)) := by
            show World.ownsRow _ _ _ _ _ _ _
            have h9 := HOK.out
            rw [hke, List.drop_length, List.append_nil] at h9
            rw [hpl]; exact h9
          clear hke HI HOK HC
          cases f with
          | true =>
            have HRT : Hid (refM a (b.take (i + 1)) = some p) := HRS.out
            clear HRS
            go_wp2_with fail
            go_roundw
            case rel => exact ⟨i + 1, p, by omega, by go_num, by omega, HRT.out, HOP.out, HBq.out, HPV.out⟩
            case measure => simp [intOf]; omega
          | false =>
            have HRT : Hid (refM a (b.take (i + 1)) = some (insL p y)) := HRS.out
            have HIV := Lib.hid (show ∀ u ∈ insL p y, ratE u.a u.b = 0 from fun u hu => by
              rcases insL_mem hu with h | rfl
              · exact HPV.out u h
              · exact HRY.out)
            have hil := insL_len p y
            have HINS := Lib.hid (insert_any p y (.slice A6 l.length c6) wq (mets_of_own HOP.out) (by omega))
            clear HRS
            go_wp2_with fail
            refine HINS.out.mono ?_
            rintro e w7 ⟨v7, rfl, ho7, hb7⟩
            have HO7 := Lib.hid (own_base ho7 HBq.out.size)
            have HB7 := Lib.hid (HBq.out.trans (hb7.mono HBq.out.size))
            clear ho7 hb7 HINS HOP
            go_wp2_with fail
            go_roundw
            case rel => exact ⟨i + 1, insL p y, by omega, by go_num, by omega, HRT.out, HO7.out, HB7.out, HIV.out⟩
            case measure => simp [intOf]; omega
    · have hke : i = b.length := by omega
      have HCC := Lib.hid (show refM a b = some l by have h := HC.out; rw [hke, List.take_length] at h; exact h)
      have hiz : ¬ (i : Int) < (b.length : Int) := by omega
      clear hke HC
      by_cases hlim : (l.length : Int) > 1000
      · have HML := Lib.hid (show mergeE a b = 4 by rw [HE.out, HCC.out]; exact if_pos (by omega))
        go_wp2_with fail
        refine bodyPost_ret (by (simp [results, Tryz.results9, go_sem, *]; try rfl)) rfl ?_
        exact rmerge_post_bad HML.out (by decide) (D2.out.trans ((HBo.out.alloc HBo.out.size _).mono D2.out.size))
      · have HML := Lib.hid (show mergeE a b = 0 by rw [HE.out, HCC.out]; exact if_neg (by omega))
        go_wp2_with fail
        refine bodyPost_ret (by (simp [results, Tryz.results9, go_sem, *]; try rfl)) rfl ?_
        refine ⟨_, by rw [HML.out], ?_, D2.out.trans (HBo.out.mono D2.out.size)⟩
        rw [mergeL, HML.out, ← HQ.out, HCC.out]
        exact mets_of_own HO.out
theorem rmerge_any (a b : List Met) (V U : Value) (w : World) (ha : Mets w w.heap.size V a) (hb : Mets w w.heap.size U b) : Calls Tryz.prog 9 #[V, U] w (MergePost a b w) := by
  by_cases h1 : chkE a = 0
  · by_cases h2 : chkE b = 0
    · exact rmerge_ok a b V U w ha hb h1 h2
    · exact rmerge_bad a b V U w ha hb (.inr h2)
  · exact rmerge_bad a b V U w ha hb (.inl h1)
end Go.Proofs.YtpcbccpobhdokaaGreatDoor

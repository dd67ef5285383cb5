/- The text of an entry. -/
import Derived.Test.YtekpnphfdoplfaaDoorB1
import Derived.Lib.ItoaLen
namespace Go.Proofs.YtekpnphfdoplfaaDoor
open Go.RowKit
def fwL (f : Fld) : List (List UInt8) := if f.has = true then [f.wd, Lib.itoa f.n] else []
theorem fldL_ok {x : Ent} (h : entE x = 0) : ∀ f ∈ fldL x, f.has = true → 0 ≤ f.n ∧ f.n ≤ 1152921504606846976 := by
  obtain ⟨_, _, _, _, h1, h2, h3, h4⟩ := entE_ok h
  intro f hf hh
  simp only [fldL, List.mem_cons, List.not_mem_nil, or_false] at hf
  rcases hf with rfl | rfl | rfl | rfl
  all_goals
    dsimp only at hh ⊢
    first
      | (rw [hh] at h1; simp [fldB] at h1; omega)
      | (rw [hh] at h2; simp [fldB] at h2; omega)
      | (rw [hh] at h3; simp [fldB] at h3; omega)
      | (rw [hh] at h4; simp [fldB] at h4; omega)
theorem Flds.grown {w w' : World} {g b : Nat} {fs : List Fld} {row : Option Nat} (h : Flds w g b fs) (hg : w.grownBy w' row) (h1 : some g ≠ row) (h2 : some b ≠ row) : Flds w' g b fs :=
  ⟨Nat.lt_of_lt_of_le h.gl hg.size, Nat.lt_of_lt_of_le h.bl hg.size, fun i hi => by
    obtain ⟨a0, a1, a2, a3, a4⟩ := h.row i hi
    have e : ∀ o, w'.cell? ⟨g, o, none⟩ = w.cell? ⟨g, o, none⟩ := fun o => World.cell?_of_block (a := ⟨g, o, none⟩) (hg.block g h.gl h1)
    have e2 : ∀ o, w'.cell? ⟨b, o, none⟩ = w.cell? ⟨b, o, none⟩ := fun o => World.cell?_of_block (a := ⟨b, o, none⟩) (hg.block b h.bl h2)
    exact ⟨(e _).trans a0, (e _).trans a1, (e _).trans a2, (e _).trans a3, (e2 _).trans a4⟩⟩
/-- the words when k fields are done -/
def wdsK (x : Ent) (k : Nat) : List (List UInt8) := Lib.itoa x.t :: wordL x.k :: ((fldL x).take k).flatMap fwL
theorem take_get {α : Type} (l : List α) (z : α) (k : Nat) (h : k < l.length) : l.take (k + 1) = l.take k ++ [l.getD k z] := by
  rw [List.take_succ_eq_append_getElem h]; simp [List.getD, h]
theorem wdsK_succ (x : Ent) (k : Nat) (h : k < 4) : wdsK x (k + 1) = wdsK x k ++ fwL ((fldL x).getD k Fld.zero) := by
  unfold wdsK
  rw [take_get (fldL x) Fld.zero k h, List.flatMap_append]
  simp
theorem wdsK_all (x : Ent) : wdsK x 4 = wordsL x := rfl
theorem fwL_len (f : Fld) : (fwL f).length ≤ 2 := by unfold fwL; split <;> simp
theorem wdsK_len (x : Ent) (k : Nat) (h : k ≤ 4) : 2 ≤ (wdsK x k).length ∧ (wdsK x k).length ≤ 2 + 2 * k := by
  induction k with
  | zero => simp [wdsK]
  | succ k ih =>
    have := ih (by omega)
    have := fwL_len ((fldL x).getD k Fld.zero)
    rw [wdsK_succ x k (by omega), List.length_append]; omega
theorem itoa_le {n : Int} (h0 : -9223372036854775808 ≤ n) (h1 : n ≤ 9223372036854775807) : (Lib.itoa n).length ≤ 21 := Lib.itoa_length_le n h0 h1
theorem wordL_le {k : Int} (h1 : 1 ≤ k) (h2 : k ≤ 17) : (wordL k).length ≤ 10 := by
  rcases kinds_cases h1 h2 with rfl | rfl | rfl | rfl | rfl | rfl | rfl | rfl | rfl | rfl | rfl | rfl | rfl | rfl | rfl | rfl | rfl <;> decide
theorem join_le (xs : List (List UInt8)) (h : ∀ l ∈ xs, l.length ≤ 30) : (Lib.join xs [32]).length ≤ xs.length * 31 := by
  cases xs with
  | nil => simp [Lib.join_nil]
  | cons a r =>
    rw [Lib.join_length]
    have : ∀ ys : List (List UInt8), (∀ l ∈ ys, l.length ≤ 30) → Lib.lens ys ≤ ys.length * 30 := by
      intro ys
      induction ys with
      | nil => intro _; simp [Lib.lens]
      | cons b t ih =>
        intro hh
        have h1 := ih (fun l hl => hh l (by simp [hl]))
        have h2 := hh b (by simp)
        simp [Lib.lens] at h1 ⊢; omega
    have := this (a :: r) h
    simp at this ⊢; omega
theorem words_le {x : Ent} (h : entE x = 0) : ∀ l ∈ wordsL x, l.length ≤ 30 := by
  have hk := entE_ok h
  intro l hl
  rw [← wdsK_all] at hl
  simp only [wdsK, List.mem_cons, List.mem_flatMap] at hl
  rcases hl with rfl | rfl | ⟨f, hf, hm⟩
  · have := itoa_le (n := x.t) (by omega) (by omega); omega
  · have := wordL_le hk.1 hk.2.1; omega
  · have hf' := List.mem_of_mem_take hf
    unfold fwL at hm
    split at hm
    · rename_i hh
      have := fldL_ok h f hf' hh
      simp only [List.mem_cons, List.not_mem_nil, or_false] at hm
      rcases hm with rfl | rfl
      · simp only [fldL, List.mem_cons, List.not_mem_nil, or_false] at hf'
        rcases hf' with rfl | rfl | rfl | rfl
        · exact (by decide : nodeW.length ≤ 30)
        · exact (by decide : ticketW.length ≤ 30)
        · exact (by decide : contactW.length ≤ 30)
        · exact (by decide : valueW.length ≤ 30)
      · have := itoa_le (n := f.n) (by omega) (by omega); omega
    · simp at hm
theorem textL_le {x : Ent} (h : entE x = 0) : (textL x).length ≤ 320 := by
  have h1 := join_le (wordsL x) (words_le h)
  have h2 := (wdsK_len x 4 (by omega)).2
  rw [wdsK_all] at h2
  unfold textL
  rw [List.length_append]; simp; omega
set_option maxRecDepth 100000 in
set_option maxHeartbeats 4000000 in
theorem text_any (x : Ent) (w : World) (hG : Glob w) (hE : entE x = 0) : Calls Tryd.prog 34 #[.agg #[.int .i64 x.t, .int .i64 x.k, .int .i64 x.n, .int .i64 x.j, .int .i64 x.c, .int .i64 x.v]] w fun e w' => e = .returned (.string ⟨(textL x).toArray⟩) ∧ Below w.heap.size w w' := by
  have HE := Lib.hid hE
  obtain ⟨hk1, hk2, ht1, ht2, -, -, -, -⟩ := entE_ok hE
  clear hE
  have hix : ∀ w, (Instr.index 77 (.agg formC) (.int .i64 x.k)).run Tryd.prog w = .ok (.agg #[.string ⟨(wordL x.k).toArray⟩, .bool (hasN x.k), .bool (hasJ x.k), .bool (hasC x.k), .bool (hasV x.k)]) w := idx_form x.k hk1 hk2
  have hfd : ∀ w, (Instr.field 76 (.agg #[.string ⟨(wordL x.k).toArray⟩, .bool (hasN x.k), .bool (hasJ x.k), .bool (hasC x.k), .bool (hasV x.k)]) 0).run Tryd.prog w = .ok (.string ⟨(wordL x.k).toArray⟩) w := fun w => by kernel_rfl
  go_enter Tryd.func34, Tryd.ntmps34
  go_wp2_with fail
  have c0 : (w.alloc (.cells #[.int .i64 x.t, .int .i64 x.k, .int .i64 x.n, .int .i64 x.j, .int .i64 x.c, .int .i64 x.v] 37)).cell? ⟨w.heap.size, 0, none⟩ = some (.int .i64 x.t) := by simp [go_sem]
  have c1 : (w.alloc (.cells #[.int .i64 x.t, .int .i64 x.k, .int .i64 x.n, .int .i64 x.j, .int .i64 x.c, .int .i64 x.v] 37)).cell? ⟨w.heap.size, 1, none⟩ = some (.int .i64 x.k) := by simp [go_sem]
  have hE0 : EntAt (w.alloc (.cells #[.int .i64 x.t, .int .i64 x.k, .int .i64 x.n, .int .i64 x.j, .int .i64 x.c, .int .i64 x.v] 37)) w.heap.size 0 x := by simp [EntAt, go_sem]
  have HE0 := Lib.hid hE0
  have hl : w.heap.size < (w.alloc (.cells #[.int .i64 x.t, .int .i64 x.k, .int .i64 x.n, .int .i64 x.j, .int .i64 x.c, .int .i64 x.v] 37)).heap.size := by simp
  have hbw : Below w.heap.size w (w.alloc (.cells #[.int .i64 x.t, .int .i64 x.k, .int .i64 x.n, .int .i64 x.j, .int .i64 x.c, .int .i64 x.v] 37)) := (Below.refl _ w).alloc (Nat.le_refl _) _
  have HG0 := Lib.hid (hG.below hbw)
  have hsz : (w.alloc (.cells #[.int .i64 x.t, .int .i64 x.k, .int .i64 x.n, .int .i64 x.j, .int .i64 x.c, .int .i64 x.v] 37)).heap.size = w.heap.size + 1 := by simp
  clear hE0
  generalize (w.alloc (.cells #[.int .i64 x.t, .int .i64 x.k, .int .i64 x.n, .int .i64 x.j, .int .i64 x.c, .int .i64 x.v] 37)) = v0 at *
  have hd0 : Below v0.heap.size v0 v0.drew := Below.drew (Below.refl _ _)
  refine wp_region_held_drew (S := fun w' => w'.cell? ⟨w.heap.size, 0, none⟩ = some (.int .i64 x.t) ∧ w'.cell? ⟨w.heap.size, 1, none⟩ = some (.int .i64 x.k)) (by kernel_rfl) ⟨c0, c1⟩ (fun hHeld => ?_)
  generalize hX0 : v0.drew = vd at *
  clear hX0
  (refine wpAnyH_take (i := 0) (v := ?_) rfl (by kernel_rfl) (by kernel_rfl) (by kernel_rfl) (fun _ _ _ h => h) (Or.inl ⟨by kernel_rfl, fun w0 hSw => ?_⟩) hHeld ?_; rotate_left; (focus ((try dsimp only at hSw); simp only [List.getElem_toArray, List.getElem_cons_zero]; (first | (go_simp; done) | (go_simp; with_reducible rfl)))); (try simp only [List.getElem_toArray, List.getElem_cons_zero, Act.put, List.setIfInBounds_toArray, List.set_cons_zero, List.set_cons_succ]))
  (refine wpAnyH_take (i := 1) (v := ?_) rfl (by kernel_rfl) (by kernel_rfl) (by kernel_rfl) (fun _ _ _ h => h) (Or.inl ⟨by kernel_rfl, fun w0 hSw => ?_⟩) hHeld ?_; rotate_left; (focus ((try dsimp only at hSw); simp only [List.getElem_toArray, List.getElem_cons_zero, List.getElem_cons_succ]; (first | (go_simp; done) | (go_simp; with_reducible rfl)))); (try simp only [List.getElem_toArray, List.getElem_cons_zero, List.getElem_cons_succ, Act.put, List.setIfInBounds_toArray, List.set_cons_zero, List.set_cons_succ]))
  (refine wpAnyH_take (i := 4) (v := ?_) rfl (by kernel_rfl) (by kernel_rfl) (by kernel_rfl) (fun _ _ _ h => h) (Or.inl ⟨by kernel_rfl, fun w0 hSw => ?_⟩) hHeld ?_; rotate_left; (focus ((try dsimp only at hSw); simp only [List.getElem_toArray, List.getElem_cons_zero, List.getElem_cons_succ]; (first | (go_simp; done) | (go_simp; with_reducible rfl)))); (try simp only [List.getElem_toArray, List.getElem_cons_zero, List.getElem_cons_succ, Act.put, List.setIfInBounds_toArray, List.set_cons_zero, List.set_cons_succ]))
  (refine wpAnyH_take (i := 5) (v := ?_) rfl (by kernel_rfl) (by kernel_rfl) (by kernel_rfl) (fun _ _ _ h => h) (Or.inl ⟨by kernel_rfl, fun w0 hSw => ?_⟩) hHeld ?_; rotate_left; (focus ((try dsimp only at hSw); simp only [List.getElem_toArray, List.getElem_cons_zero, List.getElem_cons_succ]; (first | (go_simp; done) | (go_simp; with_reducible rfl)))); (try simp only [List.getElem_toArray, List.getElem_cons_zero, List.getElem_cons_succ, Act.put, List.setIfInBounds_toArray, List.set_cons_zero, List.set_cons_succ]))
  refine wpAnyH_ready (rs := [2]) (by kernel_rfl) (by simp) ?_
  refine AllReadyH.cons rfl (fun K hK => ?_) AllReadyH.nil
  simp only [List.getElem_toArray, List.getElem_cons_zero, List.getElem_cons_succ]
  go_simp
  refine (itoa_any x.t (by omega) (by omega) vd (HG0.out.below hd0)).mono ?_
  rintro e v1 ⟨rfl, hb1⟩
  have hd1 := hd0.trans (hb1.mono hd0.size)
  clear hb1
  go_wp2_with fail
  refine hK.out _ _ ⟨(hd1.cell (p := ⟨w.heap.size, 0, none⟩) hl).trans c0, (hd1.cell (p := ⟨w.heap.size, 1, none⟩) hl).trans c1⟩ (fun _ => ?_)
  clear hK K
  (try simp only [List.getElem_toArray, List.getElem_cons_zero, List.getElem_cons_succ, Act.put, List.setIfInBounds_toArray, List.set_cons_zero, List.set_cons_succ])
  refine wpAnyH_ready (rs := [3]) (by kernel_rfl) (by simp) ?_
  refine AllReadyH.cons rfl (fun K hK => ?_) AllReadyH.nil
  simp only [List.getElem_toArray, List.getElem_cons_zero, List.getElem_cons_succ]
  go_simp
  refine (forms_any v1).mono ?_
  rintro e v2 ⟨rfl, hv2⟩
  have hd2 : Below v0.heap.size v0 v2 := by rw [hv2]; exact hd1.alloc hd1.size _
  clear hv2
  go_wp2_with fail
  refine hK.out _ _ ⟨(hd2.cell (p := ⟨w.heap.size, 0, none⟩) hl).trans c0, (hd2.cell (p := ⟨w.heap.size, 1, none⟩) hl).trans c1⟩ (fun hHeld => ?_)
  clear hK K
  (try simp only [List.getElem_toArray, List.getElem_cons_zero, List.getElem_cons_succ, Act.put, List.setIfInBounds_toArray, List.set_cons_zero, List.set_cons_succ])
  (refine wpAnyH_take (i := 6) (v := (.agg #[.string ⟨(wordL x.k).toArray⟩, .bool (hasN x.k), .bool (hasJ x.k), .bool (hasC x.k), .bool (hasV x.k)])) rfl (by kernel_rfl) (by kernel_rfl) (by kernel_rfl) (fun _ _ _ h => h) (Or.inl ⟨by kernel_rfl, fun w0 hSw => ?_⟩) hHeld ?_; (focus (simp only [List.getElem_toArray, List.getElem_cons_zero, List.getElem_cons_succ]; (first | (go_simp; done) | (go_simp; with_reducible rfl) | (simp [*, go_sem]; done)))); (try simp only [List.getElem_toArray, List.getElem_cons_zero, List.getElem_cons_succ, Act.put, List.setIfInBounds_toArray, List.set_cons_zero, List.set_cons_succ]))
  (refine wpAnyH_take (i := 7) (v := (.string ⟨(wordL x.k).toArray⟩)) rfl (by kernel_rfl) (by kernel_rfl) (by kernel_rfl) (fun _ _ _ h => h) (Or.inl ⟨by kernel_rfl, fun w0 hSw => ?_⟩) hHeld ?_; (focus (simp only [List.getElem_toArray, List.getElem_cons_zero, List.getElem_cons_succ]; (first | (go_simp; done) | (go_simp; with_reducible rfl) | (simp [*, go_sem]; done)))); (try simp only [List.getElem_toArray, List.getElem_cons_zero, List.getElem_cons_succ, Act.put, List.setIfInBounds_toArray, List.set_cons_zero, List.set_cons_succ]))
  refine wpAnyH_ready (rs := [8]) (by kernel_rfl) (by simp) ?_
  refine AllReadyH.cons rfl (fun K hK => ?_) AllReadyH.nil
  simp only [List.getElem_toArray, List.getElem_cons_zero, List.getElem_cons_succ]
  go_simp
  have hd3 := hd2.alloc hd2.size (.cells #[.string ⟨(Lib.itoa x.t).toArray⟩, .string ⟨(wordL x.k).toArray⟩] 9)
  have ho3 := World.ownsRow_lit (e := 9) (size := 1) (base := w.heap.size + 1) v2 #[.string ⟨(Lib.itoa x.t).toArray⟩, .string ⟨(wordL x.k).toArray⟩] 2 (by have := hd2.size; omega) (by simp [maxLen]) rfl
  have HO3 : Hid ((v2.alloc (.cells #[.string ⟨(Lib.itoa x.t).toArray⟩, .string ⟨(wordL x.k).toArray⟩] 9)).ownsRow (w.heap.size + 1) 9 1 (.slice (some ⟨v2.heap.size, 0, none⟩) 2 2) (wdsK x 0).length (strCells (wdsK x 0))) := ho3
  clear ho3
  refine hK.out _ _ ⟨(hd3.cell (p := ⟨w.heap.size, 0, none⟩) hl).trans c0, (hd3.cell (p := ⟨w.heap.size, 1, none⟩) hl).trans c1⟩ (fun hHeld => ?_)
  clear hK K
  (try simp only [List.getElem_toArray, List.getElem_cons_zero, List.getElem_cons_succ, Act.put, List.setIfInBounds_toArray, List.set_cons_zero, List.set_cons_succ])
  (refine wpAnyH_take (i := 9) (v := ?_) rfl (by kernel_rfl) (by kernel_rfl) (by kernel_rfl) (fun _ _ _ h => h) (Or.inl ⟨by kernel_rfl, fun w0 hSw => ?_⟩) hHeld ?_; rotate_left; (focus ((try dsimp only at hSw); simp only [List.getElem_toArray, List.getElem_cons_zero, List.getElem_cons_succ]; (first | (go_simp; done) | (go_simp; with_reducible rfl)))); (try simp only [List.getElem_toArray, List.getElem_cons_zero, List.getElem_cons_succ, Act.put, List.setIfInBounds_toArray, List.set_cons_zero, List.set_cons_succ]))
  refine wpAnyH_done (by kernel_rfl) ?_ _
  clear hHeld hix hfd
  have hzz : v2.heap.size < (v2.alloc (.cells #[.string ⟨(Lib.itoa x.t).toArray⟩, .string ⟨(wordL x.k).toArray⟩] 9)).heap.size := by simp
  have hne3 : w.heap.size + 1 ≤ v2.heap.size := by have := hd2.size; omega
  generalize (v2.alloc (.cells #[.string ⟨(Lib.itoa x.t).toArray⟩, .string ⟨(wordL x.k).toArray⟩] 9)) = v3 at *
  generalize v2.heap.size = wb at *
  go_wp2_with fail
  refine (fields_list w.heap.size x v3 (Nat.lt_of_lt_of_le hl hd3.size) (HE0.out.below hd3 hl) hk1 hk2).mono ?_
  rintro e v4 ⟨g, rfl, hF, hg, hb4⟩
  have hd4 := hd3.trans (hb4.mono hd3.size)
  have HF4 := Lib.hid hF
  have HO4 := Lib.hid (own_below HO3.out hb4)
  have hgb : wb ≠ g := by omega
  have hgl := hF.gl
  clear hF hb4
  go_wp2_with fail
  go_loopw [3, 17] (fun V i wr => ∃ k : Nat, k ≤ 4 ∧ i = .int .i64 k ∧ wr.ownsRow (w.heap.size + 1) 9 1 V (wdsK x k).length (strCells (wdsK x k)) ∧ Flds wr g w.heap.size (fldL x) ∧ V.ownBlock ≠ some g ∧ Below w.heap.size w wr ∧ v4.heap.size ≤ wr.heap.size) (fun _ i _ => 4 - (intOf i).toNat)
  case atStart => exact ⟨0, by omega, rfl, HO4.out, HF4.out, (by simp [Value.ownBlock]; exact hgb), hbw.trans (hd4.mono (by omega)), Nat.le_refl _⟩
  case round =>
    obtain ⟨k, hk, rfl, hown, hF, hne, hB, hs4⟩ := hrel
    have hzr := hB.size
    have HO := Lib.hid hown
    have HF := Lib.hid hF
    have hwl := wdsK_len x k hk
    clear hown hF
    by_cases hlt : k < 4
    · have hf0 := HF.out.row k (by exact hlt)
      have hmem : (fldL x).getD k Fld.zero ∈ fldL x := by
        rw [List.getD_eq_getElem?_getD, List.getElem?_eq_getElem (show k < (fldL x).length from hlt)]; exact List.getElem_mem _
      have HOKF := Lib.hid (fldL_ok HE.out _ hmem)
      have HSU := Lib.hid (wdsK_succ x k hlt)
      clear hmem
      generalize (fldL x).getD k Fld.zero = f at *
      obtain ⟨f0, f1, f2, f3, f4⟩ := hf0
      have hgr : g < wr.heap.size := by omega
      have hbr : w.heap.size < wr.heap.size := by have := HF.out.bl; omega
      have hki : (k : Int) < 4 := by omega
      have hBW := hB.alloc hzr (.cells #[.string ⟨f.wd.toArray⟩, .pointer (some ⟨w.heap.size, f.o, none⟩), .int .i64 f.most, .bool f.has] 88)
      have HOW := Lib.hid (HO.out.alloc (.cells #[.string ⟨f.wd.toArray⟩, .pointer (some ⟨w.heap.size, f.o, none⟩), .int .i64 f.most, .bool f.has] 88))
      have HFW := Lib.hid (HF.out.grown (World.grownBy_alloc wr (.cells #[.string ⟨f.wd.toArray⟩, .pointer (some ⟨w.heap.size, f.o, none⟩), .int .i64 f.most, .bool f.has] 88) none) (by simp) (by simp))
      cases hh : f.has
      · have HT : Hid (wdsK x (k + 1) = wdsK x k) := by show _ = _; rw [HSU.out, fwL, hh]; simp
        rw [hh] at f3 hBW HOW HFW
        clear HOKF hh
        go_wp2_with fail
        go_roundw
        case rel => exact ⟨k + 1, by omega, by go_num, by rw [HT.out]; exact HOW.out, HFW.out, hne, hBW, by simp; omega⟩
        case measure => simp [intOf]; omega
      · have HT : Hid (wdsK x (k + 1) = wdsK x k ++ [f.wd, Lib.itoa f.n]) := by show _ = _; rw [HSU.out, fwL, hh]; simp
        have hn := HOKF.out hh
        rw [hh] at f3 hBW HOW HFW
        clear HOKF hh HSU
        go_wp2_with fail
        have z0 : (wr.alloc (.cells #[.string ⟨f.wd.toArray⟩, .pointer (some ⟨w.heap.size, f.o, none⟩), .int .i64 f.most, .bool true] 88)).cell? ⟨wr.heap.size, 0, none⟩ = some (.string ⟨f.wd.toArray⟩) := by simp [go_sem]
        have z1 : (wr.alloc (.cells #[.string ⟨f.wd.toArray⟩, .pointer (some ⟨w.heap.size, f.o, none⟩), .int .i64 f.most, .bool true] 88)).cell? ⟨wr.heap.size, 1, none⟩ = some (.pointer (some ⟨w.heap.size, f.o, none⟩)) := by simp [go_sem]
        have z4 : (wr.alloc (.cells #[.string ⟨f.wd.toArray⟩, .pointer (some ⟨w.heap.size, f.o, none⟩), .int .i64 f.most, .bool true] 88)).cell? ⟨w.heap.size, f.o, none⟩ = some (.int .i64 f.n) := (World.cell?_alloc_lt wr _ ⟨w.heap.size, f.o, none⟩ hbr).trans f4
        have hzl : wr.heap.size < (wr.alloc (.cells #[.string ⟨f.wd.toArray⟩, .pointer (some ⟨w.heap.size, f.o, none⟩), .int .i64 f.most, .bool true] 88)).heap.size := by simp
        have hbl : w.heap.size < (wr.alloc (.cells #[.string ⟨f.wd.toArray⟩, .pointer (some ⟨w.heap.size, f.o, none⟩), .int .i64 f.most, .bool true] 88)).heap.size := by simp; omega
        have hgl2 : g < (wr.alloc (.cells #[.string ⟨f.wd.toArray⟩, .pointer (some ⟨w.heap.size, f.o, none⟩), .int .i64 f.most, .bool true] 88)).heap.size := by simp; omega
        have hs5 : v4.heap.size ≤ (wr.alloc (.cells #[.string ⟨f.wd.toArray⟩, .pointer (some ⟨w.heap.size, f.o, none⟩), .int .i64 f.most, .bool true] 88)).heap.size := by simp; omega
        have hGX := hG.below hBW
        have hxn : (u3.ownBlock : Option Nat) ≠ some wr.heap.size := own_ne_lt HO.out (.inr (Nat.le_refl _))
        clear f0 f1 f2 f3 f4
        generalize (wr.alloc (.cells #[.string ⟨f.wd.toArray⟩, .pointer (some ⟨w.heap.size, f.o, none⟩), .int .i64 f.most, .bool true] 88)) = u0 at *
        generalize wr.heap.size = xb at *
        have hd0 : Below u0.heap.size u0 u0.drew := Below.drew (Below.refl _ _)
        refine wp_region_held_drew (S := fun w' => w'.cell? ⟨xb, 0, none⟩ = some (.string ⟨f.wd.toArray⟩) ∧ w'.cell? ⟨xb, 1, none⟩ = some (.pointer (some ⟨w.heap.size, f.o, none⟩)) ∧ w'.cell? ⟨w.heap.size, f.o, none⟩ = some (.int .i64 f.n)) (by kernel_rfl) ⟨z0, z1, z4⟩ (fun hHeld => ?_)
        generalize hX0 : u0.drew = ud at *
        clear hX0
        (refine wpAnyH_take (i := 0) (v := ?_) rfl (by kernel_rfl) (by kernel_rfl) (by kernel_rfl) (fun _ _ _ h => h) (Or.inl ⟨by kernel_rfl, fun w0 hSw => ?_⟩) hHeld ?_; rotate_left; (focus ((try dsimp only at hSw); simp only [List.getElem_toArray, List.getElem_cons_zero]; (first | (go_simp; done) | (go_simp; with_reducible rfl)))); (try simp only [List.getElem_toArray, List.getElem_cons_zero, Act.put, List.setIfInBounds_toArray, List.set_cons_zero, List.set_cons_succ]))
        (refine wpAnyH_take (i := 1) (v := ?_) rfl (by kernel_rfl) (by kernel_rfl) (by kernel_rfl) (fun _ _ _ h => h) (Or.inl ⟨by kernel_rfl, fun w0 hSw => ?_⟩) hHeld ?_; rotate_left; (focus ((try dsimp only at hSw); simp only [List.getElem_toArray, List.getElem_cons_zero, List.getElem_cons_succ]; (first | (go_simp; done) | (go_simp; with_reducible rfl)))); (try simp only [List.getElem_toArray, List.getElem_cons_zero, List.getElem_cons_succ, Act.put, List.setIfInBounds_toArray, List.set_cons_zero, List.set_cons_succ]))
        (refine wpAnyH_take (i := 2) (v := ?_) rfl (by kernel_rfl) (by kernel_rfl) (by kernel_rfl) (fun _ _ _ h => h) (Or.inl ⟨by kernel_rfl, fun w0 hSw => ?_⟩) hHeld ?_; rotate_left; (focus ((try dsimp only at hSw); simp only [List.getElem_toArray, List.getElem_cons_zero, List.getElem_cons_succ]; (first | (go_simp; done) | (go_simp; with_reducible rfl)))); (try simp only [List.getElem_toArray, List.getElem_cons_zero, List.getElem_cons_succ, Act.put, List.setIfInBounds_toArray, List.set_cons_zero, List.set_cons_succ]))
        (refine wpAnyH_take (i := 3) (v := ?_) rfl (by kernel_rfl) (by kernel_rfl) (by kernel_rfl) (fun _ _ _ h => h) (Or.inl ⟨by kernel_rfl, fun w0 hSw => ?_⟩) hHeld ?_; rotate_left; (focus ((try dsimp only at hSw); simp only [List.getElem_toArray, List.getElem_cons_zero, List.getElem_cons_succ]; (first | (go_simp; done) | (go_simp; with_reducible rfl)))); (try simp only [List.getElem_toArray, List.getElem_cons_zero, List.getElem_cons_succ, Act.put, List.setIfInBounds_toArray, List.set_cons_zero, List.set_cons_succ]))
        (refine wpAnyH_take (i := 4) (v := ?_) rfl (by kernel_rfl) (by kernel_rfl) (by kernel_rfl) (fun _ _ _ h => h) (Or.inl ⟨by kernel_rfl, fun w0 hSw => ?_⟩) hHeld ?_; rotate_left; (focus ((try dsimp only at hSw); simp only [List.getElem_toArray, List.getElem_cons_zero, List.getElem_cons_succ]; (first | (go_simp; done) | (go_simp; with_reducible rfl)))); (try simp only [List.getElem_toArray, List.getElem_cons_zero, List.getElem_cons_succ, Act.put, List.setIfInBounds_toArray, List.set_cons_zero, List.set_cons_succ]))
        (refine wpAnyH_take (i := 5) (v := ?_) rfl (by kernel_rfl) (by kernel_rfl) (by kernel_rfl) (fun _ _ _ h => h) (Or.inl ⟨by kernel_rfl, fun w0 hSw => ?_⟩) hHeld ?_; rotate_left; (focus ((try dsimp only at hSw); simp only [List.getElem_toArray, List.getElem_cons_zero, List.getElem_cons_succ]; (first | (go_simp; done) | (go_simp; with_reducible rfl)))); (try simp only [List.getElem_toArray, List.getElem_cons_zero, List.getElem_cons_succ, Act.put, List.setIfInBounds_toArray, List.set_cons_zero, List.set_cons_succ]))
        (refine wpAnyH_take (i := 6) (v := ?_) rfl (by kernel_rfl) (by kernel_rfl) (by kernel_rfl) (fun _ _ _ h => h) (Or.inl ⟨by kernel_rfl, fun w0 hSw => ?_⟩) hHeld ?_; rotate_left; (focus ((try dsimp only at hSw); simp only [List.getElem_toArray, List.getElem_cons_zero, List.getElem_cons_succ]; (first | (go_simp; done) | (go_simp; with_reducible rfl)))); (try simp only [List.getElem_toArray, List.getElem_cons_zero, List.getElem_cons_succ, Act.put, List.setIfInBounds_toArray, List.set_cons_zero, List.set_cons_succ]))
        refine wpAnyH_ready (rs := [7]) (by kernel_rfl) (by simp) ?_
        refine AllReadyH.cons rfl (fun K hK => ?_) AllReadyH.nil
        simp only [List.getElem_toArray, List.getElem_cons_zero, List.getElem_cons_succ]
        go_simp
        refine (itoa_any f.n (by omega) (by omega) ud (hGX.below hd0)).mono ?_
        rintro e u1 ⟨rfl, hb1⟩
        have he1 := hd0.trans (hb1.mono hd0.size)
        clear hb1
        go_wp2_with fail
        refine hK.out _ _ ⟨(he1.cell (p := ⟨xb, 0, none⟩) hzl).trans z0, (he1.cell (p := ⟨xb, 1, none⟩) hzl).trans z1, (he1.cell (p := ⟨w.heap.size, f.o, none⟩) hbl).trans z4⟩ (fun _ => ?_)
        clear hK K
        (try simp only [List.getElem_toArray, List.getElem_cons_zero, List.getElem_cons_succ, Act.put, List.setIfInBounds_toArray, List.set_cons_zero, List.set_cons_succ])
        refine wpAnyH_ready (rs := [8]) (by kernel_rfl) (by simp) ?_
        refine AllReadyH.cons rfl (fun K hK => ?_) AllReadyH.nil
        simp only [List.getElem_toArray, List.getElem_cons_zero, List.getElem_cons_succ]
        go_simp
        have he2 := he1.alloc he1.size (.cells #[.string ⟨f.wd.toArray⟩, .string ⟨(Lib.itoa f.n).toArray⟩] 9)
        refine hK.out _ _ ⟨(he2.cell (p := ⟨xb, 0, none⟩) hzl).trans z0, (he2.cell (p := ⟨xb, 1, none⟩) hzl).trans z1, (he2.cell (p := ⟨w.heap.size, f.o, none⟩) hbl).trans z4⟩ (fun _ => ?_)
        clear hK K
        (try simp only [List.getElem_toArray, List.getElem_cons_zero, List.getElem_cons_succ, Act.put, List.setIfInBounds_toArray, List.set_cons_zero, List.set_cons_succ])
        refine wpAnyH_ready (rs := [9]) (by kernel_rfl) (by simp) ?_
        refine AllReadyH.cons rfl (fun K hK => ?_) AllReadyH.nil
        simp only [List.getElem_toArray, List.getElem_cons_zero, List.getElem_cons_succ]
        rw [if_pos (by simp [Region.wanted])]
        have ho1 := own_below HOW.out he1
        refine wp_app_two (.tmp 23) (.tmp 31) rfl u1 (w.heap.size + 1) _ (wdsK x k) f.wd (Lib.itoa f.n) (by kernel_rfl) (by kernel_rfl) ho1 (by omega) (by have := he1.size; omega) ?_
        intro g5 c5 u5 hown5 hB5 hgrow5 hat5
        have HO5 := Lib.hid hown5
        have HF1 := HFW.out.below he1 hgl2 hbl
        have HF5 := Lib.hid ((HF1.grown (World.grownBy_alloc u1 (.cells #[.string ⟨f.wd.toArray⟩, .string ⟨(Lib.itoa f.n).toArray⟩] 9) none) (by simp) (by simp)).grown hgrow5 (fun e => hne e.symm) (fun e => own_ne_lt ho1 (g := w.heap.size) (.inl (Nat.lt_succ_self _)) e.symm))
        have hne5 : g5 ≠ g := by
          rcases hat5 with h | h
          · intro e; rw [e] at h; exact hne h
          · have := he1.size; omega
        have hD1 : Below w.heap.size w u1 := hBW.trans (he1.mono (by omega))
        have hD5 : Below w.heap.size w u5 := hD1.trans (hB5.mono (by omega))
        have hs9 : v4.heap.size ≤ u5.heap.size := Nat.le_trans hs5 (Nat.le_trans he1.size hB5.size)
        have hxg := hgrow5.block xb (by have := he1.size; simp; omega) (fun e => hxn e.symm)
        have hxg2 : u5.heap[xb]? = u1.heap[xb]? := hxg.trans (Below.heap_alloc u1 _ xb (by have := he1.size; omega))
        have hbg := hD5.trans (Below.refl _ u5)
        have hx5 : ∀ o, u5.cell? ⟨xb, o, none⟩ = u0.cell? ⟨xb, o, none⟩ := fun o => (World.cell?_of_block (a := ⟨xb, o, none⟩) hxg2).trans (he1.cell (p := ⟨xb, o, none⟩) hzl)
        have hw5 : u5.cell? ⟨w.heap.size, f.o, none⟩ = some (.int .i64 f.n) := (hB5.cell (p := ⟨w.heap.size, f.o, none⟩) (Nat.lt_succ_self _)).trans ((he1.cell (p := ⟨w.heap.size, f.o, none⟩) hbl).trans z4)
        clear hown5 hgrow5 hat5 hxg hxg2 hbg
        refine hK.out _ _ ⟨(hx5 0).trans z0, (hx5 1).trans z1, hw5⟩ (fun hHeld => ?_)
        clear hK K
        (try simp only [Act.put, List.setIfInBounds_toArray, List.set_cons_zero, List.set_cons_succ])
        (refine wpAnyH_take (i := 10) (v := ?_) rfl (by kernel_rfl) (by kernel_rfl) (by kernel_rfl) (fun _ _ _ h => h) (Or.inl ⟨by kernel_rfl, fun w0 hSw => ?_⟩) hHeld ?_; rotate_left; (focus ((try dsimp only at hSw); simp only [List.getElem_toArray, List.getElem_cons_zero, List.getElem_cons_succ]; (first | (go_simp; done) | (go_simp; with_reducible rfl)))); (try simp only [List.getElem_toArray, List.getElem_cons_zero, List.getElem_cons_succ, Act.put, List.setIfInBounds_toArray, List.set_cons_zero, List.set_cons_succ]))
        refine wpAnyH_done (by kernel_rfl) ?_ _
        clear hHeld
        go_wp2_with fail
        go_roundw
        case rel => exact ⟨k + 1, by omega, by go_num, by rw [HT.out, List.length_append]; rw [List.length_append] at HO5; exact HO5.out, HF5.out, (by simp [Value.ownBlock]; exact hne5), hD5, hs9⟩
        case measure => simp [intOf]; omega
    · obtain rfl : k = 4 := by omega
      have hos := HO.out
      obtain ⟨g9, c9, rfl⟩ := own_shape hos (by have := hwl.1; omega)
      rw [wdsK_all] at HO hos
      have hwl2 := hwl.2
      rw [wdsK_all] at hwl2
      have hw9 : (wdsK x 4).length = ((wordsL x).map fun l => (⟨l.toArray⟩ : ByteArray)).length := by rw [wdsK_all]; simp
      have hjm : ((wordsL x).map fun l => (⟨l.toArray⟩ : ByteArray)).map (fun b => b.data.toList) = wordsL x := by simp [List.map_map, Function.comp_def]
      have hJ := join_le (wordsL x) (words_le HE.out)
      have hcl : ∀ (j : Nat) y, ((wordsL x).map fun l => (⟨l.toArray⟩ : ByteArray))[j]? = some y → wr.cell? ⟨g9, 0 + j, none⟩ = some (.string y) := fun j y hy => by
        have ha : ∀ n, (⟨g9, 0, none⟩ : Addr).add n = ⟨g9, 0 + n, none⟩ := fun n => by unfold Addr.add; split <;> simp_all
        have := hos.cells (g := g9) rfl j (.string y) (by rw [strCells]; rw [List.getElem?_map] at hy ⊢; cases hq : (wordsL x)[j]? with
          | none => rw [hq] at hy; cases hy
          | some l => rw [hq] at hy; cases hy; rfl)
        rwa [ha] at this
      have hg9 : g9 < wr.heap.size := (hos.lt g9 rfl).2
      have hcap : (wdsK x 4).length ≤ c9 := by
        rcases HO.out.2 with ⟨e, _⟩ | ⟨g', cap', cur', e, _, _, hn', _⟩
        · cases e
        · cases e; rw [wdsK_all]; exact hn'
      have HC9 := Lib.hid hcl
      have HJ9 := Lib.hid hJ
      have HM9 := Lib.hid hjm
      have HW9 := Lib.hid hw9
      have HCP := Lib.hid hcap
      clear hos hcl hJ hjm hcap hw9
      go_wp2_with fail
      have hjc := Tryd.strings_Join g9 0 c9 ((wordsL x).map fun l => (⟨l.toArray⟩ : ByteArray)) ⟨#[32]⟩ wr HC9.out hg9 (by simp; omega) (by rw [← HW9.out]; exact HCP.out) (by rw [HM9.out]; exact Nat.le_trans HJ9.out (by omega))
      rw [HM9.out, ← HW9.out] at hjc
      have hcat : ¬ 9223372036854775807 < (Lib.join (wordsL x) [32]).length + 1 := by have := HJ9.out; omega
      refine hjc.mono ?_
      rintro e w9 ⟨rfl, hb9⟩
      go_wp2_with fail
      go_ret
      exact ⟨by rw [textL, ← ByteArray.mk_append_mk]; rfl, hB.trans (hb9.mono hzr)⟩
end Go.Proofs.YtekpnphfdoplfaaDoor

/- Slices of blocks, bundles, faults and outages in memory; bundle.Check. -/
import Derived.Test.YtclkjjdfdndplaaGreatDoorH1
namespace Go.Proofs.YtclkjjdfdndplaaGreatDoor
open Go.RowKit
/-- a slice whose elements read as a list -/
def Sl {α : Type} (At : World → Nat → Nat → Nat → α → Prop) (z : α) (st : Nat) (w : World) (B : Nat) (v : Value) (xs : List α) : Prop :=
  ∃ A c, v = .slice A xs.length c ∧ xs.length ≤ c ∧ c ≤ maxLen ∧ (0 < xs.length → ∃ b o, A = some ⟨b, o, none⟩ ∧ b < B ∧ ∀ j, j < xs.length → At w B b (o + j * st) (xs.getD j z))
theorem Sl.map {α : Type} {At : World → Nat → Nat → Nat → α → Prop} {z : α} {st : Nat} {w w' : World} {B B' : Nat} {v : Value} {xs : List α} (h : Sl At z st w B v xs) (hB : B ≤ B') (hA : ∀ b o x, b < B → At w B b o x → At w' B' b o x) : Sl At z st w' B' v xs := by
  obtain ⟨A, c, e, h1, h2, h3⟩ := h
  refine ⟨A, c, e, h1, h2, fun hp => ?_⟩
  obtain ⟨b, o, e1, h4, h5⟩ := h3 hp
  exact ⟨b, o, e1, Nat.lt_of_lt_of_le h4 hB, fun j hj => hA b _ _ h4 (h5 j hj)⟩
theorem Sl.nil {α : Type} (At : World → Nat → Nat → Nat → α → Prop) (z : α) (st : Nat) (w : World) (B : Nat) : Sl At z st w B (.slice none 0 0) [] := ⟨none, 0, rfl, by simp, by simp [maxLen], fun h => by simp at h⟩
theorem Sl.take {α : Type} {At : World → Nat → Nat → Nat → α → Prop} {z : α} {st : Nat} {w : World} {B : Nat} {A : Option Addr} {c : Nat} {xs : List α} (h : Sl At z st w B (.slice A xs.length c) xs) (k : Nat) (hk : k ≤ xs.length) : Sl At z st w B (.slice A k c) (xs.take k) := by
  obtain ⟨A', c', e, h1, h2, h3⟩ := h
  simp only [Value.slice.injEq, true_and] at e
  obtain ⟨rfl, rfl⟩ := e
  have hl : (xs.take k).length = k := by rw [List.length_take]; omega
  refine ⟨A, c, by rw [hl], by omega, h2, fun hp => ?_⟩
  obtain ⟨b, o, e1, h4, h5⟩ := h3 (by omega)
  refine ⟨b, o, e1, h4, fun j hj => ?_⟩
  have e : (xs.take k).getD j z = xs.getD j z := by simp [List.getD, show j < k by omega]
  rw [e]
  exact h5 j (by omega)
theorem drop_get {α : Type} (l : List α) (z : α) (k : Nat) (h : k < l.length) : l.drop k = l.getD k z :: l.drop (k + 1) := by
  rw [List.drop_eq_getElem_cons h]; simp [List.getD, h]
theorem take_get {α : Type} (l : List α) (z : α) (k : Nat) (h : k < l.length) : l.take (k + 1) = l.take k ++ [l.getD k z] := by
  rw [List.take_succ_eq_append_getElem h]; simp [List.getD, h]
/-- the cells of a block -/
def BlkAt (w : World) (_B b o : Nat) (x : Blk) : Prop :=
  w.cell? ⟨b, o, none⟩ = some (.int .i64 x.k) ∧ w.cell? ⟨b, o + 1, none⟩ = some (.int .i64 x.f) ∧ w.cell? ⟨b, o + 2, none⟩ = some (.string x.d)
theorem BlkAt.below {w w' : World} {B B' b o : Nat} {x : Blk} (h : BlkAt w B b o x) (hb : Below B w w') (hB : b < B) : BlkAt w' B' b o x :=
  ⟨(hb.cell (p := ⟨b, o, none⟩) hB).trans h.1, (hb.cell (p := ⟨b, o + 1, none⟩) hB).trans h.2.1, (hb.cell (p := ⟨b, o + 2, none⟩) hB).trans h.2.2⟩
abbrev Blks := Sl BlkAt Blk.zero 3
theorem Sl.blks {w w' : World} {B : Nat} {v : Value} {xs : List Blk} (h : Blks w B v xs) (hb : Below B w w') : Blks w' B v xs := h.map (Nat.le_refl _) fun _ _ _ hB hA => hA.below hb hB
theorem Sl.blks_more {w : World} {B B' : Nat} {v : Value} {xs : List Blk} (h : Blks w B v xs) (hB : B ≤ B') : Blks w B' v xs := h.map hB fun _ _ _ _ hA => hA
/-- the cells of a bundle -/
def BunAt (w : World) (B b o : Nat) (x : Bun) : Prop :=
  w.cell? ⟨b, o, none⟩ = some (.int .i64 x.s) ∧ w.cell? ⟨b, o + 1, none⟩ = some (.int .i64 x.c) ∧ w.cell? ⟨b, o + 2, none⟩ = some (.int .i64 x.q) ∧ w.cell? ⟨b, o + 3, none⟩ = some (.int .i64 x.o) ∧ w.cell? ⟨b, o + 4, none⟩ = some (.int .i64 x.t) ∧
  w.cell? ⟨b, o + 5, none⟩ = some (.int .i64 x.dk) ∧ w.cell? ⟨b, o + 6, none⟩ = some (.int .i64 x.dn) ∧ w.cell? ⟨b, o + 7, none⟩ = some (.int .i64 x.lf) ∧ w.cell? ⟨b, o + 8, none⟩ = some (.int .i64 x.pr) ∧ w.cell? ⟨b, o + 9, none⟩ = some (.int .i64 x.fl) ∧
  (∃ V, w.cell? ⟨b, o + 10, none⟩ = some V ∧ Blks w B V x.bl) ∧ w.cell? ⟨b, o + 11, none⟩ = some (.string x.py)
theorem BunAt.below {w w' : World} {B b o : Nat} {x : Bun} (h : BunAt w B b o x) (hb : Below B w w') (hB : b < B) : BunAt w' B b o x := by
  obtain ⟨h0, h1, h2, h3, h4, h5, h6, h7, h8, h9, ⟨V, h10, hV⟩, h11⟩ := h
  have e : ∀ o, w'.cell? ⟨b, o, none⟩ = w.cell? ⟨b, o, none⟩ := fun o => hb.cell (p := ⟨b, o, none⟩) hB
  exact ⟨(e _).trans h0, (e _).trans h1, (e _).trans h2, (e _).trans h3, (e _).trans h4, (e _).trans h5, (e _).trans h6, (e _).trans h7, (e _).trans h8, (e _).trans h9, ⟨V, (e _).trans h10, hV.blks hb⟩, (e _).trans h11⟩
theorem BunAt.more {w : World} {B B' b o : Nat} {x : Bun} (h : BunAt w B b o x) (hB : B ≤ B') : BunAt w B' b o x := by
  obtain ⟨h0, h1, h2, h3, h4, h5, h6, h7, h8, h9, ⟨V, h10, hV⟩, h11⟩ := h
  exact ⟨h0, h1, h2, h3, h4, h5, h6, h7, h8, h9, ⟨V, h10, hV.blks_more hB⟩, h11⟩
abbrev Buns := Sl BunAt Bun.zero 12
theorem Sl.buns {w w' : World} {B : Nat} {v : Value} {xs : List Bun} (h : Buns w B v xs) (hb : Below B w w') : Buns w' B v xs := h.map (Nat.le_refl _) fun _ _ _ hB hA => hA.below hb hB
theorem Sl.buns_more {w : World} {B B' : Nat} {v : Value} {xs : List Bun} (h : Buns w B v xs) (hB : B ≤ B') : Buns w B' v xs := h.map hB fun _ _ _ _ hA => hA.more hB
/-- a fault -/
structure Flt where
  n : Int
  a : Int
  k : Int
  u : Int
deriving DecidableEq, Inhabited
def Flt.zero : Flt := ⟨0, 0, 0, 0⟩
def FltAt (w : World) (_B b o : Nat) (x : Flt) : Prop :=
  w.cell? ⟨b, o, none⟩ = some (.int .i64 x.n) ∧ w.cell? ⟨b, o + 1, none⟩ = some (.int .i64 x.a) ∧ w.cell? ⟨b, o + 2, none⟩ = some (.int .i64 x.k) ∧ w.cell? ⟨b, o + 3, none⟩ = some (.int .i64 x.u)
theorem FltAt.below {w w' : World} {B B' b o : Nat} {x : Flt} (h : FltAt w B b o x) (hb : Below B w w') (hB : b < B) : FltAt w' B' b o x :=
  ⟨(hb.cell (p := ⟨b, o, none⟩) hB).trans h.1, (hb.cell (p := ⟨b, o + 1, none⟩) hB).trans h.2.1, (hb.cell (p := ⟨b, o + 2, none⟩) hB).trans h.2.2.1, (hb.cell (p := ⟨b, o + 3, none⟩) hB).trans h.2.2.2⟩
abbrev Flts := Sl FltAt Flt.zero 4
theorem Sl.flts {w w' : World} {B : Nat} {v : Value} {xs : List Flt} (h : Flts w B v xs) (hb : Below B w w') : Flts w' B v xs := h.map (Nat.le_refl _) fun _ _ _ hB hA => hA.below hb hB
theorem Sl.flts_more {w : World} {B B' : Nat} {v : Value} {xs : List Flt} (h : Flts w B v xs) (hB : B ≤ B') : Flts w B' v xs := h.map hB fun _ _ _ _ hA => hA
/-- an outage -/
structure Otg where
  c : Int
  f : Int
  t : Int
deriving DecidableEq, Inhabited
def Otg.zero : Otg := ⟨0, 0, 0⟩
def OtgAt (w : World) (_B b o : Nat) (x : Otg) : Prop :=
  w.cell? ⟨b, o, none⟩ = some (.int .i64 x.c) ∧ w.cell? ⟨b, o + 1, none⟩ = some (.int .i64 x.f) ∧ w.cell? ⟨b, o + 2, none⟩ = some (.int .i64 x.t)
theorem OtgAt.below {w w' : World} {B B' b o : Nat} {x : Otg} (h : OtgAt w B b o x) (hb : Below B w w') (hB : b < B) : OtgAt w' B' b o x :=
  ⟨(hb.cell (p := ⟨b, o, none⟩) hB).trans h.1, (hb.cell (p := ⟨b, o + 1, none⟩) hB).trans h.2.1, (hb.cell (p := ⟨b, o + 2, none⟩) hB).trans h.2.2⟩
abbrev Otgs := Sl OtgAt Otg.zero 3
theorem Sl.otgs {w w' : World} {B : Nat} {v : Value} {xs : List Otg} (h : Otgs w B v xs) (hb : Below B w w') : Otgs w' B v xs := h.map (Nat.le_refl _) fun _ _ _ hB hA => hA.below hb hB
theorem Sl.otgs_more {w : World} {B B' : Nat} {v : Value} {xs : List Otg} (h : Otgs w B v xs) (hB : B ≤ B') : Otgs w B' v xs := h.map hB fun _ _ _ _ hA => hA
/-- the first block that is not valid -/
def bksE1 : List Blk → Int
  | [] => 0
  | x :: t => if blE x ≠ 0 then blE x else bksE1 t
theorem bksE1_step (l : List Blk) (k : Nat) (h : k < l.length) : bksE1 (l.drop k) = if blE (l.getD k Blk.zero) ≠ 0 then blE (l.getD k Blk.zero) else bksE1 (l.drop (k + 1)) := by
  rw [drop_get l Blk.zero k h, bksE1]
/-- the kinds ascend -/
def ascK (l : List Blk) : Bool := (List.range (l.length - 1)).all fun i => decide ((l.getD i Blk.zero).k < (l.getD (i + 1) Blk.zero).k)
theorem ascK_iff (l : List Blk) : ascK l = true ↔ ∀ i, i + 1 < l.length → (l.getD i Blk.zero).k < (l.getD (i + 1) Blk.zero).k := by
  simp only [ascK, List.all_eq_true, List.mem_range, decide_eq_true_eq]
  exact ⟨fun h i hi => h i (by omega), fun h i hi => h i (by omega)⟩
/-- why blocks are not valid -/
def bksE (l : List Blk) : Int := if 8 < l.length then 4 else if bksE1 l ≠ 0 then bksE1 l else if ascK l = true then 0 else 9
set_option maxHeartbeats 2000000 in
theorem bks_any (v : Value) (l : List Blk) (w : World) (h : Blks w w.heap.size v l) : Calls Tryz.prog 79 #[v] w fun e w' => e = .returned (.int .i64 (bksE l)) ∧ Below w.heap.size w w' := by
  obtain ⟨A, c, rfl, hc, hm, hA⟩ := h
  unfold maxLen at hm
  by_cases h8 : 8 < l.length
  · have HE : Hid (bksE l = 4) := if_pos h8
    have h8i : (8 : Int) < l.length := by omega
    clear h8
    go_enter Tryz.func79, Tryz.ntmps79
    go_wp2_with fail
    go_ret
    exact ⟨by rw [HE.out]; rfl, Below.refl _ _⟩
  have HE : Hid (bksE l = if bksE1 l ≠ 0 then bksE1 l else if ascK l = true then 0 else 9) := if_neg h8
  have h8i : ¬ (8 : Int) < l.length := by omega
  have hl8 : l.length ≤ 8 := by omega
  have HA := Lib.hid hA
  clear hA h8
  go_enter Tryz.func79, Tryz.ntmps79
  go_wp2_with fail
  go_loopw [12] (fun i wr => ∃ k : Nat, k ≤ l.length ∧ i = .int .i64 k ∧ Hid (bksE1 (l.drop k) = bksE1 l) ∧ Below w.heap.size w wr) (fun i _ => l.length - (intOf i).toNat)
  case atStart => exact ⟨0, by omega, rfl, rfl, Below.refl _ _⟩
  case round =>
    obtain ⟨k, hk, rfl, hr, hbr⟩ := hrel
    by_cases hlt : k < l.length
    · obtain ⟨b, o, rfl, hb, hcell⟩ := HA.out (by omega)
      obtain ⟨x0, x1, x2⟩ := (hcell k hlt).below (B' := 0) hbr hb
      have HST := Lib.hid (bksE1_step l k hlt)
      have hzr := hbr.size
      clear hcell
      generalize l.getD k Blk.zero = d at *
      by_cases hE : blE d = 0
      · have HH : Hid (bksE1 (l.drop (k + 1)) = bksE1 l) := by show _ = _; rw [← hr.out, HST.out, if_neg (by simp [hE])]
        have H0 := Lib.hid hE
        clear hE
        go_wp2_with fail
        refine (bl_any d _).mono ?_
        rw [H0.out]
        rintro e w3 ⟨rfl, hb3⟩
        have hB3 := bt' ((hbr.alloc (by omega) (.cells #[.int .i64 d.k, .int .i64 d.f, .string d.d] 101))) hb3 (by simp; omega)
        clear hb3
        go_wp2_with fail
        go_roundw
        case rel => exact ⟨k + 1, by omega, by go_num, HH, hB3⟩
        case measure => simp [intOf]; omega
      · have HT : Hid (bksE l = blE d) := by show _ = _; rw [HE.out, ← hr.out, HST.out, if_pos hE, if_pos hE]
        have q : (blE d != 0) = true := by simpa using hE
        have H0 := Lib.hid hE
        clear hE
        go_wp2_with fail
        refine (bl_any d _).mono ?_
        rintro e w3 ⟨rfl, hb3⟩
        have hB3 := bt' ((hbr.alloc (by omega) (.cells #[.int .i64 d.k, .int .i64 d.f, .string d.d] 101))) hb3 (by simp; omega)
        clear hb3
        generalize blE d = er at *
        go_wp2_with fail
        go_ret
        exact ⟨by rw [HT.out]; rfl, hB3⟩
    · have HQ : Hid (bksE l = if ascK l = true then 0 else 9) := by show _ = _; rw [HE.out, ← hr.out, List.drop_of_length_le (by omega)]; simp [bksE1]
      obtain ⟨wo, rfl⟩ : ∃ wo : World, wo = wr := ⟨_, rfl⟩
      clear hr HE
      go_wp2_with fail
      go_loopw [6] (fun i wr => ∃ k : Nat, 1 ≤ k ∧ (k ≤ l.length ∨ k = 1) ∧ i = .int .i64 k ∧ Hid (∀ i, i + 1 < k → (l.getD i Blk.zero).k < (l.getD (i + 1) Blk.zero).k) ∧ Below w.heap.size w wr) (fun i _ => l.length + 1 - (intOf i).toNat)
      case atStart => exact ⟨1, by omega, .inr rfl, rfl, fun i hi => by omega, hbr⟩
      case round =>
        obtain ⟨k, hk1, hk2, rfl, hr2, hbr2⟩ := hrel
        have hk9 : k ≤ 9 := by omega
        by_cases hlt : k < l.length
        · obtain ⟨b, o, rfl, hb, hcell⟩ := HA.out (by omega)
          obtain ⟨x0, -, -⟩ := (hcell k hlt).below (B' := 0) hbr2 hb
          obtain ⟨z0, -, -⟩ := (hcell (k - 1) (by omega)).below (B' := 0) hbr2 hb
          obtain ⟨j, rfl⟩ : ∃ j, k = j + 1 := ⟨k - 1, by omega⟩
          simp only [Nat.add_sub_cancel] at z0
          have hki : (0 : Int) ≤ (j : Int) + 1 := by omega
          have hli : (j : Int) + 1 < l.length := by omega
          have hji : (j : Int) + 1 - 1 = j := by omega
          have HG : Hid ((l.getD j Blk.zero).k < (l.getD (j + 1) Blk.zero).k → ∀ i, i + 1 < j + 1 + 1 → (l.getD i Blk.zero).k < (l.getD (i + 1) Blk.zero).k) := fun h i hi => by
            rcases Nat.lt_or_ge (i + 1) (j + 1) with h' | h'
            · exact hr2.out i h'
            · obtain rfl : i = j := by omega
              exact h
          have HX : Hid (¬ (l.getD j Blk.zero).k < (l.getD (j + 1) Blk.zero).k → bksE l = 9) := fun h => by
            rw [HQ.out, if_neg]
            intro hh
            exact h ((ascK_iff l).1 hh j hlt)
          clear hcell hr2 HQ
          generalize (l.getD j Blk.zero).k = p at *
          generalize (l.getD (j + 1) Blk.zero).k = r at *
          by_cases hlt2 : p < r
          · have HG := Lib.hid (HG.out hlt2)
            have q : ¬ r ≤ p := by omega
            clear HX
            go_wp2_with fail
            go_quiet (fail)
            go_wp2_with fail
            go_roundw
            case rel => exact ⟨j + 1 + 1, by omega, .inl (by omega), by go_num, HG, below_drewN hbr2 _⟩
            case measure => simp [intOf]; omega
          · have HT := Lib.hid (HX.out hlt2)
            have q : r ≤ p := by omega
            clear HX HG
            go_wp2_with fail
            go_quiet (fail)
            go_wp2_with fail
            go_ret
            exact ⟨by rw [HT.out]; rfl, below_drewN hbr2 _⟩
        · have HT : Hid (bksE l = 0) := by
            show _ = _
            rw [HQ.out, if_pos]
            rw [ascK_iff]
            intro i hi
            exact hr2.out i (by omega)
          have hge : ¬ (k : Int) < l.length := by omega
          clear HQ hr2
          go_wp2_with fail
          go_ret
          exact ⟨by rw [HT.out]; rfl, hbr2⟩
/-- why a bundle is not valid -/
def bunE (x : Bun) : Int := if idE x.s x.c x.q x.o x.t ≠ 0 then idE x.s x.c x.q x.o x.t else if epE x.dk x.dn ≠ 0 then epE x.dk x.dn else if x.lf < 1 ∨ 1099511627776 - x.c < x.lf then 2 else if inB 0 2 x.pr = false then 8 else if flE x.t x.fl ≠ 0 then flE x.t x.fl else if bksE x.bl ≠ 0 then bksE x.bl else pyE x.py.size x.o x.t
set_option maxHeartbeats 4000000 in
theorem bun_any (x : Bun) (V : Value) (w : World) (hV : Blks w w.heap.size V x.bl) : Calls Tryz.prog 42 #[.agg #[.int .i64 x.s, .int .i64 x.c, .int .i64 x.q, .int .i64 x.o, .int .i64 x.t, .int .i64 x.dk, .int .i64 x.dn, .int .i64 x.lf, .int .i64 x.pr, .int .i64 x.fl, V, .string x.py]] w fun e w' => e = .returned (.int .i64 (bunE x)) ∧ Below w.heap.size w w' := by
  obtain ⟨s, c, q, o, t, dk, dn, lf, pr, fl, bl, py⟩ := x
  dsimp only at hV ⊢
  by_cases hid : idE s c q o t = 0
  rotate_left
  · have HE : Hid (bunE ⟨s, c, q, o, t, dk, dn, lf, pr, fl, bl, py⟩ = idE s c q o t) := by show _ = _; simp only [bunE]; rw [if_pos hid]
    have qid : (idE s c q o t != 0) = true := by simpa using hid
    clear hid
    generalize heid : idE s c q o t = er at *
    have Hid := Lib.hid heid
    clear heid
    go_enter Tryz.func42, Tryz.ntmps42
    go_wp2_with fail
    refine (id_any _ _ _ _ _ _).mono ?_
    rw [Hid.out]
    (rintro e w1 ⟨rfl, hb1⟩; have hz1 : w.heap.size + 1 ≤ w1.heap.size := (Nat.le_trans (by (first | omega | (simp; done) | (simp; omega))) hb1.size); have hk1 := bc (B := w.heap.size + 1) hb1 (by (first | omega | (simp; done) | (simp; omega))); have hf1 := bf (B := w.heap.size + 1) hb1 (by (first | omega | (simp; done) | (simp; omega))); have hy1 : w.heap.size < w1.heap.size := (by omega))
    have hBB : Below w.heap.size w w1 := bt' ((Below.refl _ w).alloc (Nat.le_refl _) _) hb1 (by simp)
    go_wp2_with fail
    go_ret
    exact ⟨by rw [HE.out]; rfl, hBB⟩
  obtain ⟨-, -, hc0, hc1, -, -, ho0, -, ht1, hot, -⟩ := idE_ok hid
  by_cases hep : epE dk dn = 0
  rotate_left
  · have HE : Hid (bunE ⟨s, c, q, o, t, dk, dn, lf, pr, fl, bl, py⟩ = epE dk dn) := by show _ = _; simp only [bunE]; rw [if_neg (by simp [hid]), if_pos hep]
    have qep : (epE dk dn != 0) = true := by simpa using hep
    clear hep
    have Hid := Lib.hid hid
    clear hid
    generalize heep : epE dk dn = er at *
    have Hep := Lib.hid heep
    clear heep
    go_enter Tryz.func42, Tryz.ntmps42
    go_wp2_with fail
    refine (id_any _ _ _ _ _ _).mono ?_
    rw [Hid.out]
    (rintro e w1 ⟨rfl, hb1⟩; have hz1 : w.heap.size + 1 ≤ w1.heap.size := (Nat.le_trans (by (first | omega | (simp; done) | (simp; omega))) hb1.size); have hk1 := bc (B := w.heap.size + 1) hb1 (by (first | omega | (simp; done) | (simp; omega))); have hf1 := bf (B := w.heap.size + 1) hb1 (by (first | omega | (simp; done) | (simp; omega))); have hy1 : w.heap.size < w1.heap.size := (by omega))
    have hBB : Below w.heap.size w w1 := bt' ((Below.refl _ w).alloc (Nat.le_refl _) _) hb1 (by simp)
    go_wp2_with fail
    refine (ep_any _ _ _).mono ?_
    rw [Hep.out]
    (rintro e w2 ⟨rfl, hb2⟩; have hz2 : w.heap.size + 1 ≤ w2.heap.size := (Nat.le_trans (by (first | omega | (simp; done) | (simp; omega))) hb2.size); have hk2 := bc (B := w.heap.size + 1) hb2 (by (first | omega | (simp; done) | (simp; omega))); have hf2 := bf (B := w.heap.size + 1) hb2 (by (first | omega | (simp; done) | (simp; omega))); have hy2 : w.heap.size < w2.heap.size := (by omega))
    have hBB := bt' hBB hb2 (by omega)
    go_wp2_with fail
    go_ret
    exact ⟨by rw [HE.out]; rfl, hBB⟩
  by_cases hL : lf < 1 ∨ 1099511627776 - c < lf
  · have HE : Hid (bunE ⟨s, c, q, o, t, dk, dn, lf, pr, fl, bl, py⟩ = 2) := by show _ = _; simp only [bunE]; rw [if_neg (by simp [hid]), if_neg (by simp [hep]), if_pos hL]
    have Hid := Lib.hid hid
    have Hep := Lib.hid hep
    clear hid hep
    by_cases hl1 : lf < 1
    · clear hL
      go_enter Tryz.func42, Tryz.ntmps42
      go_wp2_with fail
      refine (id_any _ _ _ _ _ _).mono ?_
      rw [Hid.out]
      (rintro e w1 ⟨rfl, hb1⟩; have hz1 : w.heap.size + 1 ≤ w1.heap.size := (Nat.le_trans (by (first | omega | (simp; done) | (simp; omega))) hb1.size); have hk1 := bc (B := w.heap.size + 1) hb1 (by (first | omega | (simp; done) | (simp; omega))); have hf1 := bf (B := w.heap.size + 1) hb1 (by (first | omega | (simp; done) | (simp; omega))); have hy1 : w.heap.size < w1.heap.size := (by omega))
      have hBB : Below w.heap.size w w1 := bt' ((Below.refl _ w).alloc (Nat.le_refl _) _) hb1 (by simp)
      go_wp2_with fail
      refine (ep_any _ _ _).mono ?_
      rw [Hep.out]
      (rintro e w2 ⟨rfl, hb2⟩; have hz2 : w.heap.size + 1 ≤ w2.heap.size := (Nat.le_trans (by (first | omega | (simp; done) | (simp; omega))) hb2.size); have hk2 := bc (B := w.heap.size + 1) hb2 (by (first | omega | (simp; done) | (simp; omega))); have hf2 := bf (B := w.heap.size + 1) hb2 (by (first | omega | (simp; done) | (simp; omega))); have hy2 : w.heap.size < w2.heap.size := (by omega))
      have hBB := bt' hBB hb2 (by omega)
      go_wp2_with fail
      go_ret
      exact ⟨by rw [HE.out]; rfl, hBB⟩
    · have hl2 : 1099511627776 - c < lf := by omega
      clear hL
      go_enter Tryz.func42, Tryz.ntmps42
      go_wp2_with fail
      refine (id_any _ _ _ _ _ _).mono ?_
      rw [Hid.out]
      (rintro e w1 ⟨rfl, hb1⟩; have hz1 : w.heap.size + 1 ≤ w1.heap.size := (Nat.le_trans (by (first | omega | (simp; done) | (simp; omega))) hb1.size); have hk1 := bc (B := w.heap.size + 1) hb1 (by (first | omega | (simp; done) | (simp; omega))); have hf1 := bf (B := w.heap.size + 1) hb1 (by (first | omega | (simp; done) | (simp; omega))); have hy1 : w.heap.size < w1.heap.size := (by omega))
      have hBB : Below w.heap.size w w1 := bt' ((Below.refl _ w).alloc (Nat.le_refl _) _) hb1 (by simp)
      go_wp2_with fail
      refine (ep_any _ _ _).mono ?_
      rw [Hep.out]
      (rintro e w2 ⟨rfl, hb2⟩; have hz2 : w.heap.size + 1 ≤ w2.heap.size := (Nat.le_trans (by (first | omega | (simp; done) | (simp; omega))) hb2.size); have hk2 := bc (B := w.heap.size + 1) hb2 (by (first | omega | (simp; done) | (simp; omega))); have hf2 := bf (B := w.heap.size + 1) hb2 (by (first | omega | (simp; done) | (simp; omega))); have hy2 : w.heap.size < w2.heap.size := (by omega))
      have hBB := bt' hBB hb2 (by omega)
      go_wp2_with fail
      go_ret
      exact ⟨by rw [HE.out]; rfl, hBB⟩
  have hl1 : ¬ lf < 1 := by omega
  have hl2 : ¬ 1099511627776 - c < lf := by omega
  have HL : Hid (¬ (lf < 1 ∨ 1099511627776 - c < lf)) := hL
  clear hL
  cases hpr : inB 0 2 pr
  · have HE : Hid (bunE ⟨s, c, q, o, t, dk, dn, lf, pr, fl, bl, py⟩ = 8) := by show _ = _; simp only [bunE]; rw [if_neg (by simp [hid]), if_neg (by simp [hep]), if_neg HL.out, if_pos hpr]
    have Hid := Lib.hid hid
    have Hep := Lib.hid hep
    have Hpr := Lib.hid hpr
    clear hid hep hpr
    go_enter Tryz.func42, Tryz.ntmps42
    go_wp2_with fail
    refine (id_any _ _ _ _ _ _).mono ?_
    rw [Hid.out]
    (rintro e w1 ⟨rfl, hb1⟩; have hz1 : w.heap.size + 1 ≤ w1.heap.size := (Nat.le_trans (by (first | omega | (simp; done) | (simp; omega))) hb1.size); have hk1 := bc (B := w.heap.size + 1) hb1 (by (first | omega | (simp; done) | (simp; omega))); have hf1 := bf (B := w.heap.size + 1) hb1 (by (first | omega | (simp; done) | (simp; omega))); have hy1 : w.heap.size < w1.heap.size := (by omega))
    have hBB : Below w.heap.size w w1 := bt' ((Below.refl _ w).alloc (Nat.le_refl _) _) hb1 (by simp)
    go_wp2_with fail
    refine (ep_any _ _ _).mono ?_
    rw [Hep.out]
    (rintro e w2 ⟨rfl, hb2⟩; have hz2 : w.heap.size + 1 ≤ w2.heap.size := (Nat.le_trans (by (first | omega | (simp; done) | (simp; omega))) hb2.size); have hk2 := bc (B := w.heap.size + 1) hb2 (by (first | omega | (simp; done) | (simp; omega))); have hf2 := bf (B := w.heap.size + 1) hb2 (by (first | omega | (simp; done) | (simp; omega))); have hy2 : w.heap.size < w2.heap.size := (by omega))
    have hBB := bt' hBB hb2 (by omega)
    go_wp2_with fail
    refine (within2_any _ _ _ _).mono ?_
    rw [Hpr.out]
    rintro e wz ⟨rfl, rfl⟩
    go_wp2_with fail
    go_ret
    exact ⟨by rw [HE.out]; rfl, hBB⟩
  by_cases hfl : flE t fl = 0
  rotate_left
  · have HE : Hid (bunE ⟨s, c, q, o, t, dk, dn, lf, pr, fl, bl, py⟩ = flE t fl) := by show _ = _; simp only [bunE]; rw [if_neg (by simp [hid]), if_neg (by simp [hep]), if_neg HL.out, if_neg (by simp [hpr]), if_pos hfl]
    have qfl : (flE t fl != 0) = true := by simpa using hfl
    clear hfl
    have Hid := Lib.hid hid
    have Hep := Lib.hid hep
    have Hpr := Lib.hid hpr
    clear hid hep hpr
    generalize hefl : flE t fl = er at *
    have Hfl := Lib.hid hefl
    clear hefl
    go_enter Tryz.func42, Tryz.ntmps42
    go_wp2_with fail
    refine (id_any _ _ _ _ _ _).mono ?_
    rw [Hid.out]
    (rintro e w1 ⟨rfl, hb1⟩; have hz1 : w.heap.size + 1 ≤ w1.heap.size := (Nat.le_trans (by (first | omega | (simp; done) | (simp; omega))) hb1.size); have hk1 := bc (B := w.heap.size + 1) hb1 (by (first | omega | (simp; done) | (simp; omega))); have hf1 := bf (B := w.heap.size + 1) hb1 (by (first | omega | (simp; done) | (simp; omega))); have hy1 : w.heap.size < w1.heap.size := (by omega))
    have hBB : Below w.heap.size w w1 := bt' ((Below.refl _ w).alloc (Nat.le_refl _) _) hb1 (by simp)
    go_wp2_with fail
    refine (ep_any _ _ _).mono ?_
    rw [Hep.out]
    (rintro e w2 ⟨rfl, hb2⟩; have hz2 : w.heap.size + 1 ≤ w2.heap.size := (Nat.le_trans (by (first | omega | (simp; done) | (simp; omega))) hb2.size); have hk2 := bc (B := w.heap.size + 1) hb2 (by (first | omega | (simp; done) | (simp; omega))); have hf2 := bf (B := w.heap.size + 1) hb2 (by (first | omega | (simp; done) | (simp; omega))); have hy2 : w.heap.size < w2.heap.size := (by omega))
    have hBB := bt' hBB hb2 (by omega)
    go_wp2_with fail
    refine (within2_any _ _ _ _).mono ?_
    rw [Hpr.out]
    rintro e wz ⟨rfl, rfl⟩
    go_wp2_with fail
    refine (fl_any _ _ _ _ _ _ _ _ _ _ _ _ _).mono ?_
    rw [Hfl.out]
    (rintro e w3 ⟨rfl, hb3⟩; have hz3 : w.heap.size + 1 ≤ w3.heap.size := (Nat.le_trans (by (first | omega | (simp; done) | (simp; omega))) hb3.size); have hk3 := bc (B := w.heap.size + 1) hb3 (by (first | omega | (simp; done) | (simp; omega))); have hf3 := bf (B := w.heap.size + 1) hb3 (by (first | omega | (simp; done) | (simp; omega))); have hy3 : w.heap.size < w3.heap.size := (by omega))
    have hBB := bt' hBB hb3 (by omega)
    go_wp2_with fail
    go_ret
    exact ⟨by rw [HE.out]; rfl, hBB⟩
  by_cases hbk : bksE bl = 0
  rotate_left
  · have HE : Hid (bunE ⟨s, c, q, o, t, dk, dn, lf, pr, fl, bl, py⟩ = bksE bl) := by show _ = _; simp only [bunE]; rw [if_neg (by simp [hid]), if_neg (by simp [hep]), if_neg HL.out, if_neg (by simp [hpr]), if_neg (by simp [hfl]), if_pos hbk]
    have qbk : (bksE bl != 0) = true := by simpa using hbk
    clear hbk
    have Hid := Lib.hid hid
    have Hep := Lib.hid hep
    have Hpr := Lib.hid hpr
    have Hfl := Lib.hid hfl
    clear hid hep hpr hfl
    generalize hebk : bksE bl = er at *
    have Hbk := Lib.hid hebk
    clear hebk
    go_enter Tryz.func42, Tryz.ntmps42
    go_wp2_with fail
    refine (id_any _ _ _ _ _ _).mono ?_
    rw [Hid.out]
    (rintro e w1 ⟨rfl, hb1⟩; have hz1 : w.heap.size + 1 ≤ w1.heap.size := (Nat.le_trans (by (first | omega | (simp; done) | (simp; omega))) hb1.size); have hk1 := bc (B := w.heap.size + 1) hb1 (by (first | omega | (simp; done) | (simp; omega))); have hf1 := bf (B := w.heap.size + 1) hb1 (by (first | omega | (simp; done) | (simp; omega))); have hy1 : w.heap.size < w1.heap.size := (by omega))
    have hBB : Below w.heap.size w w1 := bt' ((Below.refl _ w).alloc (Nat.le_refl _) _) hb1 (by simp)
    go_wp2_with fail
    refine (ep_any _ _ _).mono ?_
    rw [Hep.out]
    (rintro e w2 ⟨rfl, hb2⟩; have hz2 : w.heap.size + 1 ≤ w2.heap.size := (Nat.le_trans (by (first | omega | (simp; done) | (simp; omega))) hb2.size); have hk2 := bc (B := w.heap.size + 1) hb2 (by (first | omega | (simp; done) | (simp; omega))); have hf2 := bf (B := w.heap.size + 1) hb2 (by (first | omega | (simp; done) | (simp; omega))); have hy2 : w.heap.size < w2.heap.size := (by omega))
    have hBB := bt' hBB hb2 (by omega)
    go_wp2_with fail
    refine (within2_any _ _ _ _).mono ?_
    rw [Hpr.out]
    rintro e wz ⟨rfl, rfl⟩
    go_wp2_with fail
    refine (fl_any _ _ _ _ _ _ _ _ _ _ _ _ _).mono ?_
    rw [Hfl.out]
    (rintro e w3 ⟨rfl, hb3⟩; have hz3 : w.heap.size + 1 ≤ w3.heap.size := (Nat.le_trans (by (first | omega | (simp; done) | (simp; omega))) hb3.size); have hk3 := bc (B := w.heap.size + 1) hb3 (by (first | omega | (simp; done) | (simp; omega))); have hf3 := bf (B := w.heap.size + 1) hb3 (by (first | omega | (simp; done) | (simp; omega))); have hy3 : w.heap.size < w3.heap.size := (by omega))
    have hBB := bt' hBB hb3 (by omega)
    go_wp2_with fail
    have HV := (hV.blks hBB).blks_more (show w.heap.size ≤ w3.heap.size by omega)
    refine (bks_any _ _ _ HV).mono ?_
    rw [Hbk.out]
    (rintro e w4 ⟨rfl, hb4⟩; have hz4 : w.heap.size + 1 ≤ w4.heap.size := (Nat.le_trans (by (first | omega | (simp; done) | (simp; omega))) hb4.size); have hk4 := bc (B := w.heap.size + 1) hb4 (by (first | omega | (simp; done) | (simp; omega))); have hf4 := bf (B := w.heap.size + 1) hb4 (by (first | omega | (simp; done) | (simp; omega))); have hy4 : w.heap.size < w4.heap.size := (by omega))
    have hBB := bt' hBB hb4 (by omega)
    go_wp2_with fail
    go_ret
    exact ⟨by rw [HE.out]; rfl, hBB⟩
  have HE : Hid (bunE ⟨s, c, q, o, t, dk, dn, lf, pr, fl, bl, py⟩ = pyE py.size o t) := by show _ = _; simp only [bunE]; rw [if_neg (by simp [hid]), if_neg (by simp [hep]), if_neg HL.out, if_neg (by simp [hpr]), if_neg (by simp [hfl]), if_neg (by simp [hbk])]
  have Hid := Lib.hid hid
  have Hep := Lib.hid hep
  have Hpr := Lib.hid hpr
  have Hfl := Lib.hid hfl
  have Hbk := Lib.hid hbk
  clear hid hep hpr hfl hbk
  go_enter Tryz.func42, Tryz.ntmps42
  go_wp2_with fail
  refine (id_any _ _ _ _ _ _).mono ?_
  rw [Hid.out]
  (rintro e w1 ⟨rfl, hb1⟩; have hz1 : w.heap.size + 1 ≤ w1.heap.size := (Nat.le_trans (by (first | omega | (simp; done) | (simp; omega))) hb1.size); have hk1 := bc (B := w.heap.size + 1) hb1 (by (first | omega | (simp; done) | (simp; omega))); have hf1 := bf (B := w.heap.size + 1) hb1 (by (first | omega | (simp; done) | (simp; omega))); have hy1 : w.heap.size < w1.heap.size := (by omega))
  have hBB : Below w.heap.size w w1 := bt' ((Below.refl _ w).alloc (Nat.le_refl _) _) hb1 (by simp)
  go_wp2_with fail
  refine (ep_any _ _ _).mono ?_
  rw [Hep.out]
  (rintro e w2 ⟨rfl, hb2⟩; have hz2 : w.heap.size + 1 ≤ w2.heap.size := (Nat.le_trans (by (first | omega | (simp; done) | (simp; omega))) hb2.size); have hk2 := bc (B := w.heap.size + 1) hb2 (by (first | omega | (simp; done) | (simp; omega))); have hf2 := bf (B := w.heap.size + 1) hb2 (by (first | omega | (simp; done) | (simp; omega))); have hy2 : w.heap.size < w2.heap.size := (by omega))
  have hBB := bt' hBB hb2 (by omega)
  go_wp2_with fail
  refine (within2_any _ _ _ _).mono ?_
  rw [Hpr.out]
  rintro e wz ⟨rfl, rfl⟩
  go_wp2_with fail
  refine (fl_any _ _ _ _ _ _ _ _ _ _ _ _ _).mono ?_
  rw [Hfl.out]
  (rintro e w3 ⟨rfl, hb3⟩; have hz3 : w.heap.size + 1 ≤ w3.heap.size := (Nat.le_trans (by (first | omega | (simp; done) | (simp; omega))) hb3.size); have hk3 := bc (B := w.heap.size + 1) hb3 (by (first | omega | (simp; done) | (simp; omega))); have hf3 := bf (B := w.heap.size + 1) hb3 (by (first | omega | (simp; done) | (simp; omega))); have hy3 : w.heap.size < w3.heap.size := (by omega))
  have hBB := bt' hBB hb3 (by omega)
  go_wp2_with fail
  have HV := (hV.blks hBB).blks_more (show w.heap.size ≤ w3.heap.size by omega)
  refine (bks_any _ _ _ HV).mono ?_
  rw [Hbk.out]
  (rintro e w4 ⟨rfl, hb4⟩; have hz4 : w.heap.size + 1 ≤ w4.heap.size := (Nat.le_trans (by (first | omega | (simp; done) | (simp; omega))) hb4.size); have hk4 := bc (B := w.heap.size + 1) hb4 (by (first | omega | (simp; done) | (simp; omega))); have hf4 := bf (B := w.heap.size + 1) hb4 (by (first | omega | (simp; done) | (simp; omega))); have hy4 : w.heap.size < w4.heap.size := (by omega))
  have hBB := bt' hBB hb4 (by omega)
  go_wp2_with fail
  refine (py_any _ _ _ _ _ _ _ _ _ _ _ _ _ ho0 hot ht1).mono ?_
  rintro e w9 ⟨rfl, hb9⟩
  have hBB := bt' hBB hb9 (by omega)
  go_wp2_with fail
  go_ret
  exact ⟨by rw [HE.out]; rfl, hBB⟩
end Go.Proofs.YtclkjjdfdndplaaGreatDoor

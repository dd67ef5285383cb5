/- The fields as a list; checkEntry. -/
import Derived.Test.YtekpnphfdoplfaaDoorA3
namespace Go.Proofs.YtekpnphfdoplfaaDoor
open Go.RowKit
/-- a field: its word, where it lies in the entry, what it holds, its most, whether it is there -/
structure Fld where
  wd : List UInt8
  o : Nat
  n : Int
  most : Int
  has : Bool
def Fld.zero : Fld := ⟨[], 0, 0, 0, false⟩
def nodeW : List UInt8 := [110, 111, 100, 101]
def ticketW : List UInt8 := [116, 105, 99, 107, 101, 116]
def contactW : List UInt8 := [99, 111, 110, 116, 97, 99, 116]
def valueW : List UInt8 := [118, 97, 108, 117, 101]
def fldL (x : Ent) : List Fld := [⟨nodeW, 2, x.n, 15, hasN x.k⟩, ⟨ticketW, 3, x.j, 1152921504606846976, hasJ x.k⟩, ⟨contactW, 4, x.c, 63, hasC x.k⟩, ⟨valueW, 5, x.v, 1152921504606846976, hasV x.k⟩]
def badF (f : Fld) : Bool := !fldB f.n f.has f.most
/-- the four cells of a field in a row at block g, and what it leads to in block b -/
def FldAt (w : World) (g b i : Nat) (f : Fld) : Prop :=
  w.cell? ⟨g, i * 4, none⟩ = some (.string ⟨f.wd.toArray⟩) ∧ w.cell? ⟨g, i * 4 + 1, none⟩ = some (.pointer (some ⟨b, f.o, none⟩)) ∧ w.cell? ⟨g, i * 4 + 2, none⟩ = some (.int .i64 f.most) ∧ w.cell? ⟨g, i * 4 + 3, none⟩ = some (.bool f.has) ∧ w.cell? ⟨b, f.o, none⟩ = some (.int .i64 f.n)
theorem FldAt.below {w w' : World} {B g b i : Nat} {f : Fld} (h : FldAt w g b i f) (hb : Below B w w') (hg : g < B) (hB : b < B) : FldAt w' g b i f := by
  obtain ⟨h0, h1, h2, h3, h4⟩ := h
  exact ⟨(hb.cell (p := ⟨g, i * 4, none⟩) hg).trans h0, (hb.cell (p := ⟨g, i * 4 + 1, none⟩) hg).trans h1, (hb.cell (p := ⟨g, i * 4 + 2, none⟩) hg).trans h2, (hb.cell (p := ⟨g, i * 4 + 3, none⟩) hg).trans h3, (hb.cell (p := ⟨b, f.o, none⟩) hB).trans h4⟩
/-- a row of fields at block g, of the entry at block b -/
structure Flds (w : World) (g b : Nat) (fs : List Fld) : Prop where
  gl : g < w.heap.size
  bl : b < w.heap.size
  row : ∀ i, i < fs.length → FldAt w g b i (fs.getD i Fld.zero)
theorem Flds.below {w w' : World} {B g b : Nat} {fs : List Fld} (h : Flds w g b fs) (hb : Below B w w') (hg : g < B) (hB : b < B) : Flds w' g b fs :=
  ⟨Nat.lt_of_lt_of_le h.gl hb.size, Nat.lt_of_lt_of_le h.bl hb.size, fun i hi => (h.row i hi).below hb hg hB⟩
theorem flds_of {w : World} {g b : Nat} {x : Ent} (h : w.heap[g]? = some (.cells (fldC b x.k) 88 (0, 0))) (hb : b < w.heap.size) (hx : EntAt w b 0 x) : Flds w g b (fldL x) := by
  refine ⟨blk_lt h, hb, fun i hi => ?_⟩
  obtain ⟨-, -, x2, x3, x4, x5⟩ := hx
  simp only [Nat.zero_add] at x2 x3 x4 x5
  have hl : i < 4 := hi
  obtain rfl | rfl | rfl | rfl : i = 0 ∨ i = 1 ∨ i = 2 ∨ i = 3 := by omega
  · exact ⟨cell_blk h 0, cell_blk h 1, cell_blk h 2, cell_blk h 3, x2⟩
  · exact ⟨cell_blk h 4, cell_blk h 5, cell_blk h 6, cell_blk h 7, x3⟩
  · exact ⟨cell_blk h 8, cell_blk h 9, cell_blk h 10, cell_blk h 11, x4⟩
  · exact ⟨cell_blk h 12, cell_blk h 13, cell_blk h 14, cell_blk h 15, x5⟩
/-- fields (50), as a list -/
theorem fields_list (b : Nat) (x : Ent) (w : World) (hb : b < w.heap.size) (hx : EntAt w b 0 x) (h1 : 1 ≤ x.k) (h2 : x.k ≤ 17) : Calls Tryd.prog 50 #[.pointer (some ⟨b, 0, none⟩)] w fun e w' =>
    ∃ g, e = .returned (.slice (some ⟨g, 0, none⟩) 4 4) ∧ Flds w' g b (fldL x) ∧ w.heap.size ≤ g ∧ Below w.heap.size w w' := by
  refine (fields_any b x w hb hx h1 h2).mono ?_
  rintro e w' ⟨g, rfl, h, hg, hbl⟩
  exact ⟨g, rfl, flds_of h (Nat.lt_of_lt_of_le hb hbl.size) (hx.below hbl hb), hg, hbl⟩
theorem drop_get {α : Type} (l : List α) (z : α) (k : Nat) (h : k < l.length) : l.drop k = l.getD k z :: l.drop (k + 1) := by
  rw [List.drop_eq_getElem_cons h]; simp [List.getD, h]
def findI {α : Type} (p : α → Bool) : List α → Nat → Int
  | [], _ => -1
  | a :: t, k => if p a = true then (k : Int) else findI p t (k + 1)
theorem findI_step {α : Type} (p : α → Bool) (z : α) (l : List α) (k : Nat) (h : k < l.length) : findI p (l.drop k) k = if p (l.getD k z) = true then (k : Int) else findI p (l.drop (k + 1)) (k + 1) := by
  rw [drop_get l z k h, findI]
theorem findI_any {α : Type} (p : α → Bool) : ∀ (l : List α) (k : Nat), decide (0 ≤ findI p l k) = l.any p
  | [], k => by simp [findI]
  | a :: t, k => by
    rw [findI, List.any_cons]
    cases hp : p a
    · simp [findI_any p t (k + 1)]
    · simp
set_option maxHeartbeats 2000000 in
theorem wrong_any (f : Fld) (b : Nat) (w : World) (hb : b < w.heap.size) (hn : w.cell? ⟨b, f.o, none⟩ = some (.int .i64 f.n)) : Calls Tryd.prog 60 #[.agg #[.string ⟨f.wd.toArray⟩, .pointer (some ⟨b, f.o, none⟩), .int .i64 f.most, .bool f.has]] w fun e w' => e = .returned (.bool (badF f)) ∧ Below w.heap.size w w' := by
  obtain ⟨wd, o, n, most, has⟩ := f
  dsimp only at hn
  have hb2 : b < (w.alloc (.cells #[.string ⟨wd.toArray⟩, .pointer (some ⟨b, o, none⟩), .int .i64 most, .bool has] 88)).heap.size := by simp; omega
  cases has with
  | true =>
    by_cases h0 : n < 0
    · have HT : Hid (badF ⟨wd, o, n, most, true⟩ = true) := by show _ = _; simp [badF, fldB]; omega
      have d0 : decide (n < 0) = true := by simpa using h0
      go_enter Tryd.func60, Tryd.ntmps60
      go_wp2_with fail
      go_quiet (fail)
      go_wp2_with fail
      go_ret
      exact ⟨by rw [HT.out]; rfl, by (repeat' (first | (with_reducible exact Below.refl _ _) | (with_reducible refine Below.alloc ?_ ?_ _) | (with_reducible refine Below.drew ?_) | (with_reducible refine below_drewN ?_ _) | (with_reducible refine Below.setCell ?_ ?_ _) | (with_reducible refine Below.trans ?_ (Below.mono (by assumption) ?_)) | (with_reducible exact Nat.le_refl _) | omega | (simp; omega) | (simp; done)))⟩
    · have d0 : decide (n < 0) = false := by simpa using h0
      by_cases h1 : most < n
      · have HT : Hid (badF ⟨wd, o, n, most, true⟩ = true) := by show _ = _; simp [badF, fldB]; omega
        have d1 : decide (most < n) = true := by simpa using h1
        go_enter Tryd.func60, Tryd.ntmps60
        go_wp2_with fail
        go_quiet (fail)
        go_wp2_with fail
        go_ret
        exact ⟨by rw [HT.out]; rfl, by (repeat' (first | (with_reducible exact Below.refl _ _) | (with_reducible refine Below.alloc ?_ ?_ _) | (with_reducible refine Below.drew ?_) | (with_reducible refine below_drewN ?_ _) | (with_reducible refine Below.setCell ?_ ?_ _) | (with_reducible refine Below.trans ?_ (Below.mono (by assumption) ?_)) | (with_reducible exact Nat.le_refl _) | omega | (simp; omega) | (simp; done)))⟩
      · have HT : Hid (badF ⟨wd, o, n, most, true⟩ = false) := by show _ = _; simp [badF, fldB]; omega
        have d1 : decide (most < n) = false := by simpa using h1
        go_enter Tryd.func60, Tryd.ntmps60
        go_wp2_with fail
        go_quiet (fail)
        go_wp2_with fail
        go_ret
        exact ⟨by rw [HT.out]; rfl, by (repeat' (first | (with_reducible exact Below.refl _ _) | (with_reducible refine Below.alloc ?_ ?_ _) | (with_reducible refine Below.drew ?_) | (with_reducible refine below_drewN ?_ _) | (with_reducible refine Below.setCell ?_ ?_ _) | (with_reducible refine Below.trans ?_ (Below.mono (by assumption) ?_)) | (with_reducible exact Nat.le_refl _) | omega | (simp; omega) | (simp; done)))⟩
  | false =>
    by_cases h0 : n = -1
    · have HT : Hid (badF ⟨wd, o, n, most, false⟩ = false) := by show _ = _; simp [badF, fldB, h0]
      have d0 : (n != -1) = false := by simpa using h0
      go_enter Tryd.func60, Tryd.ntmps60
      go_wp2_with fail
      go_quiet (fail)
      go_wp2_with fail
      go_ret
      exact ⟨by rw [HT.out]; rfl, by (repeat' (first | (with_reducible exact Below.refl _ _) | (with_reducible refine Below.alloc ?_ ?_ _) | (with_reducible refine Below.drew ?_) | (with_reducible refine below_drewN ?_ _) | (with_reducible refine Below.setCell ?_ ?_ _) | (with_reducible refine Below.trans ?_ (Below.mono (by assumption) ?_)) | (with_reducible exact Nat.le_refl _) | omega | (simp; omega) | (simp; done)))⟩
    · have HT : Hid (badF ⟨wd, o, n, most, false⟩ = true) := by show _ = _; simp [badF, fldB, h0]
      have d0 : (n != -1) = true := by simpa using h0
      go_enter Tryd.func60, Tryd.ntmps60
      go_wp2_with fail
      go_quiet (fail)
      go_wp2_with fail
      go_ret
      exact ⟨by rw [HT.out]; rfl, by (repeat' (first | (with_reducible exact Below.refl _ _) | (with_reducible refine Below.alloc ?_ ?_ _) | (with_reducible refine Below.drew ?_) | (with_reducible refine below_drewN ?_ _) | (with_reducible refine Below.setCell ?_ ?_ _) | (with_reducible refine Below.trans ?_ (Below.mono (by assumption) ?_)) | (with_reducible exact Nat.le_refl _) | omega | (simp; omega) | (simp; done)))⟩
set_option maxHeartbeats 2000000 in
theorem windex_any (fs : List Fld) (g b c : Nat) (w : World) (hF : Flds w g b fs) (hlc : fs.length ≤ c) (hcm : c ≤ maxLen) :
    Calls Tryd.prog 75 #[.slice (some ⟨g, 0, none⟩) fs.length c, .func (.func 60) #[] #[]] w fun e w' => e = .returned (.int .i64 (findI badF fs 0)) ∧ Below w.heap.size w w' := by
  unfold maxLen at hcm
  have HF := Lib.hid hF.row
  have hgl := hF.gl
  have hbl := hF.bl
  clear hF
  go_enter Tryd.func75, Tryd.ntmps75
  go_wp2_with fail
  go_loopw [8] (fun i wr => ∃ k : Nat, k ≤ fs.length ∧ i = .int .i64 k ∧ Hid (findI badF (fs.drop k) k = findI badF fs 0) ∧ Below w.heap.size w wr) (fun i _ => fs.length - (intOf i).toNat)
  case atStart => exact ⟨0, by omega, rfl, rfl, Below.refl _ _⟩
  case round =>
    obtain ⟨k, hk, rfl, hr, hB⟩ := hrel
    have hzr := hB.size
    by_cases hlt : k < fs.length
    · have hx := (HF.out k hlt).below hB hgl hbl
      have HST := Lib.hid (findI_step badF Fld.zero fs k hlt)
      generalize fs.getD k Fld.zero = f at *
      obtain ⟨x0, x1, x2, x3, x4⟩ := hx
      have hgr : g < wr.heap.size := by omega
      cases hq : badF f
      · have HT : Hid (findI badF (fs.drop (k + 1)) (k + 1) = findI badF fs 0) := by show _ = _; rw [← hr.out, HST.out, hq]; rfl
        have HQ := Lib.hid hq
        clear hq
        go_wp2_with fail
        refine (wrong_any f b _ (by omega) x4).mono ?_
        rw [HQ.out]
        rintro e w1 ⟨rfl, hb1⟩
        have hB1 := bt' hB hb1 hzr
        clear hb1
        go_wp2_with fail
        go_roundw
        case rel => exact ⟨k + 1, by omega, by go_num, HT, hB1⟩
        case measure => simp [intOf]; omega
      · have HT : Hid (findI badF fs 0 = k) := by show _ = _; rw [← hr.out, HST.out, hq]; rfl
        have HQ := Lib.hid hq
        clear hq
        go_wp2_with fail
        refine (wrong_any f b _ (by omega) x4).mono ?_
        rw [HQ.out]
        rintro e w1 ⟨rfl, hb1⟩
        have hB1 := bt' hB hb1 hzr
        clear hb1
        go_wp2_with fail
        go_ret
        exact ⟨by rw [HT.out]; rfl, hB1⟩
    · have HT : Hid (findI badF fs 0 = -1) := by show _ = _; rw [← hr.out, List.drop_of_length_le (by omega)]; rfl
      go_wp2_with fail
      go_ret
      exact ⟨by rw [HT.out]; rfl, hB⟩
theorem wcontains_any (fs : List Fld) (g b c : Nat) (w : World) (hF : Flds w g b fs) (hlc : fs.length ≤ c) (hcm : c ≤ maxLen) :
    Calls Tryd.prog 61 #[.slice (some ⟨g, 0, none⟩) fs.length c, .func (.func 60) #[] #[]] w fun e w' => e = .returned (.bool (fs.any badF)) ∧ Below w.heap.size w w' := by
  have HCL := Lib.hid (windex_any fs g b c w hF hlc hcm)
  have H := Lib.hid (findI_any badF fs 0)
  go_enter Tryd.func61, Tryd.ntmps61
  go_wp2_with fail
  refine HCL.out.mono ?_
  rintro e w1 ⟨rfl, hb1⟩
  go_wp2_with fail
  go_ret
  exact ⟨by rw [← H.out]; rfl, hb1⟩
theorem any_fld (x : Ent) : (if fldB x.n (hasN x.k) 15 = false then 2 else if fldB x.j (hasJ x.k) 1152921504606846976 = false then 2 else
    if fldB x.c (hasC x.k) 63 = false then 2 else if fldB x.v (hasV x.k) 1152921504606846976 = false then 2 else 0) = if (fldL x).any badF = true then (2 : Int) else 0 := by
  cases h1 : fldB x.n (hasN x.k) 15 <;> cases h2 : fldB x.j (hasJ x.k) 1152921504606846976 <;> cases h3 : fldB x.c (hasC x.k) 63 <;> cases h4 : fldB x.v (hasV x.k) 1152921504606846976 <;> simp [fldL, badF, h1, h2, h3, h4]
set_option maxHeartbeats 4000000 in
theorem entry_any (x : Ent) (w : World) : Calls Tryd.prog 38 #[.agg #[.int .i64 x.t, .int .i64 x.k, .int .i64 x.n, .int .i64 x.j, .int .i64 x.c, .int .i64 x.v]] w fun e w' => e = .returned (.int .i64 (entE x)) ∧ Below w.heap.size w w' := by
  by_cases hk : x.k < 1
  · have HE : Hid (entE x = 8) := by show _ = _; rw [entE, if_pos (.inl hk)]
    go_enter Tryd.func38, Tryd.ntmps38
    go_wp2_with fail
    go_ret
    exact ⟨by rw [HE.out]; rfl, by (repeat' (first | (with_reducible exact Below.refl _ _) | (with_reducible refine Below.alloc ?_ ?_ _) | (with_reducible refine Below.drew ?_) | (with_reducible refine below_drewN ?_ _) | (with_reducible refine Below.setCell ?_ ?_ _) | (with_reducible refine Below.trans ?_ (Below.mono (by assumption) ?_)) | (with_reducible exact Nat.le_refl _) | omega | (simp; omega) | (simp; done)))⟩
  · by_cases hk2 : 17 < x.k
    · have HE : Hid (entE x = 8) := by show _ = _; rw [entE, if_pos (.inr hk2)]
      go_enter Tryd.func38, Tryd.ntmps38
      go_wp2_with fail
      go_ret
      exact ⟨by rw [HE.out]; rfl, by (repeat' (first | (with_reducible exact Below.refl _ _) | (with_reducible refine Below.alloc ?_ ?_ _) | (with_reducible refine Below.drew ?_) | (with_reducible refine below_drewN ?_ _) | (with_reducible refine Below.setCell ?_ ?_ _) | (with_reducible refine Below.trans ?_ (Below.mono (by assumption) ?_)) | (with_reducible exact Nat.le_refl _) | omega | (simp; omega) | (simp; done)))⟩
    · have HK : Hid (¬ (x.k < 1 ∨ 17 < x.k)) := by show ¬ _; omega
      have hk1 : 1 ≤ x.k := by omega
      have hk2 : x.k ≤ 17 := by omega
      by_cases ht : x.t < 0
      · have HE : Hid (entE x = 2) := by show _ = _; rw [entE, if_neg HK.out, if_pos (.inl ht)]
        go_enter Tryd.func38, Tryd.ntmps38
        go_wp2_with fail
        go_ret
        exact ⟨by rw [HE.out]; rfl, by (repeat' (first | (with_reducible exact Below.refl _ _) | (with_reducible refine Below.alloc ?_ ?_ _) | (with_reducible refine Below.drew ?_) | (with_reducible refine below_drewN ?_ _) | (with_reducible refine Below.setCell ?_ ?_ _) | (with_reducible refine Below.trans ?_ (Below.mono (by assumption) ?_)) | (with_reducible exact Nat.le_refl _) | omega | (simp; omega) | (simp; done)))⟩
      · by_cases ht2 : 1099511627776 < x.t
        · have HE : Hid (entE x = 2) := by show _ = _; rw [entE, if_neg HK.out, if_pos (.inr ht2)]
          go_enter Tryd.func38, Tryd.ntmps38
          go_wp2_with fail
          go_ret
          exact ⟨by rw [HE.out]; rfl, by (repeat' (first | (with_reducible exact Below.refl _ _) | (with_reducible refine Below.alloc ?_ ?_ _) | (with_reducible refine Below.drew ?_) | (with_reducible refine below_drewN ?_ _) | (with_reducible refine Below.setCell ?_ ?_ _) | (with_reducible refine Below.trans ?_ (Below.mono (by assumption) ?_)) | (with_reducible exact Nat.le_refl _) | omega | (simp; omega) | (simp; done)))⟩
        · have HP : Hid (entE x = if (fldL x).any badF = true then 2 else 0) := by show _ = _; rw [entE, if_neg HK.out, if_neg (by omega)]; exact any_fld x
          have hS : EntAt (w.alloc (.cells #[.int .i64 x.t, .int .i64 x.k, .int .i64 x.n, .int .i64 x.j, .int .i64 x.c, .int .i64 x.v] 37)) w.heap.size 0 x := by simp [EntAt, go_sem]
          have HS := Lib.hid hS
          clear hS
          cases hA : (fldL x).any badF
          all_goals
            have HA := Lib.hid hA
            clear hA
          · have HE : Hid (entE x = 0) := by show _ = _; rw [HP.out, HA.out]; rfl
            go_enter Tryd.func38, Tryd.ntmps38
            go_wp2_with fail
            refine (fields_list w.heap.size x _ (by simp) HS.out hk1 hk2).mono ?_
            rintro e w1 ⟨g, rfl, hF, hg, hb1⟩
            have HF := Lib.hid hF
            clear hF
            have hB1 : Below w.heap.size w w1 := by (repeat' (first | (with_reducible exact Below.refl _ _) | (with_reducible refine Below.alloc ?_ ?_ _) | (with_reducible refine Below.drew ?_) | (with_reducible refine below_drewN ?_ _) | (with_reducible refine Below.setCell ?_ ?_ _) | (with_reducible refine Below.trans ?_ (Below.mono (by assumption) ?_)) | (with_reducible exact Nat.le_refl _) | omega | (simp; omega) | (simp; done)))
            go_wp2_with fail
            refine (wcontains_any (fldL x) g w.heap.size 4 _ HF.out (by simp [fldL]) (by simp [maxLen])).mono ?_
            rw [HA.out]
            rintro e w2 ⟨rfl, hb2⟩
            have hB2 := bt hB1 hb2
            clear hb1 hb2
            go_wp2_with fail
            go_ret
            exact ⟨by rw [HE.out]; rfl, hB2⟩
          · have HE : Hid (entE x = 2) := by show _ = _; rw [HP.out, HA.out]; rfl
            go_enter Tryd.func38, Tryd.ntmps38
            go_wp2_with fail
            refine (fields_list w.heap.size x _ (by simp) HS.out hk1 hk2).mono ?_
            rintro e w1 ⟨g, rfl, hF, hg, hb1⟩
            have HF := Lib.hid hF
            clear hF
            have hB1 : Below w.heap.size w w1 := by (repeat' (first | (with_reducible exact Below.refl _ _) | (with_reducible refine Below.alloc ?_ ?_ _) | (with_reducible refine Below.drew ?_) | (with_reducible refine below_drewN ?_ _) | (with_reducible refine Below.setCell ?_ ?_ _) | (with_reducible refine Below.trans ?_ (Below.mono (by assumption) ?_)) | (with_reducible exact Nat.le_refl _) | omega | (simp; omega) | (simp; done)))
            go_wp2_with fail
            refine (wcontains_any (fldL x) g w.heap.size 4 _ HF.out (by simp [fldL]) (by simp [maxLen])).mono ?_
            rw [HA.out]
            rintro e w2 ⟨rfl, hb2⟩
            have hB2 := bt hB1 hb2
            clear hb1 hb2
            go_wp2_with fail
            go_ret
            exact ⟨by rw [HE.out]; rfl, hB2⟩
end Go.Proofs.YtekpnphfdoplfaaDoor

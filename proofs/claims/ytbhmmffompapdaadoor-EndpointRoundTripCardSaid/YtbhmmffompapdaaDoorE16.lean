/- Parse of endpoints. -/
import Derived.Test.YtbhmmffompapdaaDoorL1
import Derived.Test.YtbhmmffompapdaaDoorSh2
namespace Go.Proofs.YtbhmmffompapdaaDoor
open Go.RowKit
/-- what the package-level variables hold that Cut and Atoi read -/
def Glob (w : World) : Prop := 3 ≤ w.heap.size ∧ (∃ m, w.cell? ⟨0, 0, none⟩ = some (.int .i64 m)) ∧ (∃ te pe, w.cell? ⟨1, 0, none⟩ = some (.iface te pe)) ∧ ∃ te pe, w.cell? ⟨2, 0, none⟩ = some (.iface te pe)
theorem Glob.below {w w' : World} {B : Nat} (h : Glob w) (hb : Below B w w') (hB : 3 ≤ B) : Glob w' := by
  obtain ⟨h0, ⟨m, h1⟩, ⟨t1, p1, h2⟩, t2, p2, h3⟩ := h
  exact ⟨Nat.le_trans h0 hb.size, ⟨m, (hb.cell (p := ⟨0, 0, none⟩) (by show 0 < B; omega)).trans h1⟩, ⟨t1, p1, (hb.cell (p := ⟨1, 0, none⟩) (by show 1 < B; omega)).trans h2⟩, t2, p2, (hb.cell (p := ⟨2, 0, none⟩) (by show 2 < B; omega)).trans h3⟩
/-- the endpoint with a text -/
def epParse (l : List UInt8) : Option (Int × Int) := epAll.find? fun p => epText p.1 p.2 == l
def epWord (k : Int) : List UInt8 := if k = 1 then [110, 111, 100, 101] else [103, 114, 111, 117, 112]
def isOk (e : Lib.NumEnd Int) (n : Int) : Bool := match e with | .ok v => decide (v = n) | _ => false
theorem epAll_cut : (epAll.all fun p => decide ((Lib.cut (epText p.1 p.2) [58]).1 = epWord p.1) && isOk (Lib.atoiAll (Lib.cut (epText p.1 p.2) [58]).2.1) p.2 && decide (epE p.1 p.2 = 0)) = true := by kernel_rfl
theorem epParse_some {l : List UInt8} {k n : Int} (h : epParse l = some (k, n)) : (Lib.cut l [58]).1 = epWord k ∧ Lib.atoiAll (Lib.cut l [58]).2.1 = .ok n ∧ epE k n = 0 ∧ epText k n = l := by
  have h1 := List.find?_some h
  have h2 := List.mem_of_find?_eq_some h
  simp only [beq_iff_eq] at h1
  subst h1
  have := List.all_eq_true.1 epAll_cut _ h2
  simp only [Bool.and_eq_true, decide_eq_true_eq] at this
  refine ⟨this.1.1, ?_, this.2, rfl⟩
  have h3 := this.1.2
  unfold isOk at h3
  split at h3
  · rename_i v hv; rw [hv]; simpa using h3
  · cases h3
theorem epParse_none {l : List UInt8} (h : epParse l = none) (k n : Int) (he : epE k n = 0) : epText k n ≠ l := fun e => by
  have := List.find?_eq_none.1 h (k, n) (epAll_mem he)
  simp [e] at this
def pK (l : List UInt8) : Int := ((epParse l).getD (0, 0)).1
def pN (l : List UInt8) : Int := ((epParse l).getD (0, 0)).2
def pE (l : List UInt8) : Int := if (epParse l).isSome then 0 else 3
def ParsePost (l : List UInt8) (w : World) (e : Ending) (w' : World) : Prop := e = .returned (.tuple #[.agg #[.int .i64 (pK l), .int .i64 (pN l)], .int .i64 (pE l)]) ∧ Below w.heap.size w w'
theorem idx0 (a b c : Value) (W : World) : (Instr.index 49 (.agg #[a, b, c]) (.int .i64 0)).run Tryd.prog W = .ok a W := by kernel_rfl
theorem atoi_ok (s : ByteArray) (hs : s.size ≤ 40) (v : Int) (h : Lib.atoiAll s.data.toList = .ok v) (w : World) : Calls Tryd.prog 41 #[.string s] w fun e w' => e = .returned (.tuple #[.int .i64 v, .nilIface]) ∧ Below w.heap.size w w' := by
  refine (Tryd.strconv_Atoi_ok s (by omega) v h w).mono ?_
  rintro e w' ⟨rfl, rfl | ⟨t, rfl⟩⟩
  · exact ⟨rfl, Below.refl _ _⟩
  · exact ⟨rfl, Lib.bytesWorld_below _ _ _⟩
theorem atoi_bad (s : ByteArray) (hs : s.size ≤ 40) (h : ∀ v, Lib.atoiAll s.data.toList ≠ .ok v) (w : World) (hG : Glob w) : Calls Tryd.prog 41 #[.string s] w fun e w' => (∃ n N, e = .returned (.tuple #[.int .i64 n, .iface 73 (.pointer (some ⟨N, 0, none⟩))])) ∧ Below w.heap.size w w' := by
  obtain ⟨h0, ⟨m, h1⟩, ⟨t1, p1, h2⟩, t2, p2, h3⟩ := hG
  cases ha : Lib.atoiAll s.data.toList with
  | ok v => exact absurd ha (h v)
  | «syntax» =>
    refine (Tryd.strconv_Atoi_syntax s (by omega) ha _ w h2 (.inr ⟨_, _, rfl⟩)).mono ?_
    rintro e w' ⟨N, rfl, _, _, hb⟩
    exact ⟨⟨_, N, rfl⟩, hb⟩
  | range =>
    refine (Tryd.strconv_Atoi_range s (by omega) ha _ w h3 (.inr ⟨_, _, rfl⟩)).mono ?_
    rintro e w' ⟨N, rfl, _, _, hb⟩
    exact ⟨⟨_, N, rfl⟩, hb⟩
theorem cut_any (s : ByteArray) (hs : s.size ≤ 40) (w : World) (hG : Glob w) : Calls Tryd.prog 40 #[.string s, .string ⟨#[58]⟩] w fun e w' => e = .returned (.tuple #[.string ⟨(Lib.cut s.data.toList [58]).1.toArray⟩, .string ⟨(Lib.cut s.data.toList [58]).2.1.toArray⟩, .bool (Lib.cut s.data.toList [58]).2.2]) ∧ Below w.heap.size w w' := by
  obtain ⟨h0, ⟨m, h1⟩, _⟩ := hG
  refine (Tryd.strings_Cut s ⟨#[58]⟩ m w (by omega) h1).mono ?_
  rintro e w' ⟨rfl, q, rfl⟩
  exact ⟨rfl, below_drewN (Below.refl _ _) _⟩
theorem cut_len (l : List UInt8) : (Lib.cut l [58]).2.1.length ≤ l.length := by
  unfold Lib.cut; split <;> simp
theorem two_cells {W : World} {b : Nat} {u0 u1 : Value} (h0 : W.cell? ⟨b, 0, none⟩ = some u0) (h1 : W.cell? ⟨b, 1, none⟩ = some u1) (x y : Value) :
    ((W.setCell ⟨b, 0, none⟩ x).setCell ⟨b, 1, none⟩ y).cell? ⟨b, 0, none⟩ = some x ∧ ((W.setCell ⟨b, 0, none⟩ x).setCell ⟨b, 1, none⟩ y).cell? ⟨b, 1, none⟩ = some y := by
  refine ⟨?_, ?_⟩
  · rw [World.cell?_setCell_other _ _ _ _ (by simp)]; exact World.cell?_setCell_same _ _ _ h0
  · exact World.cell?_setCell_same _ _ _ ((World.cell?_setCell_other _ _ _ _ (by simp)).trans h1)
theorem below_two {B b : Nat} {w W : World} (h : Below B w W) (hb : B ≤ b) (x y : Value) : Below B w ((W.setCell ⟨b, 0, none⟩ x).setCell ⟨b, 1, none⟩ y) :=
  (h.setCell (p := ⟨b, 0, none⟩) hb x).setCell (p := ⟨b, 1, none⟩) hb y
set_option maxHeartbeats 1000000 in
theorem parse_err (s : ByteArray) (hs : s.size ≤ 40) (w : World) (hG : Glob w) (h : ∀ v, Lib.atoiAll (Lib.cut s.data.toList [58]).2.1 ≠ .ok v) : Calls Tryd.prog 27 #[.string s] w (ParsePost s.data.toList w) := by
  have hN : epParse s.data.toList = none := by
    cases hp : epParse s.data.toList with
    | none => rfl
    | some p => obtain ⟨k, n⟩ := p; exact absurd (epParse_some hp).2.1 (h n)
  have HR : Hid (pK s.data.toList = 0 ∧ pN s.data.toList = 0 ∧ pE s.data.toList = 3) := by show _ ∧ _; simp [pK, pN, pE, hN]
  have hl := cut_len s.data.toList
  have hl2 : s.data.toList.length ≤ 40 := hs
  have HH := Lib.hid h
  clear h hN
  go_enter Tryd.func27, Tryd.ntmps27
  go_wp2_with fail
  refine (cut_any s hs _ (hG.below (B := w.heap.size) (by (repeat' (first | (with_reducible exact Below.refl _ _) | (with_reducible refine Below.alloc ?_ ?_ _) | (with_reducible refine Below.drew ?_) | (with_reducible refine below_drewN ?_ _) | (with_reducible refine Below.setCell ?_ ?_ _) | (with_reducible refine Below.trans ?_ (Below.mono (by assumption) ?_)) | (with_reducible exact Nat.le_refl _) | omega | (simp; omega) | (simp; done)))) hG.1)).mono ?_
  rintro e w1 ⟨rfl, hb1⟩
  have hz1 : w.heap.size + 1 ≤ w1.heap.size := Nat.le_trans (by (first | omega | (simp; done) | (simp; omega))) hb1.size
  have hk1 := bc (B := w.heap.size + 1) hb1 (by (first | omega | (simp; done) | (simp; omega)))
  have hf1 := bf (B := w.heap.size + 1) hb1 (by (first | omega | (simp; done) | (simp; omega)))
  have hB1 : Below w.heap.size w w1 := by (repeat' (first | (with_reducible exact Below.refl _ _) | (with_reducible refine Below.alloc ?_ ?_ _) | (with_reducible refine Below.drew ?_) | (with_reducible refine below_drewN ?_ _) | (with_reducible refine Below.setCell ?_ ?_ _) | (with_reducible refine Below.trans ?_ (Below.mono (by assumption) ?_)) | (with_reducible exact Nat.le_refl _) | omega | (simp; omega) | (simp; done)))
  go_wp2_with fail
  refine (atoi_bad ⟨(Lib.cut s.data.toList [58]).2.1.toArray⟩ (by show (Lib.cut s.data.toList [58]).2.1.length ≤ 40; omega) HH.out _ (hG.below hB1 hG.1)).mono ?_
  rintro e w2 ⟨⟨n, N, rfl⟩, hb2⟩
  have hz2 : w1.heap.size ≤ w2.heap.size := hb2.size
  have hk2 := bc (B := w.heap.size + 1) hb2 (by omega)
  have hf2 := bf (B := w.heap.size + 1) hb2 (by omega)
  have hB2 : Below w.heap.size w w2 := hB1.trans (hb2.mono (by omega))
  have c0 : w2.cell? ⟨w.heap.size, 0, none⟩ = some (.int .i64 0) := by simp [*, go_sem]
  have c1 : w2.cell? ⟨w.heap.size, 1, none⟩ = some (.int .i64 0) := by simp [*, go_sem]
  clear hb1 hb2
  go_wp2_with fail
  obtain ⟨r0, r1⟩ := two_cells c0 c1 (.int .i64 0) (.int .i64 0)
  have hB3 := below_two hB2 (Nat.le_refl _) (.int .i64 0) (.int .i64 0)
  generalize ((w2.setCell ⟨w.heap.size, 0, none⟩ (.int .i64 0)).setCell ⟨w.heap.size, 1, none⟩ (.int .i64 0)) = w3 at *
  refine bodyPost_ret (v := .tuple #[.agg #[.int .i64 0, .int .i64 0], .int .i64 3]) (by simp [results, Tryd.results27, go_sem, r0, r1]) rfl ⟨?_, hB3⟩
  rw [HR.out.1, HR.out.2.1, HR.out.2.2]
theorem parse_hit {l : List UInt8} {k v : Int} (he : epE k v = 0) (ht : epText k v = l) : epParse l = some (k, v) := by
  cases hp : epParse l with
  | none => exact absurd ht (epParse_none hp k v he)
  | some p =>
    obtain ⟨k', n'⟩ := p
    obtain ⟨_, _, h3, h4⟩ := epParse_some hp
    have := List.all_eq_true.1 (List.all_eq_true.1 epAll_inj _ (epAll_mem h3)) _ (epAll_mem he)
    simp only [beq_iff_eq] at this
    rw [h4, ht, beq_self_eq_true] at this
    have e := of_decide_eq_true this.symm
    rw [e]
theorem prS_ok {k v : Int} (he : epE k v = 0) : (prS k v).toList = epText k v := by rw [prS, if_pos he, toList_mk]
set_option maxHeartbeats 1000000 in
theorem parse_loop (s : ByteArray) (hs : s.size ≤ 40) (v : Int) (w : World) (hG : Glob w) (h : Lib.atoiAll (Lib.cut s.data.toList [58]).2.1 = .ok v) : Calls Tryd.prog 27 #[.string s] w (ParsePost s.data.toList w) := by
  have hl := cut_len s.data.toList
  have hl2 : s.data.toList.length ≤ 40 := hs
  have HH := Lib.hid h
  clear h
  have i0 := idx0
  have i1 := idx1
  have i2 := idx2
  go_enter Tryd.func27, Tryd.ntmps27
  go_wp2_with fail
  refine (cut_any s hs _ (hG.below (B := w.heap.size) (by (repeat' (first | (with_reducible exact Below.refl _ _) | (with_reducible refine Below.alloc ?_ ?_ _) | (with_reducible refine Below.drew ?_) | (with_reducible refine below_drewN ?_ _) | (with_reducible refine Below.setCell ?_ ?_ _) | (with_reducible refine Below.trans ?_ (Below.mono (by assumption) ?_)) | (with_reducible exact Nat.le_refl _) | omega | (simp; omega) | (simp; done)))) hG.1)).mono ?_
  rintro e w1 ⟨rfl, hb1⟩
  have hz1 : w.heap.size + 1 ≤ w1.heap.size := Nat.le_trans (by (first | omega | (simp; done) | (simp; omega))) hb1.size
  have hB1 : Below w.heap.size w w1 := by (repeat' (first | (with_reducible exact Below.refl _ _) | (with_reducible refine Below.alloc ?_ ?_ _) | (with_reducible refine Below.drew ?_) | (with_reducible refine below_drewN ?_ _) | (with_reducible refine Below.setCell ?_ ?_ _) | (with_reducible refine Below.trans ?_ (Below.mono (by assumption) ?_)) | (with_reducible exact Nat.le_refl _) | omega | (simp; omega) | (simp; done)))
  have hW1 : Below (w.heap.size + 1) (w.alloc (Obj.cells #[Value.int IntKind.i64 0, Value.int IntKind.i64 0] 23)) w1 := hb1.mono (by simp)
  clear hb1
  go_wp2_with fail
  refine (atoi_ok ⟨(Lib.cut s.data.toList [58]).2.1.toArray⟩ (by show (Lib.cut s.data.toList [58]).2.1.length ≤ 40; omega) v HH.out _).mono ?_
  rintro e w2 ⟨rfl, hb2⟩
  have hz2 : w1.heap.size ≤ w2.heap.size := hb2.size
  have hB2 : Below w.heap.size w w2 := hB1.trans (hb2.mono (by omega))
  have hW2 := hW1.trans (hb2.mono (by omega))
  clear hB1 hW1 hb2
  go_wp2_with fail
  refine (words_any _).mono ?_
  rintro e w3 ⟨rfl, hb3⟩
  have hz3 : w2.heap.size ≤ w3.heap.size := hb3.size
  have hB3 : Below w.heap.size w w3 := hB2.trans (hb3.mono (by omega))
  have hW3 := hW2.trans (hb3.mono (by omega))
  clear hB2 hW2 hb3
  generalize hWD : (⟨(Lib.cut s.data.toList [58]).1.toArray⟩ : ByteArray) = wd at *
  have HWD := Lib.hid hWD
  clear hWD
  go_wp2_with fail
  go_loopw [29] (fun i wr => ∃ k : Nat, k ≤ 3 ∧ i = .int .i64 k ∧ Hid (∀ j : Nat, j < k → epParse s.data.toList ≠ some ((j : Int), v)) ∧ Below (w.heap.size + 1) (w.alloc (Obj.cells #[Value.int IntKind.i64 0, Value.int IntKind.i64 0] 23)) wr) (fun i _ => 3 - (intOf i).toNat)
  case atStart => exact ⟨0, by omega, rfl, fun j hj => by omega, hW3⟩
  case round =>
    obtain ⟨k, hk, rfl, hno, hWr⟩ := hrel
    have c0 : wr.cell? ⟨w.heap.size, 0, none⟩ = some (.int .i64 0) := (hWr.cell (p := ⟨w.heap.size, 0, none⟩) (by show w.heap.size < _; omega)).trans (by simp [go_sem])
    have c1 : wr.cell? ⟨w.heap.size, 1, none⟩ = some (.int .i64 0) := (hWr.cell (p := ⟨w.heap.size, 1, none⟩) (by show w.heap.size < _; omega)).trans (by simp [go_sem])
    have f0 : wr.frozen? ⟨w.heap.size, 0, none⟩ = false := (hWr.frozen (p := ⟨w.heap.size, 0, none⟩) (by show w.heap.size < _; omega)).trans (by simp [go_sem])
    have f1 : wr.frozen? ⟨w.heap.size, 1, none⟩ = false := (hWr.frozen (p := ⟨w.heap.size, 1, none⟩) (by show w.heap.size < _; omega)).trans (by simp [go_sem])
    have hzr : w.heap.size + 1 ≤ wr.heap.size := Nat.le_trans (by simp) hWr.size
    match k, hk, hno with
    | 0, _, hno =>
      have hp : epParse s.data.toList ≠ some (0, v) := fun e => by
        have := (epE_ok (epParse_some e).2.2.1).1; omega
      have HNX : Hid (∀ j : Nat, j < 1 → epParse s.data.toList ≠ some ((j : Int), v)) := fun j hj => by
        by_cases e : j = 0
        · subst e; exact hp
        · exact hno.out j (by omega)
      by_cases g1 : wd.toList = []
      · by_cases g2 : epE 0 v = 0
        · have g3 : ¬ (prS 0 v).toList = s.toList := fun e => hp (parse_hit g2 (by rw [← prS_ok g2, e, ByteArray.toList_eq]))
          have g4 : ((prS 0 v).toList == s.toList) = false := by simpa using g3
          have HE := Lib.hid g2
          clear hp g2
          go_wp2_with fail
          refine (print_any _ _ _).mono ?_
          rw [HE.out]
          rintro e w4 ⟨rfl, hb4⟩
          have hW4 := hWr.trans ((((Below.refl _ wr).alloc hzr (Obj.cells #[Value.int IntKind.i64 0, Value.int IntKind.i64 v] 23)).trans (hb4.mono (Nat.le_trans hzr (by simp)))))
          clear hb4
          go_wp2_with fail
          go_roundw
          case rel => exact ⟨1, by omega, rfl, HNX, hW4⟩
          case measure => simp [intOf]
        · have g3 : (epE 0 v == 0) = false := by simpa using g2
          clear hp g2
          go_wp2_with fail
          refine (print_any _ _ _).mono ?_
          rintro e w4 ⟨rfl, hb4⟩
          have hW4 := hWr.trans ((((Below.refl _ wr).alloc hzr (Obj.cells #[Value.int IntKind.i64 0, Value.int IntKind.i64 v] 23)).trans (hb4.mono (Nat.le_trans hzr (by simp)))))
          clear hb4
          go_wp2_with fail
          go_roundw
          case rel => exact ⟨1, by omega, rfl, HNX, hW4⟩
          case measure => simp [intOf]
      · have g2 : ¬ [] = wd.toList := fun e => g1 e.symm
        have g3 : (([] : List UInt8) == wd.toList) = false := by simpa using g2
        clear hp
        go_wp2_with fail
        refine (print_any _ _ _).mono ?_
        rintro e w4 ⟨rfl, hb4⟩
        have hW4 := hWr.trans ((((Below.refl _ wr).alloc hzr (Obj.cells #[Value.int IntKind.i64 0, Value.int IntKind.i64 v] 23)).trans (hb4.mono (Nat.le_trans hzr (by simp)))))
        clear hb4
        go_wp2_with fail
        go_roundw
        case rel => exact ⟨1, by omega, rfl, HNX, hW4⟩
        case measure => simp [intOf]
    | 1, _, hno =>
      by_cases hp : epParse s.data.toList = some (1, v)
      · obtain ⟨h1, h2, h3, h4⟩ := epParse_some hp
        have HR : Hid (pK s.data.toList = 1 ∧ pN s.data.toList = v ∧ pE s.data.toList = 0) := by show _ ∧ _; simp [pK, pN, pE, hp]
        have g1 : wd.toList = [110, 111, 100, 101] := by rw [← HWD.out, toList_mk, h1]; rfl
        have g3 : (prS 1 v).toList = s.toList := by rw [prS_ok h3, h4, ByteArray.toList_eq]
        have HE := Lib.hid h3
        clear h1 h2 h3 h4 hp
        go_wp2_with fail
        refine (print_any _ _ _).mono ?_
        rw [HE.out]
        rintro e w4 ⟨rfl, hb4⟩
        have hW4 := hWr.trans ((((Below.refl _ wr).alloc hzr (Obj.cells #[Value.int IntKind.i64 1, Value.int IntKind.i64 v] 23)).trans (hb4.mono (Nat.le_trans hzr (by simp)))))
        have d0 : w4.cell? ⟨w.heap.size, 0, none⟩ = some (.int .i64 0) := (hW4.cell (p := ⟨w.heap.size, 0, none⟩) (by show w.heap.size < _; omega)).trans (by simp [go_sem])
        have d1 : w4.cell? ⟨w.heap.size, 1, none⟩ = some (.int .i64 0) := (hW4.cell (p := ⟨w.heap.size, 1, none⟩) (by show w.heap.size < _; omega)).trans (by simp [go_sem])
        have e0 : w4.frozen? ⟨w.heap.size, 0, none⟩ = false := (hW4.frozen (p := ⟨w.heap.size, 0, none⟩) (by show w.heap.size < _; omega)).trans (by simp [go_sem])
        have e1 : w4.frozen? ⟨w.heap.size, 1, none⟩ = false := (hW4.frozen (p := ⟨w.heap.size, 1, none⟩) (by show w.heap.size < _; omega)).trans (by simp [go_sem])
        have x0 : w4.cell? ⟨wr.heap.size, 0, none⟩ = some (.int .i64 1) := (hb4.cell (p := ⟨wr.heap.size, 0, none⟩) (by simp)).trans (by simp [go_sem])
        have x1 : w4.cell? ⟨wr.heap.size, 1, none⟩ = some (.int .i64 v) := (hb4.cell (p := ⟨wr.heap.size, 1, none⟩) (by simp)).trans (by simp [go_sem])
        have hB4 : Below w.heap.size w w4 := ((Below.refl _ w).alloc (Nat.le_refl _) _).trans (hW4.mono (by omega))
        clear hb4 c0 c1 f0 f1
        go_wp2_with fail
        obtain ⟨r0, r1⟩ := two_cells d0 d1 (.int .i64 1) (.int .i64 v)
        have hB5 := below_two hB4 (Nat.le_refl _) (.int .i64 1) (.int .i64 v)
        generalize ((w4.setCell ⟨w.heap.size, 0, none⟩ (.int .i64 1)).setCell ⟨w.heap.size, 1, none⟩ (.int .i64 v)) = w5 at *
        refine bodyPost_ret (v := .tuple #[.agg #[.int .i64 1, .int .i64 v], .int .i64 0]) (by simp [results, Tryd.results27, go_sem, r0, r1]) rfl ⟨?_, hB5⟩
        rw [HR.out.1, HR.out.2.1, HR.out.2.2]
      · have HNX : Hid (∀ j : Nat, j < 2 → epParse s.data.toList ≠ some ((j : Int), v)) := fun j hj => by
          by_cases e : j = 1
          · subst e; exact hp
          · exact hno.out j (by omega)
        by_cases g1 : wd.toList = [110, 111, 100, 101]
        · by_cases g2 : epE 1 v = 0
          · have g3 : ¬ (prS 1 v).toList = s.toList := fun e => hp (parse_hit g2 (by rw [← prS_ok g2, e, ByteArray.toList_eq]))
            have g4 : ((prS 1 v).toList == s.toList) = false := by simpa using g3
            have HE := Lib.hid g2
            clear hp g2
            go_wp2_with fail
            refine (print_any _ _ _).mono ?_
            rw [HE.out]
            rintro e w4 ⟨rfl, hb4⟩
            have hW4 := hWr.trans ((((Below.refl _ wr).alloc hzr (Obj.cells #[Value.int IntKind.i64 1, Value.int IntKind.i64 v] 23)).trans (hb4.mono (Nat.le_trans hzr (by simp)))))
            clear hb4
            go_wp2_with fail
            go_roundw
            case rel => exact ⟨2, by omega, rfl, HNX, hW4⟩
            case measure => simp [intOf]
          · have g3 : (epE 1 v == 0) = false := by simpa using g2
            clear hp g2
            go_wp2_with fail
            refine (print_any _ _ _).mono ?_
            rintro e w4 ⟨rfl, hb4⟩
            have hW4 := hWr.trans ((((Below.refl _ wr).alloc hzr (Obj.cells #[Value.int IntKind.i64 1, Value.int IntKind.i64 v] 23)).trans (hb4.mono (Nat.le_trans hzr (by simp)))))
            clear hb4
            go_wp2_with fail
            go_roundw
            case rel => exact ⟨2, by omega, rfl, HNX, hW4⟩
            case measure => simp [intOf]
        · have g2 : ¬ [110, 111, 100, 101] = wd.toList := fun e => g1 e.symm
          have g3 : (([110, 111, 100, 101] : List UInt8) == wd.toList) = false := by simpa using g2
          clear hp
          go_wp2_with fail
          refine (print_any _ _ _).mono ?_
          rintro e w4 ⟨rfl, hb4⟩
          have hW4 := hWr.trans ((((Below.refl _ wr).alloc hzr (Obj.cells #[Value.int IntKind.i64 1, Value.int IntKind.i64 v] 23)).trans (hb4.mono (Nat.le_trans hzr (by simp)))))
          clear hb4
          go_wp2_with fail
          go_roundw
          case rel => exact ⟨2, by omega, rfl, HNX, hW4⟩
          case measure => simp [intOf]
    | 2, _, hno =>
      by_cases hp : epParse s.data.toList = some (2, v)
      · obtain ⟨h1, h2, h3, h4⟩ := epParse_some hp
        have HR : Hid (pK s.data.toList = 2 ∧ pN s.data.toList = v ∧ pE s.data.toList = 0) := by show _ ∧ _; simp [pK, pN, pE, hp]
        have g1 : wd.toList = [103, 114, 111, 117, 112] := by rw [← HWD.out, toList_mk, h1]; rfl
        have g3 : (prS 2 v).toList = s.toList := by rw [prS_ok h3, h4, ByteArray.toList_eq]
        have HE := Lib.hid h3
        clear h1 h2 h3 h4 hp
        go_wp2_with fail
        refine (print_any _ _ _).mono ?_
        rw [HE.out]
        rintro e w4 ⟨rfl, hb4⟩
        have hW4 := hWr.trans ((((Below.refl _ wr).alloc hzr (Obj.cells #[Value.int IntKind.i64 2, Value.int IntKind.i64 v] 23)).trans (hb4.mono (Nat.le_trans hzr (by simp)))))
        have d0 : w4.cell? ⟨w.heap.size, 0, none⟩ = some (.int .i64 0) := (hW4.cell (p := ⟨w.heap.size, 0, none⟩) (by show w.heap.size < _; omega)).trans (by simp [go_sem])
        have d1 : w4.cell? ⟨w.heap.size, 1, none⟩ = some (.int .i64 0) := (hW4.cell (p := ⟨w.heap.size, 1, none⟩) (by show w.heap.size < _; omega)).trans (by simp [go_sem])
        have e0 : w4.frozen? ⟨w.heap.size, 0, none⟩ = false := (hW4.frozen (p := ⟨w.heap.size, 0, none⟩) (by show w.heap.size < _; omega)).trans (by simp [go_sem])
        have e1 : w4.frozen? ⟨w.heap.size, 1, none⟩ = false := (hW4.frozen (p := ⟨w.heap.size, 1, none⟩) (by show w.heap.size < _; omega)).trans (by simp [go_sem])
        have x0 : w4.cell? ⟨wr.heap.size, 0, none⟩ = some (.int .i64 2) := (hb4.cell (p := ⟨wr.heap.size, 0, none⟩) (by simp)).trans (by simp [go_sem])
        have x1 : w4.cell? ⟨wr.heap.size, 1, none⟩ = some (.int .i64 v) := (hb4.cell (p := ⟨wr.heap.size, 1, none⟩) (by simp)).trans (by simp [go_sem])
        have hB4 : Below w.heap.size w w4 := ((Below.refl _ w).alloc (Nat.le_refl _) _).trans (hW4.mono (by omega))
        clear hb4 c0 c1 f0 f1
        go_wp2_with fail
        obtain ⟨r0, r1⟩ := two_cells d0 d1 (.int .i64 2) (.int .i64 v)
        have hB5 := below_two hB4 (Nat.le_refl _) (.int .i64 2) (.int .i64 v)
        generalize ((w4.setCell ⟨w.heap.size, 0, none⟩ (.int .i64 2)).setCell ⟨w.heap.size, 1, none⟩ (.int .i64 v)) = w5 at *
        refine bodyPost_ret (v := .tuple #[.agg #[.int .i64 2, .int .i64 v], .int .i64 0]) (by simp [results, Tryd.results27, go_sem, r0, r1]) rfl ⟨?_, hB5⟩
        rw [HR.out.1, HR.out.2.1, HR.out.2.2]
      · have HNX : Hid (∀ j : Nat, j < 3 → epParse s.data.toList ≠ some ((j : Int), v)) := fun j hj => by
          by_cases e : j = 2
          · subst e; exact hp
          · exact hno.out j (by omega)
        by_cases g1 : wd.toList = [103, 114, 111, 117, 112]
        · by_cases g2 : epE 2 v = 0
          · have g3 : ¬ (prS 2 v).toList = s.toList := fun e => hp (parse_hit g2 (by rw [← prS_ok g2, e, ByteArray.toList_eq]))
            have g4 : ((prS 2 v).toList == s.toList) = false := by simpa using g3
            have HE := Lib.hid g2
            clear hp g2
            go_wp2_with fail
            refine (print_any _ _ _).mono ?_
            rw [HE.out]
            rintro e w4 ⟨rfl, hb4⟩
            have hW4 := hWr.trans ((((Below.refl _ wr).alloc hzr (Obj.cells #[Value.int IntKind.i64 2, Value.int IntKind.i64 v] 23)).trans (hb4.mono (Nat.le_trans hzr (by simp)))))
            clear hb4
            go_wp2_with fail
            go_roundw
            case rel => exact ⟨3, by omega, rfl, HNX, hW4⟩
            case measure => simp [intOf]
          · have g3 : (epE 2 v == 0) = false := by simpa using g2
            clear hp g2
            go_wp2_with fail
            refine (print_any _ _ _).mono ?_
            rintro e w4 ⟨rfl, hb4⟩
            have hW4 := hWr.trans ((((Below.refl _ wr).alloc hzr (Obj.cells #[Value.int IntKind.i64 2, Value.int IntKind.i64 v] 23)).trans (hb4.mono (Nat.le_trans hzr (by simp)))))
            clear hb4
            go_wp2_with fail
            go_roundw
            case rel => exact ⟨3, by omega, rfl, HNX, hW4⟩
            case measure => simp [intOf]
        · have g2 : ¬ [103, 114, 111, 117, 112] = wd.toList := fun e => g1 e.symm
          have g3 : (([103, 114, 111, 117, 112] : List UInt8) == wd.toList) = false := by simpa using g2
          clear hp
          go_wp2_with fail
          refine (print_any _ _ _).mono ?_
          rintro e w4 ⟨rfl, hb4⟩
          have hW4 := hWr.trans ((((Below.refl _ wr).alloc hzr (Obj.cells #[Value.int IntKind.i64 2, Value.int IntKind.i64 v] 23)).trans (hb4.mono (Nat.le_trans hzr (by simp)))))
          clear hb4
          go_wp2_with fail
          go_roundw
          case rel => exact ⟨3, by omega, rfl, HNX, hW4⟩
          case measure => simp [intOf]
    | 3, _, hno =>
      have hN : epParse s.data.toList = none := by
        cases hp : epParse s.data.toList with
        | none => rfl
        | some q =>
          obtain ⟨k', n'⟩ := q
          obtain ⟨_, h2, h3, _⟩ := epParse_some hp
          have hv : Lib.NumEnd.ok n' = Lib.NumEnd.ok v := h2.symm.trans HH.out
          simp only [Lib.NumEnd.ok.injEq] at hv
          subst hv
          rcases (epE_ok h3).1 with rfl | rfl
          · exact absurd hp (hno.out 1 (by omega))
          · exact absurd hp (hno.out 2 (by omega))
      have HR : Hid (pK s.data.toList = 0 ∧ pN s.data.toList = 0 ∧ pE s.data.toList = 3) := by show _ ∧ _; simp [pK, pN, pE, hN]
      clear hN
      have hBr : Below w.heap.size w wr := ((Below.refl _ w).alloc (Nat.le_refl _) _).trans (hWr.mono (by omega))
      go_wp2_with fail
      obtain ⟨r0, r1⟩ := two_cells c0 c1 (.int .i64 0) (.int .i64 0)
      have hB5 := below_two hBr (Nat.le_refl _) (.int .i64 0) (.int .i64 0)
      generalize ((wr.setCell ⟨w.heap.size, 0, none⟩ (.int .i64 0)).setCell ⟨w.heap.size, 1, none⟩ (.int .i64 0)) = w5 at *
      refine bodyPost_ret (v := .tuple #[.agg #[.int .i64 0, .int .i64 0], .int .i64 3]) (by simp [results, Tryd.results27, go_sem, r0, r1]) rfl ⟨?_, hB5⟩
      rw [HR.out.1, HR.out.2.1, HR.out.2.2]
theorem parse_any (s : ByteArray) (hs : s.size ≤ 40) (w : World) (hG : Glob w) : Calls Tryd.prog 27 #[.string s] w (ParsePost s.data.toList w) := by
  cases h : Lib.atoiAll (Lib.cut s.data.toList [58]).2.1 with
  | ok v => exact parse_loop s hs v w hG h
  | «syntax» => exact parse_err s hs w hG (fun v e => by rw [h] at e; cases e)
  | range => exact parse_err s hs w hG (fun v e => by rw [h] at e; cases e)
end Go.Proofs.YtbhmmffompapdaaDoor

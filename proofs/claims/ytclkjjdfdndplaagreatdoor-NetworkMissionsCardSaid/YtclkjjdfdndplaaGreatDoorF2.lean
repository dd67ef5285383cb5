/- Slices of integers and of contacts in memory; Overlap. -/
import Derived.Test.YtclkjjdfdndplaaGreatDoorF1
namespace Go.Proofs.YtclkjjdfdndplaaGreatDoor
open Go.RowKit
/-- a slice that reads as a list of integers, below block B -/
def Ints (w : World) (B : Nat) (v : Value) (xs : List Int) : Prop :=
  ∃ A c, v = .slice A xs.length c ∧ xs.length ≤ c ∧ c ≤ maxLen ∧ (0 < xs.length → ∃ b o, A = some ⟨b, o, none⟩ ∧ b < B ∧ ∀ j, j < xs.length → w.cell? ⟨b, o + j, none⟩ = some (.int .i64 (xs.getD j 0)))
theorem Ints.below {w w' : World} {B : Nat} {v : Value} {xs : List Int} (h : Ints w B v xs) (hb : Below B w w') : Ints w' B v xs := by
  obtain ⟨A, c, e, h1, h2, h3⟩ := h
  refine ⟨A, c, e, h1, h2, fun hp => ?_⟩
  obtain ⟨b, o, e1, h4, h5⟩ := h3 hp
  exact ⟨b, o, e1, h4, fun j hj => (hb.cell (p := ⟨b, o + j, none⟩) h4).trans (h5 j hj)⟩
theorem Ints.more {w : World} {B B' : Nat} {v : Value} {xs : List Int} (h : Ints w B v xs) (hB : B ≤ B') : Ints w B' v xs := by
  obtain ⟨A, c, e, h1, h2, h3⟩ := h
  refine ⟨A, c, e, h1, h2, fun hp => ?_⟩
  obtain ⟨b, o, e1, h4, h5⟩ := h3 hp
  exact ⟨b, o, e1, by omega, h5⟩
theorem ints_nil (w : World) (B : Nat) : Ints w B (.slice none 0 0) [] := ⟨none, 0, rfl, by simp, by simp [maxLen], fun h => by simp at h⟩
/-- the seven cells of a contact, from an offset on -/
def ConAt (w : World) (b o : Nat) (c : Con) : Prop :=
  w.cell? ⟨b, o, none⟩ = some (.int .i64 c.a) ∧ w.cell? ⟨b, o + 1, none⟩ = some (.int .i64 c.b) ∧ w.cell? ⟨b, o + 2, none⟩ = some (.int .i64 c.s) ∧ w.cell? ⟨b, o + 3, none⟩ = some (.int .i64 c.e) ∧
  w.cell? ⟨b, o + 4, none⟩ = some (.int .i64 c.r) ∧ w.cell? ⟨b, o + 5, none⟩ = some (.int .i64 c.g) ∧ w.cell? ⟨b, o + 6, none⟩ = some (.int .i64 c.l)
theorem ConAt.below {w w' : World} {B b o : Nat} {c : Con} (h : ConAt w b o c) (hb : Below B w w') (hB : b < B) : ConAt w' b o c := by
  obtain ⟨h0, h1, h2, h3, h4, h5, h6⟩ := h
  exact ⟨(hb.cell (p := ⟨b, o, none⟩) hB).trans h0, (hb.cell (p := ⟨b, o + 1, none⟩) hB).trans h1, (hb.cell (p := ⟨b, o + 2, none⟩) hB).trans h2, (hb.cell (p := ⟨b, o + 3, none⟩) hB).trans h3,
    (hb.cell (p := ⟨b, o + 4, none⟩) hB).trans h4, (hb.cell (p := ⟨b, o + 5, none⟩) hB).trans h5, (hb.cell (p := ⟨b, o + 6, none⟩) hB).trans h6⟩
/-- a slice that reads as a list of contacts -/
def Cons (w : World) (B : Nat) (v : Value) (cs : List Con) : Prop :=
  ∃ A c, v = .slice A cs.length c ∧ cs.length ≤ c ∧ c ≤ maxLen ∧ (0 < cs.length → ∃ b o, A = some ⟨b, o, none⟩ ∧ b < B ∧ ∀ j, j < cs.length → ConAt w b (o + j * 7) (cs.getD j Con.zero))
theorem Cons.below {w w' : World} {B : Nat} {v : Value} {cs : List Con} (h : Cons w B v cs) (hb : Below B w w') : Cons w' B v cs := by
  obtain ⟨A, c, e, h1, h2, h3⟩ := h
  refine ⟨A, c, e, h1, h2, fun hp => ?_⟩
  obtain ⟨b, o, e1, h4, h5⟩ := h3 hp
  exact ⟨b, o, e1, h4, fun j hj => (h5 j hj).below hb h4⟩
theorem Cons.more {w : World} {B B' : Nat} {v : Value} {cs : List Con} (h : Cons w B v cs) (hB : B ≤ B') : Cons w B' v cs := by
  obtain ⟨A, c, e, h1, h2, h3⟩ := h
  refine ⟨A, c, e, h1, h2, fun hp => ?_⟩
  obtain ⟨b, o, e1, h4, h5⟩ := h3 hp
  exact ⟨b, o, e1, by omega, h5⟩
theorem cons_nil (w : World) (B : Nat) : Cons w B (.slice none 0 0) [] := ⟨none, 0, rfl, by simp, by simp [maxLen], fun h => by simp at h⟩
theorem ret_bool {a b : Bool} (h : a = b) : Ending.returned (.bool a) = .returned (.bool b) := by rw [h]
theorem ret_int {k : IntKind} {a b : Int} (h : a = b) : Ending.returned (.int k a) = .returned (.int k b) := by rw [h]
/-- two valid contacts of the same nodes have a time in common -/
def overB (c d : Con) : Bool := decide (conE c = 0 ∧ conE d = 0 ∧ c.a = d.a ∧ c.b = d.b ∧ c.s < d.e ∧ d.s < c.e)
theorem overB_comm (c d : Con) : overB c d = overB d c := by
  unfold overB; rw [decide_eq_decide]; constructor <;> (intro h; refine ⟨h.2.1, h.1, h.2.2.1.symm, h.2.2.2.1.symm, h.2.2.2.2.2, h.2.2.2.2.1⟩)
theorem overB_max {c d : Con} (h1 : conE c = 0) (h2 : conE d = 0) (h3 : c.a = d.a) (h4 : c.b = d.b) : overB c d = decide (max c.s d.s < min c.e d.e) := by
  have := conE_ok h1
  have := conE_ok h2
  unfold overB; rw [decide_eq_decide]; constructor <;> intro h <;> omega
set_option maxHeartbeats 1000000 in
theorem over_any (c d : Con) (w : World) : Calls Tryz.prog 41 #[.agg #[.int .i64 c.a, .int .i64 c.b, .int .i64 c.s, .int .i64 c.e, .int .i64 c.r, .int .i64 c.g, .int .i64 c.l], .agg #[.int .i64 d.a, .int .i64 d.b, .int .i64 d.s, .int .i64 d.e, .int .i64 d.r, .int .i64 d.g, .int .i64 d.l]] w fun e w' => e = .returned (.bool (overB c d)) ∧ Below w.heap.size w w' := by
  by_cases h1 : conE c = 0
  · by_cases h2 : conE d = 0
    · by_cases h3 : c.a = d.a
      · by_cases h4 : c.b = d.b
        · have HT := Lib.hid (overB_max h1 h2 h3 h4)
          have H1 := Lib.hid h1
          have H2 := Lib.hid h2
          have q3 : (c.a != d.a) = false := by simpa using h3
          have q4 : (c.b != d.b) = false := by simpa using h4
          clear h1 h2 h3 h4
          go_enter Tryz.func41, Tryz.ntmps41
          go_wp2_with fail
          refine (ccheck_any c _).mono ?_
          rw [H1.out]
          (rintro e w1 ⟨rfl, hb⟩; have hz : w.heap.size + 1 + 1 ≤ w1.heap.size := (Nat.le_trans (by (first | omega | (simp; done) | (simp; omega))) hb.size); have hk := bc (B := w.heap.size + 1 + 1) hb (by (first | omega | (simp; done) | (simp; omega))); have hf := bf (B := w.heap.size + 1 + 1) hb (by (first | omega | (simp; done) | (simp; omega))); have hy : w.heap.size < w1.heap.size ∧ w.heap.size + 1 < w1.heap.size := (by omega))
          go_wp2_with fail
          refine (ccheck_any d _).mono ?_
          rw [H2.out]
          rintro e w2 ⟨rfl, hb2⟩
          have hk2 := bc (B := w.heap.size + 1 + 1) hb2 (by omega)
          have hz2 := hb2.size
          go_wp2_with fail
          all_goals
            go_ret
            refine ⟨?_, by (repeat' (first | (with_reducible exact Below.refl _ _) | (with_reducible refine Below.alloc ?_ ?_ _) | (with_reducible refine Below.drew ?_) | (with_reducible refine below_drewN ?_ _) | (with_reducible refine Below.setCell ?_ ?_ _) | (with_reducible refine Below.trans ?_ (Below.mono (by assumption) ?_)) | (with_reducible exact Nat.le_refl _) | omega | (simp; omega) | (simp; done)))⟩
            rw [HT.out]
            exact ret_bool (by rw [decide_eq_decide]; omega)
        · have HT : Hid (overB c d = false) := by show _ = _; unfold overB; exact decide_eq_false (fun h => h4 h.2.2.2.1)
          have H1 := Lib.hid h1
          have H2 := Lib.hid h2
          have q3 : (c.a != d.a) = false := by simpa using h3
          have q4 : (c.b != d.b) = true := by simpa using h4
          clear h1 h2 h3 h4
          go_enter Tryz.func41, Tryz.ntmps41
          go_wp2_with fail
          refine (ccheck_any c _).mono ?_
          rw [H1.out]
          (rintro e w1 ⟨rfl, hb⟩; have hz : w.heap.size + 1 + 1 ≤ w1.heap.size := (Nat.le_trans (by (first | omega | (simp; done) | (simp; omega))) hb.size); have hk := bc (B := w.heap.size + 1 + 1) hb (by (first | omega | (simp; done) | (simp; omega))); have hf := bf (B := w.heap.size + 1 + 1) hb (by (first | omega | (simp; done) | (simp; omega))); have hy : w.heap.size < w1.heap.size ∧ w.heap.size + 1 < w1.heap.size := (by omega))
          go_wp2_with fail
          refine (ccheck_any d _).mono ?_
          rw [H2.out]
          rintro e w2 ⟨rfl, hb2⟩
          have hk2 := bc (B := w.heap.size + 1 + 1) hb2 (by omega)
          have hz2 := hb2.size
          go_wp2_with fail
          go_ret
          exact ⟨by rw [HT.out]; rfl, by (repeat' (first | (with_reducible exact Below.refl _ _) | (with_reducible refine Below.alloc ?_ ?_ _) | (with_reducible refine Below.drew ?_) | (with_reducible refine below_drewN ?_ _) | (with_reducible refine Below.setCell ?_ ?_ _) | (with_reducible refine Below.trans ?_ (Below.mono (by assumption) ?_)) | (with_reducible exact Nat.le_refl _) | omega | (simp; omega) | (simp; done)))⟩
      · have HT : Hid (overB c d = false) := by show _ = _; unfold overB; exact decide_eq_false (fun h => h3 h.2.2.1)
        have H1 := Lib.hid h1
        have H2 := Lib.hid h2
        have q3 : (c.a != d.a) = true := by simpa using h3
        clear h1 h2 h3
        go_enter Tryz.func41, Tryz.ntmps41
        go_wp2_with fail
        refine (ccheck_any c _).mono ?_
        rw [H1.out]
        (rintro e w1 ⟨rfl, hb⟩; have hz : w.heap.size + 1 + 1 ≤ w1.heap.size := (Nat.le_trans (by (first | omega | (simp; done) | (simp; omega))) hb.size); have hk := bc (B := w.heap.size + 1 + 1) hb (by (first | omega | (simp; done) | (simp; omega))); have hf := bf (B := w.heap.size + 1 + 1) hb (by (first | omega | (simp; done) | (simp; omega))); have hy : w.heap.size < w1.heap.size ∧ w.heap.size + 1 < w1.heap.size := (by omega))
        go_wp2_with fail
        refine (ccheck_any d _).mono ?_
        rw [H2.out]
        rintro e w2 ⟨rfl, hb2⟩
        have hk2 := bc (B := w.heap.size + 1 + 1) hb2 (by omega)
        have hz2 := hb2.size
        go_wp2_with fail
        go_ret
        exact ⟨by rw [HT.out]; rfl, by (repeat' (first | (with_reducible exact Below.refl _ _) | (with_reducible refine Below.alloc ?_ ?_ _) | (with_reducible refine Below.drew ?_) | (with_reducible refine below_drewN ?_ _) | (with_reducible refine Below.setCell ?_ ?_ _) | (with_reducible refine Below.trans ?_ (Below.mono (by assumption) ?_)) | (with_reducible exact Nat.le_refl _) | omega | (simp; omega) | (simp; done)))⟩
    · have HT : Hid (overB c d = false) := by show _ = _; unfold overB; exact decide_eq_false (fun h => h2 h.2.1)
      have H1 := Lib.hid h1
      have q2 : (conE d != 0) = true := by simpa using h2
      clear h1 h2
      go_enter Tryz.func41, Tryz.ntmps41
      go_wp2_with fail
      refine (ccheck_any c _).mono ?_
      rw [H1.out]
      (rintro e w1 ⟨rfl, hb⟩; have hz : w.heap.size + 1 + 1 ≤ w1.heap.size := (Nat.le_trans (by (first | omega | (simp; done) | (simp; omega))) hb.size); have hk := bc (B := w.heap.size + 1 + 1) hb (by (first | omega | (simp; done) | (simp; omega))); have hf := bf (B := w.heap.size + 1 + 1) hb (by (first | omega | (simp; done) | (simp; omega))); have hy : w.heap.size < w1.heap.size ∧ w.heap.size + 1 < w1.heap.size := (by omega))
      go_wp2_with fail
      refine (ccheck_any d _).mono ?_
      rintro e w2 ⟨rfl, hb2⟩
      have hz2 := hb2.size
      go_wp2_with fail
      go_ret
      exact ⟨by rw [HT.out]; rfl, by (repeat' (first | (with_reducible exact Below.refl _ _) | (with_reducible refine Below.alloc ?_ ?_ _) | (with_reducible refine Below.drew ?_) | (with_reducible refine below_drewN ?_ _) | (with_reducible refine Below.setCell ?_ ?_ _) | (with_reducible refine Below.trans ?_ (Below.mono (by assumption) ?_)) | (with_reducible exact Nat.le_refl _) | omega | (simp; omega) | (simp; done)))⟩
  · have HT : Hid (overB c d = false) := by show _ = _; unfold overB; exact decide_eq_false (fun h => h1 h.1)
    have q1 : (conE c != 0) = true := by simpa using h1
    clear h1
    go_enter Tryz.func41, Tryz.ntmps41
    go_wp2_with fail
    refine (ccheck_any c _).mono ?_
    (rintro e w1 ⟨rfl, hb⟩; have hz : w.heap.size + 1 + 1 ≤ w1.heap.size := (Nat.le_trans (by (first | omega | (simp; done) | (simp; omega))) hb.size); have hk := bc (B := w.heap.size + 1 + 1) hb (by (first | omega | (simp; done) | (simp; omega))); have hf := bf (B := w.heap.size + 1 + 1) hb (by (first | omega | (simp; done) | (simp; omega))); have hy : w.heap.size < w1.heap.size ∧ w.heap.size + 1 < w1.heap.size := (by omega))
    go_wp2_with fail
    go_ret
    exact ⟨by rw [HT.out]; rfl, by (repeat' (first | (with_reducible exact Below.refl _ _) | (with_reducible refine Below.alloc ?_ ?_ _) | (with_reducible refine Below.drew ?_) | (with_reducible refine below_drewN ?_ _) | (with_reducible refine Below.setCell ?_ ?_ _) | (with_reducible refine Below.trans ?_ (Below.mono (by assumption) ?_)) | (with_reducible exact Nat.le_refl _) | omega | (simp; omega) | (simp; done)))⟩
end Go.Proofs.YtclkjjdfdndplaaGreatDoor

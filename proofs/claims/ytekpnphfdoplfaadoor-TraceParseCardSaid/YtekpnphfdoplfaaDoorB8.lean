/- The example of the chapter. -/
import Derived.Test.YtekpnphfdoplfaaDoorB7
import Derived.Test.YtekpnphfdoplfaaDoorA8
namespace Go.Proofs.YtekpnphfdoplfaaDoor
open Go.RowKit Go.Shelf
theorem eq_any (v1 v2 : Value) (xs ys : List Int) (w : World) (B1 B2 : Nat) (h1 : Ints w B1 v1 xs) (h2 : Ints w B2 v2 ys) : Calls Tryd.prog 19 #[v1, v2] w fun e w' => e = .returned (.bool (decide (xs = ys))) ∧ Below w.heap.size w w' := by
  obtain ⟨A1, c1, rfl, a1, m1, k1⟩ := h1
  obtain ⟨A2, c2, rfl, a2, m2, k2⟩ := h2
  unfold maxLen at m1 m2
  by_cases hl : xs.length = ys.length
  · by_cases h0 : 0 < xs.length
    · obtain ⟨b1, o1, rfl, _, g1⟩ := k1 h0
      obtain ⟨b2, o2, rfl, _, g2⟩ := k2 (by omega)
      refine (Tryd.slices_Equal_int b1 o1 xs.length c1 b2 o2 ys.length c2 xs ys w (Nat.le_refl _) (Nat.le_refl _) (by omega) (by omega) g1 g2).mono ?_
      rintro e w1 ⟨rfl, n, rfl⟩
      refine ⟨ret_bool ?_, below_drewN (Below.refl _ _) n⟩
      rw [List.take_length, List.take_length]
      by_cases h : xs = ys <;> simp [h]
    · have hx : xs = [] := List.eq_nil_of_length_eq_zero (by omega)
      have hy : ys = [] := List.eq_nil_of_length_eq_zero (by omega)
      subst hx; subst hy
      refine (Tryd.slices_Equal_int_empty A1 A2 c1 0 c2 w (by omega)).mono ?_
      rintro e w1 ⟨rfl, rfl⟩
      exact ⟨rfl, Below.refl _ _⟩
  · refine (Tryd.slices_Equal_int_lens A1 A2 xs.length c1 ys.length c2 w hl).mono ?_
    rintro e w1 ⟨rfl, rfl⟩
    refine ⟨ret_bool ?_, Below.refl _ _⟩
    rw [decide_eq_false]
    intro h
    exact hl (by rw [h])
/-- the text of the chapter -/
def exText : ByteArray := ⟨#[53, 32, 97, 99, 99, 101, 112, 116, 101, 100, 32, 110, 111, 100, 101, 32, 48, 32, 116, 105, 99, 107, 101, 116, 32, 49, 32, 118, 97, 108, 117, 101, 32, 54, 52, 10, 51, 48, 32, 114, 101, 112, 108, 97, 110, 110, 101, 100, 32, 110, 111, 100, 101, 32, 49, 32, 116, 105, 99, 107, 101, 116, 32, 50, 32, 118, 97, 108, 117, 101, 32, 49, 10, 51, 49, 32, 98, 101, 103, 97, 110, 32, 110, 111, 100, 101, 32, 49, 32, 116, 105, 99, 107, 101, 116, 32, 50, 32, 99, 111, 110, 116, 97, 99, 116, 32, 52, 10]⟩
def exEnts : List Ent := [⟨5, 1, 0, 1, -1, 64⟩, ⟨30, 16, 1, 2, -1, 1⟩, ⟨31, 5, 1, 2, 4, -1⟩]
theorem ex_t0 : IsT [53, 32, 97, 99, 99, 101, 112, 116, 101, 100, 32, 110, 111, 100, 101, 32, 48, 32, 116, 105, 99, 107, 101, 116, 32, 49, 32, 118, 97, 108, 117, 101, 32, 54, 52, 10] ⟨5, 1, 0, 1, -1, 64⟩ := ⟨by kernel_rfl, by kernel_rfl⟩
theorem ex_t1 : IsT [51, 48, 32, 114, 101, 112, 108, 97, 110, 110, 101, 100, 32, 110, 111, 100, 101, 32, 49, 32, 116, 105, 99, 107, 101, 116, 32, 50, 32, 118, 97, 108, 117, 101, 32, 49, 10] ⟨30, 16, 1, 2, -1, 1⟩ := ⟨by kernel_rfl, by kernel_rfl⟩
theorem ex_t2 : IsT [51, 49, 32, 98, 101, 103, 97, 110, 32, 110, 111, 100, 101, 32, 49, 32, 116, 105, 99, 107, 101, 116, 32, 50, 32, 99, 111, 110, 116, 97, 99, 116, 32, 52, 10] ⟨31, 5, 1, 2, 4, -1⟩ := ⟨by kernel_rfl, by kernel_rfl⟩
theorem ex_lines : linesT exText.data.toList.length 1 exText.data.toList = [(1, ⟨#[53, 32, 97, 99, 99, 101, 112, 116, 101, 100, 32, 110, 111, 100, 101, 32, 48, 32, 116, 105, 99, 107, 101, 116, 32, 49, 32, 118, 97, 108, 117, 101, 32, 54, 52, 10]⟩), (2, ⟨#[51, 48, 32, 114, 101, 112, 108, 97, 110, 110, 101, 100, 32, 110, 111, 100, 101, 32, 49, 32, 116, 105, 99, 107, 101, 116, 32, 50, 32, 118, 97, 108, 117, 101, 32, 49, 10]⟩), (3, ⟨#[51, 49, 32, 98, 101, 103, 97, 110, 32, 110, 111, 100, 101, 32, 49, 32, 116, 105, 99, 107, 101, 116, 32, 50, 32, 99, 111, 110, 116, 97, 99, 116, 32, 52, 10]⟩)] := by kernel_rfl
theorem ex_chk : chkE exEnts = 0 := by kernel_rfl
theorem ex_parse : parseR exText = (exEnts, 0, 0) := by
  unfold parseR
  rw [if_neg (by decide), ex_lines]
  simp only [scanT, entOf_some ex_t0, entOf_some ex_t1, entOf_some ex_t2, List.nil_append, List.cons_append]
  rw [if_neg (by rw [← exEnts, ex_chk]; simp)]
  rfl
theorem ex_hops : hopR 1 exEnts = ([4], 0) := by kernel_rfl
theorem ex_wf : ∀ x ∈ exEnts, okE x := by
  intro x hx
  simp only [exEnts, List.mem_cons, List.not_mem_nil, or_false] at hx
  rcases hx with rfl | rfl | rfl <;> exact ⟨by decide, by decide⟩
set_option maxRecDepth 100000 in
set_option maxHeartbeats 4000000 in
theorem awake_any (w : World) (hG : Glob w) : Calls Tryd.prog 10 #[] w fun e w' => e = .returned (.bool true) ∧ Below w.heap.size w w' := by
  go_enter Tryd.func10, Tryd.ntmps10
  go_wp2_with fail
  refine (parse_any exText w hG).mono ?_
  unfold ParsePost
  rw [ex_parse]
  rintro e w1 ⟨lv, rfl, hi, hb⟩
  have hi0 := hi
  obtain ⟨A1, c1, rfl, _, _, hA1⟩ := hi
  obtain ⟨b1, o1, rfl, hb1, hcell1⟩ := hA1 (by decide)
  have HC1 := hcell1 0 (by decide)
  clear hA1 hcell1
  go_wp2_with fail
  refine (hops_any _ exEnts 1 w1 hi0 ex_wf (by decide) (by decide)).mono ?_
  rw [ex_hops]
  rintro e w2 ⟨u, rfl, hu, hb2⟩
  have hE0 : EntAt w2 b1 (o1 + 0 * 6) ⟨5, 1, 0, 1, -1, 64⟩ := HC1.below hb2 hb1
  rw [Nat.zero_mul, Nat.add_zero] at hE0
  obtain ⟨c0, c1', c2, c3, c4, c5⟩ := hE0
  have hbw : Below w.heap.size w w2 := hb.trans (hb2.mono hb.size)
  have heq : ∀ W : World, (binOp .eql 37 (.agg #[.int .i64 5, .int .i64 1, .int .i64 0, .int .i64 1, .int .i64 (-1), .int .i64 64]) (.agg #[.int .i64 5, .int .i64 1, .int .i64 0, .int .i64 1, .int .i64 (-1), .int .i64 64])).run Tryd.prog W = .ok (.bool true) W := fun W => by kernel_rfl
  clear HC1 hb2 hb hi0
  have hn : Ints (w2.alloc (.cells #[.int .i64 4] 3)) (w2.heap.size + 1) (.slice (some ⟨w2.heap.size, 0, none⟩) 1 1) [4] := ⟨_, 1, rfl, by simp, by simp [maxLen], fun _ => ⟨_, _, rfl, by omega, fun j hj => by
    match j, hj with
    | 0, _ => simp [go_sem]
    | k + 1, h => simp at h⟩⟩
  dsimp only at *
  go_wp2_with fail
  refine (eq_any _ _ [4] [4] _ w2.heap.size (w2.heap.size + 1) (hu.below (by (repeat' (first | (with_reducible exact Below.refl _ _) | (with_reducible refine Below.alloc ?_ ?_ _) | (with_reducible refine Below.drew ?_) | (with_reducible refine below_drewN ?_ _) | (with_reducible refine Below.setCell ?_ ?_ _) | (with_reducible refine Below.trans ?_ (Below.mono (by assumption) ?_)) | (with_reducible exact Nat.le_refl _) | omega | (simp; omega) | (simp; done))))) hn).mono ?_
  rintro e w3 ⟨rfl, hb3⟩
  go_wp2_with fail
  go_ret
  exact ⟨rfl, hbw.trans (((Below.refl _ w2).alloc (Nat.le_refl _) _).trans (hb3.mono (by simp)) |>.mono hbw.size)⟩
end Go.Proofs.YtekpnphfdoplfaaDoor

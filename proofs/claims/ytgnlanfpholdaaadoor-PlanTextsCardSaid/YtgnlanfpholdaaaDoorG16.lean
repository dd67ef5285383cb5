/- The reference's ContactOf and Parse. -/
import Derived.Test.YtgnlanfpholdaaaDoorG15
import Derived.Test.YtgnlanfpholdaaaDoorF17
import Derived.Test.YtgnlanfpholdaaaDoorF18
import Derived.Test.YtgnlanfpholdaaaDoorRK
import Derived.StillTailTactics
namespace Go.Proofs.YtgnlanfpholdaaaDoor
open Go.RowKit
set_option maxHeartbeats 2000000 in
set_option maxRecDepth 100000 in
theorem contactOf_any (v : Value) (c : Con) (w : World) (hv : Ints w w.heap.size v (conNums c)) : Calls Tryd.prog 59 #[v] w fun e w' => e = .returned (.agg #[.int .i64 c.a, .int .i64 c.b, .int .i64 c.s, .int .i64 c.e, .int .i64 c.r, .int .i64 c.g, .int .i64 c.l]) ∧ Below w.heap.size w w' := by
  obtain ⟨A, cap, rfl, hcap, hm, hA⟩ := hv
  have h7 : (conNums c).length = 7 := rfl
  rw [h7] at hcap hA ⊢
  obtain ⟨b, o, rfl, hb, hcell⟩ := hA (by omega)
  have x0 : w.cell? ⟨b, o, none⟩ = some (.int .i64 c.a) := hcell 0 (by omega)
  have x1 : w.cell? ⟨b, o + 1, none⟩ = some (.int .i64 c.b) := hcell 1 (by omega)
  have x2 : w.cell? ⟨b, o + 2, none⟩ = some (.int .i64 c.s) := hcell 2 (by omega)
  have x3 : w.cell? ⟨b, o + 3, none⟩ = some (.int .i64 c.e) := hcell 3 (by omega)
  have x4 : w.cell? ⟨b, o + 4, none⟩ = some (.int .i64 c.r) := hcell 4 (by omega)
  have x5 : w.cell? ⟨b, o + 5, none⟩ = some (.int .i64 c.g) := hcell 5 (by omega)
  have x6 : w.cell? ⟨b, o + 6, none⟩ = some (.int .i64 c.l) := hcell 6 (by omega)
  clear hcell hA h7
  go_enter Tryd.func59, Tryd.ntmps59
  go_wp2_with fail
  refine wp_region_last (fun w' => w'.cell? ⟨b, o, none⟩ = some (.int .i64 c.a) ∧ w'.cell? ⟨b, o + 1, none⟩ = some (.int .i64 c.b) ∧ w'.cell? ⟨b, o + 2, none⟩ = some (.int .i64 c.s) ∧ w'.cell? ⟨b, o + 3, none⟩ = some (.int .i64 c.e) ∧ w'.cell? ⟨b, o + 4, none⟩ = some (.int .i64 c.r) ∧ w'.cell? ⟨b, o + 5, none⟩ = some (.int .i64 c.g) ∧ w'.cell? ⟨b, o + 6, none⟩ = some (.int .i64 c.l)) 22 (by kernel_rfl) (by simp [go_sem, hb, x0, x1, x2, x3, x4, x5, x6]) (fun hHeld => ?_)
  (refine wpAnyK_take (i := 0) (v := ?_) rfl rfl (by kernel_rfl) (by kernel_rfl) (by kernel_rfl) (by kernel_rfl) (fun _ _ _ h => h) (Or.inl ⟨by kernel_rfl, fun w0 hSw => ?_⟩) hHeld ?_; rotate_left; (focus ((try dsimp only at hSw); simp only [List.getElem_toArray, List.getElem_cons_zero]; (first | (go_simp; done) | (go_simp; with_reducible rfl)))); (try simp only [List.getElem_toArray, List.getElem_cons_zero, Act.put, List.setIfInBounds_toArray, List.set_cons_zero, List.set_cons_succ]))
  (refine wpAnyK_take (i := 1) (v := ?_) rfl rfl (by kernel_rfl) (by kernel_rfl) (by kernel_rfl) (by kernel_rfl) (fun _ _ _ h => h) (Or.inl ⟨by kernel_rfl, fun w0 hSw => ?_⟩) hHeld ?_; rotate_left; (focus ((try dsimp only at hSw); simp only [List.getElem_toArray, List.getElem_cons_zero, List.getElem_cons_succ]; (first | (go_simp; done) | (go_simp; with_reducible rfl)))); (try simp only [List.getElem_toArray, List.getElem_cons_zero, List.getElem_cons_succ, Act.put, List.setIfInBounds_toArray, List.set_cons_zero, List.set_cons_succ]))
  (refine wpAnyK_take (i := 2) (v := ?_) rfl rfl (by kernel_rfl) (by kernel_rfl) (by kernel_rfl) (by kernel_rfl) (fun _ _ _ h => h) (Or.inl ⟨by kernel_rfl, fun w0 hSw => ?_⟩) hHeld ?_; rotate_left; (focus ((try dsimp only at hSw); simp only [List.getElem_toArray, List.getElem_cons_zero, List.getElem_cons_succ]; (first | (go_simp; done) | (go_simp; with_reducible rfl)))); (try simp only [List.getElem_toArray, List.getElem_cons_zero, List.getElem_cons_succ, Act.put, List.setIfInBounds_toArray, List.set_cons_zero, List.set_cons_succ]))
  (refine wpAnyK_take (i := 3) (v := ?_) rfl rfl (by kernel_rfl) (by kernel_rfl) (by kernel_rfl) (by kernel_rfl) (fun _ _ _ h => h) (Or.inl ⟨by kernel_rfl, fun w0 hSw => ?_⟩) hHeld ?_; rotate_left; (focus ((try dsimp only at hSw); simp only [List.getElem_toArray, List.getElem_cons_zero, List.getElem_cons_succ]; (first | (go_simp; done) | (go_simp; with_reducible rfl)))); (try simp only [List.getElem_toArray, List.getElem_cons_zero, List.getElem_cons_succ, Act.put, List.setIfInBounds_toArray, List.set_cons_zero, List.set_cons_succ]))
  (refine wpAnyK_take (i := 4) (v := ?_) rfl rfl (by kernel_rfl) (by kernel_rfl) (by kernel_rfl) (by kernel_rfl) (fun _ _ _ h => h) (Or.inl ⟨by kernel_rfl, fun w0 hSw => ?_⟩) hHeld ?_; rotate_left; (focus ((try dsimp only at hSw); simp only [List.getElem_toArray, List.getElem_cons_zero, List.getElem_cons_succ]; (first | (go_simp; done) | (go_simp; with_reducible rfl)))); (try simp only [List.getElem_toArray, List.getElem_cons_zero, List.getElem_cons_succ, Act.put, List.setIfInBounds_toArray, List.set_cons_zero, List.set_cons_succ]))
  (refine wpAnyK_take (i := 5) (v := ?_) rfl rfl (by kernel_rfl) (by kernel_rfl) (by kernel_rfl) (by kernel_rfl) (fun _ _ _ h => h) (Or.inl ⟨by kernel_rfl, fun w0 hSw => ?_⟩) hHeld ?_; rotate_left; (focus ((try dsimp only at hSw); simp only [List.getElem_toArray, List.getElem_cons_zero, List.getElem_cons_succ]; (first | (go_simp; done) | (go_simp; with_reducible rfl)))); (try simp only [List.getElem_toArray, List.getElem_cons_zero, List.getElem_cons_succ, Act.put, List.setIfInBounds_toArray, List.set_cons_zero, List.set_cons_succ]))
  (refine wpAnyK_take (i := 6) (v := ?_) rfl rfl (by kernel_rfl) (by kernel_rfl) (by kernel_rfl) (by kernel_rfl) (fun _ _ _ h => h) (Or.inl ⟨by kernel_rfl, fun w0 hSw => ?_⟩) hHeld ?_; rotate_left; (focus ((try dsimp only at hSw); simp only [List.getElem_toArray, List.getElem_cons_zero, List.getElem_cons_succ]; (first | (go_simp; done) | (go_simp; with_reducible rfl)))); (try simp only [List.getElem_toArray, List.getElem_cons_zero, List.getElem_cons_succ, Act.put, List.setIfInBounds_toArray, List.set_cons_zero, List.set_cons_succ]))
  (refine wpAnyK_take (i := 7) (v := ?_) rfl rfl (by kernel_rfl) (by kernel_rfl) (by kernel_rfl) (by kernel_rfl) (fun _ _ _ h => h) (Or.inl ⟨by kernel_rfl, fun w0 hSw => ?_⟩) hHeld ?_; rotate_left; (focus ((try dsimp only at hSw); simp only [List.getElem_toArray, List.getElem_cons_zero, List.getElem_cons_succ]; (first | (go_simp; done) | (go_simp; with_reducible rfl)))); (try simp only [List.getElem_toArray, List.getElem_cons_zero, List.getElem_cons_succ, Act.put, List.setIfInBounds_toArray, List.set_cons_zero, List.set_cons_succ]))
  (refine wpAnyK_take (i := 8) (v := ?_) rfl rfl (by kernel_rfl) (by kernel_rfl) (by kernel_rfl) (by kernel_rfl) (fun _ _ _ h => h) (Or.inl ⟨by kernel_rfl, fun w0 hSw => ?_⟩) hHeld ?_; rotate_left; (focus ((try dsimp only at hSw); simp only [List.getElem_toArray, List.getElem_cons_zero, List.getElem_cons_succ]; (first | (go_simp; done) | (go_simp; with_reducible rfl)))); (try simp only [List.getElem_toArray, List.getElem_cons_zero, List.getElem_cons_succ, Act.put, List.setIfInBounds_toArray, List.set_cons_zero, List.set_cons_succ]))
  (refine wpAnyK_take (i := 9) (v := ?_) rfl rfl (by kernel_rfl) (by kernel_rfl) (by kernel_rfl) (by kernel_rfl) (fun _ _ _ h => h) (Or.inl ⟨by kernel_rfl, fun w0 hSw => ?_⟩) hHeld ?_; rotate_left; (focus ((try dsimp only at hSw); simp only [List.getElem_toArray, List.getElem_cons_zero, List.getElem_cons_succ]; (first | (go_simp; done) | (go_simp; with_reducible rfl)))); (try simp only [List.getElem_toArray, List.getElem_cons_zero, List.getElem_cons_succ, Act.put, List.setIfInBounds_toArray, List.set_cons_zero, List.set_cons_succ]))
  (refine wpAnyK_take (i := 10) (v := ?_) rfl rfl (by kernel_rfl) (by kernel_rfl) (by kernel_rfl) (by kernel_rfl) (fun _ _ _ h => h) (Or.inl ⟨by kernel_rfl, fun w0 hSw => ?_⟩) hHeld ?_; rotate_left; (focus ((try dsimp only at hSw); simp only [List.getElem_toArray, List.getElem_cons_zero, List.getElem_cons_succ]; (first | (go_simp; done) | (go_simp; with_reducible rfl)))); (try simp only [List.getElem_toArray, List.getElem_cons_zero, List.getElem_cons_succ, Act.put, List.setIfInBounds_toArray, List.set_cons_zero, List.set_cons_succ]))
  (refine wpAnyK_take (i := 11) (v := ?_) rfl rfl (by kernel_rfl) (by kernel_rfl) (by kernel_rfl) (by kernel_rfl) (fun _ _ _ h => h) (Or.inl ⟨by kernel_rfl, fun w0 hSw => ?_⟩) hHeld ?_; rotate_left; (focus ((try dsimp only at hSw); simp only [List.getElem_toArray, List.getElem_cons_zero, List.getElem_cons_succ]; (first | (go_simp; done) | (go_simp; with_reducible rfl)))); (try simp only [List.getElem_toArray, List.getElem_cons_zero, List.getElem_cons_succ, Act.put, List.setIfInBounds_toArray, List.set_cons_zero, List.set_cons_succ]))
  (refine wpAnyK_take (i := 12) (v := ?_) rfl rfl (by kernel_rfl) (by kernel_rfl) (by kernel_rfl) (by kernel_rfl) (fun _ _ _ h => h) (Or.inl ⟨by kernel_rfl, fun w0 hSw => ?_⟩) hHeld ?_; rotate_left; (focus ((try dsimp only at hSw); simp only [List.getElem_toArray, List.getElem_cons_zero, List.getElem_cons_succ]; (first | (go_simp; done) | (go_simp; with_reducible rfl)))); (try simp only [List.getElem_toArray, List.getElem_cons_zero, List.getElem_cons_succ, Act.put, List.setIfInBounds_toArray, List.set_cons_zero, List.set_cons_succ]))
  (refine wpAnyK_take (i := 13) (v := ?_) rfl rfl (by kernel_rfl) (by kernel_rfl) (by kernel_rfl) (by kernel_rfl) (fun _ _ _ h => h) (Or.inl ⟨by kernel_rfl, fun w0 hSw => ?_⟩) hHeld ?_; rotate_left; (focus ((try dsimp only at hSw); simp only [List.getElem_toArray, List.getElem_cons_zero, List.getElem_cons_succ]; (first | (go_simp; done) | (go_simp; with_reducible rfl)))); (try simp only [List.getElem_toArray, List.getElem_cons_zero, List.getElem_cons_succ, Act.put, List.setIfInBounds_toArray, List.set_cons_zero, List.set_cons_succ]))
  (refine wpAnyK_take (i := 14) (v := ?_) rfl rfl (by kernel_rfl) (by kernel_rfl) (by kernel_rfl) (by kernel_rfl) (fun _ _ _ h => h) (Or.inl ⟨by kernel_rfl, fun w0 hSw => ?_⟩) hHeld ?_; rotate_left; (focus ((try dsimp only at hSw); simp only [List.getElem_toArray, List.getElem_cons_zero, List.getElem_cons_succ]; (first | (go_simp; done) | (go_simp; with_reducible rfl)))); (try simp only [List.getElem_toArray, List.getElem_cons_zero, List.getElem_cons_succ, Act.put, List.setIfInBounds_toArray, List.set_cons_zero, List.set_cons_succ]))
  (refine wpAnyK_take (i := 15) (v := ?_) rfl rfl (by kernel_rfl) (by kernel_rfl) (by kernel_rfl) (by kernel_rfl) (fun _ _ _ h => h) (Or.inl ⟨by kernel_rfl, fun w0 hSw => ?_⟩) hHeld ?_; rotate_left; (focus ((try dsimp only at hSw); simp only [List.getElem_toArray, List.getElem_cons_zero, List.getElem_cons_succ]; (first | (go_simp; done) | (go_simp; with_reducible rfl)))); (try simp only [List.getElem_toArray, List.getElem_cons_zero, List.getElem_cons_succ, Act.put, List.setIfInBounds_toArray, List.set_cons_zero, List.set_cons_succ]))
  (refine wpAnyK_take (i := 16) (v := ?_) rfl rfl (by kernel_rfl) (by kernel_rfl) (by kernel_rfl) (by kernel_rfl) (fun _ _ _ h => h) (Or.inl ⟨by kernel_rfl, fun w0 hSw => ?_⟩) hHeld ?_; rotate_left; (focus ((try dsimp only at hSw); simp only [List.getElem_toArray, List.getElem_cons_zero, List.getElem_cons_succ]; (first | (go_simp; done) | (go_simp; with_reducible rfl)))); (try simp only [List.getElem_toArray, List.getElem_cons_zero, List.getElem_cons_succ, Act.put, List.setIfInBounds_toArray, List.set_cons_zero, List.set_cons_succ]))
  (refine wpAnyK_take (i := 17) (v := ?_) rfl rfl (by kernel_rfl) (by kernel_rfl) (by kernel_rfl) (by kernel_rfl) (fun _ _ _ h => h) (Or.inl ⟨by kernel_rfl, fun w0 hSw => ?_⟩) hHeld ?_; rotate_left; (focus ((try dsimp only at hSw); simp only [List.getElem_toArray, List.getElem_cons_zero, List.getElem_cons_succ]; (first | (go_simp; done) | (go_simp; with_reducible rfl)))); (try simp only [List.getElem_toArray, List.getElem_cons_zero, List.getElem_cons_succ, Act.put, List.setIfInBounds_toArray, List.set_cons_zero, List.set_cons_succ]))
  (refine wpAnyK_take (i := 18) (v := ?_) rfl rfl (by kernel_rfl) (by kernel_rfl) (by kernel_rfl) (by kernel_rfl) (fun _ _ _ h => h) (Or.inl ⟨by kernel_rfl, fun w0 hSw => ?_⟩) hHeld ?_; rotate_left; (focus ((try dsimp only at hSw); simp only [List.getElem_toArray, List.getElem_cons_zero, List.getElem_cons_succ]; (first | (go_simp; done) | (go_simp; with_reducible rfl)))); (try simp only [List.getElem_toArray, List.getElem_cons_zero, List.getElem_cons_succ, Act.put, List.setIfInBounds_toArray, List.set_cons_zero, List.set_cons_succ]))
  (refine wpAnyK_take (i := 19) (v := ?_) rfl rfl (by kernel_rfl) (by kernel_rfl) (by kernel_rfl) (by kernel_rfl) (fun _ _ _ h => h) (Or.inl ⟨by kernel_rfl, fun w0 hSw => ?_⟩) hHeld ?_; rotate_left; (focus ((try dsimp only at hSw); simp only [List.getElem_toArray, List.getElem_cons_zero, List.getElem_cons_succ]; (first | (go_simp; done) | (go_simp; with_reducible rfl)))); (try simp only [List.getElem_toArray, List.getElem_cons_zero, List.getElem_cons_succ, Act.put, List.setIfInBounds_toArray, List.set_cons_zero, List.set_cons_succ]))
  (refine wpAnyK_take (i := 20) (v := ?_) rfl rfl (by kernel_rfl) (by kernel_rfl) (by kernel_rfl) (by kernel_rfl) (fun _ _ _ h => h) (Or.inl ⟨by kernel_rfl, fun w0 hSw => ?_⟩) hHeld ?_; rotate_left; (focus ((try dsimp only at hSw); simp only [List.getElem_toArray, List.getElem_cons_zero, List.getElem_cons_succ]; (first | (go_simp; done) | (go_simp; with_reducible rfl)))); (try simp only [List.getElem_toArray, List.getElem_cons_zero, List.getElem_cons_succ, Act.put, List.setIfInBounds_toArray, List.set_cons_zero, List.set_cons_succ]))
  (refine wpAnyK_one (j := 21) (by kernel_rfl) rfl (fun K hK => ?_); (try simp only [List.getElem_toArray, List.getElem_cons_zero, List.getElem_cons_succ]))
  go_simp
  refine hK.out _ _ (.inr hHeld) ?_
  clear hK K
  (try simp only [List.getElem_toArray, List.getElem_cons_zero, List.getElem_cons_succ, Act.put, List.setIfInBounds_toArray, List.set_cons_zero, List.set_cons_succ])
  (refine wpAnyK_one (j := 22) (by kernel_rfl) rfl (fun K hK => ?_); (try simp only [List.getElem_toArray, List.getElem_cons_zero, List.getElem_cons_succ]))
  go_simp
  refine hK.out _ _ (.inl rfl) ?_
  clear hK K
  refine wpAnyK_done (by kernel_rfl) ?_ _
  go_wp2_with fail
  refine bodyPost_ret (v := .agg #[.int .i64 c.a, .int .i64 c.b, .int .i64 c.s, .int .i64 c.e, .int .i64 c.r, .int .i64 c.g, .int .i64 c.l]) (by simp [results, Tryd.results59, go_sem]) rfl ⟨rfl, by (repeat' (first | (with_reducible exact Below.refl _ _) | (with_reducible refine Below.alloc ?_ ?_ _) | (with_reducible refine Below.drew ?_) | (with_reducible refine below_drewN ?_ _) | (with_reducible refine Below.setCell ?_ ?_ _) | (with_reducible refine Below.trans ?_ (Below.mono (by assumption) ?_)) | (with_reducible exact Nat.le_refl _) | omega | (simp; omega) | (simp; done)))⟩
theorem own_at {w : World} {base : Nat} {A : Option Addr} {n c : Nat} {l : List Int} (h : w.ownsRow base 3 1 (.slice A n c) l.length (intCells l)) (hp : 0 < l.length) : ∃ g, A = some ⟨g, 0, none⟩ ∧ n = l.length ∧ base ≤ g ∧ g < w.heap.size ∧ ∀ j, j < l.length → w.cell? ⟨g, j, none⟩ = some (.int .i64 (l.getD j 0)) := by
  obtain ⟨A', c', e', _, _, hI⟩ := ints_of_own h
  rcases h.2 with ⟨e, h0⟩ | ⟨g, cap, cur, e, hb, hg, _⟩
  · omega
  · injection e with e1 e2 e3
    injection e' with e4 e5 e6
    obtain ⟨b, o, e7, hlt, hc⟩ := hI hp
    rw [← e4, e1] at e7
    cases e7
    exact ⟨g, e1, e5, hb, hlt, fun j hj => by have := hc j hj; rwa [Nat.zero_add] at this⟩
theorem linesF_num : ∀ (f : Nat) (n : Int) (l : List UInt8), 1 ≤ n → ∀ k, k < (linesF f n l).length → (((linesF f n l).getD k (1, ⟨#[]⟩)).1 = 0 ↔ k + 1 = (linesF f n l).length ∧ (linesF f n l).all (fun p => p.1 != 0) = false)
  | 0, _, _, _, k, h => by simp [linesF] at h
  | f + 1, n, l, hn, k, h => by
    rw [linesF_succ] at h ⊢
    by_cases hl : l = []
    · rw [if_pos hl] at h; simp at h
    · rw [if_neg hl] at h ⊢
      by_cases hc : (Lib.cut l [10]).2.2 = true
      · rw [if_pos hc] at h ⊢
        have hn0 : ((n, (⟨(Lib.cut l [10]).1.toArray⟩ : ByteArray)).1 != 0) = true := by simp; omega
        cases k with
        | zero =>
          simp only [List.getD_cons_zero, List.length_cons, List.all_cons, hn0, Bool.true_and]
          constructor
          · intro e; omega
          · rintro ⟨e1, e2⟩
            have : linesF f (n + 1) (Lib.cut l [10]).2.1 = [] := List.eq_nil_of_length_eq_zero (by omega)
            rw [this] at e2; cases e2
        | succ k =>
          have ih := linesF_num f (n + 1) (Lib.cut l [10]).2.1 (by omega) k (by simpa using h)
          simp only [List.getD_cons_succ, List.length_cons, List.all_cons, hn0, Bool.true_and]
          rw [ih]
          constructor <;> rintro ⟨e1, e2⟩ <;> exact ⟨by omega, e2⟩
      · rw [if_neg hc] at h ⊢
        obtain rfl : k = 0 := by simpa using h
        simp
theorem linesB_num (s : ByteArray) {k : Nat} (h : k < (linesB s).length) : ((linesB s).getD k (1, ⟨#[]⟩)).1 = 0 ↔ k + 1 = (linesB s).length ∧ endedB s = false := linesF_num _ _ _ (by omega) k h
theorem node_con {s : ByteArray} {ns : List Int} (h : lineOf nodeW 2 s = some ns) : lineOf conW 7 s = none := by
  unfold lineOf at h ⊢
  cases hw : wordsOf s with
  | nil => rfl
  | cons x t =>
    rw [hw] at h
    simp only at h ⊢
    split at h
    · rename_i hc
      rw [if_neg (fun h2 => by rw [hc.1] at h2; exact absurd h2.1 (by decide))]
    · cases h
theorem lineOf_len {word : List UInt8} {n : Nat} {s : ByteArray} {ns : List Int} (h : lineOf word n s = some ns) : ns.length = n := by
  unfold lineOf at h
  split at h
  · cases h
  · split at h
    · rename_i hc; rw [← hc.2]; exact numsOf_len h
    · cases h
theorem con_of_seven {ns : List Int} (h : ns.length = 7) : ∃ c, conOf ns = some c ∧ ns = conNums c := by
  match ns, h with
  | [a, b, c, d, e, f, g], _ => exact ⟨⟨a, b, c, d, e, f, g⟩, rfl, rfl⟩
/-- the reading under way -/
structure RI (w W : World) (s : ByteArray) (k : Nat) (Q : List Int) (C : List Con) (VQ VC vl : Value) : Prop where
  scn : scan [] [] 0 (linesB s) = scan Q C k ((linesB s).drop k)
  lq : Q.length ≤ k
  lc : C.length ≤ k
  pst : PSt W (w.heap.size + 1 + 1) (w.heap.size + 1) Q C VQ VC
  r0 : W.heap[w.heap.size]? = some (.cells #[.slice none 0 0, .slice none 0 0] 25 (0, 0))
  own : W.ownsRow (w.heap.size + 1 + 1) 9 1 vl (lsnd (linesB s)).length (strVals (lsnd (linesB s)))
  bel : Below w.heap.size w W
theorem RI.below {w W W' : World} {s : ByteArray} {k : Nat} {Q : List Int} {C : List Con} {VQ VC vl : Value} (h : RI w W s k Q C VQ VC vl) (hb : Below W.heap.size W W') : RI w W' s k Q C VQ VC vl :=
  ⟨h.scn, h.lq, h.lc, h.pst.below hb, (hb.block _ (blk_lt h.r0)).trans h.r0, own_below h.own hb, h.bel.trans (hb.mono h.bel.size)⟩
theorem frm_below {n B pb : Nat} {a W W' : World} (h : Below n a W) (F : Frm B pb W W') (hB : n ≤ B) (hp : n ≤ pb) : Below n a W' :=
  ⟨F.os.trans h.os, F.tape.trans h.tape, F.output.trans h.output, Nat.le_trans h.size F.size, fun k hk => (F.block k (by omega) (by omega)).trans (h.block k hk)⟩
theorem scan_next {s : ByteArray} {k : Nat} {Q Q' : List Int} {C C' : List Con} (h : scan [] [] 0 (linesB s) = scan Q C k ((linesB s).drop k)) (hk : k < (linesB s).length) (hs : stepL Q C ((linesB s).getD k (1, ⟨#[]⟩)) = some (Q', C')) : scan [] [] 0 (linesB s) = scan Q' C' (k + 1) ((linesB s).drop (k + 1)) := by
  rw [h, List.drop_eq_getElem_cons hk, scan]
  have e : (linesB s)[k] = (linesB s).getD k (1, ⟨#[]⟩) := by simp [List.getD, hk]
  rw [e, hs]
theorem scan_stop {s : ByteArray} {k : Nat} {Q : List Int} {C : List Con} (h : scan [] [] 0 (linesB s) = scan Q C k ((linesB s).drop k)) (hk : k < (linesB s).length) (hs : stepL Q C ((linesB s).getD k (1, ⟨#[]⟩)) = none) : scan [] [] 0 (linesB s) = .error (k + 1) := by
  rw [h, List.drop_eq_getElem_cons hk, scan]
  have e : (linesB s)[k] = (linesB s).getD k (1, ⟨#[]⟩) := by simp [List.getD, hk]
  rw [e, hs]
theorem RI.setQ {w W w1 : World} {s : ByteArray} {k : Nat} {Q : List Int} {C : List Con} {VQ VC vl V : Value} {q : Int} {o : Obj} (h : RI w W s k Q C VQ VC vl) (hg : (W.alloc o).grownBy w1 VQ.ownBlock) (hr : w1.ownsRow (w.heap.size + 1 + 1) 3 1 V (Q.length + 1) (intCells Q ++ [.int .i64 q]))
    (hk : k < (linesB s).length) (hs : stepL Q C ((linesB s).getD k (1, ⟨#[]⟩)) = some (Q ++ [q], C)) : RI w (w1.setCell ⟨w.heap.size + 1, 0, none⟩ V) s (k + 1) (Q ++ [q]) C V VC vl := by
  obtain ⟨b6, hP, F, _⟩ := h.pst.appQ hg hr
  have hl := (h.own.alloc o).kept hg (own_ne_own (h.own.alloc o) (h.pst.rq.alloc o) (by decide))
  exact ⟨scan_next h.scn hk hs, by have := h.lq; simp; omega, by have := h.lc; omega, hP, (F.block _ (by omega) (by omega)).trans h.r0, ownsRow_setCell_below hl h.pst.lt _, frm_below h.bel F (by omega) (by omega)⟩
theorem RI.setC {w W w1 : World} {s : ByteArray} {k : Nat} {Q : List Int} {C : List Con} {VQ VC vl V : Value} {c : Con} {o : Obj} (h : RI w W s k Q C VQ VC vl) (hg : (W.alloc o).grownBy w1 VC.ownBlock) (hr : w1.ownsRow (w.heap.size + 1 + 1) 40 7 V (C.length + 1) (conCells C ++ conVals c))
    (hk : k < (linesB s).length) (hs : stepL Q C ((linesB s).getD k (1, ⟨#[]⟩)) = some (Q, C ++ [c])) : RI w (w1.setCell ⟨w.heap.size + 1, 1, none⟩ V) s (k + 1) Q (C ++ [c]) VQ V vl := by
  obtain ⟨b6, hP, F, _⟩ := h.pst.appC hg hr
  have hl := (h.own.alloc o).kept hg (own_ne_own (h.own.alloc o) (h.pst.rc.alloc o) (by decide))
  exact ⟨scan_next h.scn hk hs, by have := h.lq; omega, by have := h.lc; simp; omega, hP, (F.block _ (by omega) (by omega)).trans h.r0, ownsRow_setCell_below hl h.pst.lt _, frm_below h.bel F (by omega) (by omega)⟩
theorem parseR_err {s : ByteArray} (hs : ¬ 8192 < s.size) {n : Nat} (h : scan [] [] 0 (linesB s) = .error n) : parseR s = ([], [], (n : Int), 3) := by
  unfold parseR; rw [if_neg hs]
  show (match scan [] [] 0 (linesB s) with | .error n => _ | .ok p => _) = _
  rw [h]
theorem parseR_ok {s : ByteArray} (hs : ¬ 8192 < s.size) {Q : List Int} {C : List Con} (h : scan [] [] 0 (linesB s) = .ok (Q, C)) : parseR s = if planE Q C ≠ 0 then ([], [], 0, planE Q C) else (Q, C, 0, 0) := by
  unfold parseR; rw [if_neg hs]
  show (match scan [] [] 0 (linesB s) with | .error n => _ | .ok p => _) = _
  rw [h]
theorem linesB_len (s : ByteArray) : (linesB s).length ≤ s.size := by
  have := linesF_len s.data.toList.length 1 s.data.toList
  simpa [linesB] using this
theorem linesF_size : ∀ (f : Nat) (n : Int) (l : List UInt8) (k : Nat), k < (linesF f n l).length → ((linesF f n l).getD k (1, ⟨#[]⟩)).2.size ≤ l.length
  | 0, _, _, k, h => by simp [linesF] at h
  | f + 1, n, l, k, h => by
    rw [linesF_succ] at h ⊢
    by_cases hl : l = []
    · rw [if_pos hl] at h; simp at h
    · rw [if_neg hl] at h ⊢
      have h1 := cut_len1 l
      by_cases hc : (Lib.cut l [10]).2.2 = true
      · rw [if_pos hc] at h ⊢
        cases k with
        | zero => simpa [mk_size] using h1
        | succ k =>
          have ih := linesF_size f (n + 1) (Lib.cut l [10]).2.1 k (by simpa using h)
          have := cut_len hc hl
          simp only [List.getD_cons_succ]
          omega
      · rw [if_neg hc] at h ⊢
        obtain rfl : k = 0 := by simpa using h
        simpa [mk_size] using h1
theorem linesB_size {s : ByteArray} {k : Nat} (hk : k < (linesB s).length) : ((linesB s).getD k (1, ⟨#[]⟩)).2.size ≤ s.size := by
  have h1 := linesF_size _ _ _ k hk
  have h2 : s.data.toList.length = s.size := by simp
  rw [h2] at h1
  exact h1
theorem lsnd_get (L : List (Int × ByteArray)) (k : Nat) : (lsnd L).getD k ⟨#[]⟩ = (L.getD k (1, ⟨#[]⟩)).2 := by
  simp only [lsnd, List.getD, List.getElem?_map]
  cases L[k]? <;> rfl
theorem strs_at {w : World} {base : Nat} {A : Option Addr} {c : Nat} {l : List ByteArray} (h : w.ownsRow base 9 1 (.slice A l.length c) l.length (strVals l)) {k : Nat} (hk : k < l.length) : ∃ b o, A = some ⟨b, o, none⟩ ∧ w.cell? ⟨b, o + k, none⟩ = some (.string (l.getD k ⟨#[]⟩)) := by
  obtain ⟨A', c', e, _, _, hA⟩ := strs_of_own h
  injection e with e1 e2 e3
  subst e1
  obtain ⟨b, o, rfl, _, hc⟩ := hA (by omega)
  exact ⟨b, o, rfl, hc k hk⟩
theorem strs_cell {w : World} {base b o : Nat} {c : Nat} {l : List ByteArray} (h : w.ownsRow base 9 1 (.slice (some ⟨b, o, none⟩) l.length c) l.length (strVals l)) {k : Nat} (hk : k < l.length) : w.cell? ⟨b, o + k, none⟩ = some (.string (l.getD k ⟨#[]⟩)) := by
  obtain ⟨b', o', e, hc⟩ := strs_at h hk
  cases e
  exact hc
theorem pnode_any (x : ByteArray) (hx : x.size ≤ 8192) (w : World) : Calls Tryd.prog 58 #[.string x, .string ⟨#[110, 111, 100, 101]⟩, .int .i64 2] w (PLPost (lineOf nodeW 2 x) w) := pline_any x ⟨nodeW.toArray⟩ 2 hx (by decide) (by decide) (by omega) w
theorem pcon_any (x : ByteArray) (hx : x.size ≤ 8192) (w : World) : Calls Tryd.prog 58 #[.string x, .string ⟨#[99, 111, 110, 116, 97, 99, 116]⟩, .int .i64 7] w (PLPost (lineOf conW 7 x) w) := pline_any x ⟨conW.toArray⟩ 7 hx (by decide) (by decide) (by omega) w
set_option maxHeartbeats 8000000 in
set_option maxRecDepth 100000 in
theorem rparse_ok (s : ByteArray) (hs : s.size ≤ 8192) (w : World) : Calls Tryd.prog 32 #[.string s] w (ParsePost s w) := by
  have hs8 : Hid (¬ 8192 < s.size) := by show ¬ _; omega
  have HLe : Hid ((lsnd (linesB s)).length = (linesB s).length) := by show _ = _; simp [lsnd]
  have hLn : (lsnd (linesB s)).length ≤ 8192 := by rw [HLe.out]; have := linesB_len s; omega
  go_enter Tryd.func32, Tryd.ntmps32
  go_wp2_with fail
  refine (rlines_any s hs _).mono ?_
  unfold LinesPost
  rintro e w1 ⟨vl, rfl, hol, hb1⟩
  obtain ⟨Al, cl, rfl⟩ := own_shape hol
  generalize hEb : endedB s = eb at *
  have HEb := Lib.hid hEb
  clear hEb
  have hbW : Below (w.heap.size + 1 + 1) ((w.alloc (.cells #[.slice none 0 0, .slice none 0 0] 25)).alloc (.cells #[.slice none 0 0, .slice none 0 0] 25)) w1 := hb1.mono (by simp)
  have r1 : RI w w1 s 0 [] [] (.slice none 0 0) (.slice none 0 0) (.slice Al (lsnd (linesB s)).length cl) := by
    refine ⟨rfl, by simp, by simp, ⟨by omega, Nat.le_trans (by simp) hbW.size, (hbW.block _ (by omega)).trans (heap_last _ _ _ (by simp)), World.ownsRow_nil _ _ _ _, World.ownsRow_nil _ _ _ _⟩, (hbW.block _ (by omega)).trans ?_, ?_, ?_⟩
    · rw [Below.heap_alloc _ _ _ (by simp)]; exact heap_last _ _ _ rfl
    · simpa using hol
    · exact (((Below.refl _ w).alloc (Nat.le_refl _) _).alloc (by simp) _).trans (hbW.mono (by omega))
  clear hol hb1 hbW
  go_wp2_with fail
  go_loopw [8] (fun i wr => ∃ (k : Nat) (Q : List Int) (C : List Con) (VQ VC : Value), k ≤ (lsnd (linesB s)).length ∧ i = .int .i64 k ∧ RI w wr s k Q C VQ VC (.slice Al (lsnd (linesB s)).length cl)) (fun i _ => (lsnd (linesB s)).length - (intOf i).toNat)
  case atStart => exact ⟨0, [], [], _, _, by omega, rfl, r1⟩
  case round =>
    obtain ⟨k, Q, C, VQ, VC, hk, rfl, rr⟩ := hrel
    obtain ⟨AQ, cQ, rfl⟩ := own_shape rr.pst.rq
    obtain ⟨AC, cC, rfl⟩ := own_shape rr.pst.rc
    have hlQ := rr.lq
    have hlC := rr.lc
    by_cases hkn : k < (lsnd (linesB s)).length
    · have hlt : k < (linesB s).length := by rw [← HLe.out]; exact hkn
      have hk0 : k < 8192 := by omega
      obtain ⟨bl, ol, rfl, hx1⟩ := strs_at rr.own hkn
      have hx : ((lsnd (linesB s)).getD k ⟨#[]⟩).size ≤ 8192 := by rw [lsnd_get]; have := linesB_size hlt; omega
      have HX := Lib.hid (lsnd_get (linesB s) k)
      have HRe := Lib.hid (readL_eq Q C ((lsnd (linesB s)).getD k ⟨#[]⟩))
      have HSt : Hid (stepL Q C ((linesB s).getD k (1, ⟨#[]⟩)) = if ((linesB s).getD k (1, ⟨#[]⟩)).1 = 0 then none else readL Q C ((lsnd (linesB s)).getD k ⟨#[]⟩)) := by show _ = _; rw [HX.out]; rfl
      clear HX
      generalize hxe : (lsnd (linesB s)).getD k ⟨#[]⟩ = x at *
      have HXE := Lib.hid hxe
      clear hxe
      by_cases hz : ((linesB s).getD k (1, ⟨#[]⟩)).1 = 0
      · have HST : Hid (stepL Q C ((linesB s).getD k (1, ⟨#[]⟩)) = none) := by show _ = _; rw [HSt.out, if_pos hz]
        obtain ⟨hk1, hE⟩ := (linesB_num s hlt).1 hz
        obtain rfl : eb = false := HEb.out.symm.trans hE
        clear hE
        have hkl : ((k : Int) == ((lsnd (linesB s)).length : Int) - 1) = true := by rw [HLe.out, beq_iff_eq]; omega
        clear hz hk1 HSt HRe
        go_wp2_with fail
        refine (pnode_any x hx _).mono ?_
        generalize lineOf nodeW 2 x = N2 at *
        unfold PLPost
        try simp only [Option.isSome_some, Option.isSome_none]
        rintro e w2 ⟨A2, k2, c2, rfl, hn2, hb2⟩
        have HN2 := Lib.hid hn2
        clear hn2
        have r2 := rr.below hb2
        have hx2 := strs_cell r2.own hkn
        rw [HXE.out] at hx2
        clear hx1
        go_wp2_with fail
        refine (pcon_any x hx _).mono ?_
        generalize lineOf conW 7 x = M2 at *
        unfold PLPost
        try simp only [Option.isSome_some, Option.isSome_none]
        rintro e w3 ⟨A3, k3, c3, rfl, hn3, hb3⟩
        have HN3 := Lib.hid hn3
        clear hn3
        have r3 := r2.below hb3
        clear hx2
        have HPE := Lib.hid (parseR_err hs8.out (scan_stop r3.scn hlt HST.out))
        have z0 := cell_blk r3.r0 0
        have z1 := cell_blk r3.r0 1
        have f0 := frozen_blk r3.r0 0
        have f1 := frozen_blk r3.r0 1
        have hzl := blk_lt r3.r0
        simp only [List.getElem?_toArray, List.getElem?_cons_zero, List.getElem?_cons_succ] at z0 z1
        go_wp2_with fail
        obtain ⟨t0, t1⟩ := two_cells z0 z1 (.slice none 0 0) (.slice none 0 0)
        have hB5 := below_two r3.bel (Nat.le_refl _) (.slice none 0 0) (.slice none 0 0)
        generalize ((w3.setCell ⟨w.heap.size, 0, none⟩ (.slice none 0 0)).setCell ⟨w.heap.size, 1, none⟩ (.slice none 0 0)) = w9 at *
        refine bodyPost_ret (v := .tuple #[.agg #[.slice none 0 0, .slice none 0 0], .int .i64 ((k : Int) + 1), .int .i64 3]) (by simp [results, Tryd.results32, go_sem, t0, t1]) rfl ⟨_, _, by rw [HPE.out]; rfl, by rw [HPE.out]; exact ints_nil _ _, by rw [HPE.out]; exact cons_nil _ _, hB5⟩
      · have HSt2 : Hid (stepL Q C ((linesB s).getD k (1, ⟨#[]⟩)) = readL Q C x) := by show _ = _; rw [HSt.out, if_neg hz]
        cases hN : lineOf nodeW 2 x with
        | some ns =>
          have hM := node_con hN
          obtain ⟨a, q, rfl⟩ : ∃ a q, ns = [a, q] := by
            have := lineOf_len hN
            match ns, this with
            | [a, q], _ => exact ⟨a, q, rfl⟩
          by_cases hC : C = []
          · by_cases ha : a = Q.length
            · have HST : Hid (stepL Q C ((linesB s).getD k (1, ⟨#[]⟩)) = some (Q ++ [q], C)) := by
                show _ = _
                rw [HSt2.out, HRe.out, hN]
                simp [ha, hC]
              have hCl : ((C.length : Int) == 0) = true := by rw [hC]; rfl
              have hal : (a == (Q.length : Int)) = true := by simpa using ha
              have HN := Lib.hid hN
              have HM := Lib.hid hM
              clear hN hM hC ha HSt HSt2 HRe
              by_cases hk1 : k + 1 = (linesB s).length
              · obtain rfl : eb = true := by
                  rw [← HEb.out]
                  cases hE : endedB s with
                  | true => rfl
                  | false => exact absurd ((linesB_num s hlt).2 ⟨hk1, hE⟩) hz
                have hkl : ((k : Int) == ((lsnd (linesB s)).length : Int) - 1) = true := by rw [HLe.out, beq_iff_eq]; omega
                clear hk1
                go_wp2_with fail
                refine (pnode_any x hx _).mono ?_
                rw [HN.out]
                unfold PLPost
                try simp only [Option.isSome_some]
                rintro e w2 ⟨A2, k2, c2, rfl, hn2, hb2⟩
                have HN2 := Lib.hid hn2
                clear hn2
                have r2 := rr.below hb2
                have hx2 := strs_cell r2.own hkn
                rw [HXE.out] at hx2
                clear hx1
                go_wp2_with fail
                refine (pcon_any x hx _).mono ?_
                rw [HM.out]
                unfold PLPost
                try simp only [Option.isSome_none]
                rintro e w3 ⟨A3, k3, c3, rfl, hn3, hb3⟩
                have HN3 := Lib.hid hn3
                clear hn3
                have r3 := r2.below hb3
                clear hx2
                obtain ⟨b9, rfl, rfl, hg9, hb9, hcell9⟩ := own_at (HN2.out _ rfl) (by simp)
                have n0 : w3.cell? ⟨b9, 0, none⟩ = some (.int .i64 a) := (hb3.cell (p := ⟨b9, 0, none⟩) hb9).trans (hcell9 0 (by simp))
                have n1 : w3.cell? ⟨b9, 1, none⟩ = some (.int .i64 q) := (hb3.cell (p := ⟨b9, 1, none⟩) hb9).trans (hcell9 1 (by simp))
                have hb9' : b9 < w3.heap.size := Nat.lt_of_lt_of_le hb9 hb3.size
                have hne9 : Hid ((Value.slice AQ Q.length cQ).ownBlock ≠ some b9) := fun e => by have := (rr.pst.rq.lt _ e).2; omega
                simp only [List.length_cons, List.length_nil] at *
                clear hcell9 HN3 HN2 hb3 hb2
                have c0 := cell_blk r3.pst.blk 0
                have c1 := cell_blk r3.pst.blk 1
                simp only [List.getElem?_toArray, List.getElem?_cons_zero, List.getElem?_cons_succ] at c0 c1
                have hpl3 := Nat.lt_of_lt_of_le r3.pst.lt r3.pst.le
                go_wp2_with fail
                go_quiet (fail)
                go_wp2_with fail
                generalize hW : World.drewN w3 _ = W
                have rW : RI w W s k Q C (.slice AQ Q.length cQ) (.slice AC C.length cC) (.slice (some ⟨bl, ol, none⟩) (lsnd (linesB s)).length cl) := by rw [← hW]; exact r3.below (below_drewN (Below.refl _ _) _)
                have m1 : W.cell? ⟨b9, 1, none⟩ = some (.int .i64 q) := by rw [← hW]; simpa [go_sem] using n1
                have hbW9 : b9 < W.heap.size := by rw [← hW]; simpa using hb9'
                clear hW n0 n1 c0 c1 hkl
                have c0 := cell_blk rW.pst.blk 0
                have c1 := cell_blk rW.pst.blk 1
                simp only [List.getElem?_toArray, List.getElem?_cons_zero, List.getElem?_cons_succ] at c0 c1
                have hpl5 := Nat.lt_of_lt_of_le rW.pst.lt rW.pst.le
                obtain ⟨i0', hi, hz0, hz1, hz2⟩ := info_parts info3
                have HI : Hid ((Tryd.prog.info? 3 = some i0') ∧ i0'.zero = some (.int .i64 0) ∧ i0'.size = 1 ∧ i0'.bytes = 8) := ⟨hi, hz0, hz1, hz2⟩
                clear hi hz0 hz1 hz2
                refine wp_region_last (fun w' => w'.cell? ⟨w.heap.size + 1, 0, none⟩ = some (.slice AQ Q.length cQ) ∧ w'.cell? ⟨b9, 1, none⟩ = some (.int .i64 q)) 8 (by kernel_rfl) (by simpa [go_sem] using And.intro c0 m1) (fun hHeld => ?_)
                (refine wpAnyK_take (i := 0) (v := ?_) rfl rfl (by kernel_rfl) (by kernel_rfl) (by kernel_rfl) (by kernel_rfl) (fun _ _ _ h => h) (Or.inl ⟨by kernel_rfl, fun w0 hSw => ?_⟩) hHeld ?_; rotate_left; (focus ((try dsimp only at hSw); simp only [List.getElem_toArray, List.getElem_cons_zero]; (first | (go_simp; done) | (go_simp; with_reducible rfl)))); (try simp only [List.getElem_toArray, List.getElem_cons_zero, Act.put, List.setIfInBounds_toArray, List.set_cons_zero, List.set_cons_succ]))
                (refine wpAnyK_take (i := 1) (v := ?_) rfl rfl (by kernel_rfl) (by kernel_rfl) (by kernel_rfl) (by kernel_rfl) (fun _ _ _ h => h) (Or.inl ⟨by kernel_rfl, fun w0 hSw => ?_⟩) hHeld ?_; rotate_left; (focus ((try dsimp only at hSw); simp only [List.getElem_toArray, List.getElem_cons_zero, List.getElem_cons_succ]; (first | (go_simp; done) | (go_simp; with_reducible rfl)))); (try simp only [List.getElem_toArray, List.getElem_cons_zero, List.getElem_cons_succ, Act.put, List.setIfInBounds_toArray, List.set_cons_zero, List.set_cons_succ]))
                (refine wpAnyK_take (i := 2) (v := ?_) rfl rfl (by kernel_rfl) (by kernel_rfl) (by kernel_rfl) (by kernel_rfl) (fun _ _ _ h => h) (Or.inl ⟨by kernel_rfl, fun w0 hSw => ?_⟩) hHeld ?_; rotate_left; (focus ((try dsimp only at hSw); simp only [List.getElem_toArray, List.getElem_cons_zero, List.getElem_cons_succ]; (first | (go_simp; done) | (go_simp; with_reducible rfl)))); (try simp only [List.getElem_toArray, List.getElem_cons_zero, List.getElem_cons_succ, Act.put, List.setIfInBounds_toArray, List.set_cons_zero, List.set_cons_succ]))
                (refine wpAnyK_take (i := 3) (v := ?_) rfl rfl (by kernel_rfl) (by kernel_rfl) (by kernel_rfl) (by kernel_rfl) (fun _ _ _ h => h) (Or.inl ⟨by kernel_rfl, fun w0 hSw => ?_⟩) hHeld ?_; rotate_left; (focus ((try dsimp only at hSw); simp only [List.getElem_toArray, List.getElem_cons_zero, List.getElem_cons_succ]; (first | (go_simp; done) | (go_simp; with_reducible rfl)))); (try simp only [List.getElem_toArray, List.getElem_cons_zero, List.getElem_cons_succ, Act.put, List.setIfInBounds_toArray, List.set_cons_zero, List.set_cons_succ]))
                (refine wpAnyK_take (i := 4) (v := ?_) rfl rfl (by kernel_rfl) (by kernel_rfl) (by kernel_rfl) (by kernel_rfl) (fun _ _ _ h => h) (Or.inl ⟨by kernel_rfl, fun w0 hSw => ?_⟩) hHeld ?_; rotate_left; (focus ((try dsimp only at hSw); simp only [List.getElem_toArray, List.getElem_cons_zero, List.getElem_cons_succ]; (first | (go_simp; done) | (go_simp; with_reducible rfl)))); (try simp only [List.getElem_toArray, List.getElem_cons_zero, List.getElem_cons_succ, Act.put, List.setIfInBounds_toArray, List.set_cons_zero, List.set_cons_succ]))
                (refine wpAnyK_one (j := 5) (by kernel_rfl) rfl (fun K hK => ?_); (try simp only [List.getElem_toArray, List.getElem_cons_zero, List.getElem_cons_succ]))
                go_simp
                refine hK.out _ _ (.inr ⟨by simpa [go_sem, hpl5] using c0, by simpa [go_sem, hbW9] using m1⟩) ?_
                clear hK K
                (try simp only [List.getElem_toArray, List.getElem_cons_zero, List.getElem_cons_succ, Act.put, List.setIfInBounds_toArray, List.set_cons_zero, List.set_cons_succ])
                (refine wpAnyK_one (j := 6) (by kernel_rfl) rfl (fun K hK => ?_); (try simp only [List.getElem_toArray, List.getElem_cons_zero, List.getElem_cons_succ]))
                rw [if_pos (by simp [Region.wanted])]
                have rD := rW.below (Below.drew (Below.refl W.heap.size W))
                refine wp_append_lies (W.drew.alloc (.cells #[.int .i64 q] 3)) (.tmp 80) (.tmp 84) 22 rfl (w.heap.size + 1 + 1) 3 i0' (.int .i64 0) 1 8 Tryd.underlying22 HI.out.1 HI.out.2.1 HI.out.2.2.1 HI.out.2.2.2 rfl (by decide) (.slice AQ Q.length cQ) Q.length (intCells Q) (by kernel_rfl) (rD.pst.rq.alloc _) ⟨W.heap.size, 0, none⟩ 1 1 [.int .i64 q] (by kernel_rfl) rfl (cell_one_new _ _ _) (by simp [Value.oneCell']) (by decide) (by unfold maxLen; omega) (by omega) (by have := rW.pst.le; simp; omega) (W.heap.size + 1) (by simp) ?_
                intro g cap w6 hown6 hgrow6 _ hlt6
                have r7 := rD.setQ hgrow6 hown6 hlt HST.out
                obtain ⟨b6, _⟩ := rD.pst.appQ hgrow6 hown6
                have k0 := cell_blk b6 0
                have kf := frozen_blk b6 0
                have kl := blk_lt b6
                simp only [List.getElem?_toArray, List.getElem?_cons_zero] at k0
                have kn : w6.cell? ⟨b9, 1, none⟩ = some (.int .i64 q) := (World.cell?_of_block (a := ⟨b9, 1, none⟩) ((hgrow6.block b9 (by simp; omega) (fun e => hne9.out e.symm)).trans (Below.heap_alloc _ _ _ hbW9))).trans m1
                refine hK.out _ _ (.inr ⟨k0, kn⟩) ?_
                clear hK K
                (try simp only [Act.put, List.setIfInBounds_toArray, List.set_cons_zero, List.set_cons_succ])
                (refine wpAnyK_one (j := 7) (by kernel_rfl) rfl (fun K hK => ?_); (try simp only [List.getElem_toArray, List.getElem_cons_zero, List.getElem_cons_succ]))
                go_simp
                refine hK.out _ _ (.inr ⟨k0, kn⟩) ?_
                clear hK K
                (try simp only [List.getElem_toArray, List.getElem_cons_zero, List.getElem_cons_succ, Act.put, List.setIfInBounds_toArray, List.set_cons_zero, List.set_cons_succ])
                (refine wpAnyK_one (j := 8) (by kernel_rfl) rfl (fun K hK => ?_); (try simp only [List.getElem_toArray, List.getElem_cons_zero, List.getElem_cons_succ]))
                go_simp
                refine hK.out _ _ (.inl rfl) ?_
                clear hK K
                refine wpAnyK_done (by kernel_rfl) ?_ _
                clear k0 kf b6 hgrow6 hown6 hHeld kn
                generalize w6.setCell _ _ = w7 at r7 ⊢
                go_wp2_with fail
                go_roundw
                case rel => exact ⟨k + 1, _, _, _, _, by omega, by go_num, r7⟩
                case measure => simp [intOf]; omega
              · have hkl : ((k : Int) == ((lsnd (linesB s)).length : Int) - 1) = false := by rw [HLe.out, beq_eq_false_iff_ne]; omega
                clear hk1
                go_wp2_with fail
                refine (pnode_any x hx _).mono ?_
                rw [HN.out]
                unfold PLPost
                try simp only [Option.isSome_some]
                rintro e w2 ⟨A2, k2, c2, rfl, hn2, hb2⟩
                have HN2 := Lib.hid hn2
                clear hn2
                have r2 := rr.below hb2
                have hx2 := strs_cell r2.own hkn
                rw [HXE.out] at hx2
                clear hx1
                go_wp2_with fail
                refine (pcon_any x hx _).mono ?_
                rw [HM.out]
                unfold PLPost
                try simp only [Option.isSome_none]
                rintro e w3 ⟨A3, k3, c3, rfl, hn3, hb3⟩
                have HN3 := Lib.hid hn3
                clear hn3
                have r3 := r2.below hb3
                clear hx2
                obtain ⟨b9, rfl, rfl, hg9, hb9, hcell9⟩ := own_at (HN2.out _ rfl) (by simp)
                have n0 : w3.cell? ⟨b9, 0, none⟩ = some (.int .i64 a) := (hb3.cell (p := ⟨b9, 0, none⟩) hb9).trans (hcell9 0 (by simp))
                have n1 : w3.cell? ⟨b9, 1, none⟩ = some (.int .i64 q) := (hb3.cell (p := ⟨b9, 1, none⟩) hb9).trans (hcell9 1 (by simp))
                have hb9' : b9 < w3.heap.size := Nat.lt_of_lt_of_le hb9 hb3.size
                have hne9 : Hid ((Value.slice AQ Q.length cQ).ownBlock ≠ some b9) := fun e => by have := (rr.pst.rq.lt _ e).2; omega
                simp only [List.length_cons, List.length_nil] at *
                clear hcell9 HN3 HN2 hb3 hb2
                have c0 := cell_blk r3.pst.blk 0
                have c1 := cell_blk r3.pst.blk 1
                simp only [List.getElem?_toArray, List.getElem?_cons_zero, List.getElem?_cons_succ] at c0 c1
                have hpl3 := Nat.lt_of_lt_of_le r3.pst.lt r3.pst.le
                go_wp2_with fail
                go_quiet (fail)
                go_wp2_with fail
                generalize hW : World.drewN w3 _ = W
                have rW : RI w W s k Q C (.slice AQ Q.length cQ) (.slice AC C.length cC) (.slice (some ⟨bl, ol, none⟩) (lsnd (linesB s)).length cl) := by rw [← hW]; exact r3.below (below_drewN (Below.refl _ _) _)
                have m1 : W.cell? ⟨b9, 1, none⟩ = some (.int .i64 q) := by rw [← hW]; simpa [go_sem] using n1
                have hbW9 : b9 < W.heap.size := by rw [← hW]; simpa using hb9'
                clear hW n0 n1 c0 c1 hkl
                have c0 := cell_blk rW.pst.blk 0
                have c1 := cell_blk rW.pst.blk 1
                simp only [List.getElem?_toArray, List.getElem?_cons_zero, List.getElem?_cons_succ] at c0 c1
                have hpl5 := Nat.lt_of_lt_of_le rW.pst.lt rW.pst.le
                obtain ⟨i0', hi, hz0, hz1, hz2⟩ := info_parts info3
                have HI : Hid ((Tryd.prog.info? 3 = some i0') ∧ i0'.zero = some (.int .i64 0) ∧ i0'.size = 1 ∧ i0'.bytes = 8) := ⟨hi, hz0, hz1, hz2⟩
                clear hi hz0 hz1 hz2
                refine wp_region_last (fun w' => w'.cell? ⟨w.heap.size + 1, 0, none⟩ = some (.slice AQ Q.length cQ) ∧ w'.cell? ⟨b9, 1, none⟩ = some (.int .i64 q)) 8 (by kernel_rfl) (by simpa [go_sem] using And.intro c0 m1) (fun hHeld => ?_)
                (refine wpAnyK_take (i := 0) (v := ?_) rfl rfl (by kernel_rfl) (by kernel_rfl) (by kernel_rfl) (by kernel_rfl) (fun _ _ _ h => h) (Or.inl ⟨by kernel_rfl, fun w0 hSw => ?_⟩) hHeld ?_; rotate_left; (focus ((try dsimp only at hSw); simp only [List.getElem_toArray, List.getElem_cons_zero]; (first | (go_simp; done) | (go_simp; with_reducible rfl)))); (try simp only [List.getElem_toArray, List.getElem_cons_zero, Act.put, List.setIfInBounds_toArray, List.set_cons_zero, List.set_cons_succ]))
                (refine wpAnyK_take (i := 1) (v := ?_) rfl rfl (by kernel_rfl) (by kernel_rfl) (by kernel_rfl) (by kernel_rfl) (fun _ _ _ h => h) (Or.inl ⟨by kernel_rfl, fun w0 hSw => ?_⟩) hHeld ?_; rotate_left; (focus ((try dsimp only at hSw); simp only [List.getElem_toArray, List.getElem_cons_zero, List.getElem_cons_succ]; (first | (go_simp; done) | (go_simp; with_reducible rfl)))); (try simp only [List.getElem_toArray, List.getElem_cons_zero, List.getElem_cons_succ, Act.put, List.setIfInBounds_toArray, List.set_cons_zero, List.set_cons_succ]))
                (refine wpAnyK_take (i := 2) (v := ?_) rfl rfl (by kernel_rfl) (by kernel_rfl) (by kernel_rfl) (by kernel_rfl) (fun _ _ _ h => h) (Or.inl ⟨by kernel_rfl, fun w0 hSw => ?_⟩) hHeld ?_; rotate_left; (focus ((try dsimp only at hSw); simp only [List.getElem_toArray, List.getElem_cons_zero, List.getElem_cons_succ]; (first | (go_simp; done) | (go_simp; with_reducible rfl)))); (try simp only [List.getElem_toArray, List.getElem_cons_zero, List.getElem_cons_succ, Act.put, List.setIfInBounds_toArray, List.set_cons_zero, List.set_cons_succ]))
                (refine wpAnyK_take (i := 3) (v := ?_) rfl rfl (by kernel_rfl) (by kernel_rfl) (by kernel_rfl) (by kernel_rfl) (fun _ _ _ h => h) (Or.inl ⟨by kernel_rfl, fun w0 hSw => ?_⟩) hHeld ?_; rotate_left; (focus ((try dsimp only at hSw); simp only [List.getElem_toArray, List.getElem_cons_zero, List.getElem_cons_succ]; (first | (go_simp; done) | (go_simp; with_reducible rfl)))); (try simp only [List.getElem_toArray, List.getElem_cons_zero, List.getElem_cons_succ, Act.put, List.setIfInBounds_toArray, List.set_cons_zero, List.set_cons_succ]))
                (refine wpAnyK_take (i := 4) (v := ?_) rfl rfl (by kernel_rfl) (by kernel_rfl) (by kernel_rfl) (by kernel_rfl) (fun _ _ _ h => h) (Or.inl ⟨by kernel_rfl, fun w0 hSw => ?_⟩) hHeld ?_; rotate_left; (focus ((try dsimp only at hSw); simp only [List.getElem_toArray, List.getElem_cons_zero, List.getElem_cons_succ]; (first | (go_simp; done) | (go_simp; with_reducible rfl)))); (try simp only [List.getElem_toArray, List.getElem_cons_zero, List.getElem_cons_succ, Act.put, List.setIfInBounds_toArray, List.set_cons_zero, List.set_cons_succ]))
                (refine wpAnyK_one (j := 5) (by kernel_rfl) rfl (fun K hK => ?_); (try simp only [List.getElem_toArray, List.getElem_cons_zero, List.getElem_cons_succ]))
                go_simp
                refine hK.out _ _ (.inr ⟨by simpa [go_sem, hpl5] using c0, by simpa [go_sem, hbW9] using m1⟩) ?_
                clear hK K
                (try simp only [List.getElem_toArray, List.getElem_cons_zero, List.getElem_cons_succ, Act.put, List.setIfInBounds_toArray, List.set_cons_zero, List.set_cons_succ])
                (refine wpAnyK_one (j := 6) (by kernel_rfl) rfl (fun K hK => ?_); (try simp only [List.getElem_toArray, List.getElem_cons_zero, List.getElem_cons_succ]))
                rw [if_pos (by simp [Region.wanted])]
                have rD := rW.below (Below.drew (Below.refl W.heap.size W))
                refine wp_append_lies (W.drew.alloc (.cells #[.int .i64 q] 3)) (.tmp 80) (.tmp 84) 22 rfl (w.heap.size + 1 + 1) 3 i0' (.int .i64 0) 1 8 Tryd.underlying22 HI.out.1 HI.out.2.1 HI.out.2.2.1 HI.out.2.2.2 rfl (by decide) (.slice AQ Q.length cQ) Q.length (intCells Q) (by kernel_rfl) (rD.pst.rq.alloc _) ⟨W.heap.size, 0, none⟩ 1 1 [.int .i64 q] (by kernel_rfl) rfl (cell_one_new _ _ _) (by simp [Value.oneCell']) (by decide) (by unfold maxLen; omega) (by omega) (by have := rW.pst.le; simp; omega) (W.heap.size + 1) (by simp) ?_
                intro g cap w6 hown6 hgrow6 _ hlt6
                have r7 := rD.setQ hgrow6 hown6 hlt HST.out
                obtain ⟨b6, _⟩ := rD.pst.appQ hgrow6 hown6
                have k0 := cell_blk b6 0
                have kf := frozen_blk b6 0
                have kl := blk_lt b6
                simp only [List.getElem?_toArray, List.getElem?_cons_zero] at k0
                have kn : w6.cell? ⟨b9, 1, none⟩ = some (.int .i64 q) := (World.cell?_of_block (a := ⟨b9, 1, none⟩) ((hgrow6.block b9 (by simp; omega) (fun e => hne9.out e.symm)).trans (Below.heap_alloc _ _ _ hbW9))).trans m1
                refine hK.out _ _ (.inr ⟨k0, kn⟩) ?_
                clear hK K
                (try simp only [Act.put, List.setIfInBounds_toArray, List.set_cons_zero, List.set_cons_succ])
                (refine wpAnyK_one (j := 7) (by kernel_rfl) rfl (fun K hK => ?_); (try simp only [List.getElem_toArray, List.getElem_cons_zero, List.getElem_cons_succ]))
                go_simp
                refine hK.out _ _ (.inr ⟨k0, kn⟩) ?_
                clear hK K
                (try simp only [List.getElem_toArray, List.getElem_cons_zero, List.getElem_cons_succ, Act.put, List.setIfInBounds_toArray, List.set_cons_zero, List.set_cons_succ])
                (refine wpAnyK_one (j := 8) (by kernel_rfl) rfl (fun K hK => ?_); (try simp only [List.getElem_toArray, List.getElem_cons_zero, List.getElem_cons_succ]))
                go_simp
                refine hK.out _ _ (.inl rfl) ?_
                clear hK K
                refine wpAnyK_done (by kernel_rfl) ?_ _
                clear k0 kf b6 hgrow6 hown6 hHeld kn
                generalize w6.setCell _ _ = w7 at r7 ⊢
                go_wp2_with fail
                go_roundw
                case rel => exact ⟨k + 1, _, _, _, _, by omega, by go_num, r7⟩
                case measure => simp [intOf]; omega
            · have HST : Hid (stepL Q C ((linesB s).getD k (1, ⟨#[]⟩)) = none) := by
                show _ = _
                rw [HSt2.out, HRe.out, hN]
                simp [ha]
              have hCl : ((C.length : Int) == 0) = true := by rw [hC]; rfl
              have hal : (a == (Q.length : Int)) = false := by simpa using ha
              have HN := Lib.hid hN
              have HM := Lib.hid hM
              clear hN hM hC ha HSt HSt2 HRe
              by_cases hk1 : k + 1 = (linesB s).length
              · obtain rfl : eb = true := by
                  rw [← HEb.out]
                  cases hE : endedB s with
                  | true => rfl
                  | false => exact absurd ((linesB_num s hlt).2 ⟨hk1, hE⟩) hz
                have hkl : ((k : Int) == ((lsnd (linesB s)).length : Int) - 1) = true := by rw [HLe.out, beq_iff_eq]; omega
                clear hk1
                go_wp2_with fail
                refine (pnode_any x hx _).mono ?_
                rw [HN.out]
                unfold PLPost
                try simp only [Option.isSome_some]
                rintro e w2 ⟨A2, k2, c2, rfl, hn2, hb2⟩
                have HN2 := Lib.hid hn2
                clear hn2
                have r2 := rr.below hb2
                have hx2 := strs_cell r2.own hkn
                rw [HXE.out] at hx2
                clear hx1
                go_wp2_with fail
                refine (pcon_any x hx _).mono ?_
                rw [HM.out]
                unfold PLPost
                try simp only [Option.isSome_none]
                rintro e w3 ⟨A3, k3, c3, rfl, hn3, hb3⟩
                have HN3 := Lib.hid hn3
                clear hn3
                have r3 := r2.below hb3
                clear hx2
                obtain ⟨b9, rfl, rfl, hg9, hb9, hcell9⟩ := own_at (HN2.out _ rfl) (by simp)
                have n0 : w3.cell? ⟨b9, 0, none⟩ = some (.int .i64 a) := (hb3.cell (p := ⟨b9, 0, none⟩) hb9).trans (hcell9 0 (by simp))
                have n1 : w3.cell? ⟨b9, 1, none⟩ = some (.int .i64 q) := (hb3.cell (p := ⟨b9, 1, none⟩) hb9).trans (hcell9 1 (by simp))
                have hb9' : b9 < w3.heap.size := Nat.lt_of_lt_of_le hb9 hb3.size
                have hne9 : Hid ((Value.slice AQ Q.length cQ).ownBlock ≠ some b9) := fun e => by have := (rr.pst.rq.lt _ e).2; omega
                simp only [List.length_cons, List.length_nil] at *
                clear hcell9 HN3 HN2 hb3 hb2
                have c0 := cell_blk r3.pst.blk 0
                have c1 := cell_blk r3.pst.blk 1
                simp only [List.getElem?_toArray, List.getElem?_cons_zero, List.getElem?_cons_succ] at c0 c1
                have hpl3 := Nat.lt_of_lt_of_le r3.pst.lt r3.pst.le
                go_wp2_with fail
                go_quiet (fail)
                generalize hW : World.drewN w3 _ = W
                have rW : RI w W s k Q C (.slice AQ Q.length cQ) (.slice AC C.length cC) (.slice (some ⟨bl, ol, none⟩) (lsnd (linesB s)).length cl) := by rw [← hW]; exact r3.below (below_drewN (Below.refl _ _) _)
                clear hW n0 n1 c0 c1
                have HPE := Lib.hid (parseR_err hs8.out (scan_stop rW.scn hlt HST.out))
                have z0 := cell_blk rW.r0 0
                have z1 := cell_blk rW.r0 1
                have f0 := frozen_blk rW.r0 0
                have f1 := frozen_blk rW.r0 1
                have hzl := blk_lt rW.r0
                simp only [List.getElem?_toArray, List.getElem?_cons_zero, List.getElem?_cons_succ] at z0 z1
                go_wp2_with fail
                obtain ⟨t0, t1⟩ := two_cells z0 z1 (.slice none 0 0) (.slice none 0 0)
                have hB5 := below_two rW.bel (Nat.le_refl _) (.slice none 0 0) (.slice none 0 0)
                generalize ((W.setCell ⟨w.heap.size, 0, none⟩ (.slice none 0 0)).setCell ⟨w.heap.size, 1, none⟩ (.slice none 0 0)) = w9 at *
                refine bodyPost_ret (v := .tuple #[.agg #[.slice none 0 0, .slice none 0 0], .int .i64 ((k : Int) + 1), .int .i64 3]) (by simp [results, Tryd.results32, go_sem, t0, t1]) rfl ⟨_, _, by rw [HPE.out]; rfl, by rw [HPE.out]; exact ints_nil _ _, by rw [HPE.out]; exact cons_nil _ _, hB5⟩
              · have hkl : ((k : Int) == ((lsnd (linesB s)).length : Int) - 1) = false := by rw [HLe.out, beq_eq_false_iff_ne]; omega
                clear hk1
                go_wp2_with fail
                refine (pnode_any x hx _).mono ?_
                rw [HN.out]
                unfold PLPost
                try simp only [Option.isSome_some]
                rintro e w2 ⟨A2, k2, c2, rfl, hn2, hb2⟩
                have HN2 := Lib.hid hn2
                clear hn2
                have r2 := rr.below hb2
                have hx2 := strs_cell r2.own hkn
                rw [HXE.out] at hx2
                clear hx1
                go_wp2_with fail
                refine (pcon_any x hx _).mono ?_
                rw [HM.out]
                unfold PLPost
                try simp only [Option.isSome_none]
                rintro e w3 ⟨A3, k3, c3, rfl, hn3, hb3⟩
                have HN3 := Lib.hid hn3
                clear hn3
                have r3 := r2.below hb3
                clear hx2
                obtain ⟨b9, rfl, rfl, hg9, hb9, hcell9⟩ := own_at (HN2.out _ rfl) (by simp)
                have n0 : w3.cell? ⟨b9, 0, none⟩ = some (.int .i64 a) := (hb3.cell (p := ⟨b9, 0, none⟩) hb9).trans (hcell9 0 (by simp))
                have n1 : w3.cell? ⟨b9, 1, none⟩ = some (.int .i64 q) := (hb3.cell (p := ⟨b9, 1, none⟩) hb9).trans (hcell9 1 (by simp))
                have hb9' : b9 < w3.heap.size := Nat.lt_of_lt_of_le hb9 hb3.size
                have hne9 : Hid ((Value.slice AQ Q.length cQ).ownBlock ≠ some b9) := fun e => by have := (rr.pst.rq.lt _ e).2; omega
                simp only [List.length_cons, List.length_nil] at *
                clear hcell9 HN3 HN2 hb3 hb2
                have c0 := cell_blk r3.pst.blk 0
                have c1 := cell_blk r3.pst.blk 1
                simp only [List.getElem?_toArray, List.getElem?_cons_zero, List.getElem?_cons_succ] at c0 c1
                have hpl3 := Nat.lt_of_lt_of_le r3.pst.lt r3.pst.le
                go_wp2_with fail
                go_quiet (fail)
                generalize hW : World.drewN w3 _ = W
                have rW : RI w W s k Q C (.slice AQ Q.length cQ) (.slice AC C.length cC) (.slice (some ⟨bl, ol, none⟩) (lsnd (linesB s)).length cl) := by rw [← hW]; exact r3.below (below_drewN (Below.refl _ _) _)
                clear hW n0 n1 c0 c1
                have HPE := Lib.hid (parseR_err hs8.out (scan_stop rW.scn hlt HST.out))
                have z0 := cell_blk rW.r0 0
                have z1 := cell_blk rW.r0 1
                have f0 := frozen_blk rW.r0 0
                have f1 := frozen_blk rW.r0 1
                have hzl := blk_lt rW.r0
                simp only [List.getElem?_toArray, List.getElem?_cons_zero, List.getElem?_cons_succ] at z0 z1
                go_wp2_with fail
                obtain ⟨t0, t1⟩ := two_cells z0 z1 (.slice none 0 0) (.slice none 0 0)
                have hB5 := below_two rW.bel (Nat.le_refl _) (.slice none 0 0) (.slice none 0 0)
                generalize ((W.setCell ⟨w.heap.size, 0, none⟩ (.slice none 0 0)).setCell ⟨w.heap.size, 1, none⟩ (.slice none 0 0)) = w9 at *
                refine bodyPost_ret (v := .tuple #[.agg #[.slice none 0 0, .slice none 0 0], .int .i64 ((k : Int) + 1), .int .i64 3]) (by simp [results, Tryd.results32, go_sem, t0, t1]) rfl ⟨_, _, by rw [HPE.out]; rfl, by rw [HPE.out]; exact ints_nil _ _, by rw [HPE.out]; exact cons_nil _ _, hB5⟩
          · have HST : Hid (stepL Q C ((linesB s).getD k (1, ⟨#[]⟩)) = none) := by
              show _ = _
              rw [HSt2.out, HRe.out, hN]
              simp [hC]
            have hCl : ((C.length : Int) == 0) = false := by
              rw [beq_eq_false_iff_ne]
              intro e
              exact hC (List.eq_nil_of_length_eq_zero (by omega))
            have HN := Lib.hid hN
            have HM := Lib.hid hM
            clear hN hM hC HSt HSt2 HRe
            by_cases hk1 : k + 1 = (linesB s).length
            · obtain rfl : eb = true := by
                rw [← HEb.out]
                cases hE : endedB s with
                | true => rfl
                | false => exact absurd ((linesB_num s hlt).2 ⟨hk1, hE⟩) hz
              have hkl : ((k : Int) == ((lsnd (linesB s)).length : Int) - 1) = true := by rw [HLe.out, beq_iff_eq]; omega
              clear hk1
              go_wp2_with fail
              refine (pnode_any x hx _).mono ?_
              rw [HN.out]
              unfold PLPost
              try simp only [Option.isSome_some]
              rintro e w2 ⟨A2, k2, c2, rfl, hn2, hb2⟩
              have HN2 := Lib.hid hn2
              clear hn2
              have r2 := rr.below hb2
              have hx2 := strs_cell r2.own hkn
              rw [HXE.out] at hx2
              clear hx1
              go_wp2_with fail
              refine (pcon_any x hx _).mono ?_
              rw [HM.out]
              unfold PLPost
              try simp only [Option.isSome_none]
              rintro e w3 ⟨A3, k3, c3, rfl, hn3, hb3⟩
              have HN3 := Lib.hid hn3
              clear hn3
              have r3 := r2.below hb3
              clear hx2
              obtain ⟨b9, rfl, rfl, hg9, hb9, hcell9⟩ := own_at (HN2.out _ rfl) (by simp)
              have n0 : w3.cell? ⟨b9, 0, none⟩ = some (.int .i64 a) := (hb3.cell (p := ⟨b9, 0, none⟩) hb9).trans (hcell9 0 (by simp))
              have n1 : w3.cell? ⟨b9, 1, none⟩ = some (.int .i64 q) := (hb3.cell (p := ⟨b9, 1, none⟩) hb9).trans (hcell9 1 (by simp))
              have hb9' : b9 < w3.heap.size := Nat.lt_of_lt_of_le hb9 hb3.size
              have hne9 : Hid ((Value.slice AQ Q.length cQ).ownBlock ≠ some b9) := fun e => by have := (rr.pst.rq.lt _ e).2; omega
              simp only [List.length_cons, List.length_nil] at *
              clear hcell9 HN3 HN2 hb3 hb2
              have c0 := cell_blk r3.pst.blk 0
              have c1 := cell_blk r3.pst.blk 1
              simp only [List.getElem?_toArray, List.getElem?_cons_zero, List.getElem?_cons_succ] at c0 c1
              have hpl3 := Nat.lt_of_lt_of_le r3.pst.lt r3.pst.le
              go_wp2_with fail
              go_quiet (fail)
              generalize hW : World.drewN w3 _ = W
              have rW : RI w W s k Q C (.slice AQ Q.length cQ) (.slice AC C.length cC) (.slice (some ⟨bl, ol, none⟩) (lsnd (linesB s)).length cl) := by rw [← hW]; exact r3.below (below_drewN (Below.refl _ _) _)
              clear hW n0 n1 c0 c1
              have HPE := Lib.hid (parseR_err hs8.out (scan_stop rW.scn hlt HST.out))
              have z0 := cell_blk rW.r0 0
              have z1 := cell_blk rW.r0 1
              have f0 := frozen_blk rW.r0 0
              have f1 := frozen_blk rW.r0 1
              have hzl := blk_lt rW.r0
              simp only [List.getElem?_toArray, List.getElem?_cons_zero, List.getElem?_cons_succ] at z0 z1
              go_wp2_with fail
              obtain ⟨t0, t1⟩ := two_cells z0 z1 (.slice none 0 0) (.slice none 0 0)
              have hB5 := below_two rW.bel (Nat.le_refl _) (.slice none 0 0) (.slice none 0 0)
              generalize ((W.setCell ⟨w.heap.size, 0, none⟩ (.slice none 0 0)).setCell ⟨w.heap.size, 1, none⟩ (.slice none 0 0)) = w9 at *
              refine bodyPost_ret (v := .tuple #[.agg #[.slice none 0 0, .slice none 0 0], .int .i64 ((k : Int) + 1), .int .i64 3]) (by simp [results, Tryd.results32, go_sem, t0, t1]) rfl ⟨_, _, by rw [HPE.out]; rfl, by rw [HPE.out]; exact ints_nil _ _, by rw [HPE.out]; exact cons_nil _ _, hB5⟩
            · have hkl : ((k : Int) == ((lsnd (linesB s)).length : Int) - 1) = false := by rw [HLe.out, beq_eq_false_iff_ne]; omega
              clear hk1
              go_wp2_with fail
              refine (pnode_any x hx _).mono ?_
              rw [HN.out]
              unfold PLPost
              try simp only [Option.isSome_some]
              rintro e w2 ⟨A2, k2, c2, rfl, hn2, hb2⟩
              have HN2 := Lib.hid hn2
              clear hn2
              have r2 := rr.below hb2
              have hx2 := strs_cell r2.own hkn
              rw [HXE.out] at hx2
              clear hx1
              go_wp2_with fail
              refine (pcon_any x hx _).mono ?_
              rw [HM.out]
              unfold PLPost
              try simp only [Option.isSome_none]
              rintro e w3 ⟨A3, k3, c3, rfl, hn3, hb3⟩
              have HN3 := Lib.hid hn3
              clear hn3
              have r3 := r2.below hb3
              clear hx2
              obtain ⟨b9, rfl, rfl, hg9, hb9, hcell9⟩ := own_at (HN2.out _ rfl) (by simp)
              have n0 : w3.cell? ⟨b9, 0, none⟩ = some (.int .i64 a) := (hb3.cell (p := ⟨b9, 0, none⟩) hb9).trans (hcell9 0 (by simp))
              have n1 : w3.cell? ⟨b9, 1, none⟩ = some (.int .i64 q) := (hb3.cell (p := ⟨b9, 1, none⟩) hb9).trans (hcell9 1 (by simp))
              have hb9' : b9 < w3.heap.size := Nat.lt_of_lt_of_le hb9 hb3.size
              have hne9 : Hid ((Value.slice AQ Q.length cQ).ownBlock ≠ some b9) := fun e => by have := (rr.pst.rq.lt _ e).2; omega
              simp only [List.length_cons, List.length_nil] at *
              clear hcell9 HN3 HN2 hb3 hb2
              have c0 := cell_blk r3.pst.blk 0
              have c1 := cell_blk r3.pst.blk 1
              simp only [List.getElem?_toArray, List.getElem?_cons_zero, List.getElem?_cons_succ] at c0 c1
              have hpl3 := Nat.lt_of_lt_of_le r3.pst.lt r3.pst.le
              go_wp2_with fail
              go_quiet (fail)
              generalize hW : World.drewN w3 _ = W
              have rW : RI w W s k Q C (.slice AQ Q.length cQ) (.slice AC C.length cC) (.slice (some ⟨bl, ol, none⟩) (lsnd (linesB s)).length cl) := by rw [← hW]; exact r3.below (below_drewN (Below.refl _ _) _)
              clear hW n0 n1 c0 c1
              have HPE := Lib.hid (parseR_err hs8.out (scan_stop rW.scn hlt HST.out))
              have z0 := cell_blk rW.r0 0
              have z1 := cell_blk rW.r0 1
              have f0 := frozen_blk rW.r0 0
              have f1 := frozen_blk rW.r0 1
              have hzl := blk_lt rW.r0
              simp only [List.getElem?_toArray, List.getElem?_cons_zero, List.getElem?_cons_succ] at z0 z1
              go_wp2_with fail
              obtain ⟨t0, t1⟩ := two_cells z0 z1 (.slice none 0 0) (.slice none 0 0)
              have hB5 := below_two rW.bel (Nat.le_refl _) (.slice none 0 0) (.slice none 0 0)
              generalize ((W.setCell ⟨w.heap.size, 0, none⟩ (.slice none 0 0)).setCell ⟨w.heap.size, 1, none⟩ (.slice none 0 0)) = w9 at *
              refine bodyPost_ret (v := .tuple #[.agg #[.slice none 0 0, .slice none 0 0], .int .i64 ((k : Int) + 1), .int .i64 3]) (by simp [results, Tryd.results32, go_sem, t0, t1]) rfl ⟨_, _, by rw [HPE.out]; rfl, by rw [HPE.out]; exact ints_nil _ _, by rw [HPE.out]; exact cons_nil _ _, hB5⟩
        | none =>
          cases hM : lineOf conW 7 x with
          | some ms =>
            obtain ⟨c, hc, rfl⟩ := con_of_seven (lineOf_len hM)
            have HST : Hid (stepL Q C ((linesB s).getD k (1, ⟨#[]⟩)) = some (Q, C ++ [c])) := by
              show _ = _
              rw [HSt2.out, HRe.out, hN, hM]
              simp [hc]
            have HN := Lib.hid hN
            have HM := Lib.hid hM
            clear hN hM hc HSt HSt2 HRe
            by_cases hk1 : k + 1 = (linesB s).length
            · obtain rfl : eb = true := by
                rw [← HEb.out]
                cases hE : endedB s with
                | true => rfl
                | false => exact absurd ((linesB_num s hlt).2 ⟨hk1, hE⟩) hz
              have hkl : ((k : Int) == ((lsnd (linesB s)).length : Int) - 1) = true := by rw [HLe.out, beq_iff_eq]; omega
              clear hk1
              go_wp2_with fail
              refine (pnode_any x hx _).mono ?_
              rw [HN.out]
              unfold PLPost
              try simp only [Option.isSome_none]
              rintro e w2 ⟨A2, k2, c2, rfl, hn2, hb2⟩
              have HN2 := Lib.hid hn2
              clear hn2
              have r2 := rr.below hb2
              have hx2 := strs_cell r2.own hkn
              rw [HXE.out] at hx2
              clear hx1
              go_wp2_with fail
              refine (pcon_any x hx _).mono ?_
              rw [HM.out]
              unfold PLPost
              try simp only [Option.isSome_some]
              rintro e w3 ⟨A3, k3, c3, rfl, hn3, hb3⟩
              have HN3 := Lib.hid hn3
              clear hn3
              have r3 := r2.below hb3
              clear hx2
              go_wp2_with fail
              go_quiet (fail)
              generalize hW : World.drewN w3 _ = W
              have rW : RI w W s k Q C (.slice AQ Q.length cQ) (.slice AC C.length cC) (.slice (some ⟨bl, ol, none⟩) (lsnd (linesB s)).length cl) := by rw [← hW]; exact r3.below (below_drewN (Below.refl _ _) _)
              have hbd : Below w3.heap.size w3 W.drew := by rw [← hW]; exact Below.drew (below_drewN (Below.refl _ _) _)
              have hms : Ints W.drew W.drew.heap.size (.slice A3 k3 c3) (conNums c) := ((ints_of_own (HN3.out _ rfl)).below hbd).more hbd.size
              clear hW hbd
              have c0 := cell_blk rW.pst.blk 0
              have c1 := cell_blk rW.pst.blk 1
              simp only [List.getElem?_toArray, List.getElem?_cons_zero, List.getElem?_cons_succ] at c0 c1
              go_wp2_with fail
              obtain ⟨i0', hi, hz0, hz1, hz2⟩ := info_parts info40
              have HI : Hid ((Tryd.prog.info? 40 = some i0') ∧ i0'.zero = some (.agg #[.int .i64 0, .int .i64 0, .int .i64 0, .int .i64 0, .int .i64 0, .int .i64 0, .int .i64 0]) ∧ i0'.size = 7 ∧ i0'.bytes = 56) := ⟨hi, hz0, hz1, hz2⟩
              clear hi hz0 hz1 hz2
              have rD := rW.below (Below.drew (Below.refl W.heap.size W))
              refine wp_region_last (fun w' => w'.cell? ⟨w.heap.size + 1, 1, none⟩ = some (.slice AC C.length cC)) 7 (by kernel_rfl) (by simpa [go_sem] using c1) (fun hHeld => ?_)
              (refine wpAnyK_take (i := 0) (v := ?_) rfl rfl (by kernel_rfl) (by kernel_rfl) (by kernel_rfl) (by kernel_rfl) (fun _ _ _ h => h) (Or.inl ⟨by kernel_rfl, fun w0 hSw => ?_⟩) hHeld ?_; rotate_left; (focus ((try dsimp only at hSw); simp only [List.getElem_toArray, List.getElem_cons_zero]; (first | (go_simp; done) | (go_simp; with_reducible rfl)))); (try simp only [List.getElem_toArray, List.getElem_cons_zero, Act.put, List.setIfInBounds_toArray, List.set_cons_zero, List.set_cons_succ]))
              (refine wpAnyK_take (i := 1) (v := ?_) rfl rfl (by kernel_rfl) (by kernel_rfl) (by kernel_rfl) (by kernel_rfl) (fun _ _ _ h => h) (Or.inl ⟨by kernel_rfl, fun w0 hSw => ?_⟩) hHeld ?_; rotate_left; (focus ((try dsimp only at hSw); simp only [List.getElem_toArray, List.getElem_cons_zero, List.getElem_cons_succ]; (first | (go_simp; done) | (go_simp; with_reducible rfl)))); (try simp only [List.getElem_toArray, List.getElem_cons_zero, List.getElem_cons_succ, Act.put, List.setIfInBounds_toArray, List.set_cons_zero, List.set_cons_succ]))
              (refine wpAnyK_take (i := 2) (v := ?_) rfl rfl (by kernel_rfl) (by kernel_rfl) (by kernel_rfl) (by kernel_rfl) (fun _ _ _ h => h) (Or.inl ⟨by kernel_rfl, fun w0 hSw => ?_⟩) hHeld ?_; rotate_left; (focus ((try dsimp only at hSw); simp only [List.getElem_toArray, List.getElem_cons_zero, List.getElem_cons_succ]; (first | (go_simp; done) | (go_simp; with_reducible rfl)))); (try simp only [List.getElem_toArray, List.getElem_cons_zero, List.getElem_cons_succ, Act.put, List.setIfInBounds_toArray, List.set_cons_zero, List.set_cons_succ]))
              (refine wpAnyK_one (j := 3) (by kernel_rfl) rfl (fun K hK => ?_); (try simp only [List.getElem_toArray, List.getElem_cons_zero, List.getElem_cons_succ]))
              go_simp
              refine (contactOf_any _ c _ hms).mono ?_
              rintro e w4 ⟨rfl, hb4⟩
              have r4 := rD.below hb4
              have d0 := cell_blk r4.pst.blk 0
              have d1 := cell_blk r4.pst.blk 1
              simp only [List.getElem?_toArray, List.getElem?_cons_zero, List.getElem?_cons_succ] at d0 d1
              have hpl4 := Nat.lt_of_lt_of_le r4.pst.lt r4.pst.le
              go_wp2_with fail
              refine hK.out _ _ (.inr d1) ?_
              clear hK K hHeld
              (try simp only [List.getElem_toArray, List.getElem_cons_zero, List.getElem_cons_succ, Act.put, List.setIfInBounds_toArray, List.set_cons_zero, List.set_cons_succ])
              (refine wpAnyK_one (j := 4) (by kernel_rfl) rfl (fun K hK => ?_); (try simp only [List.getElem_toArray, List.getElem_cons_zero, List.getElem_cons_succ]))
              go_simp
              refine hK.out _ _ (.inr (by simpa [go_sem, hpl4] using d1)) ?_
              clear hK K
              (try simp only [List.getElem_toArray, List.getElem_cons_zero, List.getElem_cons_succ, Act.put, List.setIfInBounds_toArray, List.set_cons_zero, List.set_cons_succ])
              (refine wpAnyK_one (j := 5) (by kernel_rfl) rfl (fun K hK => ?_); (try simp only [List.getElem_toArray, List.getElem_cons_zero, List.getElem_cons_succ]))
              rw [if_pos (by simp [Region.wanted])]
              refine wp_append_lies (w4.alloc (.cells #[.int .i64 c.a, .int .i64 c.b, .int .i64 c.s, .int .i64 c.e, .int .i64 c.r, .int .i64 c.g, .int .i64 c.l] 40)) (.tmp 90) (.tmp 93) 23 rfl (w.heap.size + 1 + 1) 40 i0' (.agg #[.int .i64 0, .int .i64 0, .int .i64 0, .int .i64 0, .int .i64 0, .int .i64 0, .int .i64 0]) 7 56 Tryd.underlying23 HI.out.1 HI.out.2.1 HI.out.2.2.1 HI.out.2.2.2 rfl (by decide) (.slice AC C.length cC) C.length (conCells C) (by kernel_rfl) (r4.pst.rc.alloc _) ⟨w4.heap.size, 0, none⟩ 1 1 (conVals c) (by kernel_rfl) rfl (World.news_of_block (heap_last _ _ _ rfl)) (by simp [Value.oneCell', conVals]) (by decide) (by unfold maxLen; omega) (by omega) (by have := r4.pst.le; simp; omega) (w4.heap.size + 1) (by simp) ?_
              intro g cap w6 hown6 hgrow6 _ hlt6
              have r7 := r4.setC hgrow6 hown6 hlt HST.out
              obtain ⟨b6, _⟩ := r4.pst.appC hgrow6 hown6
              have k0 := cell_blk b6 1
              have kf := frozen_blk b6 1
              have kl := blk_lt b6
              simp only [List.getElem?_toArray, List.getElem?_cons_zero, List.getElem?_cons_succ] at k0
              refine hK.out _ _ (.inr k0) ?_
              clear hK K
              (try simp only [Act.put, List.setIfInBounds_toArray, List.set_cons_zero, List.set_cons_succ])
              (refine wpAnyK_one (j := 6) (by kernel_rfl) rfl (fun K hK => ?_); (try simp only [List.getElem_toArray, List.getElem_cons_zero, List.getElem_cons_succ]))
              go_simp
              refine hK.out _ _ (.inr k0) ?_
              clear hK K
              (try simp only [List.getElem_toArray, List.getElem_cons_zero, List.getElem_cons_succ, Act.put, List.setIfInBounds_toArray, List.set_cons_zero, List.set_cons_succ])
              (refine wpAnyK_one (j := 7) (by kernel_rfl) rfl (fun K hK => ?_); (try simp only [List.getElem_toArray, List.getElem_cons_zero, List.getElem_cons_succ]))
              go_simp
              refine hK.out _ _ (.inl rfl) ?_
              clear hK K
              refine wpAnyK_done (by kernel_rfl) ?_ _
              clear k0 kf b6 hgrow6 hown6
              generalize w6.setCell _ _ = w7 at r7 ⊢
              go_wp2_with fail
              go_roundw
              case rel => exact ⟨k + 1, _, _, _, _, by omega, by go_num, r7⟩
              case measure => simp [intOf]; omega
            · have hkl : ((k : Int) == ((lsnd (linesB s)).length : Int) - 1) = false := by rw [HLe.out, beq_eq_false_iff_ne]; omega
              clear hk1
              go_wp2_with fail
              refine (pnode_any x hx _).mono ?_
              rw [HN.out]
              unfold PLPost
              try simp only [Option.isSome_none]
              rintro e w2 ⟨A2, k2, c2, rfl, hn2, hb2⟩
              have HN2 := Lib.hid hn2
              clear hn2
              have r2 := rr.below hb2
              have hx2 := strs_cell r2.own hkn
              rw [HXE.out] at hx2
              clear hx1
              go_wp2_with fail
              refine (pcon_any x hx _).mono ?_
              rw [HM.out]
              unfold PLPost
              try simp only [Option.isSome_some]
              rintro e w3 ⟨A3, k3, c3, rfl, hn3, hb3⟩
              have HN3 := Lib.hid hn3
              clear hn3
              have r3 := r2.below hb3
              clear hx2
              go_wp2_with fail
              go_quiet (fail)
              generalize hW : World.drewN w3 _ = W
              have rW : RI w W s k Q C (.slice AQ Q.length cQ) (.slice AC C.length cC) (.slice (some ⟨bl, ol, none⟩) (lsnd (linesB s)).length cl) := by rw [← hW]; exact r3.below (below_drewN (Below.refl _ _) _)
              have hbd : Below w3.heap.size w3 W.drew := by rw [← hW]; exact Below.drew (below_drewN (Below.refl _ _) _)
              have hms : Ints W.drew W.drew.heap.size (.slice A3 k3 c3) (conNums c) := ((ints_of_own (HN3.out _ rfl)).below hbd).more hbd.size
              clear hW hbd
              have c0 := cell_blk rW.pst.blk 0
              have c1 := cell_blk rW.pst.blk 1
              simp only [List.getElem?_toArray, List.getElem?_cons_zero, List.getElem?_cons_succ] at c0 c1
              go_wp2_with fail
              obtain ⟨i0', hi, hz0, hz1, hz2⟩ := info_parts info40
              have HI : Hid ((Tryd.prog.info? 40 = some i0') ∧ i0'.zero = some (.agg #[.int .i64 0, .int .i64 0, .int .i64 0, .int .i64 0, .int .i64 0, .int .i64 0, .int .i64 0]) ∧ i0'.size = 7 ∧ i0'.bytes = 56) := ⟨hi, hz0, hz1, hz2⟩
              clear hi hz0 hz1 hz2
              have rD := rW.below (Below.drew (Below.refl W.heap.size W))
              refine wp_region_last (fun w' => w'.cell? ⟨w.heap.size + 1, 1, none⟩ = some (.slice AC C.length cC)) 7 (by kernel_rfl) (by simpa [go_sem] using c1) (fun hHeld => ?_)
              (refine wpAnyK_take (i := 0) (v := ?_) rfl rfl (by kernel_rfl) (by kernel_rfl) (by kernel_rfl) (by kernel_rfl) (fun _ _ _ h => h) (Or.inl ⟨by kernel_rfl, fun w0 hSw => ?_⟩) hHeld ?_; rotate_left; (focus ((try dsimp only at hSw); simp only [List.getElem_toArray, List.getElem_cons_zero]; (first | (go_simp; done) | (go_simp; with_reducible rfl)))); (try simp only [List.getElem_toArray, List.getElem_cons_zero, Act.put, List.setIfInBounds_toArray, List.set_cons_zero, List.set_cons_succ]))
              (refine wpAnyK_take (i := 1) (v := ?_) rfl rfl (by kernel_rfl) (by kernel_rfl) (by kernel_rfl) (by kernel_rfl) (fun _ _ _ h => h) (Or.inl ⟨by kernel_rfl, fun w0 hSw => ?_⟩) hHeld ?_; rotate_left; (focus ((try dsimp only at hSw); simp only [List.getElem_toArray, List.getElem_cons_zero, List.getElem_cons_succ]; (first | (go_simp; done) | (go_simp; with_reducible rfl)))); (try simp only [List.getElem_toArray, List.getElem_cons_zero, List.getElem_cons_succ, Act.put, List.setIfInBounds_toArray, List.set_cons_zero, List.set_cons_succ]))
              (refine wpAnyK_take (i := 2) (v := ?_) rfl rfl (by kernel_rfl) (by kernel_rfl) (by kernel_rfl) (by kernel_rfl) (fun _ _ _ h => h) (Or.inl ⟨by kernel_rfl, fun w0 hSw => ?_⟩) hHeld ?_; rotate_left; (focus ((try dsimp only at hSw); simp only [List.getElem_toArray, List.getElem_cons_zero, List.getElem_cons_succ]; (first | (go_simp; done) | (go_simp; with_reducible rfl)))); (try simp only [List.getElem_toArray, List.getElem_cons_zero, List.getElem_cons_succ, Act.put, List.setIfInBounds_toArray, List.set_cons_zero, List.set_cons_succ]))
              (refine wpAnyK_one (j := 3) (by kernel_rfl) rfl (fun K hK => ?_); (try simp only [List.getElem_toArray, List.getElem_cons_zero, List.getElem_cons_succ]))
              go_simp
              refine (contactOf_any _ c _ hms).mono ?_
              rintro e w4 ⟨rfl, hb4⟩
              have r4 := rD.below hb4
              have d0 := cell_blk r4.pst.blk 0
              have d1 := cell_blk r4.pst.blk 1
              simp only [List.getElem?_toArray, List.getElem?_cons_zero, List.getElem?_cons_succ] at d0 d1
              have hpl4 := Nat.lt_of_lt_of_le r4.pst.lt r4.pst.le
              go_wp2_with fail
              refine hK.out _ _ (.inr d1) ?_
              clear hK K hHeld
              (try simp only [List.getElem_toArray, List.getElem_cons_zero, List.getElem_cons_succ, Act.put, List.setIfInBounds_toArray, List.set_cons_zero, List.set_cons_succ])
              (refine wpAnyK_one (j := 4) (by kernel_rfl) rfl (fun K hK => ?_); (try simp only [List.getElem_toArray, List.getElem_cons_zero, List.getElem_cons_succ]))
              go_simp
              refine hK.out _ _ (.inr (by simpa [go_sem, hpl4] using d1)) ?_
              clear hK K
              (try simp only [List.getElem_toArray, List.getElem_cons_zero, List.getElem_cons_succ, Act.put, List.setIfInBounds_toArray, List.set_cons_zero, List.set_cons_succ])
              (refine wpAnyK_one (j := 5) (by kernel_rfl) rfl (fun K hK => ?_); (try simp only [List.getElem_toArray, List.getElem_cons_zero, List.getElem_cons_succ]))
              rw [if_pos (by simp [Region.wanted])]
              refine wp_append_lies (w4.alloc (.cells #[.int .i64 c.a, .int .i64 c.b, .int .i64 c.s, .int .i64 c.e, .int .i64 c.r, .int .i64 c.g, .int .i64 c.l] 40)) (.tmp 90) (.tmp 93) 23 rfl (w.heap.size + 1 + 1) 40 i0' (.agg #[.int .i64 0, .int .i64 0, .int .i64 0, .int .i64 0, .int .i64 0, .int .i64 0, .int .i64 0]) 7 56 Tryd.underlying23 HI.out.1 HI.out.2.1 HI.out.2.2.1 HI.out.2.2.2 rfl (by decide) (.slice AC C.length cC) C.length (conCells C) (by kernel_rfl) (r4.pst.rc.alloc _) ⟨w4.heap.size, 0, none⟩ 1 1 (conVals c) (by kernel_rfl) rfl (World.news_of_block (heap_last _ _ _ rfl)) (by simp [Value.oneCell', conVals]) (by decide) (by unfold maxLen; omega) (by omega) (by have := r4.pst.le; simp; omega) (w4.heap.size + 1) (by simp) ?_
              intro g cap w6 hown6 hgrow6 _ hlt6
              have r7 := r4.setC hgrow6 hown6 hlt HST.out
              obtain ⟨b6, _⟩ := r4.pst.appC hgrow6 hown6
              have k0 := cell_blk b6 1
              have kf := frozen_blk b6 1
              have kl := blk_lt b6
              simp only [List.getElem?_toArray, List.getElem?_cons_zero, List.getElem?_cons_succ] at k0
              refine hK.out _ _ (.inr k0) ?_
              clear hK K
              (try simp only [Act.put, List.setIfInBounds_toArray, List.set_cons_zero, List.set_cons_succ])
              (refine wpAnyK_one (j := 6) (by kernel_rfl) rfl (fun K hK => ?_); (try simp only [List.getElem_toArray, List.getElem_cons_zero, List.getElem_cons_succ]))
              go_simp
              refine hK.out _ _ (.inr k0) ?_
              clear hK K
              (try simp only [List.getElem_toArray, List.getElem_cons_zero, List.getElem_cons_succ, Act.put, List.setIfInBounds_toArray, List.set_cons_zero, List.set_cons_succ])
              (refine wpAnyK_one (j := 7) (by kernel_rfl) rfl (fun K hK => ?_); (try simp only [List.getElem_toArray, List.getElem_cons_zero, List.getElem_cons_succ]))
              go_simp
              refine hK.out _ _ (.inl rfl) ?_
              clear hK K
              refine wpAnyK_done (by kernel_rfl) ?_ _
              clear k0 kf b6 hgrow6 hown6
              generalize w6.setCell _ _ = w7 at r7 ⊢
              go_wp2_with fail
              go_roundw
              case rel => exact ⟨k + 1, _, _, _, _, by omega, by go_num, r7⟩
              case measure => simp [intOf]; omega
          | none =>
            have HST : Hid (stepL Q C ((linesB s).getD k (1, ⟨#[]⟩)) = none) := by
              show _ = _
              rw [HSt2.out, HRe.out, hN, hM]
            have HN := Lib.hid hN
            have HM := Lib.hid hM
            clear hN hM HSt HSt2 HRe
            by_cases hk1 : k + 1 = (linesB s).length
            · obtain rfl : eb = true := by
                rw [← HEb.out]
                cases hE : endedB s with
                | true => rfl
                | false => exact absurd ((linesB_num s hlt).2 ⟨hk1, hE⟩) hz
              have hkl : ((k : Int) == ((lsnd (linesB s)).length : Int) - 1) = true := by rw [HLe.out, beq_iff_eq]; omega
              clear hk1
              go_wp2_with fail
              refine (pnode_any x hx _).mono ?_
              rw [HN.out]
              unfold PLPost
              try simp only [Option.isSome_none]
              rintro e w2 ⟨A2, k2, c2, rfl, hn2, hb2⟩
              have HN2 := Lib.hid hn2
              clear hn2
              have r2 := rr.below hb2
              have hx2 := strs_cell r2.own hkn
              rw [HXE.out] at hx2
              clear hx1
              go_wp2_with fail
              refine (pcon_any x hx _).mono ?_
              rw [HM.out]
              unfold PLPost
              try simp only [Option.isSome_none]
              rintro e w3 ⟨A3, k3, c3, rfl, hn3, hb3⟩
              have HN3 := Lib.hid hn3
              clear hn3
              have r3 := r2.below hb3
              clear hx2
              go_wp2_with fail
              go_quiet (fail)
              generalize hW : World.drewN w3 _ = W
              have rW : RI w W s k Q C (.slice AQ Q.length cQ) (.slice AC C.length cC) (.slice (some ⟨bl, ol, none⟩) (lsnd (linesB s)).length cl) := by rw [← hW]; exact r3.below (below_drewN (Below.refl _ _) _)
              clear hW
              have HPE := Lib.hid (parseR_err hs8.out (scan_stop rW.scn hlt HST.out))
              have z0 := cell_blk rW.r0 0
              have z1 := cell_blk rW.r0 1
              have f0 := frozen_blk rW.r0 0
              have f1 := frozen_blk rW.r0 1
              have hzl := blk_lt rW.r0
              simp only [List.getElem?_toArray, List.getElem?_cons_zero, List.getElem?_cons_succ] at z0 z1
              go_wp2_with fail
              obtain ⟨t0, t1⟩ := two_cells z0 z1 (.slice none 0 0) (.slice none 0 0)
              have hB5 := below_two rW.bel (Nat.le_refl _) (.slice none 0 0) (.slice none 0 0)
              generalize ((W.setCell ⟨w.heap.size, 0, none⟩ (.slice none 0 0)).setCell ⟨w.heap.size, 1, none⟩ (.slice none 0 0)) = w9 at *
              refine bodyPost_ret (v := .tuple #[.agg #[.slice none 0 0, .slice none 0 0], .int .i64 ((k : Int) + 1), .int .i64 3]) (by simp [results, Tryd.results32, go_sem, t0, t1]) rfl ⟨_, _, by rw [HPE.out]; rfl, by rw [HPE.out]; exact ints_nil _ _, by rw [HPE.out]; exact cons_nil _ _, hB5⟩
            · have hkl : ((k : Int) == ((lsnd (linesB s)).length : Int) - 1) = false := by rw [HLe.out, beq_eq_false_iff_ne]; omega
              clear hk1
              go_wp2_with fail
              refine (pnode_any x hx _).mono ?_
              rw [HN.out]
              unfold PLPost
              try simp only [Option.isSome_none]
              rintro e w2 ⟨A2, k2, c2, rfl, hn2, hb2⟩
              have HN2 := Lib.hid hn2
              clear hn2
              have r2 := rr.below hb2
              have hx2 := strs_cell r2.own hkn
              rw [HXE.out] at hx2
              clear hx1
              go_wp2_with fail
              refine (pcon_any x hx _).mono ?_
              rw [HM.out]
              unfold PLPost
              try simp only [Option.isSome_none]
              rintro e w3 ⟨A3, k3, c3, rfl, hn3, hb3⟩
              have HN3 := Lib.hid hn3
              clear hn3
              have r3 := r2.below hb3
              clear hx2
              go_wp2_with fail
              go_quiet (fail)
              generalize hW : World.drewN w3 _ = W
              have rW : RI w W s k Q C (.slice AQ Q.length cQ) (.slice AC C.length cC) (.slice (some ⟨bl, ol, none⟩) (lsnd (linesB s)).length cl) := by rw [← hW]; exact r3.below (below_drewN (Below.refl _ _) _)
              clear hW
              have HPE := Lib.hid (parseR_err hs8.out (scan_stop rW.scn hlt HST.out))
              have z0 := cell_blk rW.r0 0
              have z1 := cell_blk rW.r0 1
              have f0 := frozen_blk rW.r0 0
              have f1 := frozen_blk rW.r0 1
              have hzl := blk_lt rW.r0
              simp only [List.getElem?_toArray, List.getElem?_cons_zero, List.getElem?_cons_succ] at z0 z1
              go_wp2_with fail
              obtain ⟨t0, t1⟩ := two_cells z0 z1 (.slice none 0 0) (.slice none 0 0)
              have hB5 := below_two rW.bel (Nat.le_refl _) (.slice none 0 0) (.slice none 0 0)
              generalize ((W.setCell ⟨w.heap.size, 0, none⟩ (.slice none 0 0)).setCell ⟨w.heap.size, 1, none⟩ (.slice none 0 0)) = w9 at *
              refine bodyPost_ret (v := .tuple #[.agg #[.slice none 0 0, .slice none 0 0], .int .i64 ((k : Int) + 1), .int .i64 3]) (by simp [results, Tryd.results32, go_sem, t0, t1]) rfl ⟨_, _, by rw [HPE.out]; rfl, by rw [HPE.out]; exact ints_nil _ _, by rw [HPE.out]; exact cons_nil _ _, hB5⟩
    · have hkl : k = (linesB s).length := by rw [← HLe.out]; omega
      have HOK : Hid (scan [] [] 0 (linesB s) = .ok (Q, C)) := by
        show _ = _
        rw [rr.scn, List.drop_of_length_le (by omega)]
        rfl
      have hn17 : ¬ k < (lsnd (linesB s)).length := hkn
      clear hkl
      have c0 := cell_blk rr.pst.blk 0
      have c1 := cell_blk rr.pst.blk 1
      simp only [List.getElem?_toArray, List.getElem?_cons_zero, List.getElem?_cons_succ] at c0 c1
      have hpl := Nat.lt_of_lt_of_le rr.pst.lt rr.pst.le
      go_wp2_with fail
      refine (rpcheck_any _ _ Q C _ (ints_of_own rr.pst.rq) (cons_of_own rr.pst.rc)).mono ?_
      clear c0 c1
      by_cases hE : planE Q C = 0
      · have HPE : Hid (parseR s = (Q, C, 0, 0)) := by show _ = _; rw [parseR_ok hs8.out HOK.out, if_neg (by simp [hE])]
        rw [hE]
        clear hE
        rintro e w2 ⟨rfl, hb2⟩
        have r2 := rr.below hb2
        have z0 := cell_blk r2.r0 0
        have z1 := cell_blk r2.r0 1
        have f0 := frozen_blk r2.r0 0
        have f1 := frozen_blk r2.r0 1
        have hzl := blk_lt r2.r0
        have hzp := blk_lt r2.pst.blk
        simp only [List.getElem?_toArray, List.getElem?_cons_zero, List.getElem?_cons_succ] at z0 z1
        have c0 := cell_blk r2.pst.blk 0
        have c1 := cell_blk r2.pst.blk 1
        simp only [List.getElem?_toArray, List.getElem?_cons_zero, List.getElem?_cons_succ] at c0 c1
        go_wp2_with fail
        obtain ⟨t0, t1⟩ := two_cells z0 z1 (.slice AQ Q.length cQ) (.slice AC C.length cC)
        have hB5 := below_two r2.bel (Nat.le_refl _) (.slice AQ Q.length cQ) (.slice AC C.length cC)
        have oq := ints_of_own (ownsRow_setCell_below (a := ⟨w.heap.size, 1, none⟩) (ownsRow_setCell_below (a := ⟨w.heap.size, 0, none⟩) r2.pst.rq (show w.heap.size < _ by omega) (.slice AQ Q.length cQ)) (show w.heap.size < _ by omega) (.slice AC C.length cC))
        have oc := cons_of_own (ownsRow_setCell_below (a := ⟨w.heap.size, 1, none⟩) (ownsRow_setCell_below (a := ⟨w.heap.size, 0, none⟩) r2.pst.rc (show w.heap.size < _ by omega) (.slice AQ Q.length cQ)) (show w.heap.size < _ by omega) (.slice AC C.length cC))
        generalize ((w2.setCell ⟨w.heap.size, 0, none⟩ (.slice AQ Q.length cQ)).setCell ⟨w.heap.size, 1, none⟩ (.slice AC C.length cC)) = w9 at *
        refine bodyPost_ret (v := .tuple #[.agg #[.slice AQ Q.length cQ, .slice AC C.length cC], .int .i64 0, .int .i64 0]) (by simp [results, Tryd.results32, go_sem, t0, t1]) rfl ⟨_, _, by rw [HPE.out], by rw [HPE.out]; exact oq, by rw [HPE.out]; exact oc, hB5⟩
      · have HPE : Hid (parseR s = ([], [], 0, planE Q C)) := by show _ = _; rw [parseR_ok hs8.out HOK.out, if_pos hE]
        have hEb : (planE Q C != 0) = true := by simpa using hE
        clear hE
        rintro e w2 ⟨rfl, hb2⟩
        have r2 := rr.below hb2
        have z0 := cell_blk r2.r0 0
        have z1 := cell_blk r2.r0 1
        have f0 := frozen_blk r2.r0 0
        have f1 := frozen_blk r2.r0 1
        have hzl := blk_lt r2.r0
        simp only [List.getElem?_toArray, List.getElem?_cons_zero, List.getElem?_cons_succ] at z0 z1
        go_wp2_with fail
        obtain ⟨t0, t1⟩ := two_cells z0 z1 (.slice none 0 0) (.slice none 0 0)
        have hB5 := below_two r2.bel (Nat.le_refl _) (.slice none 0 0) (.slice none 0 0)
        generalize ((w2.setCell ⟨w.heap.size, 0, none⟩ (.slice none 0 0)).setCell ⟨w.heap.size, 1, none⟩ (.slice none 0 0)) = w9 at *
        refine bodyPost_ret (v := .tuple #[.agg #[.slice none 0 0, .slice none 0 0], .int .i64 0, .int .i64 (planE Q C)]) (by simp [results, Tryd.results32, go_sem, t0, t1]) rfl ⟨_, _, by rw [HPE.out], by rw [HPE.out]; exact ints_nil _ _, by rw [HPE.out]; exact cons_nil _ _, hB5⟩
set_option maxHeartbeats 4000000 in
theorem rparse_any (s : ByteArray) (w : World) : Calls Tryd.prog 32 #[.string s] w (ParsePost s w) := by
  by_cases hs : s.size ≤ 8192
  · exact rparse_ok s hs w
  · have hP : parseR s = ([], [], 0, 4) := by unfold parseR; rw [if_pos (by omega)]
    have HP := Lib.hid hP
    have hi : (8192 : Int) < s.size := by omega
    clear hP hs
    go_enter Tryd.func32, Tryd.ntmps32
    go_wp2_with fail
    refine bodyPost_ret (v := .tuple #[.agg #[.slice none 0 0, .slice none 0 0], .int .i64 0, .int .i64 4]) (by simp [results, Tryd.results32, go_sem]) rfl ⟨_, _, by rw [HP.out], by rw [HP.out]; exact ints_nil _ _, by rw [HP.out]; exact cons_nil _ _, by (repeat' (first | (with_reducible exact Below.refl _ _) | (with_reducible refine Below.alloc ?_ ?_ _) | (with_reducible refine Below.drew ?_) | (with_reducible refine below_drewN ?_ _) | (with_reducible refine Below.setCell ?_ ?_ _) | (with_reducible refine Below.trans ?_ (Below.mono (by assumption) ?_)) | (with_reducible exact Nat.le_refl _) | omega | (simp; omega) | (simp; done)))⟩
end Go.Proofs.YtgnlanfpholdaaaDoor

/- Quotients: gcd, magnitude, Check. -/
import Derived.Test.YtpcbccpobhdokaaGreatDoorD1
import Derived.Test.YtpcbccpobhdokaaGreatDoorN1
set_option linter.unusedSimpArgs false
set_option linter.unusedVariables false
set_option linter.all false
namespace Go.Proofs.YtpcbccpobhdokaaGreatDoor
open Go.RowKit
theorem drewN_drewN (w : World) (n m : Nat) : (w.drewN n).drewN m = w.drewN (n + m) := by simp only [World.drewN]; rw [Nat.add_assoc]
theorem gcd_any (a b : Nat) (w : World) : Calls Tryz.prog 68 #[.int .u64 a, .int .u64 b] w fun e w' => e = .returned (.int .u64 (Nat.gcd a b : Nat)) ∧ ∃ n, w' = w.drewN n := by
  go_enter Tryz.func68, Tryz.ntmps68
  go_wp2_with fail
  go_loopw [0, 1] (fun x y wr => ∃ p q n : Nat, x = .int .u64 p ∧ y = .int .u64 q ∧ Nat.gcd p q = Nat.gcd a b ∧ wr = w.drewN n) (fun _ y _ => (intOf y).toNat)
  case atStart => exact ⟨a, b, 0, rfl, rfl, rfl, rfl⟩
  case round =>
    obtain ⟨p, q, n, rfl, rfl, hg, rfl⟩ := hrel
    by_cases hq : q = 0
    · subst hq
      go_wp2_with fail
      refine bodyPost_ret (by (simp [results, Tryz.results68, go_sem, *]; try rfl)) rfl ?_
      exact ⟨by rw [← hg, Nat.gcd_zero_right], n, rfl⟩
    · have hq2 : ¬ (q : Int) = 0 := by omega
      have hq3 : ((q : Int) == 0) = false := by simpa using hq
      go_wp2_with fail
      go_quiet (fail)
      go_wp2_with fail
      go_roundw
      case rel => exact ⟨q, p % q, _, rfl, by simp, by rw [← hg, Nat.gcd_comm p q, Nat.gcd_rec q p, Nat.gcd_comm], drewN_drewN w n _⟩
      case measure =>
        simp [intOf]
        have := Nat.mod_lt p (by omega : 0 < q)
        omega
theorem wrap_neg (n : Int) (h1 : -9223372036854775808 ≤ n) (h : n < 0) : IntKind.u64.wrap (-IntKind.u64.wrap n) = (n.natAbs : Int) := by
  have hb : IntKind.u64.bits = 64 := rfl
  have hs : IntKind.u64.signed = false := rfl
  simp only [IntKind.wrap, hb, hs]
  simp
  omega
theorem mag_any (n : Int) (hn : -9223372036854775808 ≤ n ∧ n ≤ 9223372036854775807) (w : World) : Calls Tryz.prog 69 #[.int .i64 n] w fun e w' => e = .returned (.int .u64 (n.natAbs : Nat)) ∧ w' = w := by
  by_cases h : n < 0
  · have hw := wrap_neg n hn.1 h
    go_enter Tryz.func69, Tryz.ntmps69
    go_wp2_with fail
    refine bodyPost_ret (by (simp [results, Tryz.results69, go_sem, *]; try rfl)) rfl ?_
    exact ⟨rfl, rfl⟩
  · go_enter Tryz.func69, Tryz.ntmps69
    go_wp2_with fail
    refine bodyPost_ret (by (simp [results, Tryz.results69, go_sem, *]; try rfl)) rfl ?_
    exact ⟨by rw [show (n.natAbs : Int) = n by omega], rfl⟩
theorem wrap_id (B : Nat) (h : B < 9223372036854775808) : IntKind.u64.wrap (B : Int) = (B : Int) := by
  have hb : IntKind.u64.bits = 64 := rfl
  have hs : IntKind.u64.signed = false := rfl
  simp only [IntKind.wrap, hb, hs]
  simp
  omega
theorem conv_u (B : Nat) (h : B < 9223372036854775808) (W : World) : (convert 3 136 (.int .i64 (B : Int))).run Tryz.prog W = .ok (.int .u64 (B : Int)) W := by
  have e : (convert 3 136 (.int .i64 (B : Int))).run Tryz.prog W = .ok (.int .u64 (IntKind.u64.wrap (B : Int))) W := by kernel_rfl
  rw [e, wrap_id B h]
def ratE (a b : Int) : Int := if a < -1099511627776 ∨ a > 1099511627776 ∨ b < 1 ∨ b > 1048576 then 2 else if Nat.gcd a.natAbs b.natAbs = 1 then 0 else 1
set_option maxRecDepth 100000 in
set_option maxHeartbeats 4000000 in
theorem rcheck_any (a b : Int) (w : World) : Calls Tryz.prog 37 #[.agg #[.int .i64 a, .int .i64 b]] w fun e w' => e = .returned (.int .i64 (ratE a b)) ∧ Below w.heap.size w w' := by
  unfold ratE
  by_cases h1 : a < -1099511627776
  · rw [if_pos (.inl h1)]
    go_enter Tryz.func37, Tryz.ntmps37
    go_wp2_with fail
    refine bodyPost_ret (by (simp [results, Tryz.results37, go_sem, *]; try rfl)) rfl ?_
    exact ⟨rfl, (Below.refl _ w).alloc (Nat.le_refl _) _⟩
  · by_cases h2 : a > 1099511627776
    · rw [if_pos (.inr (.inl h2))]
      go_enter Tryz.func37, Tryz.ntmps37
      go_wp2_with fail
      refine bodyPost_ret (by (simp [results, Tryz.results37, go_sem, *]; try rfl)) rfl ?_
      exact ⟨rfl, (Below.refl _ w).alloc (Nat.le_refl _) _⟩
    · by_cases h3 : b < 1
      · rw [if_pos (.inr (.inr (.inl h3)))]
        go_enter Tryz.func37, Tryz.ntmps37
        go_wp2_with fail
        refine bodyPost_ret (by (simp [results, Tryz.results37, go_sem, *]; try rfl)) rfl ?_
        exact ⟨rfl, (Below.refl _ w).alloc (Nat.le_refl _) _⟩
      · by_cases h4 : b > 1048576
        · rw [if_pos (.inr (.inr (.inr h4)))]
          go_enter Tryz.func37, Tryz.ntmps37
          go_wp2_with fail
          refine bodyPost_ret (by (simp [results, Tryz.results37, go_sem, *]; try rfl)) rfl ?_
          exact ⟨rfl, (Below.refl _ w).alloc (Nat.le_refl _) _⟩
        · rw [if_neg (by omega)]
          obtain ⟨B, rfl⟩ : ∃ B : Nat, b = B := ⟨b.toNat, by omega⟩
          have hb0 : (0 : Int) ≤ (B : Int) := by omega
          rw [Int.natAbs_natCast]
          have hg := gcd_any a.natAbs B
          obtain ⟨g, hgd⟩ : ∃ g, Nat.gcd a.natAbs B = g := ⟨_, rfl⟩
          simp only [hgd] at hg ⊢
          clear hgd
          have hm := fun W => mag_any a ⟨by omega, by omega⟩ W
          have hcv : ∀ W, (convert 3 136 (.int .i64 (B : Int))).run Tryz.prog W = .ok (.int .u64 (B : Int)) W := fun W => conv_u B (by omega) W
          by_cases h5 : g = 1
          · subst h5
            go_enter Tryz.func37, Tryz.ntmps37
            go_upto_region 3 with fail
            clear h1 h2 h3 h4
            have c0 : (w.alloc (.cells #[.int .i64 a, .int .i64 B] 30)).cell? ⟨w.heap.size, 0, none⟩ = some (.int .i64 a) := cell_of_row _ _ 0 _ _ _ (heap_alloc_last _ _)
            have c1 : (w.alloc (.cells #[.int .i64 a, .int .i64 B] 30)).cell? ⟨w.heap.size, 1, none⟩ = some (.int .i64 B) := cell_of_row _ _ 1 _ _ _ (heap_alloc_last _ _)
            have hB : Below w.heap.size w (w.alloc (.cells #[.int .i64 a, .int .i64 B] 30)) := (Below.refl _ w).alloc (Nat.le_refl _) _
            generalize w.alloc (.cells #[.int .i64 a, .int .i64 B] 30) = W at *
            go_region_held3 (fun w' => w'.cell? ⟨w.heap.size, 0, none⟩ = some (.int .i64 a) ∧ w'.cell? ⟨w.heap.size, 1, none⟩ = some (.int .i64 B) ∧ Below w.heap.size w w')
              ((repeat' (with_reducible apply And.intro)) <;> first | assumption | exact Below.drew (by assumption) | exact below_drewN (by assumption) _)
              (first
               | (go_at_call 69; refine (hm _).mono ?_; rintro e w2 ⟨rfl, rfl⟩)
               | (go_at_call 68; refine (hg _).mono ?_; rintro e w2 ⟨rfl, q, rfl⟩))
            all_goals
              rename_i hh
              obtain ⟨_, _, hbl⟩ := hh
              go_wp2_with fail
              refine bodyPost_ret (by (simp [results, Tryz.results37, go_sem, *]; try rfl)) rfl ?_
              exact ⟨rfl, hbl⟩
          · have h6 : ¬ (g : Int) = 1 := by omega
            go_enter Tryz.func37, Tryz.ntmps37
            go_upto_region 3 with fail
            clear h1 h2 h3 h4
            have c0 : (w.alloc (.cells #[.int .i64 a, .int .i64 B] 30)).cell? ⟨w.heap.size, 0, none⟩ = some (.int .i64 a) := cell_of_row _ _ 0 _ _ _ (heap_alloc_last _ _)
            have c1 : (w.alloc (.cells #[.int .i64 a, .int .i64 B] 30)).cell? ⟨w.heap.size, 1, none⟩ = some (.int .i64 B) := cell_of_row _ _ 1 _ _ _ (heap_alloc_last _ _)
            have hB : Below w.heap.size w (w.alloc (.cells #[.int .i64 a, .int .i64 B] 30)) := (Below.refl _ w).alloc (Nat.le_refl _) _
            generalize w.alloc (.cells #[.int .i64 a, .int .i64 B] 30) = W at *
            go_region_held3 (fun w' => w'.cell? ⟨w.heap.size, 0, none⟩ = some (.int .i64 a) ∧ w'.cell? ⟨w.heap.size, 1, none⟩ = some (.int .i64 B) ∧ Below w.heap.size w w')
              ((repeat' (with_reducible apply And.intro)) <;> first | assumption | exact Below.drew (by assumption) | exact below_drewN (by assumption) _)
              (first
               | (go_at_call 69; refine (hm _).mono ?_; rintro e w2 ⟨rfl, rfl⟩)
               | (go_at_call 68; refine (hg _).mono ?_; rintro e w2 ⟨rfl, q, rfl⟩))
            all_goals
              rename_i hh
              obtain ⟨_, _, hbl⟩ := hh
              go_wp2_with fail
              refine bodyPost_ret (by (simp [results, Tryz.results37, go_sem, *]; try rfl)) rfl ?_
              exact ⟨by simp, hbl⟩
end Go.Proofs.YtpcbccpobhdokaaGreatDoor
namespace Go.Proofs.YtpcbccpobhdokaaGreatDoor
open Go.RowKit
structure Met where
  n : ByteArray
  i : Int
  a : Int
  b : Int
def mz : Met := ⟨⟨#[]⟩, 0, 0, 0⟩
def Met.v (x : Met) : Value := .agg #[.string x.n, .int .i64 x.i, .int .i64 x.a, .int .i64 x.b]
def MetAt (w : World) (B o : Nat) (x : Met) : Prop := w.cell? ⟨B, o, none⟩ = some (.string x.n) ∧ w.cell? ⟨B, o + 1, none⟩ = some (.int .i64 x.i) ∧ w.cell? ⟨B, o + 2, none⟩ = some (.int .i64 x.a) ∧ w.cell? ⟨B, o + 3, none⟩ = some (.int .i64 x.b)
def Mets (w : World) (base : Nat) (V : Value) (l : List Met) : Prop :=
  ∃ A c, V = .slice A l.length c ∧ l.length ≤ c ∧ c ≤ maxLen ∧ (0 < l.length → ∃ B o, A = some ⟨B, o, none⟩ ∧ B < base ∧ ∀ j, j < l.length → MetAt w B (o + j * 4) (l.getD j mz))
theorem Mets.below {w w' : World} {base : Nat} {V : Value} {l : List Met} (h : Mets w base V l) (hb : Below base w w') : Mets w' base V l := by
  obtain ⟨A, c, rfl, h1, h2, h3⟩ := h
  refine ⟨A, c, rfl, h1, h2, fun h0 => ?_⟩
  obtain ⟨B, o, rfl, hB, hc⟩ := h3 h0
  refine ⟨B, o, rfl, hB, fun j hj => ?_⟩
  have ec : ∀ k, w'.cell? ⟨B, k, none⟩ = w.cell? ⟨B, k, none⟩ := fun k => hb.cell (p := ⟨B, k, none⟩) hB
  have := hc j hj
  exact ⟨(ec _).trans this.1, (ec _).trans this.2.1, (ec _).trans this.2.2.1, (ec _).trans this.2.2.2⟩
open Go.Sort in
theorem Gr.below {w w' : World} (h : Gr w w') : Below w.heap.size w w' := by
  obtain ⟨q, os, rfl⟩ := h
  exact ⟨rfl, rfl, rfl, by simp [grow, World.drewN], fun k hk => by simp [grow, World.drewN, Array.getElem?_append, hk]⟩
def metE (p : Option Met) (x : Met) : Int :=
  if nameB x.n = false then 1 else if x.i < 0 ∨ x.i > 1152921504606846976 then 2 else if ratE x.a x.b ≠ 0 then ratE x.a x.b else
  match p with
  | none => 0
  | some y => if 0 ≤ cmpM y.n x.n y.i x.i then 9 else 0
def chkL : Option Met → List Met → Int
  | _, [] => 0
  | p, x :: l => if metE p x = 0 then chkL (some x) l else metE p x
def chkE (l : List Met) : Int := if l.length > 1000 then 4 else chkL none l
theorem chkL_drop {l : List Met} {p : Option Met} {k : Nat} (hk : k < l.length) : chkL p (l.drop k) = if metE p (l.getD k mz) = 0 then chkL (some (l.getD k mz)) (l.drop (k + 1)) else metE p (l.getD k mz) := by
  have h : l.drop k = l.getD k mz :: l.drop (k + 1) := by
    rw [List.drop_eq_getElem_cons hk]
    simp [List.getD, hk]
  rw [h, chkL]
def prevM (l : List Met) (k : Nat) : Option Met := if k = 0 then none else some (l.getD (k - 1) mz)
set_option maxHeartbeats 8000000 in
theorem check_any (l : List Met) (V : Value) (w : World) (h : Mets w w.heap.size V l) : Calls Tryz.prog 14 #[V] w fun e w' => e = .returned (.int .i64 (chkE l)) ∧ Below w.heap.size w w' := by
  have H := Lib.hid h
  obtain ⟨A, c, rfl, h1, h2, h3⟩ := h
  have H3 := Lib.hid h3
  clear h3
  unfold maxLen at h2
  unfold chkE
  by_cases hl : l.length > 1000
  · rw [if_pos hl]
    have hl2 : (l.length : Int) > 1000 := by omega
    go_enter Tryz.func14, Tryz.ntmps14
    go_wp2_with fail
    refine bodyPost_ret (by (simp [results, Tryz.results14, go_sem, *]; try rfl)) rfl ?_
    exact ⟨rfl, Below.refl _ _⟩
  · rw [if_neg hl]
    have hl2 : ¬ (l.length : Int) > 1000 := by omega
    go_enter Tryz.func14, Tryz.ntmps14
    go_wp2_with fail
    go_loopw [11] (fun i wr => ∃ k : Nat, k ≤ l.length ∧ i = .int .i64 k ∧ Hid (chkL (prevM l k) (l.drop k) = chkL none l) ∧ Below w.heap.size w wr) (fun i _ => l.length - (intOf i).toNat)
    case atStart => exact ⟨0, Nat.zero_le _, rfl, rfl, Below.refl _ _⟩
    case round =>
      obtain ⟨k, hk, rfl, HC, hB⟩ := hrel
      rename World => wq
      by_cases hkt : k < l.length
      · obtain ⟨B, o, rfl, hBl, hc⟩ := H3.out (by omega)
        have hx := hc k hkt
        have hC := HC.out
        rw [chkL_drop hkt] at hC
        generalize hxe : l.getD k mz = x at *
        obtain ⟨g0, g1, g2, g3⟩ := hx
        have ec : ∀ q, wq.cell? ⟨B, q, none⟩ = w.cell? ⟨B, q, none⟩ := fun q => hB.cell (p := ⟨B, q, none⟩) hBl
        have c0 := (ec _).trans g0
        have c1 := (ec _).trans g1
        have c2 := (ec _).trans g2
        have c3 := (ec _).trans g3
        have HCC := Lib.hid hC
        have HCL := Lib.hid hc
        have HE := Lib.hid hxe
        clear hC hc hxe g0 g1 g2 g3 ec
        go_upto_region 6 with fail
        clear c0 c1 c2 c3
        have b0 : (wq.alloc (.cells #[.string x.n, .int .i64 x.i, .int .i64 x.a, .int .i64 x.b] 37)).cell? ⟨wq.heap.size, 0, none⟩ = some (.string x.n) := cell_of_row _ _ 0 _ _ _ (heap_alloc_last _ _)
        have b1 : (wq.alloc (.cells #[.string x.n, .int .i64 x.i, .int .i64 x.a, .int .i64 x.b] 37)).cell? ⟨wq.heap.size, 1, none⟩ = some (.int .i64 x.i) := cell_of_row _ _ 1 _ _ _ (heap_alloc_last _ _)
        have b2 : (wq.alloc (.cells #[.string x.n, .int .i64 x.i, .int .i64 x.a, .int .i64 x.b] 37)).cell? ⟨wq.heap.size, 2, none⟩ = some (.int .i64 x.a) := cell_of_row _ _ 2 _ _ _ (heap_alloc_last _ _)
        have b3 : (wq.alloc (.cells #[.string x.n, .int .i64 x.i, .int .i64 x.a, .int .i64 x.b] 37)).cell? ⟨wq.heap.size, 3, none⟩ = some (.int .i64 x.b) := cell_of_row _ _ 3 _ _ _ (heap_alloc_last _ _)
        have hB0 : Below w.heap.size w (wq.alloc (.cells #[.string x.n, .int .i64 x.i, .int .i64 x.a, .int .i64 x.b] 37)) := hB.alloc hB.size _
        have hlt : wq.heap.size < (wq.alloc (.cells #[.string x.n, .int .i64 x.i, .int .i64 x.a, .int .i64 x.b] 37)).heap.size := by simp
        generalize wq.alloc (.cells #[.string x.n, .int .i64 x.i, .int .i64 x.a, .int .i64 x.b] 37) = W at *
        clear hB
        cases hnm : nameB x.n with
        | false =>
          have he : metE (prevM l k) x = 1 := by simp [metE, hnm]
          go_wp2_with (go_at_call 36; refine (name_any _ _).mono ?_; rintro e w1 ⟨rfl, hb1⟩; rw [hnm]; have d0 := (hb1.cell (p := ⟨wq.heap.size, 0, none⟩) hlt).trans b0; have d1 := (hb1.cell (p := ⟨wq.heap.size, 1, none⟩) hlt).trans b1; have d2 := (hb1.cell (p := ⟨wq.heap.size, 2, none⟩) hlt).trans b2; have d3 := (hb1.cell (p := ⟨wq.heap.size, 3, none⟩) hlt).trans b3)
          refine bodyPost_ret (by (simp [results, Tryz.results14, go_sem, *]; try rfl)) rfl ?_
          exact ⟨by rw [← HCC.out, he]; rfl, hB0.trans (hb1.mono hB0.size)⟩
        | true =>
          by_cases hi1 : x.i < 0
          · have he : metE (prevM l k) x = 2 := by simp [metE, hnm, hi1]
            go_wp2_with (go_at_call 36; refine (name_any _ _).mono ?_; rintro e w1 ⟨rfl, hb1⟩; rw [hnm]; have d0 := (hb1.cell (p := ⟨wq.heap.size, 0, none⟩) hlt).trans b0; have d1 := (hb1.cell (p := ⟨wq.heap.size, 1, none⟩) hlt).trans b1; have d2 := (hb1.cell (p := ⟨wq.heap.size, 2, none⟩) hlt).trans b2; have d3 := (hb1.cell (p := ⟨wq.heap.size, 3, none⟩) hlt).trans b3)
            refine bodyPost_ret (by (simp [results, Tryz.results14, go_sem, *]; try rfl)) rfl ?_
            exact ⟨by rw [← HCC.out, he]; rfl, hB0.trans (hb1.mono hB0.size)⟩
          · by_cases hi2 : x.i > 1152921504606846976
            · have he : metE (prevM l k) x = 2 := by simp [metE, hnm, hi2]
              go_wp2_with (go_at_call 36; refine (name_any _ _).mono ?_; rintro e w1 ⟨rfl, hb1⟩; rw [hnm]; have d0 := (hb1.cell (p := ⟨wq.heap.size, 0, none⟩) hlt).trans b0; have d1 := (hb1.cell (p := ⟨wq.heap.size, 1, none⟩) hlt).trans b1; have d2 := (hb1.cell (p := ⟨wq.heap.size, 2, none⟩) hlt).trans b2; have d3 := (hb1.cell (p := ⟨wq.heap.size, 3, none⟩) hlt).trans b3)
              refine bodyPost_ret (by (simp [results, Tryz.results14, go_sem, *]; try rfl)) rfl ?_
              exact ⟨by rw [← HCC.out, he]; rfl, hB0.trans (hb1.mono hB0.size)⟩
            · have hre := fun W => rcheck_any x.a x.b W
              by_cases hr : ratE x.a x.b = 0
              · rw [hr] at hre
                by_cases hk0 : k = 0
                · subst hk0
                  have he : metE (prevM l 0) x = 0 := by simp [metE, prevM, hnm, hi1, hi2, hr]
                  go_wp2_with (first | (go_at_call 37; refine (hre _).mono ?_; rintro e w2 ⟨rfl, hb2⟩; have f0 := (hb2.cell (p := ⟨wq.heap.size, 0, none⟩) (Nat.lt_of_lt_of_le hlt hb1.size)).trans d0; have f1 := (hb2.cell (p := ⟨wq.heap.size, 1, none⟩) (Nat.lt_of_lt_of_le hlt hb1.size)).trans d1; have f2 := (hb2.cell (p := ⟨wq.heap.size, 2, none⟩) (Nat.lt_of_lt_of_le hlt hb1.size)).trans d2; have f3 := (hb2.cell (p := ⟨wq.heap.size, 3, none⟩) (Nat.lt_of_lt_of_le hlt hb1.size)).trans d3) | (go_at_call 36; refine (name_any _ _).mono ?_; rintro e w1 ⟨rfl, hb1⟩; rw [hnm]; have d0 := (hb1.cell (p := ⟨wq.heap.size, 0, none⟩) hlt).trans b0; have d1 := (hb1.cell (p := ⟨wq.heap.size, 1, none⟩) hlt).trans b1; have d2 := (hb1.cell (p := ⟨wq.heap.size, 2, none⟩) hlt).trans b2; have d3 := (hb1.cell (p := ⟨wq.heap.size, 3, none⟩) hlt).trans b3))
                  have hBw : Below w.heap.size w w2 := (hB0.trans (hb1.mono hB0.size)).trans (hb2.mono (Nat.le_trans hB0.size hb1.size))
                  have HN : Hid (chkL (prevM l 1) (l.drop 1) = chkL none l) := by
                    have := HCC.out
                    rw [if_pos he] at this
                    show chkL (some (l.getD (1 - 1) mz)) (l.drop 1) = chkL none l
                    rw [show (1 - 1 : Nat) = 0 from rfl, HE.out]; exact this
                  clear he HCC HC hb1 hb2 d0 d1 d2 d3 b0 b1 b2 b3 hre hr hnm hi1 hi2
                  refine wp_region_held_drew (S := fun _ => True) (by kernel_rfl) trivial (fun hHeld => ?_)
                  (refine wpAnyH_take (i := 0) (v := ?_) rfl (by kernel_rfl) (by kernel_rfl) (by kernel_rfl) (fun _ _ _ h => h) (Or.inl ⟨by kernel_rfl, fun w0 hSw => ?_⟩) hHeld ?_; rotate_left; (focus ((try dsimp only at hSw); simp only [List.getElem_toArray, List.getElem_cons_zero, List.getElem_cons_succ]; (first | (go_simp; done) | (go_simp; with_reducible rfl)))); (try simp only [List.getElem_toArray, List.getElem_cons_zero, List.getElem_cons_succ, Act.put, List.setIfInBounds_toArray, List.set_cons_zero, List.set_cons_succ]))
                  (refine wpAnyH_take (i := 1) (v := ?_) rfl (by kernel_rfl) (by kernel_rfl) (by kernel_rfl) (fun _ _ _ h => h) (Or.inl ⟨by kernel_rfl, fun w0 hSw => ?_⟩) hHeld ?_; rotate_left; (focus ((try dsimp only at hSw); simp only [List.getElem_toArray, List.getElem_cons_zero, List.getElem_cons_succ]; (first | (go_simp; done) | (go_simp; with_reducible rfl)))); (try simp only [List.getElem_toArray, List.getElem_cons_zero, List.getElem_cons_succ, Act.put, List.setIfInBounds_toArray, List.set_cons_zero, List.set_cons_succ]))
                  (refine wpAnyH_take (i := 2) (v := ?_) rfl (by kernel_rfl) (by kernel_rfl) (by kernel_rfl) (fun _ _ _ h => h) (Or.inl ⟨by kernel_rfl, fun w0 hSw => ?_⟩) hHeld ?_; rotate_left; (focus ((try dsimp only at hSw); simp only [List.getElem_toArray, List.getElem_cons_zero, List.getElem_cons_succ]; (first | (go_simp; done) | (go_simp; with_reducible rfl)))); (try simp only [List.getElem_toArray, List.getElem_cons_zero, List.getElem_cons_succ, Act.put, List.setIfInBounds_toArray, List.set_cons_zero, List.set_cons_succ]))
                  (refine wpAnyH_take (i := 3) rfl (by kernel_rfl) (by kernel_rfl) (by kernel_rfl) (fun _ _ _ h => h) (Or.inr ⟨by kernel_rfl, rfl⟩) hHeld ?_; (try simp only [List.getElem_toArray, List.getElem_cons_zero, List.getElem_cons_succ, Act.put, List.setIfInBounds_toArray, List.set_cons_zero, List.set_cons_succ]))
                  (refine wpAnyH_take (i := 4) rfl (by kernel_rfl) (by kernel_rfl) (by kernel_rfl) (fun _ _ _ h => h) (Or.inr ⟨by kernel_rfl, rfl⟩) hHeld ?_; (try simp only [List.getElem_toArray, List.getElem_cons_zero, List.getElem_cons_succ, Act.put, List.setIfInBounds_toArray, List.set_cons_zero, List.set_cons_succ]))
                  (refine wpAnyH_take (i := 5) rfl (by kernel_rfl) (by kernel_rfl) (by kernel_rfl) (fun _ _ _ h => h) (Or.inr ⟨by kernel_rfl, rfl⟩) hHeld ?_; (try simp only [List.getElem_toArray, List.getElem_cons_zero, List.getElem_cons_succ, Act.put, List.setIfInBounds_toArray, List.set_cons_zero, List.set_cons_succ]))
                  (refine wpAnyH_take (i := 6) rfl (by kernel_rfl) (by kernel_rfl) (by kernel_rfl) (fun _ _ _ h => h) (Or.inr ⟨by kernel_rfl, rfl⟩) hHeld ?_; (try simp only [List.getElem_toArray, List.getElem_cons_zero, List.getElem_cons_succ, Act.put, List.setIfInBounds_toArray, List.set_cons_zero, List.set_cons_succ]))
                  (refine wpAnyH_take (i := 7) rfl (by kernel_rfl) (by kernel_rfl) (by kernel_rfl) (fun _ _ _ h => h) (Or.inr ⟨by kernel_rfl, rfl⟩) hHeld ?_; (try simp only [List.getElem_toArray, List.getElem_cons_zero, List.getElem_cons_succ, Act.put, List.setIfInBounds_toArray, List.set_cons_zero, List.set_cons_succ]))
                  (refine wpAnyH_take (i := 8) rfl (by kernel_rfl) (by kernel_rfl) (by kernel_rfl) (fun _ _ _ h => h) (Or.inr ⟨by kernel_rfl, rfl⟩) hHeld ?_; (try simp only [List.getElem_toArray, List.getElem_cons_zero, List.getElem_cons_succ, Act.put, List.setIfInBounds_toArray, List.set_cons_zero, List.set_cons_succ]))
                  (refine wpAnyH_take (i := 9) rfl (by kernel_rfl) (by kernel_rfl) (by kernel_rfl) (fun _ _ _ h => h) (Or.inr ⟨by kernel_rfl, rfl⟩) hHeld ?_; (try simp only [List.getElem_toArray, List.getElem_cons_zero, List.getElem_cons_succ, Act.put, List.setIfInBounds_toArray, List.set_cons_zero, List.set_cons_succ]))
                  (refine wpAnyH_take (i := 10) rfl (by kernel_rfl) (by kernel_rfl) (by kernel_rfl) (fun _ _ _ h => h) (Or.inr ⟨by kernel_rfl, rfl⟩) hHeld ?_; (try simp only [List.getElem_toArray, List.getElem_cons_zero, List.getElem_cons_succ, Act.put, List.setIfInBounds_toArray, List.set_cons_zero, List.set_cons_succ]))
                  (refine wpAnyH_take (i := 11) (v := ?_) rfl (by kernel_rfl) (by kernel_rfl) (by kernel_rfl) (fun _ _ _ h => h) (Or.inl ⟨by kernel_rfl, fun w0 hSw => ?_⟩) hHeld ?_; rotate_left; (focus ((try dsimp only at hSw); simp only [List.getElem_toArray, List.getElem_cons_zero, List.getElem_cons_succ]; (first | (go_simp; done) | (go_simp; with_reducible rfl)))); (try simp only [List.getElem_toArray, List.getElem_cons_zero, List.getElem_cons_succ, Act.put, List.setIfInBounds_toArray, List.set_cons_zero, List.set_cons_succ]))
                  refine wpAnyH_done (by kernel_rfl) ?_ _
                  go_wp2_with fail
                  go_roundw
                  case rel => exact ⟨1, by omega, by go_num, HN.out, hBw.drew⟩
                  case measure => simp [intOf]; omega
                · obtain ⟨m, rfl⟩ : ∃ m, k = m + 1 := ⟨k - 1, by omega⟩
                  have hy := HCL.out m (by omega)
                  have hm1 : ((m + 1 : Nat) : Int) > 0 := by omega
                  have hwr : IntKind.i64.wrap (((m + 1 : Nat) : Int) - 1) = (m : Int) := by
                    rw [show ((m + 1 : Nat) : Int) - 1 = (m : Int) by omega]
                    rw [IntKind.wrap_i64]; omega
                  have hwm : IntKind.i64.wrap (m : Int) = (m : Int) := by rw [IntKind.wrap_i64]; omega
                  have hml : (0 : Int) ≤ (m : Int) ∧ (m : Int) < (l.length : Int) := by omega
                  generalize hye : l.getD m mz = y at *
                  have he : metE (prevM l (m + 1)) x = if 0 ≤ cmpM y.n x.n y.i x.i then 9 else 0 := by
                    simp [metE, prevM, hnm, hi1, hi2, hr, ← hye]
                  go_wp2_with (first | (go_at_call 37; refine (hre _).mono ?_; rintro e w2 ⟨rfl, hb2⟩; have f0 := (hb2.cell (p := ⟨wq.heap.size, 0, none⟩) (Nat.lt_of_lt_of_le hlt hb1.size)).trans d0; have f1 := (hb2.cell (p := ⟨wq.heap.size, 1, none⟩) (Nat.lt_of_lt_of_le hlt hb1.size)).trans d1; have f2 := (hb2.cell (p := ⟨wq.heap.size, 2, none⟩) (Nat.lt_of_lt_of_le hlt hb1.size)).trans d2; have f3 := (hb2.cell (p := ⟨wq.heap.size, 3, none⟩) (Nat.lt_of_lt_of_le hlt hb1.size)).trans d3) | (go_at_call 36; refine (name_any _ _).mono ?_; rintro e w1 ⟨rfl, hb1⟩; rw [hnm]; have d0 := (hb1.cell (p := ⟨wq.heap.size, 0, none⟩) hlt).trans b0; have d1 := (hb1.cell (p := ⟨wq.heap.size, 1, none⟩) hlt).trans b1; have d2 := (hb1.cell (p := ⟨wq.heap.size, 2, none⟩) hlt).trans b2; have d3 := (hb1.cell (p := ⟨wq.heap.size, 3, none⟩) hlt).trans b3))
                  have hBw : Below w.heap.size w w2 := (hB0.trans (hb1.mono hB0.size)).trans (hb2.mono (Nat.le_trans hB0.size hb1.size))
                  have ec : ∀ q, w2.cell? ⟨B, q, none⟩ = w.cell? ⟨B, q, none⟩ := fun q => hBw.cell (p := ⟨B, q, none⟩) hBl
                  have hlt2 : wq.heap.size < w2.heap.size := Nat.lt_of_lt_of_le hlt (Nat.le_trans hb1.size hb2.size)
                  have y0 := (ec _).trans hy.1
                  have y1 := (ec _).trans hy.2.1
                  have y2 := (ec _).trans hy.2.2.1
                  have y3 := (ec _).trans hy.2.2.2
                  have hBl2 : B < w2.heap.size := Nat.lt_of_lt_of_le hBl hBw.size
                  have hcm := fun W => compare_any y.n x.n y.i x.i y.a x.a y.b x.b W
                  have HY := Lib.hid hye
                  have HN : 0 ≤ cmpM y.n x.n y.i x.i ∨ Hid (chkL (prevM l (m + 1 + 1)) (l.drop (m + 1 + 1)) = chkL none l) := by
                    by_cases hc : 0 ≤ cmpM y.n x.n y.i x.i
                    · exact .inl hc
                    · right
                      have h1 := HCC.out
                      rw [he, if_neg hc, if_pos rfl] at h1
                      show chkL (some (l.getD (m + 1 + 1 - 1) mz)) (l.drop (m + 1 + 1)) = chkL none l
                      rw [show (m + 1 + 1 - 1 : Nat) = m + 1 from rfl, HE.out]; exact h1
                  have HM : 0 ≤ cmpM y.n x.n y.i x.i → Hid (chkL none l = 9) := fun hc => by
                    have h1 := HCC.out
                    rw [he, if_pos hc] at h1
                    exact h1.symm
                  clear he HCC HC hb1 hb2 d0 d1 d2 d3 b0 b1 b2 b3 hre hr hnm hi1 hi2 hy ec hye hk0
                  generalize cmpM y.n x.n y.i x.i = cm at *
                  refine wp_region_held_drew (S := fun w' => w'.cell? ⟨B, o + m * 4, none⟩ = some (.string y.n) ∧ w'.cell? ⟨B, o + m * 4 + 1, none⟩ = some (.int .i64 y.i) ∧ w'.cell? ⟨B, o + m * 4 + 2, none⟩ = some (.int .i64 y.a) ∧ w'.cell? ⟨B, o + m * 4 + 3, none⟩ = some (.int .i64 y.b) ∧ w'.cell? ⟨wq.heap.size, 0, none⟩ = some (.string x.n) ∧ w'.cell? ⟨wq.heap.size, 1, none⟩ = some (.int .i64 x.i) ∧ w'.cell? ⟨wq.heap.size, 2, none⟩ = some (.int .i64 x.a) ∧ w'.cell? ⟨wq.heap.size, 3, none⟩ = some (.int .i64 x.b)) (by kernel_rfl) ⟨y0, y1, y2, y3, f0, f1, f2, f3⟩ (fun hHeld => ?_)
                  (refine wpAnyH_take (i := 0) (v := ?_) rfl (by kernel_rfl) (by kernel_rfl) (by kernel_rfl) (fun _ _ _ h => h) (Or.inl ⟨by kernel_rfl, fun w0 hSw => ?_⟩) hHeld ?_; rotate_left; (focus ((try dsimp only at hSw); simp only [List.getElem_toArray, List.getElem_cons_zero, List.getElem_cons_succ]; (first | (go_simp; done) | (go_simp; with_reducible rfl)))); (try simp only [List.getElem_toArray, List.getElem_cons_zero, List.getElem_cons_succ, Act.put, List.setIfInBounds_toArray, List.set_cons_zero, List.set_cons_succ]))
                  (refine wpAnyH_take (i := 1) (v := ?_) rfl (by kernel_rfl) (by kernel_rfl) (by kernel_rfl) (fun _ _ _ h => h) (Or.inl ⟨by kernel_rfl, fun w0 hSw => ?_⟩) hHeld ?_; rotate_left; (focus ((try dsimp only at hSw); simp only [List.getElem_toArray, List.getElem_cons_zero, List.getElem_cons_succ]; (first | (go_simp; done) | (go_simp; with_reducible rfl)))); (try simp only [List.getElem_toArray, List.getElem_cons_zero, List.getElem_cons_succ, Act.put, List.setIfInBounds_toArray, List.set_cons_zero, List.set_cons_succ]))
                  (refine wpAnyH_take (i := 2) (v := ?_) rfl (by kernel_rfl) (by kernel_rfl) (by kernel_rfl) (fun _ _ _ h => h) (Or.inl ⟨by kernel_rfl, fun w0 hSw => ?_⟩) hHeld ?_; rotate_left; (focus ((try dsimp only at hSw); simp only [List.getElem_toArray, List.getElem_cons_zero, List.getElem_cons_succ]; (first | (go_simp; done) | (go_simp; with_reducible rfl)))); (try simp only [List.getElem_toArray, List.getElem_cons_zero, List.getElem_cons_succ, Act.put, List.setIfInBounds_toArray, List.set_cons_zero, List.set_cons_succ]))
                  (refine wpAnyH_take (i := 3) (v := ?_) rfl (by kernel_rfl) (by kernel_rfl) (by kernel_rfl) (fun _ _ _ h => h) (Or.inl ⟨by kernel_rfl, fun w0 hSw => ?_⟩) hHeld ?_; rotate_left; (focus ((try dsimp only at hSw); simp only [List.getElem_toArray, List.getElem_cons_zero, List.getElem_cons_succ]; (first | (go_simp; done) | (go_simp; with_reducible rfl)))); (try simp only [List.getElem_toArray, List.getElem_cons_zero, List.getElem_cons_succ, Act.put, List.setIfInBounds_toArray, List.set_cons_zero, List.set_cons_succ]))
                  (refine wpAnyH_take (i := 4) (v := ?_) rfl (by kernel_rfl) (by kernel_rfl) (by kernel_rfl) (fun _ _ _ h => h) (Or.inl ⟨by kernel_rfl, fun w0 hSw => ?_⟩) hHeld ?_; rotate_left; (focus ((try dsimp only at hSw); simp only [List.getElem_toArray, List.getElem_cons_zero, List.getElem_cons_succ]; (first | (go_simp; done) | (go_simp; with_reducible rfl)))); (try simp only [List.getElem_toArray, List.getElem_cons_zero, List.getElem_cons_succ, Act.put, List.setIfInBounds_toArray, List.set_cons_zero, List.set_cons_succ]))
                  (refine wpAnyH_take (i := 5) (v := ?_) rfl (by kernel_rfl) (by kernel_rfl) (by kernel_rfl) (fun _ _ _ h => h) (Or.inl ⟨by kernel_rfl, fun w0 hSw => ?_⟩) hHeld ?_; rotate_left; (focus ((try dsimp only at hSw); simp only [List.getElem_toArray, List.getElem_cons_zero, List.getElem_cons_succ]; (first | (go_simp; done) | (go_simp; with_reducible rfl)))); (try simp only [List.getElem_toArray, List.getElem_cons_zero, List.getElem_cons_succ, Act.put, List.setIfInBounds_toArray, List.set_cons_zero, List.set_cons_succ]))
                  (refine wpAnyH_take (i := 6) (v := ?_) rfl (by kernel_rfl) (by kernel_rfl) (by kernel_rfl) (fun _ _ _ h => h) (Or.inl ⟨by kernel_rfl, fun w0 hSw => ?_⟩) hHeld ?_; rotate_left; (focus ((try dsimp only at hSw); simp only [List.getElem_toArray, List.getElem_cons_zero, List.getElem_cons_succ]; (first | (go_simp; done) | (go_simp; with_reducible rfl)))); (try simp only [List.getElem_toArray, List.getElem_cons_zero, List.getElem_cons_succ, Act.put, List.setIfInBounds_toArray, List.set_cons_zero, List.set_cons_succ]))
                  (refine wpAnyH_take (i := 7) (v := ?_) rfl (by kernel_rfl) (by kernel_rfl) (by kernel_rfl) (fun _ _ _ h => h) (Or.inl ⟨by kernel_rfl, fun w0 hSw => ?_⟩) hHeld ?_; rotate_left; (focus ((try dsimp only at hSw); simp only [List.getElem_toArray, List.getElem_cons_zero, List.getElem_cons_succ]; (first | (go_simp; done) | (go_simp; with_reducible rfl)))); (try simp only [List.getElem_toArray, List.getElem_cons_zero, List.getElem_cons_succ, Act.put, List.setIfInBounds_toArray, List.set_cons_zero, List.set_cons_succ]))
                  (refine wpAnyH_take (i := 8) (v := ?_) rfl (by kernel_rfl) (by kernel_rfl) (by kernel_rfl) (fun _ _ _ h => h) (Or.inl ⟨by kernel_rfl, fun w0 hSw => ?_⟩) hHeld ?_; rotate_left; (focus ((try dsimp only at hSw); simp only [List.getElem_toArray, List.getElem_cons_zero, List.getElem_cons_succ]; (first | (go_simp; done) | (go_simp; with_reducible rfl)))); (try simp only [List.getElem_toArray, List.getElem_cons_zero, List.getElem_cons_succ, Act.put, List.setIfInBounds_toArray, List.set_cons_zero, List.set_cons_succ]))
                  refine wpAnyH_ready (rs := [9]) (by kernel_rfl) (by simp) ?_
                  refine AllReadyH.cons rfl (fun K hK => ?_) AllReadyH.nil
                  simp only [List.getElem_toArray, List.getElem_cons_zero, List.getElem_cons_succ]
                  go_simp
                  refine (hcm _).mono ?_
                  rintro e w3 ⟨rfl, hgr⟩
                  have hb3 := hgr.below
                  have hBz : Below w.heap.size w w3 := hBw.drew.trans (hb3.mono hBw.size)
                  refine hK.out _ _ ⟨(hb3.cell (p := ⟨B, o + m * 4, none⟩) hBl2).trans y0, (hb3.cell (p := ⟨B, o + m * 4 + 1, none⟩) hBl2).trans y1, (hb3.cell (p := ⟨B, o + m * 4 + 2, none⟩) hBl2).trans y2, (hb3.cell (p := ⟨B, o + m * 4 + 3, none⟩) hBl2).trans y3, (hb3.cell (p := ⟨wq.heap.size, 0, none⟩) hlt2).trans f0, (hb3.cell (p := ⟨wq.heap.size, 1, none⟩) hlt2).trans f1, (hb3.cell (p := ⟨wq.heap.size, 2, none⟩) hlt2).trans f2, (hb3.cell (p := ⟨wq.heap.size, 3, none⟩) hlt2).trans f3⟩ (fun hHeld => ?_)
                  clear hK K hcm hgr
                  (try simp only [List.getElem_toArray, List.getElem_cons_zero, List.getElem_cons_succ, Act.put, List.setIfInBounds_toArray, List.set_cons_zero, List.set_cons_succ])
                  by_cases hc : 0 ≤ cm
                  · (refine wpAnyH_take (i := 10) (v := ?_) rfl (by kernel_rfl) (by kernel_rfl) (by kernel_rfl) (fun _ _ _ h => h) (Or.inl ⟨by kernel_rfl, fun w0 hSw => ?_⟩) hHeld ?_; rotate_left; (focus ((try dsimp only at hSw); simp only [List.getElem_toArray, List.getElem_cons_zero, List.getElem_cons_succ]; (first | (go_simp; done) | (go_simp; with_reducible rfl)))); (try simp only [List.getElem_toArray, List.getElem_cons_zero, List.getElem_cons_succ, Act.put, List.setIfInBounds_toArray, List.set_cons_zero, List.set_cons_succ]))
                    (refine wpAnyH_take (i := 11) (v := ?_) rfl (by kernel_rfl) (by kernel_rfl) (by kernel_rfl) (fun _ _ _ h => h) (Or.inl ⟨by kernel_rfl, fun w0 hSw => ?_⟩) hHeld ?_; rotate_left; (focus ((try dsimp only at hSw); simp only [List.getElem_toArray, List.getElem_cons_zero, List.getElem_cons_succ]; (first | (go_simp; done) | (go_simp; with_reducible rfl)))); (try simp only [List.getElem_toArray, List.getElem_cons_zero, List.getElem_cons_succ, Act.put, List.setIfInBounds_toArray, List.set_cons_zero, List.set_cons_succ]))
                    refine wpAnyH_done (by kernel_rfl) ?_ _
                    go_wp2_with fail
                    refine bodyPost_ret (by (simp [results, Tryz.results14, go_sem, *]; try rfl)) rfl ?_
                    exact ⟨by rw [(HM hc).out], hBz⟩
                  · (refine wpAnyH_take (i := 10) (v := ?_) rfl (by kernel_rfl) (by kernel_rfl) (by kernel_rfl) (fun _ _ _ h => h) (Or.inl ⟨by kernel_rfl, fun w0 hSw => ?_⟩) hHeld ?_; rotate_left; (focus ((try dsimp only at hSw); simp only [List.getElem_toArray, List.getElem_cons_zero, List.getElem_cons_succ]; (first | (go_simp; done) | (go_simp; with_reducible rfl)))); (try simp only [List.getElem_toArray, List.getElem_cons_zero, List.getElem_cons_succ, Act.put, List.setIfInBounds_toArray, List.set_cons_zero, List.set_cons_succ]))
                    (refine wpAnyH_take (i := 11) (v := ?_) rfl (by kernel_rfl) (by kernel_rfl) (by kernel_rfl) (fun _ _ _ h => h) (Or.inl ⟨by kernel_rfl, fun w0 hSw => ?_⟩) hHeld ?_; rotate_left; (focus ((try dsimp only at hSw); simp only [List.getElem_toArray, List.getElem_cons_zero, List.getElem_cons_succ]; (first | (go_simp; done) | (go_simp; with_reducible rfl)))); (try simp only [List.getElem_toArray, List.getElem_cons_zero, List.getElem_cons_succ, Act.put, List.setIfInBounds_toArray, List.set_cons_zero, List.set_cons_succ]))
                    refine wpAnyH_done (by kernel_rfl) ?_ _
                    have HNN := HN.resolve_left hc
                    clear HN HM
                    go_wp2_with fail
                    go_roundw
                    case rel => exact ⟨m + 1 + 1, by omega, by go_num, HNN.out, hBz⟩
                    case measure => simp [intOf]; omega
              · have he : metE (prevM l k) x = ratE x.a x.b := by simp [metE, hnm, hi1, hi2, hr]
                have HR := Lib.hid (show (if metE (prevM l k) x = 0 then chkL (some x) (l.drop (k + 1)) else metE (prevM l k) x) = ratE x.a x.b by rw [he, if_neg hr])
                clear he
                generalize ratE x.a x.b = re at *
                go_wp2_with (first | (go_at_call 37; refine (hre _).mono ?_; rintro e w2 ⟨rfl, hb2⟩; have f0 := (hb2.cell (p := ⟨wq.heap.size, 0, none⟩) (Nat.lt_of_lt_of_le hlt hb1.size)).trans d0; have f1 := (hb2.cell (p := ⟨wq.heap.size, 1, none⟩) (Nat.lt_of_lt_of_le hlt hb1.size)).trans d1; have f2 := (hb2.cell (p := ⟨wq.heap.size, 2, none⟩) (Nat.lt_of_lt_of_le hlt hb1.size)).trans d2; have f3 := (hb2.cell (p := ⟨wq.heap.size, 3, none⟩) (Nat.lt_of_lt_of_le hlt hb1.size)).trans d3) | (go_at_call 36; refine (name_any _ _).mono ?_; rintro e w1 ⟨rfl, hb1⟩; rw [hnm]; have d0 := (hb1.cell (p := ⟨wq.heap.size, 0, none⟩) hlt).trans b0; have d1 := (hb1.cell (p := ⟨wq.heap.size, 1, none⟩) hlt).trans b1; have d2 := (hb1.cell (p := ⟨wq.heap.size, 2, none⟩) hlt).trans b2; have d3 := (hb1.cell (p := ⟨wq.heap.size, 3, none⟩) hlt).trans b3))
                refine bodyPost_ret (by (simp [results, Tryz.results14, go_sem, *]; try rfl)) rfl ?_
                exact ⟨by rw [← HCC.out, HR.out], (hB0.trans (hb1.mono hB0.size)).trans (hb2.mono (Nat.le_trans hB0.size hb1.size))⟩
      · obtain rfl : k = l.length := by omega
        have hC := HC.out
        rw [List.drop_length] at hC
        go_wp2_with fail
        refine bodyPost_ret (by (simp [results, Tryz.results14, go_sem, *]; try rfl)) rfl ?_
        exact ⟨by rw [← hC]; rfl, hB⟩
end Go.Proofs.YtpcbccpobhdokaaGreatDoor

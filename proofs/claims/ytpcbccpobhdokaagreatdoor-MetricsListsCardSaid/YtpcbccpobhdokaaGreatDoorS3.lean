/- slices.symMergeCmpFunc on metrics. -/
import Derived.Test.YtpcbccpobhdokaaGreatDoorS1
import Derived.WalkKit
import Derived.Lib.Walk
import Derived.Test.YtpcbccpobhdokaaGreatDoorD1
import Derived.Shelf.SlSortCmp.KitK
import Derived.Sort.WalkB2
import Derived.Sort.WalkB12
import Derived.Deep.LoopGhost
set_option linter.unusedSimpArgs false
set_option linter.unusedVariables false
set_option linter.all false
namespace Go.Proofs.YtpcbccpobhdokaaGreatDoor
open Go.Shelf Go.RowKit Go.Lib Go.Sort
variable {α : Type} [Inhabited α]
set_option maxHeartbeats 4000000 in
set_option maxRecDepth 1000000 in
theorem sym_one (k : Nat) (aE : ∀ w, (isAgg 37).run Tryz.prog w = .ok true w) (zE : ∀ w, (Go.sizeOf 37).run Tryz.prog w = .ok k w) (enc : α → List Value) (cf : α → α → Int) (hS : SWO (ltOf cf)) (g : Nat) (cb : Array Value) (eg : ∀ args w, (callFunc g args).run Tryz.prog w = .ok (.enter g args) w) (blk off cap a m b : Nat) (d0 d : Array α) (w0 w : World)
    (R : RowK enc k w0 blk off d0) (hcmp : CmpLays Tryz.prog g cb enc k cf blk off d0.size w0) (hs : d0.size = d.size) (S : SWK enc k w0 blk off d w) (hm : m = a + 1) (hmb : m < b) (hb : b ≤ d.size) (hsz : d.size < 4611686018427387904) (hso : SortedIn (ltOf cf) m b d) :
    Calls Tryz.prog 94 #[.slice (some ⟨blk, off, none⟩) d.size cap, .int .i64 a, .int .i64 m, .int .i64 b, .func (.func g) #[] cb] w fun e w' => e = .returned (.tuple #[]) ∧ ∃ d', SWK enc k w0 blk off d' w' ∧ PermIn a b d d' ∧ SortedIn (ltOf cf) a b d' := by
  have mixed : Tryz.prog.follows .mixedOrders = true := by kernel_rfl
  have S0 : Aside (SWK enc k w0 blk off d w) := S
  have HC : Aside (CmpLays Tryz.prog g cb enc k cf blk off d0.size w0) := hcmp
  have HS : Hid (SWO (ltOf cf)) := hS
  clear S hcmp hS
  have SO : Aside (SortedIn (ltOf cf) m b d) := hso
  clear hso
  have q1 : ((m : Int) - (a : Int) == 1) = true := by simp; omega
  have r1 : IntKind.i64.wrap ((m : Int) - (a : Int)) = (m : Int) - (a : Int) := by rw [IntKind.wrap_i64]; omega
  have ham : a < m := by omega
  have HM := Lib.hid hm
  clear hm
  go_enter Tryz.func94, Tryz.ntmps94
  go_wp2_with fail
  clear q1 r1
  go_loopg [10, 11] (b - m) (fun kx s10 s11 wr => ∃ (i j : Nat), s10 = .int .i64 i ∧ s11 = .int .i64 j ∧ m ≤ i ∧ i ≤ j ∧ j ≤ b ∧ j - i ≤ kx ∧ Aside (SWK enc k w0 blk off d wr) ∧ Hid ((i = m ∨ ltOf cf d[i - 1]! d[a]! = true) ∧ (j = b ∨ ltOf cf d[j]! d[a]! = false)))
  case atStart => exact ⟨m, b, rfl, rfl, Nat.le_refl _, by omega, Nat.le_refl _, Nat.le_refl _, S0, .inl rfl, .inl rfl⟩
  case round =>
    clear S0
    obtain ⟨i, j, rfl, rfl, hmi, hij, hjb, hkx, S1, HP⟩ := hrel
    by_cases hlt : i < j
    · have hltz : (i : Int) < (j : Int) := by omega
      have rs : IntKind.i64.wrap ((i : Int) + (j : Int)) = (i : Int) + (j : Int) := by rw [IntKind.wrap_i64]; omega
      obtain ⟨h, hh1, hh2, HH⟩ : ∃ h : Nat, i ≤ h ∧ h < j ∧ Hid (((i : Int) + (j : Int)) / 2 = (h : Int)) := ⟨(i + j) / 2, by omega, by omega, (show _ = _ by omega)⟩
      go_wp2_with fail
      rw [HH.out]
      clear HH rs
      cases hL : ltOf cf d[h]! d[a]! with
      | true =>
        have e1a : ((h : Int)).toNat = h := by omega
        have p1a : (0 : Int) ≤ (h : Int) := by omega
        have b1a : (h : Int) < (d.size : Int) := by omega
        have r1a : IntKind.i64.wrap ((h : Int)) = (h : Int) := by rw [IntKind.wrap_i64]; omega
        have e1c : ((a : Int)).toNat = a := by omega
        have p1c : (0 : Int) ≤ (a : Int) := by omega
        have b1c : (a : Int) < (d.size : Int) := by omega
        have r1c : IntKind.i64.wrap ((a : Int)) = (a : Int) := by rw [IntKind.wrap_i64]; omega
        obtain ⟨x1, hx1⟩ : ∃ x, x = d[h]! := ⟨_, rfl⟩
        obtain ⟨y1, hy1⟩ : ∃ x, x = d[a]! := ⟨_, rfl⟩
        have l1a := S1.out.ld R (by omega) Tryz.prog (h) (by omega)
        have l1b := S1.out.ld R (by omega) Tryz.prog (a) (by omega)
        rw [← hx1] at l1a
        rw [← hy1] at l1b
        have hc1 := S1.out.cmp HC.out (by omega) x1 y1
        have hv1 : cf x1 y1 < 0 := by rw [hx1, hy1]; exact of_decide_eq_true hL
        have hd1 : decide (cf x1 y1 < 0) = true := decide_eq_true hv1
        clear hx1 hy1
        try (go_wp2_with fail)
        go_quiet_grown (first | (go_at_fn g; refine Calls.grown_of (hc1 _ _)))
        have S2 : Aside (SWK enc k w0 blk off d (grow (wr.drewN nq) osq)) := S1.out.grown nq osq
        clear l1a l1b hc1 S1
        generalize grow (wr.drewN nq) osq = w2 at S2 ⊢
        clear nq osq
        go_wp2_with fail
        go_roundg (j - (h + 1))
        case measure => omega
        case rel => exact ⟨h + 1, j, by go_num, rfl, by omega, by omega, hjb, Nat.le_refl _, S2, .inr hL, HP.out.2⟩
      | false =>
        have e1a : ((h : Int)).toNat = h := by omega
        have p1a : (0 : Int) ≤ (h : Int) := by omega
        have b1a : (h : Int) < (d.size : Int) := by omega
        have r1a : IntKind.i64.wrap ((h : Int)) = (h : Int) := by rw [IntKind.wrap_i64]; omega
        have e1c : ((a : Int)).toNat = a := by omega
        have p1c : (0 : Int) ≤ (a : Int) := by omega
        have b1c : (a : Int) < (d.size : Int) := by omega
        have r1c : IntKind.i64.wrap ((a : Int)) = (a : Int) := by rw [IntKind.wrap_i64]; omega
        obtain ⟨x1, hx1⟩ : ∃ x, x = d[h]! := ⟨_, rfl⟩
        obtain ⟨y1, hy1⟩ : ∃ x, x = d[a]! := ⟨_, rfl⟩
        have l1a := S1.out.ld R (by omega) Tryz.prog (h) (by omega)
        have l1b := S1.out.ld R (by omega) Tryz.prog (a) (by omega)
        rw [← hx1] at l1a
        rw [← hy1] at l1b
        have hc1 := S1.out.cmp HC.out (by omega) x1 y1
        have hv1 : ¬ cf x1 y1 < 0 := by rw [hx1, hy1]; exact of_decide_eq_false hL
        have hd1 : decide (cf x1 y1 < 0) = false := decide_eq_false hv1
        clear hx1 hy1
        try (go_wp2_with fail)
        go_quiet_grown (first | (go_at_fn g; refine Calls.grown_of (hc1 _ _)))
        have S2 : Aside (SWK enc k w0 blk off d (grow (wr.drewN nq) osq)) := S1.out.grown nq osq
        clear l1a l1b hc1 S1
        generalize grow (wr.drewN nq) osq = w2 at S2 ⊢
        clear nq osq
        go_wp2_with fail
        go_roundg (h - i)
        case measure => omega
        case rel => exact ⟨i, h, rfl, rfl, hmi, by omega, by omega, Nat.le_refl _, S2, HP.out.1, .inr hL⟩
    · have hltz : ¬ (i : Int) < (j : Int) := by omega
      obtain rfl : i = j := by omega
      go_wp2_with fail
      go_loopg [13] (i - a) (fun kx s13 wr => ∃ (p : Nat) (dk : Array α), s13 = .int .i64 p ∧ a ≤ p ∧ p + 1 ≤ i ∧ i - p ≤ kx ∧ dk.size = d.size ∧ Aside (SWK enc k w0 blk off dk wr) ∧ Hid ((∀ q, gt dk q = rt (gt d) a (a + 1) (p + 1) q) ∧ PermIn a b d dk))
      case atStart => exact ⟨a, d, rfl, Nat.le_refl _, by omega, Nat.le_refl _, rfl, S1, fun q => (rt_none2 (gt d) a (a + 1) q).symm, permIn_refl _ _ _⟩
      case round =>
        clear S1
        obtain ⟨p, dk, rfl, hap, hpi, hky, hds, S1, HQ⟩ := hrel
        have ri : IntKind.i64.wrap ((i : Int) - 1) = (i : Int) - 1 := by rw [IntKind.wrap_i64]; omega
        by_cases hlp : p + 1 < i
        · have hlpz : (p : Int) < (i : Int) - 1 := by omega
          go_wp2_with fail
          have e1a : ((p : Int)).toNat = p := by omega
          have p1a : (0 : Int) ≤ (p : Int) := by omega
          have b1a : (p : Int) < (d.size : Int) := by omega
          have r1a : IntKind.i64.wrap ((p : Int)) = (p : Int) := by rw [IntKind.wrap_i64]; omega
          have e1c : ((p : Int) + 1).toNat = p + 1 := by omega
          have p1c : (0 : Int) ≤ (p : Int) + 1 := by omega
          have b1c : (p : Int) + 1 < (d.size : Int) := by omega
          have r1c : IntKind.i64.wrap ((p : Int) + 1) = (p : Int) + 1 := by rw [IntKind.wrap_i64]; omega
          have S2 : Aside (SWK enc k w0 blk off (swp dk (p) (p + 1)) ((wr.drew.setCells blk (off + (p) * k) (enc dk[p + 1]!)).setCells blk (off + (p + 1) * k) (enc dk[p]!))) := S1.out.swapped R (p) (p + 1) (by omega) (by omega)
          have l1a := S1.out.ld1 R (by omega) Tryz.prog (p) (by omega)
          have l1b := S1.out.ld1 R (by omega) Tryz.prog (p + 1) (by omega)
          have s1a := S1.out.st1 R (by omega) Tryz.prog (p) (by omega) dk[p + 1]!
          have s1b := S1.out.st2 R (by omega) Tryz.prog (p) (p + 1) (by omega) (by omega) dk[p + 1]! dk[p]!
          have n1a : (enc dk[p]!).length = k := R.hk _
          have n1b : (enc dk[p + 1]!).length = k := R.hk _
          generalize enc dk[p]! = cI1 at S2 l1a s1b n1a
          generalize enc dk[p + 1]! = cJ1 at S2 l1b s1a s1b n1b
          clear S1
          go_wp2_with fail
          go_big_region_o
          clear l1a l1b s1a s1b
          generalize (wr.drew.setCells blk (off + (p) * k) cJ1).setCells blk (off + (p + 1) * k) cI1 = w2 at S2 ⊢
          go_wp2
          go_roundg (i - (p + 1))
          case measure => omega
          case rel => exact ⟨p + 1, swp dk p (p + 1), by go_num, by omega, by omega, Nat.le_refl _, by rw [size_swp]; exact hds, S2, rt_step d dk a p (by omega) hap HQ.out.1, permIn_trans _ _ _ _ _ HQ.out.2 (swp_permIn dk a b p (p + 1) (by omega) (by omega) (by omega) (by omega) (by omega))⟩
        · have hlpz : ¬ (p : Int) < (i : Int) - 1 := by omega
          go_wp2_with fail
          refine bodyPost_ret (by (simp [results, Tryz.results94, go_sem, *]; try rfl)) rfl ?_
          obtain rfl : i = p + 1 := by omega
          have hm := HM.out
          clear HM
          subst hm
          exact ⟨rfl, dk, S1.out, HQ.out.2, merge_one HS.out SO.out (by omega) (by omega) HP.out.1 HP.out.2 HQ.out.1⟩
set_option maxHeartbeats 4000000 in
set_option maxRecDepth 1000000 in
theorem sym_last (k : Nat) (aE : ∀ w, (isAgg 37).run Tryz.prog w = .ok true w) (zE : ∀ w, (Go.sizeOf 37).run Tryz.prog w = .ok k w) (enc : α → List Value) (cf : α → α → Int) (hS : SWO (ltOf cf)) (g : Nat) (cb : Array Value) (eg : ∀ args w, (callFunc g args).run Tryz.prog w = .ok (.enter g args) w) (blk off cap a m b : Nat) (d0 d : Array α) (w0 w : World)
    (R : RowK enc k w0 blk off d0) (hcmp : CmpLays Tryz.prog g cb enc k cf blk off d0.size w0) (hs : d0.size = d.size) (S : SWK enc k w0 blk off d w) (ham : a + 1 < m) (hm : b = m + 1) (hb : b ≤ d.size) (hsz : d.size < 4611686018427387904) (hso : SortedIn (ltOf cf) a m d) :
    Calls Tryz.prog 94 #[.slice (some ⟨blk, off, none⟩) d.size cap, .int .i64 a, .int .i64 m, .int .i64 b, .func (.func g) #[] cb] w fun e w' => e = .returned (.tuple #[]) ∧ ∃ d', SWK enc k w0 blk off d' w' ∧ PermIn a b d d' ∧ SortedIn (ltOf cf) a b d' := by
  have mixed : Tryz.prog.follows .mixedOrders = true := by kernel_rfl
  have S0 : Aside (SWK enc k w0 blk off d w) := S
  have HC : Aside (CmpLays Tryz.prog g cb enc k cf blk off d0.size w0) := hcmp
  have HS : Hid (SWO (ltOf cf)) := hS
  clear S hcmp hS
  have SO : Aside (SortedIn (ltOf cf) a m d) := hso
  clear hso
  have q1 : ((m : Int) - (a : Int) == 1) = false := by simp; omega
  have r1 : IntKind.i64.wrap ((m : Int) - (a : Int)) = (m : Int) - (a : Int) := by rw [IntKind.wrap_i64]; omega
  have q2 : ((b : Int) - (m : Int) == 1) = true := by simp; omega
  have r2 : IntKind.i64.wrap ((b : Int) - (m : Int)) = (b : Int) - (m : Int) := by rw [IntKind.wrap_i64]; omega
  have hmb : m < b := by omega
  have hmb1 : b ≤ m + 1 := by omega
  have HM := Lib.hid hm
  clear hm
  go_enter Tryz.func94, Tryz.ntmps94
  go_wp2_with fail
  clear q1 r1 q2 r2
  go_loopg [14, 15] (m - a) (fun kx s10 s11 wr => ∃ (i j : Nat), s10 = .int .i64 i ∧ s11 = .int .i64 j ∧ a ≤ i ∧ i ≤ j ∧ j ≤ m ∧ j - i ≤ kx ∧ Aside (SWK enc k w0 blk off d wr) ∧ Hid ((i = a ∨ ltOf cf d[m]! d[i - 1]! = false) ∧ (j = m ∨ ltOf cf d[m]! d[j]! = true)))
  case atStart => exact ⟨a, m, rfl, rfl, Nat.le_refl _, by omega, Nat.le_refl _, Nat.le_refl _, S0, .inl rfl, .inl rfl⟩
  case round =>
    clear S0
    obtain ⟨i, j, rfl, rfl, hmi, hij, hjb, hkx, S1, HP⟩ := hrel
    by_cases hlt : i < j
    · have hltz : (i : Int) < (j : Int) := by omega
      have rs : IntKind.i64.wrap ((i : Int) + (j : Int)) = (i : Int) + (j : Int) := by rw [IntKind.wrap_i64]; omega
      obtain ⟨h, hh1, hh2, HH⟩ : ∃ h : Nat, i ≤ h ∧ h < j ∧ Hid (((i : Int) + (j : Int)) / 2 = (h : Int)) := ⟨(i + j) / 2, by omega, by omega, (show _ = _ by omega)⟩
      go_wp2_with fail
      rw [HH.out]
      clear HH rs
      cases hL : ltOf cf d[m]! d[h]! with
      | false =>
        have e1a : ((m : Int)).toNat = m := by omega
        have p1a : (0 : Int) ≤ (m : Int) := by omega
        have b1a : (m : Int) < (d.size : Int) := by omega
        have r1a : IntKind.i64.wrap ((m : Int)) = (m : Int) := by rw [IntKind.wrap_i64]; omega
        have e1c : ((h : Int)).toNat = h := by omega
        have p1c : (0 : Int) ≤ (h : Int) := by omega
        have b1c : (h : Int) < (d.size : Int) := by omega
        have r1c : IntKind.i64.wrap ((h : Int)) = (h : Int) := by rw [IntKind.wrap_i64]; omega
        obtain ⟨x1, hx1⟩ : ∃ x, x = d[m]! := ⟨_, rfl⟩
        obtain ⟨y1, hy1⟩ : ∃ x, x = d[h]! := ⟨_, rfl⟩
        have l1a := S1.out.ld R (by omega) Tryz.prog (m) (by omega)
        have l1b := S1.out.ld R (by omega) Tryz.prog (h) (by omega)
        rw [← hx1] at l1a
        rw [← hy1] at l1b
        have hc1 := S1.out.cmp HC.out (by omega) x1 y1
        have hv1 : ¬ cf x1 y1 < 0 := by rw [hx1, hy1]; exact of_decide_eq_false hL
        have hd1 : decide (cf x1 y1 < 0) = false := decide_eq_false hv1
        clear hx1 hy1
        try (go_wp2_with fail)
        go_quiet_grown (first | (go_at_fn g; refine Calls.grown_of (hc1 _ _)))
        have S2 : Aside (SWK enc k w0 blk off d (grow (wr.drewN nq) osq)) := S1.out.grown nq osq
        clear l1a l1b hc1 S1
        generalize grow (wr.drewN nq) osq = w2 at S2 ⊢
        clear nq osq
        go_wp2_with fail
        go_roundg (j - (h + 1))
        case measure => omega
        case rel => exact ⟨h + 1, j, by go_num, rfl, by omega, by omega, hjb, Nat.le_refl _, S2, .inr hL, HP.out.2⟩
      | true =>
        have e1a : ((m : Int)).toNat = m := by omega
        have p1a : (0 : Int) ≤ (m : Int) := by omega
        have b1a : (m : Int) < (d.size : Int) := by omega
        have r1a : IntKind.i64.wrap ((m : Int)) = (m : Int) := by rw [IntKind.wrap_i64]; omega
        have e1c : ((h : Int)).toNat = h := by omega
        have p1c : (0 : Int) ≤ (h : Int) := by omega
        have b1c : (h : Int) < (d.size : Int) := by omega
        have r1c : IntKind.i64.wrap ((h : Int)) = (h : Int) := by rw [IntKind.wrap_i64]; omega
        obtain ⟨x1, hx1⟩ : ∃ x, x = d[m]! := ⟨_, rfl⟩
        obtain ⟨y1, hy1⟩ : ∃ x, x = d[h]! := ⟨_, rfl⟩
        have l1a := S1.out.ld R (by omega) Tryz.prog (m) (by omega)
        have l1b := S1.out.ld R (by omega) Tryz.prog (h) (by omega)
        rw [← hx1] at l1a
        rw [← hy1] at l1b
        have hc1 := S1.out.cmp HC.out (by omega) x1 y1
        have hv1 : cf x1 y1 < 0 := by rw [hx1, hy1]; exact of_decide_eq_true hL
        have hd1 : decide (cf x1 y1 < 0) = true := decide_eq_true hv1
        clear hx1 hy1
        try (go_wp2_with fail)
        go_quiet_grown (first | (go_at_fn g; refine Calls.grown_of (hc1 _ _)))
        have S2 : Aside (SWK enc k w0 blk off d (grow (wr.drewN nq) osq)) := S1.out.grown nq osq
        clear l1a l1b hc1 S1
        generalize grow (wr.drewN nq) osq = w2 at S2 ⊢
        clear nq osq
        go_wp2_with fail
        go_roundg (h - i)
        case measure => omega
        case rel => exact ⟨i, h, rfl, rfl, hmi, by omega, by omega, Nat.le_refl _, S2, HP.out.1, .inr hL⟩
    · have hltz : ¬ (i : Int) < (j : Int) := by omega
      obtain rfl : i = j := by omega
      go_wp2_with fail
      go_loopg [17] (m - i) (fun kx s13 wr => ∃ (p : Nat) (dk : Array α), s13 = .int .i64 p ∧ i ≤ p ∧ p ≤ m ∧ p - i ≤ kx ∧ dk.size = d.size ∧ Aside (SWK enc k w0 blk off dk wr) ∧ Hid ((∀ q, gt dk q = rt (gt d) p m (m + 1) q) ∧ PermIn a b d dk))
      case atStart => exact ⟨m, d, rfl, by omega, Nat.le_refl _, Nat.le_refl _, rfl, S1, fun q => (rt_none1 (gt d) m (m + 1) q (by omega)).symm, permIn_refl _ _ _⟩
      case round =>
        clear S1
        obtain ⟨p, dk, rfl, hap, hpi, hky, hds, S1, HQ⟩ := hrel
        by_cases hlp : i < p
        · have hlpz : (p : Int) > (i : Int) := by omega
          have hlpz2 : (i : Int) < (p : Int) := by omega
          go_wp2_with fail
          have e1a : ((p : Int)).toNat = p := by omega
          have p1a : (0 : Int) ≤ (p : Int) := by omega
          have b1a : (p : Int) < (d.size : Int) := by omega
          have r1a : IntKind.i64.wrap ((p : Int)) = (p : Int) := by rw [IntKind.wrap_i64]; omega
          have e1c : ((p : Int) - 1).toNat = p - 1 := by omega
          have p1c : (0 : Int) ≤ (p : Int) - 1 := by omega
          have b1c : (p : Int) - 1 < (d.size : Int) := by omega
          have r1c : IntKind.i64.wrap ((p : Int) - 1) = (p : Int) - 1 := by rw [IntKind.wrap_i64]; omega
          have S2 : Aside (SWK enc k w0 blk off (swp dk (p) (p - 1)) ((wr.drew.setCells blk (off + (p) * k) (enc dk[p - 1]!)).setCells blk (off + (p - 1) * k) (enc dk[p]!))) := S1.out.swapped R (p) (p - 1) (by omega) (by omega)
          have l1a := S1.out.ld1 R (by omega) Tryz.prog (p) (by omega)
          have l1b := S1.out.ld1 R (by omega) Tryz.prog (p - 1) (by omega)
          have s1a := S1.out.st1 R (by omega) Tryz.prog (p) (by omega) dk[p - 1]!
          have s1b := S1.out.st2 R (by omega) Tryz.prog (p) (p - 1) (by omega) (by omega) dk[p - 1]! dk[p]!
          have n1a : (enc dk[p]!).length = k := R.hk _
          have n1b : (enc dk[p - 1]!).length = k := R.hk _
          generalize enc dk[p]! = cI1 at S2 l1a s1b n1a
          generalize enc dk[p - 1]! = cJ1 at S2 l1b s1a s1b n1b
          clear S1
          go_wp2_with fail
          go_big_region_o
          clear l1a l1b s1a s1b
          generalize (wr.drew.setCells blk (off + (p) * k) cJ1).setCells blk (off + (p - 1) * k) cI1 = w2 at S2 ⊢
          go_wp2
          go_roundg (p - 1 - i)
          case measure => omega
          case rel => exact ⟨p - 1, swp dk p (p - 1), by first | go_num | (congr 1; omega), by omega, by omega, Nat.le_refl _, by rw [size_swp]; exact hds, S2, rt_back d dk m p hpi (by omega) (by omega) HQ.out.1, permIn_trans _ _ _ _ _ HQ.out.2 (swp_permIn dk a b p (p - 1) (by omega) (by omega) (by omega) (by omega) (by omega))⟩
        · have hlpz : ¬ (p : Int) > (i : Int) := by omega
          have hlpz2 : ¬ (i : Int) < (p : Int) := by omega
          go_wp2_with fail
          refine bodyPost_ret (by (simp [results, Tryz.results94, go_sem, *]; try rfl)) rfl ?_
          obtain rfl : i = p := by omega
          have hm := HM.out
          clear HM
          subst hm
          exact ⟨rfl, dk, S1.out, HQ.out.2, merge_last HS.out SO.out hmi hpi HP.out.1 HP.out.2 HQ.out.1⟩
end Go.Proofs.YtpcbccpobhdokaaGreatDoor

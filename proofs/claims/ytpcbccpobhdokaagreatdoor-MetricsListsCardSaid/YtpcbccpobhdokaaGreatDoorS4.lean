/- slices.symMergeCmpFunc on metrics. -/
import Derived.Test.YtpcbccpobhdokaaGreatDoorS3
import Derived.WalkKit
import Derived.Lib.Walk
import Derived.Test.YtpcbccpobhdokaaGreatDoorD1
import Derived.Shelf.SlSortCmp.KitK
import Derived.Sort.WalkB2
import Derived.Sort.WalkB12
import Derived.Deep.LoopGhost
set_option linter.unusedSimpArgs false
set_option linter.unusedVariables false
set_option linter.all false
namespace Go.Proofs.YtpcbccpobhdokaaGreatDoor
open Go.Shelf Go.RowKit Go.Lib Go.Sort
variable {α : Type} [Inhabited α]
theorem sorted_sameR {lt : α → α → Bool} {lo hi : Nat} {d1 d2 : Array α} (h : SortedIn lt lo hi d1) (he : ∀ r, lo ≤ r → d2[r]! = d1[r]!) : SortedIn lt lo hi d2 := fun p q c1 c2 c3 => by
  rw [he p c1, he q (by omega)]; exact h p q c1 c2 c3
set_option maxHeartbeats 4000000 in
set_option maxRecDepth 1000000 in
theorem sym_genR (k : Nat) (aE : ∀ w, (isAgg 37).run Tryz.prog w = .ok true w) (zE : ∀ w, (Go.sizeOf 37).run Tryz.prog w = .ok k w) (enc : α → List Value) (cf : α → α → Int) (hS : SWO (ltOf cf)) (g : Nat) (cb : Array Value) (eg : ∀ args w, (callFunc g args).run Tryz.prog w = .ok (.enter g args) w) (blk off cap a m b : Nat) (d0 d : Array α) (w0 w : World)
    (R : RowK enc k w0 blk off d0) (hcmp : CmpLays Tryz.prog g cb enc k cf blk off d0.size w0) (hs : d0.size = d.size) (S : SWK enc k w0 blk off d w) (ham : a + 1 < m) (hmb : m + 1 < b) (hmid : (a + b) / 2 < m) (hb : b ≤ d.size) (hsz : d.size < 4611686018427387904) (hsa : SortedIn (ltOf cf) a m d) (hsb : SortedIn (ltOf cf) m b d)
    (ih : ∀ (a' m' b' : Nat) (d' : Array α) (w' : World), b' - a' < b - a → SWK enc k w0 blk off d' w' → d'.size = d.size → a' < m' → m' < b' → b' ≤ d.size → SortedIn (ltOf cf) a' m' d' → SortedIn (ltOf cf) m' b' d' →
      Calls Tryz.prog 94 #[.slice (some ⟨blk, off, none⟩) d.size cap, .int .i64 a', .int .i64 m', .int .i64 b', .func (.func g) #[] cb] w' fun e w'' => e = .returned (.tuple #[]) ∧ ∃ d'', SWK enc k w0 blk off d'' w'' ∧ PermIn a' b' d' d'' ∧ SortedIn (ltOf cf) a' b' d'') :
    Calls Tryz.prog 94 #[.slice (some ⟨blk, off, none⟩) d.size cap, .int .i64 a, .int .i64 m, .int .i64 b, .func (.func g) #[] cb] w fun e w' => e = .returned (.tuple #[]) ∧ ∃ d', SWK enc k w0 blk off d' w' ∧ PermIn a b d d' ∧ SortedIn (ltOf cf) a b d' := by
  have mixed : Tryz.prog.follows .mixedOrders = true := by kernel_rfl
  have S0 : Aside (SWK enc k w0 blk off d w) := S
  have HC : Aside (CmpLays Tryz.prog g cb enc k cf blk off d0.size w0) := hcmp
  have HS : Hid (SWO (ltOf cf)) := hS
  clear S hcmp hS
  have SA : Aside (SortedIn (ltOf cf) a m d) := hsa
  have SB : Aside (SortedIn (ltOf cf) m b d) := hsb
  have IH := Lib.hid ih
  clear hsa hsb ih
  have q1 : ((m : Int) - (a : Int) == 1) = false := by simp; omega
  have r1 : IntKind.i64.wrap ((m : Int) - (a : Int)) = (m : Int) - (a : Int) := by rw [IntKind.wrap_i64]; omega
  have q2 : ((b : Int) - (m : Int) == 1) = false := by simp; omega
  have r2 : IntKind.i64.wrap ((b : Int) - (m : Int)) = (b : Int) - (m : Int) := by rw [IntKind.wrap_i64]; omega
  have r3 : IntKind.i64.wrap ((a : Int) + (b : Int)) = (a : Int) + (b : Int) := by rw [IntKind.wrap_i64]; omega
  obtain ⟨mid, hmd1, hmd2, hmid, HM⟩ : ∃ mid : Nat, 2 * mid ≤ a + b ∧ a + b ≤ 2 * mid + 1 ∧ mid < m ∧ Hid (((a : Int) + (b : Int)) / 2 = (mid : Int)) := ⟨(a + b) / 2, by omega, by omega, by omega, (show _ = _ by omega)⟩
  have r4 : IntKind.i64.wrap (((a : Int) + (b : Int)) / 2 + (m : Int)) = ((a : Int) + (b : Int)) / 2 + (m : Int) := by rw [IntKind.wrap_i64]; omega
  have r5 : IntKind.i64.wrap (((a : Int) + (b : Int)) / 2 + (m : Int) - (b : Int)) = ((a : Int) + (b : Int)) / 2 + (m : Int) - (b : Int) := by rw [IntKind.wrap_i64]; omega
  have r6 : IntKind.i64.wrap (((a : Int) + (b : Int)) / 2 + (m : Int) - 1) = ((a : Int) + (b : Int)) / 2 + (m : Int) - 1 := by rw [IntKind.wrap_i64]; omega
  have c1 : ((a : Int) + (b : Int)) / 2 < (m : Int) := by omega
  have c2 : (m : Int) > ((a : Int) + (b : Int)) / 2 := by omega
  obtain ⟨s0, hs0⟩ : ∃ s0, s0 + b = mid + m := ⟨mid + m - b, by omega⟩
  have hs0z : (mid : Int) + (m : Int) - (b : Int) = (s0 : Int) := by omega
  go_enter Tryz.func94, Tryz.ntmps94
  go_wp2_with fail
  rw [HM.out, hs0z]
  clear q1 r1 q2 r2 r3 r4 r5 r6 c1 c2 HM
  go_loopg [20, 21] (mid - s0) (fun kx s20 s21 wr => ∃ (i j : Nat), s20 = .int .i64 i ∧ s21 = .int .i64 j ∧ s0 ≤ i ∧ i ≤ j ∧ j ≤ mid ∧ j - i ≤ kx ∧ Aside (SWK enc k w0 blk off d wr) ∧ Hid ((i = s0 ∨ ltOf cf d[mid + m - i]! d[i - 1]! = false) ∧ (j = mid ∨ ltOf cf d[mid + m - 1 - j]! d[j]! = true)))
  case atStart => exact ⟨s0, mid, rfl, rfl, Nat.le_refl _, by omega, Nat.le_refl _, Nat.le_refl _, S0, .inl rfl, .inl rfl⟩
  case round =>
    clear S0
    obtain ⟨i, j, rfl, rfl, hmi, hij, hjb, hkx, S1, HP⟩ := hrel
    by_cases hlt : i < j
    · have hltz : (i : Int) < (j : Int) := by omega
      have rs : IntKind.i64.wrap ((i : Int) + (j : Int)) = (i : Int) + (j : Int) := by rw [IntKind.wrap_i64]; omega
      obtain ⟨h, hh1, hh2, HH⟩ : ∃ h : Nat, i ≤ h ∧ h < j ∧ Hid (((i : Int) + (j : Int)) / 2 = (h : Int)) := ⟨(i + j) / 2, by omega, by omega, (show _ = _ by omega)⟩
      go_wp2_with fail
      rw [HH.out]
      clear HH rs
      obtain ⟨q, hq, hqz⟩ : ∃ q : Nat, q + h + 1 = mid + m ∧ (mid : Int) + (m : Int) - 1 - (h : Int) = (q : Int) := ⟨mid + m - 1 - h, by omega, by omega⟩
      have rq : IntKind.i64.wrap (q : Int) = (q : Int) := by rw [IntKind.wrap_i64]; omega
      have eq : mid + m - 1 - h = q := by omega
      have EQ := Lib.hid eq
      clear eq
      cases hL : ltOf cf d[q]! d[h]! with
      | false =>
        have e1a : ((q : Int)).toNat = q := by omega
        have p1a : (0 : Int) ≤ (q : Int) := by omega
        have b1a : (q : Int) < (d.size : Int) := by omega
        have r1a : IntKind.i64.wrap ((q : Int)) = (q : Int) := by rw [IntKind.wrap_i64]; omega
        have e1c : ((h : Int)).toNat = h := by omega
        have p1c : (0 : Int) ≤ (h : Int) := by omega
        have b1c : (h : Int) < (d.size : Int) := by omega
        have r1c : IntKind.i64.wrap ((h : Int)) = (h : Int) := by rw [IntKind.wrap_i64]; omega
        obtain ⟨x1, hx1⟩ : ∃ x, x = d[q]! := ⟨_, rfl⟩
        obtain ⟨y1, hy1⟩ : ∃ x, x = d[h]! := ⟨_, rfl⟩
        have l1a := S1.out.ld R (by omega) Tryz.prog (q) (by omega)
        have l1b := S1.out.ld R (by omega) Tryz.prog (h) (by omega)
        rw [← hx1] at l1a
        rw [← hy1] at l1b
        have hc1 := S1.out.cmp HC.out (by omega) x1 y1
        have hv1 : ¬ cf x1 y1 < 0 := by rw [hx1, hy1]; exact of_decide_eq_false hL
        have hd1 : decide (cf x1 y1 < 0) = false := decide_eq_false hv1
        clear hx1 hy1
        try (go_wp2_with fail)
        go_quiet_grown (first | (go_at_fn g; refine Calls.grown_of (hc1 _ _)))
        have S2 : Aside (SWK enc k w0 blk off d (grow (wr.drewN nq) osq)) := S1.out.grown nq osq
        clear l1a l1b hc1 S1
        generalize grow (wr.drewN nq) osq = w2 at S2 ⊢
        clear nq osq
        go_wp2_with fail
        go_roundg (j - (h + 1))
        case measure => omega
        case rel => exact ⟨h + 1, j, by go_num, rfl, by omega, by omega, hjb, Nat.le_refl _, S2, .inr (by rw [show mid + m - (h + 1) = q by omega]; exact hL), HP.out.2⟩
      | true =>
        have e1a : ((q : Int)).toNat = q := by omega
        have p1a : (0 : Int) ≤ (q : Int) := by omega
        have b1a : (q : Int) < (d.size : Int) := by omega
        have r1a : IntKind.i64.wrap ((q : Int)) = (q : Int) := by rw [IntKind.wrap_i64]; omega
        have e1c : ((h : Int)).toNat = h := by omega
        have p1c : (0 : Int) ≤ (h : Int) := by omega
        have b1c : (h : Int) < (d.size : Int) := by omega
        have r1c : IntKind.i64.wrap ((h : Int)) = (h : Int) := by rw [IntKind.wrap_i64]; omega
        obtain ⟨x1, hx1⟩ : ∃ x, x = d[q]! := ⟨_, rfl⟩
        obtain ⟨y1, hy1⟩ : ∃ x, x = d[h]! := ⟨_, rfl⟩
        have l1a := S1.out.ld R (by omega) Tryz.prog (q) (by omega)
        have l1b := S1.out.ld R (by omega) Tryz.prog (h) (by omega)
        rw [← hx1] at l1a
        rw [← hy1] at l1b
        have hc1 := S1.out.cmp HC.out (by omega) x1 y1
        have hv1 : cf x1 y1 < 0 := by rw [hx1, hy1]; exact of_decide_eq_true hL
        have hd1 : decide (cf x1 y1 < 0) = true := decide_eq_true hv1
        clear hx1 hy1
        try (go_wp2_with fail)
        go_quiet_grown (first | (go_at_fn g; refine Calls.grown_of (hc1 _ _)))
        have S2 : Aside (SWK enc k w0 blk off d (grow (wr.drewN nq) osq)) := S1.out.grown nq osq
        clear l1a l1b hc1 S1
        generalize grow (wr.drewN nq) osq = w2 at S2 ⊢
        clear nq osq
        go_wp2_with fail
        go_roundg (h - i)
        case measure => omega
        case rel => exact ⟨i, h, rfl, rfl, hmi, by omega, by omega, Nat.le_refl _, S2, HP.out.1, .inr (by rw [EQ.out]; exact hL)⟩
    · have hltz : ¬ (i : Int) < (j : Int) := by omega
      obtain rfl : i = j := by omega
      obtain ⟨e, he⟩ : ∃ e, e + i = mid + m := ⟨mid + m - i, by omega⟩
      have hez : (mid : Int) + (m : Int) - (i : Int) = (e : Int) := by omega
      have r7 : IntKind.i64.wrap ((mid : Int) + (m : Int) - (i : Int)) = (mid : Int) + (m : Int) - (i : Int) := by rw [IntKind.wrap_i64]; omega
      have i1 : a ≤ i := by omega
      have i2 : i ≤ m := by omega
      have i3 : m ≤ e := by omega
      have i4 : e ≤ b := by omega
      have i5 : i ≤ mid := by omega
      have i6 : mid ≤ e := by omega
      have i7 : i + e = mid + m := by omega
      have HV : ∀ d1, (∀ q, gt d1 q = rt (gt d) i m e q) → Halves (ltOf cf) a i mid e b d1 := fun d1 h1 => by
        refine halves_of HS.out SA.out SB.out i1 i2 i3 i4 i7 ?_ ?_ h1
        · rcases HP.out.1 with h | h
          · first | (left; omega) | (right; left; omega)
          · right; right
            rw [show e = mid + m - i by omega]; exact h
        · rcases HP.out.2 with h | h
          · first | (left; omega) | (right; left; omega)
          · right; right
            show ltOf cf d[e - 1]! d[i]! = true
            rw [show e - 1 = mid + m - 1 - i by omega]; exact h
      have HVV := Lib.hid HV
      clear HV hmi hjb
      by_cases c1 : i < m
      · have c1z : (i : Int) < (m : Int) := by omega
        by_cases c2 : m < e
        · have c2z : (m : Int) < (e : Int) := by omega
          have hc := rot_any k aE zE enc g cb blk off cap i m e d0 d w0 wr R hs S1.out c1 c2 (by omega) hsz
          have HCC := Lib.hid hc
          clear hc S1
          go_wp2_with fail
          refine HCC.out.mono ?_
          rintro ex w1 ⟨rfl, d1, S2, h2, h3⟩
          have S1 : Aside _ := S2
          have HV := HVV.out d1 h2
          have P1 : PermIn a b d d1 := permIn_mono _ _ _ _ _ _ (by omega) (by omega) (by omega) h3
          have hz1 : d1.size = d.size := P1.1
          have HV2 := Lib.hid HV
          have P2 := Lib.hid P1
          clear S2 h2 h3 HCC HVV HV P1
          by_cases l1 : a < i
          · by_cases l2 : e < b
            · have k1 : (a : Int) < (i : Int) := by omega
              have k2 : (i : Int) < (mid : Int) := by omega
              have hc := IH.out a i mid d1 w1 (by omega) S1.out (by omega) (by omega) (by omega) (by omega) HV2.out.l1 HV2.out.l2
              have HCL := Lib.hid hc
              clear hc S1
              have k3 : (mid : Int) < (e : Int) := by omega
              have k4 : (e : Int) < (b : Int) := by omega
              go_wp2_with fail
              refine HCL.out.mono ?_
              rintro ex w2 ⟨rfl, d2, S2, h2p, h2s⟩
              have S3 : Aside _ := S2
              have HQ : Hid (_ ∧ _) := ⟨h2p, h2s⟩
              clear S2 h2p h2s HCL
              have hz2 : d2.size = d.size := HQ.out.1.1.trans P2.out.1
              have hc := IH.out mid e b d2 w2 (by omega) S3.out hz2 (by omega) (by omega) (by omega) (sorted_sameR HV2.out.r1 (fun r hr => HQ.out.1.2.1 r (.inr hr))) (sorted_sameR HV2.out.r2 (fun r hr => HQ.out.1.2.1 r (.inr (by omega))))
              have HCR := Lib.hid hc
              clear hc S3
              go_wp2_with fail
              refine HCR.out.mono ?_
              rintro ex w3 ⟨rfl, d3, S4, h3p, h3s⟩
              go_wp2_with fail
              go_end0
              have hj := halves_join HS.out HV2.out.x (by omega) (by omega) (by rw [P2.out.1]; omega) HQ.out.1 HQ.out.2 h3p h3s
              exact ⟨rfl, d3, S4, permIn_trans _ _ _ _ _ P2.out hj.1, hj.2⟩
            · have k1 : (a : Int) < (i : Int) := by omega
              have k2 : (i : Int) < (mid : Int) := by omega
              have hc := IH.out a i mid d1 w1 (by omega) S1.out (by omega) (by omega) (by omega) (by omega) HV2.out.l1 HV2.out.l2
              have HCL := Lib.hid hc
              clear hc S1
              have k3 : (mid : Int) < (e : Int) := by omega
              have k4 : ¬ (e : Int) < (b : Int) := by omega
              go_wp2_with fail
              refine HCL.out.mono ?_
              rintro ex w2 ⟨rfl, d2, S2, h2p, h2s⟩
              have S3 : Aside _ := S2
              have HQ : Hid (_ ∧ _) := ⟨h2p, h2s⟩
              clear S2 h2p h2s HCL
              go_wp2_with fail
              go_end0
              have hj := halves_join HS.out HV2.out.x (by omega) (by omega) (by rw [P2.out.1]; omega) HQ.out.1 HQ.out.2 (permIn_refl d2 mid b) (by have hx : e = b := (by omega); exact sorted_sameR (hx ▸ HV2.out.r1) (fun r hr => HQ.out.1.2.1 r (.inr hr)))
              exact ⟨rfl, d2, S3.out, permIn_trans _ _ _ _ _ P2.out hj.1, hj.2⟩
          · by_cases l2 : e < b
            · have k1 : ¬ (a : Int) < (i : Int) := by omega
              have k3 : (mid : Int) < (e : Int) := by omega
              have k4 : (e : Int) < (b : Int) := by omega
              go_wp2_with fail
              have S3 : Aside _ := S1.out
              have HQ : Hid (PermIn a mid d1 d1 ∧ SortedIn (ltOf cf) a mid d1) := ⟨permIn_refl _ _ _, (by have hx : i = a := (by omega); exact hx ▸ HV2.out.l2)⟩
              have hz2 : d1.size = d.size := HQ.out.1.1.trans P2.out.1
              have hc := IH.out mid e b d1 w1 (by omega) S3.out hz2 (by omega) (by omega) (by omega) (sorted_sameR HV2.out.r1 (fun r hr => HQ.out.1.2.1 r (.inr hr))) (sorted_sameR HV2.out.r2 (fun r hr => HQ.out.1.2.1 r (.inr (by omega))))
              have HCR := Lib.hid hc
              clear hc S3
              refine HCR.out.mono ?_
              rintro ex w3 ⟨rfl, d3, S4, h3p, h3s⟩
              go_wp2_with fail
              go_end0
              have hj := halves_join HS.out HV2.out.x (by omega) (by omega) (by rw [P2.out.1]; omega) HQ.out.1 HQ.out.2 h3p h3s
              exact ⟨rfl, d3, S4, permIn_trans _ _ _ _ _ P2.out hj.1, hj.2⟩
            · have k1 : ¬ (a : Int) < (i : Int) := by omega
              have k3 : (mid : Int) < (e : Int) := by omega
              have k4 : ¬ (e : Int) < (b : Int) := by omega
              go_wp2_with fail
              have S3 : Aside _ := S1.out
              have HQ : Hid (PermIn a mid d1 d1 ∧ SortedIn (ltOf cf) a mid d1) := ⟨permIn_refl _ _ _, (by have hx : i = a := (by omega); exact hx ▸ HV2.out.l2)⟩
              go_end0
              have hj := halves_join HS.out HV2.out.x (by omega) (by omega) (by rw [P2.out.1]; omega) HQ.out.1 HQ.out.2 (permIn_refl d1 mid b) (by have hx : e = b := (by omega); exact sorted_sameR (hx ▸ HV2.out.r1) (fun r hr => HQ.out.1.2.1 r (.inr hr)))
              exact ⟨rfl, d1, S3.out, permIn_trans _ _ _ _ _ P2.out hj.1, hj.2⟩
        · have c2z : ¬ (m : Int) < (e : Int) := by omega
          have HV2 := Lib.hid (HVV.out d (fun q => by rw [show e = m by omega]; exact (rt_none2 (gt d) i m q).symm))
          have P2 := Lib.hid (permIn_refl d a b)
          obtain ⟨w1, hw1⟩ : ∃ w1, w1 = wr := ⟨_, rfl⟩
          subst hw1
          have k1 : (a : Int) < (i : Int) := by omega
          have k2 : ¬ (i : Int) < (mid : Int) := by omega
          have k3 : (mid : Int) < (e : Int) := by omega
          have k4 : (e : Int) < (b : Int) := by omega
          go_wp2_with fail
          have S3 : Aside _ := S1.out
          have HQ : Hid (PermIn a mid d d ∧ SortedIn (ltOf cf) a mid d) := ⟨permIn_refl _ _ _, (by have hx : i = mid := (by omega); exact hx ▸ HV2.out.l1)⟩
          have hz2 : d.size = d.size := HQ.out.1.1.trans P2.out.1
          have hc := IH.out mid e b d w1 (by omega) S3.out hz2 (by omega) (by omega) (by omega) (sorted_sameR HV2.out.r1 (fun r hr => HQ.out.1.2.1 r (.inr hr))) (sorted_sameR HV2.out.r2 (fun r hr => HQ.out.1.2.1 r (.inr (by omega))))
          have HCR := Lib.hid hc
          clear hc S3
          refine HCR.out.mono ?_
          rintro ex w3 ⟨rfl, d3, S4, h3p, h3s⟩
          go_wp2_with fail
          go_end0
          have hj := halves_join HS.out HV2.out.x (by omega) (by omega) (by rw [P2.out.1]; omega) HQ.out.1 HQ.out.2 h3p h3s
          exact ⟨rfl, d3, S4, permIn_trans _ _ _ _ _ P2.out hj.1, hj.2⟩
      · exfalso; omega
end Go.Proofs.YtpcbccpobhdokaaGreatDoor
namespace Go.Proofs.YtpcbccpobhdokaaGreatDoor
open Go.Shelf Go.RowKit Go.Lib Go.Sort
variable {α : Type} [Inhabited α]
set_option maxHeartbeats 4000000 in
set_option maxRecDepth 1000000 in
theorem sym_genL (k : Nat) (aE : ∀ w, (isAgg 37).run Tryz.prog w = .ok true w) (zE : ∀ w, (Go.sizeOf 37).run Tryz.prog w = .ok k w) (enc : α → List Value) (cf : α → α → Int) (hS : SWO (ltOf cf)) (g : Nat) (cb : Array Value) (eg : ∀ args w, (callFunc g args).run Tryz.prog w = .ok (.enter g args) w) (blk off cap a m b : Nat) (d0 d : Array α) (w0 w : World)
    (R : RowK enc k w0 blk off d0) (hcmp : CmpLays Tryz.prog g cb enc k cf blk off d0.size w0) (hs : d0.size = d.size) (S : SWK enc k w0 blk off d w) (ham : a + 1 < m) (hmb : m + 1 < b) (hmid : ¬ (a + b) / 2 < m) (hb : b ≤ d.size) (hsz : d.size < 4611686018427387904) (hsa : SortedIn (ltOf cf) a m d) (hsb : SortedIn (ltOf cf) m b d)
    (ih : ∀ (a' m' b' : Nat) (d' : Array α) (w' : World), b' - a' < b - a → SWK enc k w0 blk off d' w' → d'.size = d.size → a' < m' → m' < b' → b' ≤ d.size → SortedIn (ltOf cf) a' m' d' → SortedIn (ltOf cf) m' b' d' →
      Calls Tryz.prog 94 #[.slice (some ⟨blk, off, none⟩) d.size cap, .int .i64 a', .int .i64 m', .int .i64 b', .func (.func g) #[] cb] w' fun e w'' => e = .returned (.tuple #[]) ∧ ∃ d'', SWK enc k w0 blk off d'' w'' ∧ PermIn a' b' d' d'' ∧ SortedIn (ltOf cf) a' b' d'') :
    Calls Tryz.prog 94 #[.slice (some ⟨blk, off, none⟩) d.size cap, .int .i64 a, .int .i64 m, .int .i64 b, .func (.func g) #[] cb] w fun e w' => e = .returned (.tuple #[]) ∧ ∃ d', SWK enc k w0 blk off d' w' ∧ PermIn a b d d' ∧ SortedIn (ltOf cf) a b d' := by
  have mixed : Tryz.prog.follows .mixedOrders = true := by kernel_rfl
  have S0 : Aside (SWK enc k w0 blk off d w) := S
  have HC : Aside (CmpLays Tryz.prog g cb enc k cf blk off d0.size w0) := hcmp
  have HS : Hid (SWO (ltOf cf)) := hS
  clear S hcmp hS
  have SA : Aside (SortedIn (ltOf cf) a m d) := hsa
  have SB : Aside (SortedIn (ltOf cf) m b d) := hsb
  have IH := Lib.hid ih
  clear hsa hsb ih
  have q1 : ((m : Int) - (a : Int) == 1) = false := by simp; omega
  have r1 : IntKind.i64.wrap ((m : Int) - (a : Int)) = (m : Int) - (a : Int) := by rw [IntKind.wrap_i64]; omega
  have q2 : ((b : Int) - (m : Int) == 1) = false := by simp; omega
  have r2 : IntKind.i64.wrap ((b : Int) - (m : Int)) = (b : Int) - (m : Int) := by rw [IntKind.wrap_i64]; omega
  have r3 : IntKind.i64.wrap ((a : Int) + (b : Int)) = (a : Int) + (b : Int) := by rw [IntKind.wrap_i64]; omega
  obtain ⟨mid, hmd1, hmd2, hmid, HM⟩ : ∃ mid : Nat, 2 * mid ≤ a + b ∧ a + b ≤ 2 * mid + 1 ∧ m ≤ mid ∧ Hid (((a : Int) + (b : Int)) / 2 = (mid : Int)) := ⟨(a + b) / 2, by omega, by omega, by omega, (show _ = _ by omega)⟩
  have r4 : IntKind.i64.wrap (((a : Int) + (b : Int)) / 2 + (m : Int)) = ((a : Int) + (b : Int)) / 2 + (m : Int) := by rw [IntKind.wrap_i64]; omega
  have r5 : IntKind.i64.wrap (((a : Int) + (b : Int)) / 2 + (m : Int) - (b : Int)) = ((a : Int) + (b : Int)) / 2 + (m : Int) - (b : Int) := by rw [IntKind.wrap_i64]; omega
  have r6 : IntKind.i64.wrap (((a : Int) + (b : Int)) / 2 + (m : Int) - 1) = ((a : Int) + (b : Int)) / 2 + (m : Int) - 1 := by rw [IntKind.wrap_i64]; omega
  have c1 : ¬ ((a : Int) + (b : Int)) / 2 < (m : Int) := by omega
  have c2 : ¬ (m : Int) > ((a : Int) + (b : Int)) / 2 := by omega
  go_enter Tryz.func94, Tryz.ntmps94
  go_wp2_with fail
  rw [HM.out]
  clear q1 r1 q2 r2 r3 r4 r5 r6 c1 c2 HM
  go_loopg [20, 21] (m - a) (fun kx s20 s21 wr => ∃ (i j : Nat), s20 = .int .i64 i ∧ s21 = .int .i64 j ∧ a ≤ i ∧ i ≤ j ∧ j ≤ m ∧ j - i ≤ kx ∧ Aside (SWK enc k w0 blk off d wr) ∧ Hid ((i = a ∨ ltOf cf d[mid + m - i]! d[i - 1]! = false) ∧ (j = m ∨ ltOf cf d[mid + m - 1 - j]! d[j]! = true)))
  case atStart => exact ⟨a, m, rfl, rfl, Nat.le_refl _, by omega, Nat.le_refl _, Nat.le_refl _, S0, .inl rfl, .inl rfl⟩
  case round =>
    clear S0
    obtain ⟨i, j, rfl, rfl, hmi, hij, hjb, hkx, S1, HP⟩ := hrel
    by_cases hlt : i < j
    · have hltz : (i : Int) < (j : Int) := by omega
      have rs : IntKind.i64.wrap ((i : Int) + (j : Int)) = (i : Int) + (j : Int) := by rw [IntKind.wrap_i64]; omega
      obtain ⟨h, hh1, hh2, HH⟩ : ∃ h : Nat, i ≤ h ∧ h < j ∧ Hid (((i : Int) + (j : Int)) / 2 = (h : Int)) := ⟨(i + j) / 2, by omega, by omega, (show _ = _ by omega)⟩
      go_wp2_with fail
      rw [HH.out]
      clear HH rs
      obtain ⟨q, hq, hqz⟩ : ∃ q : Nat, q + h + 1 = mid + m ∧ (mid : Int) + (m : Int) - 1 - (h : Int) = (q : Int) := ⟨mid + m - 1 - h, by omega, by omega⟩
      have rq : IntKind.i64.wrap (q : Int) = (q : Int) := by rw [IntKind.wrap_i64]; omega
      have eq : mid + m - 1 - h = q := by omega
      have EQ := Lib.hid eq
      clear eq
      cases hL : ltOf cf d[q]! d[h]! with
      | false =>
        have e1a : ((q : Int)).toNat = q := by omega
        have p1a : (0 : Int) ≤ (q : Int) := by omega
        have b1a : (q : Int) < (d.size : Int) := by omega
        have r1a : IntKind.i64.wrap ((q : Int)) = (q : Int) := by rw [IntKind.wrap_i64]; omega
        have e1c : ((h : Int)).toNat = h := by omega
        have p1c : (0 : Int) ≤ (h : Int) := by omega
        have b1c : (h : Int) < (d.size : Int) := by omega
        have r1c : IntKind.i64.wrap ((h : Int)) = (h : Int) := by rw [IntKind.wrap_i64]; omega
        obtain ⟨x1, hx1⟩ : ∃ x, x = d[q]! := ⟨_, rfl⟩
        obtain ⟨y1, hy1⟩ : ∃ x, x = d[h]! := ⟨_, rfl⟩
        have l1a := S1.out.ld R (by omega) Tryz.prog (q) (by omega)
        have l1b := S1.out.ld R (by omega) Tryz.prog (h) (by omega)
        rw [← hx1] at l1a
        rw [← hy1] at l1b
        have hc1 := S1.out.cmp HC.out (by omega) x1 y1
        have hv1 : ¬ cf x1 y1 < 0 := by rw [hx1, hy1]; exact of_decide_eq_false hL
        have hd1 : decide (cf x1 y1 < 0) = false := decide_eq_false hv1
        clear hx1 hy1
        try (go_wp2_with fail)
        go_quiet_grown (first | (go_at_fn g; refine Calls.grown_of (hc1 _ _)))
        have S2 : Aside (SWK enc k w0 blk off d (grow (wr.drewN nq) osq)) := S1.out.grown nq osq
        clear l1a l1b hc1 S1
        generalize grow (wr.drewN nq) osq = w2 at S2 ⊢
        clear nq osq
        go_wp2_with fail
        go_roundg (j - (h + 1))
        case measure => omega
        case rel => exact ⟨h + 1, j, by go_num, rfl, by omega, by omega, hjb, Nat.le_refl _, S2, .inr (by rw [show mid + m - (h + 1) = q by omega]; exact hL), HP.out.2⟩
      | true =>
        have e1a : ((q : Int)).toNat = q := by omega
        have p1a : (0 : Int) ≤ (q : Int) := by omega
        have b1a : (q : Int) < (d.size : Int) := by omega
        have r1a : IntKind.i64.wrap ((q : Int)) = (q : Int) := by rw [IntKind.wrap_i64]; omega
        have e1c : ((h : Int)).toNat = h := by omega
        have p1c : (0 : Int) ≤ (h : Int) := by omega
        have b1c : (h : Int) < (d.size : Int) := by omega
        have r1c : IntKind.i64.wrap ((h : Int)) = (h : Int) := by rw [IntKind.wrap_i64]; omega
        obtain ⟨x1, hx1⟩ : ∃ x, x = d[q]! := ⟨_, rfl⟩
        obtain ⟨y1, hy1⟩ : ∃ x, x = d[h]! := ⟨_, rfl⟩
        have l1a := S1.out.ld R (by omega) Tryz.prog (q) (by omega)
        have l1b := S1.out.ld R (by omega) Tryz.prog (h) (by omega)
        rw [← hx1] at l1a
        rw [← hy1] at l1b
        have hc1 := S1.out.cmp HC.out (by omega) x1 y1
        have hv1 : cf x1 y1 < 0 := by rw [hx1, hy1]; exact of_decide_eq_true hL
        have hd1 : decide (cf x1 y1 < 0) = true := decide_eq_true hv1
        clear hx1 hy1
        try (go_wp2_with fail)
        go_quiet_grown (first | (go_at_fn g; refine Calls.grown_of (hc1 _ _)))
        have S2 : Aside (SWK enc k w0 blk off d (grow (wr.drewN nq) osq)) := S1.out.grown nq osq
        clear l1a l1b hc1 S1
        generalize grow (wr.drewN nq) osq = w2 at S2 ⊢
        clear nq osq
        go_wp2_with fail
        go_roundg (h - i)
        case measure => omega
        case rel => exact ⟨i, h, rfl, rfl, hmi, by omega, by omega, Nat.le_refl _, S2, HP.out.1, .inr (by rw [EQ.out]; exact hL)⟩
    · have hltz : ¬ (i : Int) < (j : Int) := by omega
      obtain rfl : i = j := by omega
      obtain ⟨e, he⟩ : ∃ e, e + i = mid + m := ⟨mid + m - i, by omega⟩
      have hez : (mid : Int) + (m : Int) - (i : Int) = (e : Int) := by omega
      have r7 : IntKind.i64.wrap ((mid : Int) + (m : Int) - (i : Int)) = (mid : Int) + (m : Int) - (i : Int) := by rw [IntKind.wrap_i64]; omega
      have i1 : a ≤ i := by omega
      have i2 : i ≤ m := by omega
      have i3 : m ≤ e := by omega
      have i4 : e ≤ b := by omega
      have i5 : i ≤ mid := by omega
      have i6 : mid ≤ e := by omega
      have i7 : i + e = mid + m := by omega
      have HV : ∀ d1, (∀ q, gt d1 q = rt (gt d) i m e q) → Halves (ltOf cf) a i mid e b d1 := fun d1 h1 => by
        refine halves_of HS.out SA.out SB.out i1 i2 i3 i4 i7 ?_ ?_ h1
        · rcases HP.out.1 with h | h
          · first | (left; omega) | (right; left; omega)
          · right; right
            rw [show e = mid + m - i by omega]; exact h
        · rcases HP.out.2 with h | h
          · first | (left; omega) | (right; left; omega)
          · right; right
            show ltOf cf d[e - 1]! d[i]! = true
            rw [show e - 1 = mid + m - 1 - i by omega]; exact h
      have HVV := Lib.hid HV
      clear HV hmi hjb
      by_cases c1 : i < m
      · have c1z : (i : Int) < (m : Int) := by omega
        by_cases c2 : m < e
        · have c2z : (m : Int) < (e : Int) := by omega
          have hc := rot_any k aE zE enc g cb blk off cap i m e d0 d w0 wr R hs S1.out c1 c2 (by omega) hsz
          have HCC := Lib.hid hc
          clear hc S1
          go_wp2_with fail
          refine HCC.out.mono ?_
          rintro ex w1 ⟨rfl, d1, S2, h2, h3⟩
          have S1 : Aside _ := S2
          have HV := HVV.out d1 h2
          have P1 : PermIn a b d d1 := permIn_mono _ _ _ _ _ _ (by omega) (by omega) (by omega) h3
          have hz1 : d1.size = d.size := P1.1
          have HV2 := Lib.hid HV
          have P2 := Lib.hid P1
          clear S2 h2 h3 HCC HVV HV P1
          by_cases l1 : a < i
          · by_cases l2 : e < b
            · have k1 : (a : Int) < (i : Int) := by omega
              have k2 : (i : Int) < (mid : Int) := by omega
              have hc := IH.out a i mid d1 w1 (by omega) S1.out (by omega) (by omega) (by omega) (by omega) HV2.out.l1 HV2.out.l2
              have HCL := Lib.hid hc
              clear hc S1
              have k3 : (mid : Int) < (e : Int) := by omega
              have k4 : (e : Int) < (b : Int) := by omega
              go_wp2_with fail
              refine HCL.out.mono ?_
              rintro ex w2 ⟨rfl, d2, S2, h2p, h2s⟩
              have S3 : Aside _ := S2
              have HQ : Hid (_ ∧ _) := ⟨h2p, h2s⟩
              clear S2 h2p h2s HCL
              have hz2 : d2.size = d.size := HQ.out.1.1.trans P2.out.1
              have hc := IH.out mid e b d2 w2 (by omega) S3.out hz2 (by omega) (by omega) (by omega) (sorted_sameR HV2.out.r1 (fun r hr => HQ.out.1.2.1 r (.inr hr))) (sorted_sameR HV2.out.r2 (fun r hr => HQ.out.1.2.1 r (.inr (by omega))))
              have HCR := Lib.hid hc
              clear hc S3
              go_wp2_with fail
              refine HCR.out.mono ?_
              rintro ex w3 ⟨rfl, d3, S4, h3p, h3s⟩
              go_wp2_with fail
              go_end0
              have hj := halves_join HS.out HV2.out.x (by omega) (by omega) (by rw [P2.out.1]; omega) HQ.out.1 HQ.out.2 h3p h3s
              exact ⟨rfl, d3, S4, permIn_trans _ _ _ _ _ P2.out hj.1, hj.2⟩
            · have k1 : (a : Int) < (i : Int) := by omega
              have k2 : (i : Int) < (mid : Int) := by omega
              have hc := IH.out a i mid d1 w1 (by omega) S1.out (by omega) (by omega) (by omega) (by omega) HV2.out.l1 HV2.out.l2
              have HCL := Lib.hid hc
              clear hc S1
              have k3 : (mid : Int) < (e : Int) := by omega
              have k4 : ¬ (e : Int) < (b : Int) := by omega
              go_wp2_with fail
              refine HCL.out.mono ?_
              rintro ex w2 ⟨rfl, d2, S2, h2p, h2s⟩
              have S3 : Aside _ := S2
              have HQ : Hid (_ ∧ _) := ⟨h2p, h2s⟩
              clear S2 h2p h2s HCL
              go_wp2_with fail
              go_end0
              have hj := halves_join HS.out HV2.out.x (by omega) (by omega) (by rw [P2.out.1]; omega) HQ.out.1 HQ.out.2 (permIn_refl d2 mid b) (by have hx : e = b := (by omega); exact sorted_sameR (hx ▸ HV2.out.r1) (fun r hr => HQ.out.1.2.1 r (.inr hr)))
              exact ⟨rfl, d2, S3.out, permIn_trans _ _ _ _ _ P2.out hj.1, hj.2⟩
          · by_cases l2 : e < b
            · have k1 : ¬ (a : Int) < (i : Int) := by omega
              have k3 : (mid : Int) < (e : Int) := by omega
              have k4 : (e : Int) < (b : Int) := by omega
              go_wp2_with fail
              have S3 : Aside _ := S1.out
              have HQ : Hid (PermIn a mid d1 d1 ∧ SortedIn (ltOf cf) a mid d1) := ⟨permIn_refl _ _ _, (by have hx : i = a := (by omega); exact hx ▸ HV2.out.l2)⟩
              have hz2 : d1.size = d.size := HQ.out.1.1.trans P2.out.1
              have hc := IH.out mid e b d1 w1 (by omega) S3.out hz2 (by omega) (by omega) (by omega) (sorted_sameR HV2.out.r1 (fun r hr => HQ.out.1.2.1 r (.inr hr))) (sorted_sameR HV2.out.r2 (fun r hr => HQ.out.1.2.1 r (.inr (by omega))))
              have HCR := Lib.hid hc
              clear hc S3
              refine HCR.out.mono ?_
              rintro ex w3 ⟨rfl, d3, S4, h3p, h3s⟩
              go_wp2_with fail
              go_end0
              have hj := halves_join HS.out HV2.out.x (by omega) (by omega) (by rw [P2.out.1]; omega) HQ.out.1 HQ.out.2 h3p h3s
              exact ⟨rfl, d3, S4, permIn_trans _ _ _ _ _ P2.out hj.1, hj.2⟩
            · have k1 : ¬ (a : Int) < (i : Int) := by omega
              have k3 : (mid : Int) < (e : Int) := by omega
              have k4 : ¬ (e : Int) < (b : Int) := by omega
              go_wp2_with fail
              have S3 : Aside _ := S1.out
              have HQ : Hid (PermIn a mid d1 d1 ∧ SortedIn (ltOf cf) a mid d1) := ⟨permIn_refl _ _ _, (by have hx : i = a := (by omega); exact hx ▸ HV2.out.l2)⟩
              go_end0
              have hj := halves_join HS.out HV2.out.x (by omega) (by omega) (by rw [P2.out.1]; omega) HQ.out.1 HQ.out.2 (permIn_refl d1 mid b) (by have hx : e = b := (by omega); exact sorted_sameR (hx ▸ HV2.out.r1) (fun r hr => HQ.out.1.2.1 r (.inr hr)))
              exact ⟨rfl, d1, S3.out, permIn_trans _ _ _ _ _ P2.out hj.1, hj.2⟩
        · exfalso; omega
      · have c1z : ¬ (i : Int) < (m : Int) := by omega
        have HV2 := Lib.hid (HVV.out d (fun q => by rw [show i = m by omega]; exact (rt_none1 (gt d) m e q i3).symm))
        have P2 := Lib.hid (permIn_refl d a b)
        obtain ⟨w1, hw1⟩ : ∃ w1, w1 = wr := ⟨_, rfl⟩
        subst hw1
        by_cases l1 : i < mid
        · have k1 : (a : Int) < (i : Int) := by omega
          have k2 : (i : Int) < (mid : Int) := by omega
          have hc := IH.out a i mid d w1 (by omega) S1.out (by omega) (by omega) (by omega) (by omega) HV2.out.l1 HV2.out.l2
          have HCL := Lib.hid hc
          clear hc S1
          have k3 : ¬ (mid : Int) < (e : Int) := by omega
          go_wp2_with fail
          refine HCL.out.mono ?_
          rintro ex w2 ⟨rfl, d2, S2, h2p, h2s⟩
          have S3 : Aside _ := S2
          have HQ : Hid (_ ∧ _) := ⟨h2p, h2s⟩
          clear S2 h2p h2s HCL
          go_wp2_with fail
          go_end0
          have hj := halves_join HS.out HV2.out.x (by omega) (by omega) (by rw [P2.out.1]; omega) HQ.out.1 HQ.out.2 (permIn_refl d2 mid b) (by have hx : e = mid := (by omega); exact sorted_sameR (hx ▸ HV2.out.r2) (fun r hr => HQ.out.1.2.1 r (.inr hr)))
          exact ⟨rfl, d2, S3.out, permIn_trans _ _ _ _ _ P2.out hj.1, hj.2⟩
        · have k1 : (a : Int) < (i : Int) := by omega
          have k2 : ¬ (i : Int) < (mid : Int) := by omega
          have k3 : ¬ (mid : Int) < (e : Int) := by omega
          go_wp2_with fail
          have S3 : Aside _ := S1.out
          have HQ : Hid (PermIn a mid d d ∧ SortedIn (ltOf cf) a mid d) := ⟨permIn_refl _ _ _, (by have hx : i = mid := (by omega); exact hx ▸ HV2.out.l1)⟩
          go_end0
          have hj := halves_join HS.out HV2.out.x (by omega) (by omega) (by rw [P2.out.1]; omega) HQ.out.1 HQ.out.2 (permIn_refl d mid b) (by have hx : e = mid := (by omega); exact sorted_sameR (hx ▸ HV2.out.r2) (fun r hr => HQ.out.1.2.1 r (.inr hr)))
          exact ⟨rfl, d, S3.out, permIn_trans _ _ _ _ _ P2.out hj.1, hj.2⟩
end Go.Proofs.YtpcbccpobhdokaaGreatDoor

/- slices.stableCmpFunc and slices.SortStableFunc on metrics. -/
import Derived.Test.YtpcbccpobhdokaaGreatDoorS4
import Derived.Shelf.SlSortCmp.WholeK
import Derived.Ground.SlsfProg
set_option linter.unusedSimpArgs false
set_option linter.unusedVariables false
set_option linter.all false
namespace Go.Proofs.YtpcbccpobhdokaaGreatDoor
open Go.Shelf Go.RowKit Go.Lib Go.Sort
variable {α : Type} [Inhabited α]
theorem sym_any (k : Nat) (aE : ∀ w, (isAgg 37).run Tryz.prog w = .ok true w) (zE : ∀ w, (Go.sizeOf 37).run Tryz.prog w = .ok k w) (enc : α → List Value) (cf : α → α → Int) (hS : SWO (ltOf cf)) (g : Nat) (cb : Array Value) (eg : ∀ args w, (callFunc g args).run Tryz.prog w = .ok (.enter g args) w) (blk off cap : Nat) (d0 : Array α) (w0 : World)
    (R : RowK enc k w0 blk off d0) (hcmp : CmpLays Tryz.prog g cb enc k cf blk off d0.size w0) (hsz : d0.size < 4611686018427387904) :
    ∀ (F a m b : Nat) (d : Array α) (w : World), b - a < F → SWK enc k w0 blk off d w → d.size = d0.size → a < m → m < b → b ≤ d0.size → SortedIn (ltOf cf) a m d → SortedIn (ltOf cf) m b d →
      Calls Tryz.prog 94 #[.slice (some ⟨blk, off, none⟩) d0.size cap, .int .i64 a, .int .i64 m, .int .i64 b, .func (.func g) #[] cb] w fun e w' => e = .returned (.tuple #[]) ∧ ∃ d', SWK enc k w0 blk off d' w' ∧ PermIn a b d d' ∧ SortedIn (ltOf cf) a b d' := by
  intro F
  induction F with
  | zero => intro a m b d w h; omega
  | succ F ih =>
    intro a m b d w hF S hs h1 h2 h3 hA hB
    rw [← hs]
    by_cases c1 : m = a + 1
    · exact sym_one k aE zE enc cf hS g cb eg blk off cap a m b d0 d w0 w R hcmp hs.symm S c1 h2 (by omega) (by omega) hB
    · by_cases c2 : b = m + 1
      · exact sym_last k aE zE enc cf hS g cb eg blk off cap a m b d0 d w0 w R hcmp hs.symm S (by omega) c2 (by omega) (by omega) hA
      · have IH : ∀ (a' m' b' : Nat) (d' : Array α) (w' : World), b' - a' < b - a → SWK enc k w0 blk off d' w' → d'.size = d.size → a' < m' → m' < b' → b' ≤ d.size → SortedIn (ltOf cf) a' m' d' → SortedIn (ltOf cf) m' b' d' →
            Calls Tryz.prog 94 #[.slice (some ⟨blk, off, none⟩) d.size cap, .int .i64 a', .int .i64 m', .int .i64 b', .func (.func g) #[] cb] w' fun e w'' => e = .returned (.tuple #[]) ∧ ∃ d'', SWK enc k w0 blk off d'' w'' ∧ PermIn a' b' d' d'' ∧ SortedIn (ltOf cf) a' b' d'' :=
          fun a' m' b' d' w' q1 q2 q3 q4 q5 q6 q7 q8 => by
            rw [hs]
            exact ih a' m' b' d' w' (by omega) q2 (by omega) q4 q5 (by omega) q7 q8
        by_cases c3 : (a + b) / 2 < m
        · exact sym_genR k aE zE enc cf hS g cb eg blk off cap a m b d0 d w0 w R hcmp hs.symm S (by omega) (by omega) c3 (by omega) (by omega) hA hB IH
        · exact sym_genL k aE zE enc cf hS g cb eg blk off cap a m b d0 d w0 w R hcmp hs.symm S (by omega) (by omega) c3 (by omega) (by omega) hA hB IH
def Tryz.insM_ren : Go.Shelf.Ren := ⟨fun | 20 => 93 | n => n, fun | 24 => 37 | 22 => 22 | 3 => 3 | 25 => 69 | 4 => 4 | 0 => 0 | n => n, fun | n => n⟩
theorem Tryz.insM : Go.Proofs.SlLaysF0.n20 Tryz.prog Tryz.insM_ren := {
  mixed := by kernel_rfl
  f20 := ⟨Tryz.f93.name, by decide, Tryz.func93.trans (congrArg some (by kernel_rfl))⟩
  t0 := Tryz.underlying0
  a0 := Tryz.isAgg0
  z0 := Tryz.sizeOf0
  v0 := Tryz.zeroValue0
  t3 := Tryz.underlying3
  a3 := Tryz.isAgg3
  z3 := Tryz.sizeOf3
  v3 := Tryz.zeroValue3
  t4 := Tryz.underlying4
  a4 := Tryz.isAgg4
  z4 := Tryz.sizeOf4
  v4 := Tryz.zeroValue4
  t22 := Tryz.underlying22
  a22 := Tryz.isAgg22
  z22 := Tryz.sizeOf22
  v22 := Tryz.zeroValue22
  t25 := Tryz.underlying69
  a25 := Tryz.isAgg69
  z25 := Tryz.sizeOf69
  v25 := Tryz.zeroValue69 }
theorem ins_any (k : Nat) (aE : ∀ w, (isAgg 37).run Tryz.prog w = .ok true w) (zE : ∀ w, (Go.sizeOf 37).run Tryz.prog w = .ok k w) (enc : α → List Value) (cf : α → α → Int) (hS : SWO (ltOf cf)) (g : Nat) (cb : Array Value) (eg : ∀ args w, (callFunc g args).run Tryz.prog w = .ok (.enter g args) w) (blk off cap : Nat) (d0 : Array α) (w0 : World)
    (R : RowK enc k w0 blk off d0) (hcmp : CmpLays Tryz.prog g cb enc k cf blk off d0.size w0) (hsz : d0.size < 4611686018427387904) (a b : Nat) (d : Array α) (w : World) (S : SWK enc k w0 blk off d w) (hs : d.size = d0.size) (h1 : a ≤ b) (h2 : b ≤ d0.size) :
    Calls Tryz.prog 93 #[.slice (some ⟨blk, off, none⟩) d0.size cap, .int .i64 a, .int .i64 b, .func (.func g) #[] cb] w fun e w' => e = .returned (.tuple #[]) ∧ ∃ d', SWK enc k w0 blk off d' w' ∧ PermIn a b d d' ∧ SortedIn (ltOf cf) a b d' := by
  rw [← hs]
  refine (AnyQ.insertionSortCmpFunc_w Tryz.insM k aE zE enc cf g cb blk off cap a b d0 d w0 w eg hcmp R hs.symm S hS h1 (by omega) (by omega)).mono ?_
  rintro e w' ⟨rfl, h⟩
  have hh := insertionSort_holds hS d a b h1 (by omega)
  exact ⟨rfl, _, h, hh.1, hh.2⟩
end Go.Proofs.YtpcbccpobhdokaaGreatDoor
namespace Go.Proofs.YtpcbccpobhdokaaGreatDoor
open Go.Shelf Go.RowKit Go.Lib Go.Sort
variable {α : Type} [Inhabited α]
inductive Rn (lt : α → α → Bool) (bs n : Nat) (d : Array α) : Nat → Prop
  | done {a : Nat} (h : n ≤ a) : Rn lt bs n d a
  | step {a : Nat} (h : SortedIn lt a (min (a + bs) n) d) (r : Rn lt bs n d (a + bs)) : Rn lt bs n d a
theorem Rn.inv {lt : α → α → Bool} {bs n : Nat} {d : Array α} {a : Nat} (h : Rn lt bs n d a) (ha : a < n) : SortedIn lt a (min (a + bs) n) d ∧ Rn lt bs n d (a + bs) := by
  cases h with
  | done h => omega
  | step h r => exact ⟨h, r⟩
theorem sorted_eq {lt : α → α → Bool} {lo hi : Nat} {d1 d2 : Array α} (h : SortedIn lt lo hi d1) (he : ∀ r, lo ≤ r → r < hi → d2[r]! = d1[r]!) : SortedIn lt lo hi d2 := fun p q c1 c2 c3 => by
  rw [he p c1 (by omega), he q (by omega) c3]; exact h p q c1 c2 c3
theorem Rn.same {lt : α → α → Bool} {bs n : Nat} {d d' : Array α} {a : Nat} (h : Rn lt bs n d a) (he : ∀ r, a ≤ r → d'[r]! = d[r]!) : Rn lt bs n d' a := by
  induction h with
  | done h => exact .done h
  | step h r ih => exact .step (sorted_eq h fun r h1 _ => he r h1) (ih fun r hr => he r (by omega))
def Pre (lt : α → α → Bool) (bs n : Nat) (d : Array α) (a : Nat) : Prop := ∀ d' : Array α, (∀ p, p < a → d'[p]! = d[p]!) → Rn lt bs n d' a → Rn lt bs n d' 0
theorem Pre.zero {lt : α → α → Bool} {bs n : Nat} {d : Array α} : Pre lt bs n d 0 := fun _ _ h => h
theorem Pre.next {lt : α → α → Bool} {bs n : Nat} {d d1 : Array α} {a : Nat} (h : Pre lt bs n d a) (he : ∀ p, p < a → d1[p]! = d[p]!) (hs : SortedIn lt a (a + bs) d1) (hn : a + bs ≤ n) : Pre lt bs n d1 (a + bs) := fun d' h1 h2 =>
  h d' (fun p hp => (h1 p (by omega)).trans (he p hp)) (.step (by rw [Nat.min_eq_left hn]; exact sorted_eq hs fun r _ hr => h1 r hr) h2)
theorem Pre.last {lt : α → α → Bool} {bs n : Nat} {d d1 : Array α} {a : Nat} (h : Pre lt bs n d a) (he : ∀ p, p < a → d1[p]! = d[p]!) (hs : SortedIn lt a n d1) (hn : n ≤ a + bs) : Rn lt bs n d1 0 :=
  h d1 he (.step (by rw [Nat.min_eq_right hn]; exact hs) (.done hn))
theorem two_blocks {lt : α → α → Bool} {bs n : Nat} {d : Array α} {a : Nat} (h : Rn lt bs n d a) (hn : a + bs < n) : SortedIn lt a (a + bs) d ∧ SortedIn lt (a + bs) (min (a + bs + bs) n) d ∧ Rn lt bs n d (a + bs + bs) := by
  obtain ⟨h1, h2⟩ := h.inv (by omega)
  obtain ⟨h3, h4⟩ := h2.inv hn
  rw [Nat.min_eq_left (by omega)] at h1
  exact ⟨h1, h3, h4⟩
theorem one_block {lt : α → α → Bool} {bs n : Nat} {d : Array α} {a : Nat} (h : Rn lt bs n d a) (hn : n ≤ a + bs) : SortedIn lt a n d := by
  by_cases ha : a < n
  · have := (h.inv ha).1
    rwa [Nat.min_eq_right hn] at this
  · exact fun p q h1 h2 h3 => by omega
set_option maxHeartbeats 4000000 in
set_option maxRecDepth 1000000 in
theorem stable_any (k : Nat) (aE : ∀ w, (isAgg 37).run Tryz.prog w = .ok true w) (zE : ∀ w, (Go.sizeOf 37).run Tryz.prog w = .ok k w) (enc : α → List Value) (cf : α → α → Int) (hS : SWO (ltOf cf)) (g : Nat) (cb : Array Value) (eg : ∀ args w, (callFunc g args).run Tryz.prog w = .ok (.enter g args) w) (blk off cap n : Nat) (d : Array α) (w : World)
    (R : RowK enc k w blk off d) (hcmp : CmpLays Tryz.prog g cb enc k cf blk off d.size w) (hn : d.size = n) (hsz : n < 1000000000) :
    Calls Tryz.prog 57 #[.slice (some ⟨blk, off, none⟩) n cap, .int .i64 n, .func (.func g) #[] cb] w fun e w' => e = .returned (.tuple #[]) ∧ ∃ d', SWK enc k w blk off d' w' ∧ PermIn 0 n d d' ∧ SortedIn (ltOf cf) 0 n d' := by
  have mixed : Tryz.prog.follows .mixedOrders = true := by kernel_rfl
  have S0 : Aside (SWK enc k w blk off d w) := SWK.start R.hH
  have SYM := Lib.hid (sym_any k aE zE enc cf hS g cb eg blk off cap d w R hcmp (by omega))
  have INS := Lib.hid (ins_any k aE zE enc cf hS g cb eg blk off cap d w R hcmp (by omega))
  rw [hn] at SYM INS
  have HN := Lib.hid hn
  clear R hcmp hn hS
  go_enter Tryz.func57, Tryz.ntmps57
  go_wp2
  go_loopg [7, 8] (n + 20) (fun kx s7 s8 wr => ∃ (a b : Nat) (dk : Array α), s7 = .int .i64 a ∧ s8 = .int .i64 b ∧ a + 20 ≤ b ∧ b ≤ a + 20 ∧ a ≤ n ∧ n + 20 - b ≤ kx ∧ Aside (SWK enc k w blk off dk wr) ∧ Hid (PermIn 0 n d dk ∧ Pre (ltOf cf) 20 n dk a))
  case atStart => exact ⟨0, 20, d, rfl, rfl, by omega, by omega, by omega, by omega, S0, permIn_refl _ _ _, Pre.zero⟩
  case round =>
    clear S0
    obtain ⟨a, b, dk, rfl, rfl, hab1, hab2, han, hkx, S1, HP⟩ := hrel
    by_cases hbn : b ≤ n
    · have hbz : (b : Int) ≤ (n : Int) := by omega
      have r1 : IntKind.i64.wrap ((b : Int) + 20) = (b : Int) + 20 := by rw [IntKind.wrap_i64]; omega
      have HCC := Lib.hid (INS.out a b dk wr S1.out (HP.out.1.1.trans HN.out) (by omega) hbn)
      go_wp2_with fail
      refine HCC.out.mono ?_
      rintro e w1 ⟨rfl, d1, S2, h1, h2⟩
      have HQ : Hid (_ ∧ _) := ⟨h1, h2⟩
      have S3 : Aside _ := S2
      clear h1 h2 S2 HCC S1
      go_wp2_with fail
      go_roundg (n + 20 - (b + 20))
      case measure => omega
      case rel =>
        have e : b = a + 20 := by omega
        refine ⟨b, b + 20, d1, rfl, by go_num, by omega, by omega, hbn, Nat.le_refl _, S3, permIn_trans _ _ _ _ _ HP.out.1 (permIn_mono _ _ _ _ _ _ (Nat.zero_le _) (by omega) (by rw [HP.out.1.1, HN.out]; omega) HQ.out.1), ?_⟩
        rw [e]
        exact HP.out.2.next (fun p hp => HQ.out.1.2.1 p (.inl hp)) (by rw [← e]; exact HQ.out.2) (by omega)
    · have hbz : ¬ (b : Int) ≤ (n : Int) := by omega
      have HCC := Lib.hid (INS.out a n dk wr S1.out (HP.out.1.1.trans HN.out) han (Nat.le_refl _))
      go_wp2_with fail
      refine HCC.out.mono ?_
      rintro e w1 ⟨rfl, d1, S2, h1, h2⟩
      have HQ : Hid (PermIn 0 n d d1 ∧ Rn (ltOf cf) 20 n d1 0) := ⟨permIn_trans _ _ _ _ _ HP.out.1 (permIn_mono _ _ _ _ _ _ (Nat.zero_le _) (Nat.le_refl _) (by rw [HP.out.1.1, HN.out]; omega) h1), HP.out.2.last (fun p hp => h1.2.1 p (.inl hp)) h2 (by omega)⟩
      have S3 : Aside (SWK enc k w blk off d1 w1) := S2
      clear h1 h2 S2 HCC S1 HP
      go_wp2_with fail
      go_loopg [6] (n) (fun ky s6 wr => ∃ (bs : Nat) (dk : Array α), s6 = .int .i64 bs ∧ 20 ≤ bs ∧ n - bs ≤ ky ∧ bs ≤ n + n + 20 ∧ Aside (SWK enc k w blk off dk wr) ∧ Hid (PermIn 0 n d dk ∧ Rn (ltOf cf) bs n dk 0))
      case atStart => exact ⟨20, d1, rfl, by omega, by omega, by omega, S3, HQ.out⟩
      case round =>
        clear S3 HQ
        obtain ⟨bs, dj, rfl, hbs, hky, hbb, S4, HR⟩ := hrel
        have r2 : IntKind.i64.wrap (2 * (bs : Int)) = 2 * (bs : Int) := by rw [IntKind.wrap_i64]; omega
        by_cases hlt : bs < n
        · have hltz : (bs : Int) < (n : Int) := by omega
          go_wp2_with fail
          go_loopg [7, 8] (n) (fun kz s7 s8 wr => ∃ (a b : Nat) (dk : Array α), s7 = .int .i64 a ∧ s8 = .int .i64 b ∧ a + 2 * bs ≤ b ∧ b ≤ a + 2 * bs ∧ a ≤ n ∧ n - a ≤ kz ∧ Aside (SWK enc k w blk off dk wr) ∧ Hid (PermIn 0 n d dk ∧ Pre (ltOf cf) (bs + bs) n dk a ∧ Rn (ltOf cf) bs n dk a))
          case atStart => exact ⟨0, 2 * bs, dj, rfl, by push_cast; rfl, by omega, by omega, by omega, by omega, S4, HR.out.1, Pre.zero, HR.out.2⟩
          case round =>
            clear S4 HR
            obtain ⟨a', b', dk, rfl, rfl, kab1, kab2, kan, kkx, S1, HP⟩ := hrel
            have r3 : IntKind.i64.wrap ((a' : Int) + (bs : Int)) = (a' : Int) + (bs : Int) := by rw [IntKind.wrap_i64]; omega
            by_cases kbn : b' ≤ n
            · have kbz : (b' : Int) ≤ (n : Int) := by omega
              have r4 : IntKind.i64.wrap ((b' : Int) + 2 * (bs : Int)) = (b' : Int) + 2 * (bs : Int) := by rw [IntKind.wrap_i64]; omega
              have hb := two_blocks HP.out.2.2 (by omega)
              have hc := SYM.out (b' - a' + 1) a' (a' + bs) b' dk wr (by omega) S1.out (HP.out.1.1.trans HN.out) (by omega) (by omega) kbn hb.1 (by rw [show b' = min (a' + bs + bs) n by omega]; exact hb.2.1)
              rw [show ((a' + bs : Nat) : Int) = (a' : Int) + (bs : Int) by omega] at hc
              have HCC := Lib.hid hc
              have HB := Lib.hid hb.2.2
              clear hc hb
              go_wp2_with fail
              refine HCC.out.mono ?_
              rintro e w2 ⟨rfl, d2, S2, h1, h2⟩
              have HQ : Hid (_ ∧ _) := ⟨h1, h2⟩
              have S3 : Aside _ := S2
              clear h1 h2 S2 HCC S1
              go_wp2_with fail
              go_roundg (n - b')
              case measure => omega
              case rel =>
                have e : b' = a' + (bs + bs) := by omega
                refine ⟨b', b' + 2 * bs, d2, rfl, by push_cast; rfl, by omega, by omega, kbn, Nat.le_refl _, S3, permIn_trans _ _ _ _ _ HP.out.1 (permIn_mono _ _ _ _ _ _ (Nat.zero_le _) (by omega) (by rw [HP.out.1.1, HN.out]; omega) HQ.out.1), ?_, ?_⟩
                · rw [e]
                  exact HP.out.2.1.next (fun p hp => HQ.out.1.2.1 p (.inl hp)) (by rw [← e]; exact HQ.out.2) (by omega)
                · rw [show b' = a' + bs + bs by omega]
                  exact HB.out.same (fun r hr => HQ.out.1.2.1 r (.inr (by omega)))
            · have kbz : ¬ (b' : Int) ≤ (n : Int) := by omega
              have r5 : IntKind.i64.wrap ((bs : Int) * 2) = (bs : Int) * 2 := by rw [IntKind.wrap_i64]; omega
              by_cases hm : a' + bs < n
              · have hmz : (a' : Int) + (bs : Int) < (n : Int) := by omega
                have hb := two_blocks HP.out.2.2 hm
                have hc := SYM.out (n - a' + 1) a' (a' + bs) n dk wr (by omega) S1.out (HP.out.1.1.trans HN.out) (by omega) hm (Nat.le_refl _) hb.1 (by have h := hb.2.1; rwa [Nat.min_eq_right (by omega)] at h)
                rw [show ((a' + bs : Nat) : Int) = (a' : Int) + (bs : Int) by omega] at hc
                have HCC := Lib.hid hc
                clear hc hb
                go_wp2_with fail
                refine HCC.out.mono ?_
                rintro e w2 ⟨rfl, d2, S2, h1, h2⟩
                have HQ : Hid (PermIn 0 n d d2 ∧ Rn (ltOf cf) (bs + bs) n d2 0) := ⟨permIn_trans _ _ _ _ _ HP.out.1 (permIn_mono _ _ _ _ _ _ (Nat.zero_le _) (Nat.le_refl _) (by rw [HP.out.1.1, HN.out]; omega) h1), HP.out.2.1.last (fun p hp => h1.2.1 p (.inl hp)) h2 (by omega)⟩
                have S3 : Aside _ := S2
                clear h1 h2 S2 HCC S1
                go_wp2_with fail
                go_roundg (n - (bs + bs))
                case measure => omega
                case rel => exact ⟨bs + bs, d2, by first | rfl | (congr 1; omega), by omega, Nat.le_refl _, by omega, S3, HQ.out⟩
              · have hmz : ¬ (a' : Int) + (bs : Int) < (n : Int) := by omega
                have HQ : Hid (PermIn 0 n d dk ∧ Rn (ltOf cf) (bs + bs) n dk 0) := ⟨HP.out.1, HP.out.2.1.last (fun p hp => rfl) (one_block HP.out.2.2 (by omega)) (by omega)⟩
                go_wp2_with fail
                go_roundg (n - (bs + bs))
                case measure => omega
                case rel => exact ⟨bs + bs, dk, by first | rfl | (congr 1; omega), by omega, Nat.le_refl _, by omega, S1, HQ.out⟩
        · have hltz : ¬ (bs : Int) < (n : Int) := by omega
          go_wp2_with fail
          go_end0
          exact ⟨rfl, dj, S4.out, HR.out.1, one_block HR.out.2 (by omega)⟩
set_option maxHeartbeats 4000000 in
set_option maxRecDepth 1000000 in
theorem sortStable_any (k : Nat) (aE : ∀ w, (isAgg 37).run Tryz.prog w = .ok true w) (zE : ∀ w, (Go.sizeOf 37).run Tryz.prog w = .ok k w) (enc : α → List Value) (cf : α → α → Int) (hS : SWO (ltOf cf)) (g : Nat) (cb : Array Value) (eg : ∀ args w, (callFunc g args).run Tryz.prog w = .ok (.enter g args) w) (blk off cap n : Nat) (d : Array α) (w : World)
    (R : RowK enc k w blk off d) (hcmp : CmpLays Tryz.prog g cb enc k cf blk off d.size w) (hn : d.size = n) (hsz : n < 1000000000) :
    Calls Tryz.prog 24 #[.slice (some ⟨blk, off, none⟩) n cap, .func (.func g) #[] cb] w fun e w' => e = .returned (.tuple #[]) ∧ ∃ d', SWK enc k w blk off d' w' ∧ PermIn 0 n d d' ∧ SortedIn (ltOf cf) 0 n d' := by
  have HCC := Lib.hid (stable_any k aE zE enc cf hS g cb eg blk off cap n d w R hcmp hn hsz)
  clear R hcmp hS
  go_enter Tryz.func24, Tryz.ntmps24
  go_wp2_with fail
  refine HCC.out.mono ?_
  rintro e w1 ⟨rfl, d1, S2, h1, h2⟩
  go_wp2_with fail
  go_end0
  exact ⟨rfl, d1, S2, h1, h2⟩
end Go.Proofs.YtpcbccpobhdokaaGreatDoor

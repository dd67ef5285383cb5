/- Reading a number: ReadInt; opening a frame: Open. -/
import Derived.Test.YtfafhdganloipaaGreatDoorW8
namespace Go.Proofs.YtfafhdganloipaaGreatDoor
open Go.RowKit Go.Shelf
attribute [local go_sem] Oper.semAt_some
def ReadPost (s : List UInt8) (w : World) (e : Ending) (w' : World) : Prop :=
  Below w.heap.size w w' ∧ ((∃ n k, readI s = some (n, k) ∧ e = .returned (.tuple #[.int .i64 n, .int .i64 (k : Int), .int .i64 0])) ∨
    (readI s = none ∧ ∃ x, x ≠ 0 ∧ e = .returned (.tuple #[.int .i64 0, .int .i64 0, .int .i64 x])))
set_option maxRecDepth 100000 in
set_option maxHeartbeats 1000000 in
theorem readInt_any (s : List UInt8) (hs : s.length ≤ 1000000) (w : World) : Calls Tryz.prog 37 #[.string ⟨s.toArray⟩] w (ReadPost s w) := by
  have HR : Hid (RdAt (w.alloc (.cells #[.string ⟨s.toArray⟩, .int .i64 0, .int .i64 0] 148)) w.heap.size s 0 0) := World.alloc_heap_new w _
  go_enter Tryz.func37, Tryz.ntmps37
  go_wp2_with fail
  refine (integer_any s hs w.heap.size _ HR.out).mono ?_
  rintro e w1 ⟨hb, (⟨n, k, h1, rfl, h2, h3⟩ | ⟨h1, ⟨n, rfl⟩, x, hx, h2⟩)⟩
  · have H1 := Lib.hid h1
    have HB := Lib.hid hb
    clear h1 hb
    go_wp2_with fail
    go_quiet (fail)
    go_wp2_with fail
    refine bodyPost_ret (by (simp [results, Tryz.results37, go_sem, *]; try rfl)) rfl ?_
    exact ⟨below_drewN (((Below.refl _ w).alloc (Nat.le_refl _) _).trans HB.out) _, .inl ⟨n, k, H1.out, rfl⟩⟩
  · have H1 := Lib.hid h1
    have HB := Lib.hid hb
    have HX := Lib.hid hx
    have hxb : (x == 0) = false := by simpa using hx
    clear h1 hb hx
    go_wp2_with fail
    go_quiet (fail)
    go_wp2_with fail
    refine bodyPost_ret (by (simp [results, Tryz.results37, go_sem, *]; try rfl)) rfl ?_
    exact ⟨below_drewN (((Below.refl _ w).alloc (Nat.le_refl _) _).trans HB.out) _, .inr ⟨H1.out, x, HX.out, rfl⟩⟩
theorem readI_k {s : List UInt8} {n : Int} {k : Nat} (h : readI s = some (n, k)) : k ≤ 9 ∧ k ≤ s.length := by
  unfold readI at h
  cases hr : rdG 9 0 s with
  | none => rw [hr] at h; cases h
  | some x =>
    obtain ⟨v, k1⟩ := x
    rw [hr] at h
    dsimp only at h
    obtain ⟨p, b, r, e, rfl, hk, _⟩ := rdG_shape _ _ _ hr
    split at h
    · cases h
    · split at h
      · obtain ⟨_, rfl⟩ : unzig v = n ∧ p.length + 1 = k := by simpa using h
        refine ⟨hk, ?_⟩
        rw [e]
        simp
      · cases h
theorem readInt_ok {s : List UInt8} {n : Int} {k : Nat} (hr : readI s = some (n, k)) (hs : s.length ≤ 1000000) (w : World) : Calls Tryz.prog 37 #[.string ⟨s.toArray⟩] w fun e w' =>
    e = .returned (.tuple #[.int .i64 n, .int .i64 (k : Int), .int .i64 0]) ∧ Below w.heap.size w w' := by
  refine (readInt_any s hs w).mono ?_
  rintro e w1 ⟨hb, (⟨n1, k1, h1, rfl⟩ | ⟨h1, x, hx, rfl⟩)⟩
  · rw [hr] at h1
    simp only [Option.some.injEq, Prod.mk.injEq] at h1
    obtain ⟨rfl, rfl⟩ := h1
    exact ⟨rfl, hb⟩
  · rw [hr] at h1; cases h1
theorem tail_b (HT : TableOk) (b : ByteArray) (hb : b.size ≤ 1000000) (w : World) : Calls Tryz.prog 36 #[.string b] w fun e w' => e = .returned (.string ⟨(tailL b.data.toList).toArray⟩) ∧ Below w.heap.size w w' := tail_any HT b.data.toList hb w
theorem ext_le (b : ByteArray) (i j : Nat) {N : Nat} (h : b.size ≤ N) : (b.extract i j).size ≤ N := by rw [ByteArray.size_extract]; omega
theorem bt2 {W0 w1 w2 : World} (h : Below W0.heap.size W0 w1) (k : Below w1.heap.size w1 w2) : Below W0.heap.size W0 w2 := bt h k
theorem ext_eq (s : List UInt8) (a : Nat) : ((⟨s.toArray⟩ : ByteArray).extract a (a + 4)).toList = (s.drop a).take 4 := by
  rw [ByteArray.toList_eq]
  show ((⟨s.toArray⟩ : ByteArray).extract a (a + 4)).data.toList = _
  rw [ByteArray.data_extract]
  simp
def OpenPost (s : List UInt8) (w : World) (e : Ending) (w' : World) : Prop :=
  Below w.heap.size w w' ∧ ((∃ d z, openE s = some (d, z) ∧ ∃ V, e = .returned (.tuple #[.string V, .int .i64 (z : Int), .int .i64 0])) ∨
    (openE s = none ∧ ∃ x, x ≠ 0 ∧ e = .returned (.tuple #[.string ⟨#[]⟩, .int .i64 0, .int .i64 x])))
theorem open_none1 {s : List UInt8} (h : readI s = none) : openE s = none := by unfold openE; rw [h]
theorem open_none2 {s : List UInt8} {n : Int} {k : Nat} (h : readI s = some (n, k)) (h2 : n < 0 ∨ 65536 < n) : openE s = none := by unfold openE; rw [h]; exact if_pos h2
theorem open_none3 {s : List UInt8} {n : Int} {k : Nat} (h : readI s = some (n, k)) (h2 : ¬ (n < 0 ∨ 65536 < n)) (h3 : s.length < k + n.toNat + 4) : openE s = none := by
  unfold openE
  rw [h]
  exact (if_neg h2).trans (if_pos h3)
theorem open_none4 {s : List UInt8} {n : Int} {k : Nat} (h : readI s = some (n, k)) (h2 : ¬ (n < 0 ∨ 65536 < n)) (h3 : ¬ s.length < k + n.toNat + 4) (h4 : tailL (s.take (k + n.toNat)) ≠ (s.drop (k + n.toNat)).take 4) : openE s = none := by
  unfold openE
  rw [h]
  exact (if_neg h2).trans ((if_neg h3).trans (if_pos h4))
theorem open_some {s : List UInt8} {n : Int} {k : Nat} (h : readI s = some (n, k)) (h2 : ¬ (n < 0 ∨ 65536 < n)) (h3 : ¬ s.length < k + n.toNat + 4) (h4 : tailL (s.take (k + n.toNat)) = (s.drop (k + n.toNat)).take 4) : openE s = some ((s.take (k + n.toNat)).drop k, k + n.toNat + 4) := by
  unfold openE
  rw [h]
  exact (if_neg h2).trans ((if_neg h3).trans (if_neg (by simpa using h4)))
set_option maxRecDepth 100000 in
set_option maxHeartbeats 1000000 in
theorem open_any (HT : TableOk) (s : List UInt8) (hs : s.length ≤ 900000) (w : World) : Calls Tryz.prog 15 #[.string ⟨s.toArray⟩] w (OpenPost s w) := by
  have hl := ba_size s
  cases hr : readI s with
  | none =>
    go_enter Tryz.func15, Tryz.ntmps15
    go_wp2_with fail
    refine (readInt_any s (by omega) _).mono ?_
    rintro e w1 ⟨hb, (⟨n, k, h1, rfl⟩ | ⟨h1, x, hx, rfl⟩)⟩
    · rw [hr] at h1; cases h1
    have hxb : (x == 0) = false := by simpa using hx
    have HX := Lib.hid hx
    clear hx
    go_wp2_with fail
    refine bodyPost_ret (by (simp [results, Tryz.results15, go_sem, *]; try rfl)) rfl ?_
    exact ⟨hb, .inr ⟨open_none1 hr, x, HX.out, rfl⟩⟩
  | some x =>
    obtain ⟨n, k⟩ := x
    obtain ⟨hk9, hks⟩ := readI_k hr
    by_cases h2 : n < 0 ∨ 65536 < n
    · have HO := Lib.hid (open_none2 hr h2)
      have hdd : (decide (n < 0) || decide (65536 < n)) = true := by simpa using h2
      by_cases h0 : n < 0
      · go_enter Tryz.func15, Tryz.ntmps15
        go_wp2_with fail
        refine (readInt_ok hr (by omega) _).mono ?_
        rintro e w1 ⟨rfl, hb⟩
        go_wp2_with fail
        refine bodyPost_ret (by (simp [results, Tryz.results15, go_sem, *]; try rfl)) rfl ?_
        exact ⟨hb, .inr ⟨HO.out, 2, by decide, rfl⟩⟩
      · have h65 : 65536 < n := by omega
        go_enter Tryz.func15, Tryz.ntmps15
        go_wp2_with fail
        refine (readInt_ok hr (by omega) _).mono ?_
        rintro e w1 ⟨rfl, hb⟩
        go_wp2_with fail
        refine bodyPost_ret (by (simp [results, Tryz.results15, go_sem, *]; try rfl)) rfl ?_
        exact ⟨hb, .inr ⟨HO.out, 2, by decide, rfl⟩⟩
    · obtain ⟨m, rfl⟩ := Int.eq_ofNat_of_zero_le (show 0 ≤ n by omega)
      have hm : m ≤ 65536 := by omega
      by_cases h3 : s.length < k + m + 4
      · have HO := Lib.hid (open_none3 hr h2 h3)
        go_enter Tryz.func15, Tryz.ntmps15
        go_wp2_with fail
        refine (readInt_ok hr (by omega) _).mono ?_
        rintro e w1 ⟨rfl, hb⟩
        clear hr h2
        go_wp2_with fail
        refine bodyPost_ret (by (simp [results, Tryz.results15, go_sem, *]; try rfl)) rfl ?_
        exact ⟨hb, .inr ⟨HO.out, 12, by decide, rfl⟩⟩
      · have HO : Hid (∀ _ : tailL (s.take (k + m)) ≠ (s.drop (k + m)).take 4, openE s = none) := fun h => open_none4 hr h2 h3 h
        have HO2 : Hid (∀ _ : tailL (s.take (k + m)) = (s.drop (k + m)).take 4, openE s = some ((s.take (k + m)).drop k, k + m + 4)) := fun h => open_some hr h2 h3 h
        go_enter Tryz.func15, Tryz.ntmps15
        go_wp2_with fail
        refine (readInt_ok hr (by omega) _).mono ?_
        rintro e w1 ⟨rfl, hb⟩
        clear hr h2
        have i3 : (k : Int) + m + 4 ≤ s.length := by omega
        clear h3
        have j0 : (0 : Int) ≤ (k : Int) + m := by omega
        have j1 : (k : Int) + m ≤ s.length := by omega
        have j2 : (k : Int) + m ≤ (k : Int) + m + 4 := by omega
        have j3 : (0 : Int) ≤ (k : Int) + m + 4 := by omega
        have j4 := wrap_s (n := (k : Int) + m) (by omega) (by omega)
        have j5 := wrap_s (n := (k : Int) + m + 4) (by omega) (by omega)
        have hls : (⟨s.toArray⟩ : ByteArray).size ≤ 1000000 := by rw [hl]; omega
        go_wp2_with fail
        go_region_held3 (fun w' => Below w1.heap.size w1 w')
          (first | exact Below.refl _ _ | exact Below.drew (Below.refl _ _) | exact below_drewN (Below.refl _ _) _ | assumption | exact Below.drew (by assumption) | exact below_drewN (by assumption) _)
          (first
           | (go_at_call 36; refine (tail_b HT _ (ext_le _ _ _ hls) _).mono ?_; rintro e w2 ⟨rfl, hb2⟩; have hS2 := bt2 (W0 := w1) (by first | exact Below.refl _ _ | exact Below.drew (Below.refl _ _) | exact below_drewN (Below.refl _ _) _ | assumption | exact Below.drew (by assumption) | exact below_drewN (by assumption) _) hb2; clear hb2))
        have hT : ((k : Int) + m).toNat = k + m := by omega
        have hT4 : ((k : Int) + m + 4).toNat = k + m + 4 := by omega
        have HE := Lib.hid (ext_eq s (k + m))
        have HS := Lib.hid hS2
        clear hS2
        simp only [hT, hT4]
        rw [HE.out]
        cases hq : (tailL (s.take (k + m)) == (s.drop (k + m)).take 4)
        · have HO3 := Lib.hid (HO.out (by simpa using hq))
          clear hq HO HO2
          simp only [Bool.not_false]
          go_wp2_with fail
          refine bodyPost_ret (by (simp [results, Tryz.results15, go_sem, *]; try rfl)) rfl ?_
          exact ⟨bt hb HS.out, .inr ⟨HO3.out, 13, by decide, rfl⟩⟩
        · have HO3 := Lib.hid (HO2.out (by simpa using hq))
          clear hq HO HO2
          simp only [Bool.not_true]
          go_wp2_with fail
          refine bodyPost_ret (by (simp [results, Tryz.results15, go_sem, *]; try rfl)) rfl ?_
          exact ⟨bt hb HS.out, .inl ⟨_, _, HO3.out, _, by simp; rfl⟩⟩
end Go.Proofs.YtfafhdganloipaaGreatDoor

/- Reading a number: integer, ReadInt. -/
import Derived.Test.YtfafhdganloipaaGreatDoorW7
import Derived.Test.YtfafhdganloipaaGreatDoorP4
namespace Go.Proofs.YtfafhdganloipaaGreatDoor
open Go.RowKit Go.Shelf
attribute [local go_sem] Oper.semAt_some
/-- a reader -/
def RdAt (w : World) (rb : Nat) (s : List UInt8) (at_ er : Int) : Prop := w.heap[rb]? = some (.cells #[.string ⟨s.toArray⟩, .int .i64 at_, .int .i64 er] 148 (0, 0))
theorem RdAt.c0 {w : World} {rb : Nat} {s : List UInt8} {a e : Int} (h : RdAt w rb s a e) : w.cell? ⟨rb, 0, none⟩ = some (.string ⟨s.toArray⟩) := cell_of_row _ _ _ _ _ _ h
theorem RdAt.c1 {w : World} {rb : Nat} {s : List UInt8} {a e : Int} (h : RdAt w rb s a e) : w.cell? ⟨rb, 1, none⟩ = some (.int .i64 a) := cell_of_row _ _ _ _ _ _ h
theorem RdAt.c2 {w : World} {rb : Nat} {s : List UInt8} {a e : Int} (h : RdAt w rb s a e) : w.cell? ⟨rb, 2, none⟩ = some (.int .i64 e) := cell_of_row _ _ _ _ _ _ h
theorem RdAt.fz {w : World} {rb : Nat} {s : List UInt8} {a e : Int} (h : RdAt w rb s a e) (j : Nat) : w.frozen? ⟨rb, j, none⟩ = false := frozen_of_row _ _ j _ _ h
theorem RdAt.drewN {w : World} {rb : Nat} {s : List UInt8} {a e : Int} (h : RdAt w rb s a e) (q : Nat) : RdAt (w.drewN q) rb s a e := h
theorem fail_any (x : Int) (rb : Nat) (s : List UInt8) (a : Int) (w : World) (h : RdAt w rb s a 0) : Calls Tryz.prog 40 #[.pointer (some ⟨rb, 0, none⟩), .int .i64 x] w fun e w' => e = .returned (.tuple #[]) ∧ w' = w.setCell ⟨rb, 2, none⟩ (.int .i64 x) := by
  have h2 := h.c2
  have hf := h.fz 2
  go_enter Tryz.func40, Tryz.ntmps40
  go_wp2_with fail
  go_end0
  exact ⟨rfl, rfl⟩
theorem rest_any (rb : Nat) (s : List UInt8) (hs : s.length ≤ 1000000) (w : World) (h : RdAt w rb s 0 0) : Calls Tryz.prog 39 #[.pointer (some ⟨rb, 0, none⟩)] w fun e w' => e = .returned (.int .i64 (s.length : Int)) ∧ ∃ q, w' = w.drewN q := by
  have h0 := h.c0
  have h1 := h.c1
  have hl := ba_size s
  go_enter Tryz.func39, Tryz.ntmps39
  go_wp2_with fail
  go_quiet (fail)
  go_wp2_with fail
  go_ret
  exact ⟨rfl, _, rfl⟩
def IntPost (s : List UInt8) (rb : Nat) (w : World) (e : Ending) (w' : World) : Prop :=
  Below rb w w' ∧ ((∃ n k, readI s = some (n, k) ∧ e = .returned (.int .i64 n) ∧ w'.cell? ⟨rb, 1, none⟩ = some (.int .i64 (k : Int)) ∧ w'.cell? ⟨rb, 2, none⟩ = some (.int .i64 0)) ∨
    (readI s = none ∧ (∃ n, e = .returned (.int .i64 n)) ∧ (∃ x, x ≠ 0 ∧ w'.cell? ⟨rb, 2, none⟩ = some (.int .i64 x))))
theorem setc2 (w : World) (rb : Nat) (s : List UInt8) (a : Int) (v : Value) (h : RdAt w rb s a 0) : (w.setCell ⟨rb, 2, none⟩ v).cell? ⟨rb, 2, none⟩ = some v := by
  have h2 := h.c2
  simp [*, go_sem]
theorem setc1 (w : World) (rb : Nat) (s : List UInt8) (a : Int) (v : Value) (h : RdAt w rb s a 0) : (w.setCell ⟨rb, 1, none⟩ v).cell? ⟨rb, 1, none⟩ = some v ∧ (w.setCell ⟨rb, 1, none⟩ v).cell? ⟨rb, 2, none⟩ = some (.int .i64 0) := by
  have h1 := h.c1
  have h2 := h.c2
  constructor <;> simp [*, go_sem]
def lastV : Value → Nat
  | .bool true => 0
  | _ => 1
set_option maxRecDepth 100000 in
set_option maxHeartbeats 2000000 in
theorem integer_any (s : List UInt8) (hs : s.length ≤ 1000000) (rb : Nat) (w : World) (h : RdAt w rb s 0 0) : Calls Tryz.prog 41 #[.pointer (some ⟨rb, 0, none⟩)] w (IntPost s rb w) := by
  have h0 := h.c0
  have h1 := h.c1
  have h2 := h.c2
  have hl := ba_size s
  have hf1 := h.fz 1
  have HW := Lib.hid h
  have hrb : rb < w.heap.size := (Array.getElem?_eq_some_iff.1 h).1
  clear h
  go_enter Tryz.func41, Tryz.ntmps41
  go_wp2_with fail
  go_loopw [3, 4, 5] (fun n k l wr => ∃ q, wr = w.drewN q ∧ ∃ (v j : Nat), j ≤ 9 ∧ n = .int .i64 (v : Int) ∧ k = .int .i64 (j : Int) ∧ ((l = .bool false ∧ j ≤ s.length ∧ Hid (St s j v)) ∨ (l = .bool true ∧ Hid (rdG 9 0 s = some (v, j) ∧ v < 128 ^ j ∧ 0 < s.length)))) (fun _ k l _ => 2 * (10 - (intOf k).toNat) + lastV l)
  case atStart => exact ⟨0, rfl, 0, 0, by omega, rfl, rfl, .inl ⟨rfl, Nat.zero_le _, st0 s⟩⟩
  case round =>
    obtain ⟨q, rfl, v, j, hj, rfl, rfl, hc⟩ := hrel
    rcases hc with ⟨rfl, hjl, HS⟩ | ⟨rfl, HR⟩
    · by_cases h9 : j = 9
      · subst h9
        have HB := Lib.hid (st_long HS.out)
        go_wp2_with fail
        refine (fail_any 11 rb s 0 _ (HW.out.drewN _)).mono ?_
        rintro e w1 ⟨rfl, rfl⟩
        go_wp2_with fail
        go_ret
        exact ⟨(below_drewN (Below.refl _ _) _).setCell (p := ⟨rb, 2, none⟩) (Nat.le_refl _) _, .inr ⟨HB.out, ⟨_, rfl⟩, 11, by decide, setc2 _ _ s 0 _ (HW.out.drewN _)⟩⟩
      · by_cases hk : s.length = j
        · have HB := Lib.hid (st_short hk HS.out)
          go_wp2_with fail
          refine (rest_any rb s hs _ (HW.out.drewN _)).mono ?_
          rintro e w1 ⟨rfl, q1, rfl⟩
          go_wp2_with fail
          refine (fail_any 12 rb s 0 _ (HW.out.drewN _)).mono ?_
          rintro e w1 ⟨rfl, rfl⟩
          go_wp2_with fail
          go_ret
          exact ⟨(below_drewN (Below.refl _ _) _).setCell (p := ⟨rb, 2, none⟩) (Nat.le_refl _) _, .inr ⟨HB.out, ⟨_, rfl⟩, 12, by decide, setc2 _ _ s 0 _ (HW.out.drewN _)⟩⟩
        · have hlt : j < s.length := by omega
          have hxk : (⟨s.toArray⟩ : ByteArray)[j]'hlt = s[j]'hlt := by show s.toArray[j] = _; simp
          have hv : v < 72057594037927936 := by
            have h1 := HS.out.lt
            have h2 : 128 ^ j ≤ 128 ^ 8 := Nat.pow_le_pow_right (by decide) (by omega)
            omega
          have hbl := (s[j]'hlt).toNat_lt
          by_cases hb : (s[j]'hlt).toNat < 128
          · have HL := Lib.hid (st_last (by omega) hlt hb HS.out)
            generalize (s[j]'hlt) = b at *
            have hb1 : bits .and .u8 (b.toNat : Int) 127 = ((b.toNat % 128 : Nat) : Int) := by
              rw [u8_and _ _ (by omega) (by omega) (by omega) (by omega), show (127 : Int).toNat = 2 ^ 7 - 1 from rfl, Nat.and_two_pow_sub_one_eq_mod]
              simp
            have HO : Hid (bits .or .i64 ((v : Int) * 128) ((b.toNat : Int) % 128) = ((v * 128 + b.toNat % 128 : Nat) : Int)) := or_join hv (b := b.toNat % 128) (by omega)
            have HD : Hid (decide ((b.toNat : Int) < 128) = true) := by show _ = _; simp; omega
            go_wp2_with fail
            refine (rest_any rb s hs _ (HW.out.drewN _)).mono ?_
            rintro e w1 ⟨rfl, q1, rfl⟩
            go_wp2_with fail
            go_quiet (fail)
            go_wp2_with fail
            rw [HO.out, HD.out]
            exact ⟨⟨_, rfl, _, j + 1, by omega, rfl, by go_num, .inr ⟨rfl, HL.out.1, HL.out.2, by omega⟩⟩, by simp [intOf, lastV]; omega⟩
          · have HL := Lib.hid (st_more (by omega) hlt (by omega) HS.out)
            generalize (s[j]'hlt) = b at *
            have hb1 : bits .and .u8 (b.toNat : Int) 127 = ((b.toNat % 128 : Nat) : Int) := by
              rw [u8_and _ _ (by omega) (by omega) (by omega) (by omega), show (127 : Int).toNat = 2 ^ 7 - 1 from rfl, Nat.and_two_pow_sub_one_eq_mod]
              simp
            have HO : Hid (bits .or .i64 ((v : Int) * 128) ((b.toNat : Int) % 128) = ((v * 128 + b.toNat % 128 : Nat) : Int)) := or_join hv (b := b.toNat % 128) (by omega)
            have HD : Hid (decide ((b.toNat : Int) < 128) = false) := by show _ = _; simp; omega
            go_wp2_with fail
            refine (rest_any rb s hs _ (HW.out.drewN _)).mono ?_
            rintro e w1 ⟨rfl, q1, rfl⟩
            go_wp2_with fail
            go_quiet (fail)
            go_wp2_with fail
            rw [HO.out, HD.out]
            exact ⟨⟨_, rfl, _, j + 1, by omega, rfl, by go_num, .inl ⟨rfl, hlt, HL.out⟩⟩, by simp [intOf, lastV]; omega⟩
    · have hp := HR.out.2.2
      have hxk : (⟨s.toArray⟩ : ByteArray)[0]'hp = s[0]'hp := by show s.toArray[0] = _; simp
      by_cases h128 : (s[0]'hp).toNat = 128
      · have HB : Hid (readI s = none) := read_128 HR.out.1 (by rw [List.head?_eq_getElem?, List.getElem?_eq_getElem hp]; exact congrArg some (UInt8.toNat_inj.1 h128))
        go_wp2_with fail
        go_quiet (fail)
        go_wp2_with fail
        refine (fail_any 11 rb s 0 _ (HW.out.drewN _)).mono ?_
        rintro e w1 ⟨rfl, rfl⟩
        go_wp2_with fail
        go_ret
        exact ⟨(below_drewN (Below.refl _ _) _).setCell (p := ⟨rb, 2, none⟩) (Nat.le_refl _) _, .inr ⟨HB.out, ⟨_, rfl⟩, 11, by decide, setc2 _ _ s 0 _ (HW.out.drewN _)⟩⟩
      · have HH : Hid (s.head? ≠ some 128) := by
          show _ ≠ _
          rw [List.head?_eq_getElem?, List.getElem?_eq_getElem hp]
          intro e
          exact h128 (by rw [Option.some.inj e]; rfl)
        have hv : v < 9223372036854775808 := by
          have h1 := HR.out.2.1
          have h2 : 128 ^ j ≤ 128 ^ 9 := Nat.pow_le_pow_right (by decide) (by omega)
          omega
        have hod := i64_and1 (v : Int)
        by_cases h2v : v % 2 = 1
        · have hu : unzig v = -((v / 2 : Nat) : Int) - 1 := if_pos h2v
          have h2i : (v : Int) % 2 = 1 := by omega
          obtain ⟨m, hm⟩ : ∃ m : Int, (v : Int) / 2 = m := ⟨_, rfl⟩
          have hm0 : 0 ≤ m := by omega
          have hm1 : m < 4611686018427387904 := by omega
          by_cases hrg : m < 1152921504606846976
          · have HB : Hid (readI s = some (-m - 1, j)) := by
              have := read_ok HR.out.1 HH.out (by rw [hu]; omega)
              rw [hu, show ((v / 2 : Nat) : Int) = m by omega] at this
              exact this
            clear hu h2v
            have hI : (decide (-1152921504606846976 ≤ -m - 1) && decide (-m - 1 ≤ 1152921504606846976)) = true := by simp; omega
            go_wp2_with fail
            go_quiet (fail)
            go_wp2_with fail
            refine (inRange_any _ _).mono ?_
            rw [hI]
            rintro e w1 ⟨rfl, rfl⟩
            go_wp2_with fail
            go_ret
            exact ⟨(below_drewN (Below.refl _ _) _).setCell (p := ⟨rb, 1, none⟩) (Nat.le_refl _) _, .inl ⟨_, _, HB.out, rfl, setc1 _ _ s 0 _ (HW.out.drewN _)⟩⟩
          · have HB : Hid (readI s = none) := read_bad HR.out.1 (by rw [hu]; omega)
            clear hu h2v
            have hI : (decide (-1152921504606846976 ≤ -m - 1) && decide (-m - 1 ≤ 1152921504606846976)) = false := by simp; omega
            go_wp2_with fail
            go_quiet (fail)
            go_wp2_with fail
            refine (inRange_any _ _).mono ?_
            rw [hI]
            rintro e w1 ⟨rfl, rfl⟩
            go_wp2_with fail
            refine (fail_any 11 rb s 0 _ (HW.out.drewN _)).mono ?_
            rintro e w1 ⟨rfl, rfl⟩
            go_wp2_with fail
            go_ret
            exact ⟨(below_drewN (Below.refl _ _) _).setCell (p := ⟨rb, 2, none⟩) (Nat.le_refl _) _, .inr ⟨HB.out, ⟨_, rfl⟩, 11, by decide, setc2 _ _ s 0 _ (HW.out.drewN _)⟩⟩
        · have hu : unzig v = ((v / 2 : Nat) : Int) := if_neg h2v
          have h2i : (v : Int) % 2 = 0 := by omega
          by_cases hrg : (v : Int) / 2 ≤ 1152921504606846976
          · have HB : Hid (readI s = some ((v : Int) / 2, j)) := by
              have := read_ok HR.out.1 HH.out (by rw [hu]; omega)
              rw [hu] at this
              exact this
            clear hu h2v
            have hI : (decide (-1152921504606846976 ≤ (v : Int) / 2) && decide ((v : Int) / 2 ≤ 1152921504606846976)) = true := by simp; omega
            go_wp2_with fail
            go_quiet (fail)
            go_wp2_with fail
            refine (inRange_any _ _).mono ?_
            rw [hI]
            rintro e w1 ⟨rfl, rfl⟩
            go_wp2_with fail
            go_ret
            exact ⟨(below_drewN (Below.refl _ _) _).setCell (p := ⟨rb, 1, none⟩) (Nat.le_refl _) _, .inl ⟨_, _, HB.out, rfl, setc1 _ _ s 0 _ (HW.out.drewN _)⟩⟩
          · have HB : Hid (readI s = none) := read_bad HR.out.1 (by rw [hu]; omega)
            clear hu h2v
            have hI : (decide (-1152921504606846976 ≤ (v : Int) / 2) && decide ((v : Int) / 2 ≤ 1152921504606846976)) = false := by simp; omega
            go_wp2_with fail
            go_quiet (fail)
            go_wp2_with fail
            refine (inRange_any _ _).mono ?_
            rw [hI]
            rintro e w1 ⟨rfl, rfl⟩
            go_wp2_with fail
            refine (fail_any 11 rb s 0 _ (HW.out.drewN _)).mono ?_
            rintro e w1 ⟨rfl, rfl⟩
            go_wp2_with fail
            go_ret
            exact ⟨(below_drewN (Below.refl _ _) _).setCell (p := ⟨rb, 2, none⟩) (Nat.le_refl _) _, .inr ⟨HB.out, ⟨_, rfl⟩, 11, by decide, setc2 _ _ s 0 _ (HW.out.drewN _)⟩⟩
end Go.Proofs.YtfafhdganloipaaGreatDoor

/- The reference's Quote. -/
import Derived.Test.YtmcgddlblhinlaaGreatDoorH8
namespace Go.Proofs.YtmcgddlblhinlaaGreatDoor
open Go.RowKit
theorem conv1 (W0 : World) (a : UInt8) : (convert 59 9 (.slice (some ⟨W0.heap.size, 0, none⟩) 1 1)).run Tryz.prog (W0.alloc (.cells #[.int .u8 a.toNat] 5)) = .ok (.string ⟨#[a]⟩) (W0.alloc (.cells #[.int .u8 a.toNat] 5)) := by
  refine run_convert_bytes_back (P := Tryz.prog) _ 59 9 5 ⟨W0.heap.size, 0, none⟩ 1 [a] Tryz.underlying59 Tryz.underlying5 Tryz.underlying9 fun j hj => ?_
  match j, hj with
  | 0, _ => simp [go_sem, Addr.add]
theorem two_bytes (a b : UInt8) : (⟨#[a]⟩ : ByteArray) ++ ⟨#[b]⟩ = ⟨#[a, b]⟩ := rfl
theorem four_bytes (a b c d : UInt8) : (⟨#[a, b]⟩ : ByteArray) ++ ⟨#[c, d]⟩ = ⟨#[a, b, c, d]⟩ := rfl
set_option maxHeartbeats 2000000 in
set_option maxRecDepth 100000 in
theorem rquoted_any (c : UInt8) (w : World) : Calls Tryz.prog 29 #[.int .u8 c.toNat] w fun e w' => e = .returned (.string ⟨(qb c).toArray⟩) ∧ Below w.heap.size w w' := by
  have hc := c.toNat_lt
  have cv := conv1 w c
  have HE := Lib.hid (okP_def c)
  by_cases hq : c = 34 ∨ c = 92
  · have hp : ¬ okP c = true := by rcases hq with rfl | rfl <;> decide
    have HQ : Hid (qb c = [92, c]) := by show _ = _; unfold qb; rw [if_neg hp, if_pos hq]
    by_cases h1 : c = 34
    · have i1 : ((c.toNat : Int) == 34) = true := by rw [h1]; rfl
      clear hq hp h1
      go_enter Tryz.func29, Tryz.ntmps29
      go_wp2_with fail
      go_ret
      exact ⟨by rw [HQ.out]; rfl, by (repeat' (first | (with_reducible exact Below.refl _ _) | (with_reducible refine Below.alloc ?_ ?_ _) | (with_reducible refine Below.drew ?_) | (with_reducible refine below_drewN ?_ _) | (with_reducible refine Below.setCell ?_ ?_ _) | (with_reducible refine Below.trans ?_ (Below.mono (by assumption) ?_)) | (with_reducible exact Nat.le_refl _) | omega | (simp; omega) | (simp; done)))⟩
    · have h2 : c = 92 := hq.resolve_left h1
      have i1 : ((c.toNat : Int) == 34) = false := by rw [h2]; rfl
      have i2 : ((c.toNat : Int) == 92) = true := by rw [h2]; rfl
      clear hq hp h1 h2
      go_enter Tryz.func29, Tryz.ntmps29
      go_wp2_with fail
      go_ret
      exact ⟨by rw [HQ.out]; rfl, by (repeat' (first | (with_reducible exact Below.refl _ _) | (with_reducible refine Below.alloc ?_ ?_ _) | (with_reducible refine Below.drew ?_) | (with_reducible refine below_drewN ?_ _) | (with_reducible refine Below.setCell ?_ ?_ _) | (with_reducible refine Below.trans ?_ (Below.mono (by assumption) ?_)) | (with_reducible exact Nat.le_refl _) | omega | (simp; omega) | (simp; done)))⟩
  · have i1 : ((c.toNat : Int) == 34) = false := by
      rw [beq_eq_false_iff_ne]; intro h; exact hq (.inl (UInt8.toNat_inj.1 (by show c.toNat = 34; omega)))
    have i2 : ((c.toNat : Int) == 92) = false := by
      rw [beq_eq_false_iff_ne]; intro h; exact hq (.inr (UInt8.toNat_inj.1 (by show c.toNat = 92; omega)))
    have n1 : c.toNat ≠ 34 := by intro h; rw [h] at i1; cases i1
    have n2 : c.toNat ≠ 92 := by intro h; rw [h] at i2; cases i2
    by_cases hp : okP c = true
    · have HQ : Hid (qb c = [c]) := by show _ = _; unfold qb; rw [if_pos hp]
      have h3 := hp
      rw [okP_def, decide_eq_true_iff] at h3
      have i3 : (32 : Int) ≤ c.toNat := by omega
      have i4 : (c.toNat : Int) ≤ 126 := by omega
      clear hp hq h3 n1 n2
      go_enter Tryz.func29, Tryz.ntmps29
      go_wp2_with fail
      go_ret
      exact ⟨by rw [HQ.out]; rfl, by (repeat' (first | (with_reducible exact Below.refl _ _) | (with_reducible refine Below.alloc ?_ ?_ _) | (with_reducible refine Below.drew ?_) | (with_reducible refine below_drewN ?_ _) | (with_reducible refine Below.setCell ?_ ?_ _) | (with_reducible refine Below.trans ?_ (Below.mono (by assumption) ?_)) | (with_reducible exact Nat.le_refl _) | omega | (simp; omega) | (simp; done)))⟩
    · have HQ : Hid (qb c = [92, 120, hexD (c.toNat / 16), hexD (c.toNat % 16)]) := by show _ = _; unfold qb; rw [if_neg hp, if_neg hq]
      have h3 : ¬ (32 ≤ c.toNat ∧ c.toNat ≤ 126) := by
        intro h; apply hp; rw [okP_def, decide_eq_true_iff]; omega
      clear hp hq
      have hw1 : IntKind.u8.wrap ((c.toNat : Int) / 16) = (c.toNat : Int) / 16 := IntWalk.u8_in _ (by omega)
      have hw2 : (c.toNat : Int).tmod 16 = (c.toNat : Int) % 16 := IntWalk.rem_in _ _ (by omega)
      have hx1 : ∀ w, (Instr.index 9 (.string ⟨#[48, 49, 50, 51, 52, 53, 54, 55, 56, 57, 97, 98, 99, 100, 101, 102]⟩) (.int .u8 ((c.toNat : Int) / 16))).run Tryz.prog w = .ok (.int .u8 (hexD (c.toNat / 16)).toNat) w := fun w => idx_hex _ (by omega) (by omega) w
      have hx2 : ∀ w, (Instr.index 9 (.string ⟨#[48, 49, 50, 51, 52, 53, 54, 55, 56, 57, 97, 98, 99, 100, 101, 102]⟩) (.int .u8 ((c.toNat : Int) % 16))).run Tryz.prog w = .ok (.int .u8 (hexD (c.toNat % 16)).toNat) w := fun w => idx_hex _ (by omega) (by omega) w
      have hsz : ¬ 9223372036854775807 < (⟨#[92, 120]⟩ : ByteArray).size + (⟨#[hexD (c.toNat / 16), hexD (c.toNat % 16)]⟩ : ByteArray).size := by show ¬ 9223372036854775807 < 2 + 2; omega
      clear n1 n2 cv
      by_cases h4 : 32 ≤ c.toNat
      · have i3 : (32 : Int) ≤ c.toNat := by omega
        have i4 : ¬ (c.toNat : Int) ≤ 126 := by omega
        clear h3 h4
        go_enter Tryz.func29, Tryz.ntmps29
        go_wp2_with fail
        go_still_tail 6, (by kernel_rfl)
        clear hw1 hw2 hx1 hx2
        obtain ⟨vd, hvd⟩ : ∃ vd, vd = w.drew := ⟨_, rfl⟩
        have bd : Below w.heap.size w vd := by rw [hvd]; exact Below.drew (Below.refl _ _)
        rw [show ({ heap := w.heap, tape := w.tape, drawn := w.drawn + 1, os := w.os, output := w.output } : World) = vd from hvd.symm]
        clear hvd
        have hcv := conv2 vd (hexD (c.toNat / 16)) (hexD (c.toNat % 16))
        have bA := bd.alloc bd.size (.cells #[.int .u8 (hexD (c.toNat / 16)).toNat, .int .u8 (hexD (c.toNat % 16)).toNat] 5)
        go_wp2_with fail
        go_ret
        exact ⟨by rw [HQ.out]; rfl, bA⟩
      · have i3 : ¬ (32 : Int) ≤ c.toNat := by omega
        clear h3 h4
        go_enter Tryz.func29, Tryz.ntmps29
        go_wp2_with fail
        go_still_tail 6, (by kernel_rfl)
        clear hw1 hw2 hx1 hx2
        obtain ⟨vd, hvd⟩ : ∃ vd, vd = w.drew := ⟨_, rfl⟩
        have bd : Below w.heap.size w vd := by rw [hvd]; exact Below.drew (Below.refl _ _)
        rw [show ({ heap := w.heap, tape := w.tape, drawn := w.drawn + 1, os := w.os, output := w.output } : World) = vd from hvd.symm]
        clear hvd
        have hcv := conv2 vd (hexD (c.toNat / 16)) (hexD (c.toNat % 16))
        have bA := bd.alloc bd.size (.cells #[.int .u8 (hexD (c.toNat / 16)).toNat, .int .u8 (hexD (c.toNat % 16)).toNat] 5)
        go_wp2_with fail
        go_ret
        exact ⟨by rw [HQ.out]; rfl, bA⟩
set_option maxRecDepth 100000 in
set_option maxHeartbeats 2000000 in
theorem rquote_any (s : ByteArray) (w : World) : Calls Tryz.prog 11 #[.string s] w fun e w' => e = .returned (.tuple #[.string (quoteR s).1, .int .i64 (quoteR s).2]) ∧ Below w.heap.size w w' := by
  by_cases hs : 4096 < s.size
  · have HE : Hid (quoteR s = (⟨#[]⟩, 4)) := if_pos hs
    have hsi : (4096 : Int) < s.size := by omega
    clear hs
    go_enter Tryz.func11, Tryz.ntmps11
    go_wp2_with fail
    go_ret2
    exact ⟨by rw [HE.out]; rfl, Below.refl _ _⟩
  · have HE : Hid (quoteR s = (⟨(quoteL s.data.toList).toArray⟩, 0)) := if_neg hs
    have hsi : ¬ (4096 : Int) < s.size := by omega
    have hs4 : s.size ≤ 4096 := by omega
    clear hs
    go_enter Tryz.func11, Tryz.ntmps11
    go_wp2_with fail
    go_loopw [4, 5] (fun a i wr => ∃ k : Nat, k ≤ s.size ∧ i = .int .i64 k ∧ a = .string ⟨(34 :: qsL (s.data.toList.take k)).toArray⟩ ∧ Below w.heap.size w wr) (fun _ i _ => s.size - (intOf i).toNat)
    case atStart => exact ⟨0, by omega, rfl, rfl, Below.refl _ _⟩
    case round =>
      obtain ⟨k, hk, rfl, rfl, br⟩ := hrel
      have hzr := br.size
      have hsz : (⟨(34 :: qsL (s.data.toList.take k)).toArray⟩ : ByteArray).size ≤ 20000 := by
        have hql := (qsL_len (s.data.toList.take k)).2
        have htl : (s.data.toList.take k).length ≤ k := List.length_take_le _ _
        show (34 :: qsL (s.data.toList.take k)).length ≤ 20000
        simp only [List.length_cons]; omega
      by_cases hlt : k < s.size
      · have HS : Hid ((⟨(34 :: qsL (s.data.toList.take (k + 1))).toArray⟩ : ByteArray) = ⟨(34 :: qsL (s.data.toList.take k)).toArray⟩ ++ ⟨(qb s[k]).toArray⟩) := by
          show _ = _
          rw [take_byte s k hlt, qsL_snoc]
          exact (ByteArray.mk_append_mk (34 :: qsL (s.data.toList.take k)) (qb s[k])).symm
        have hq4 : (⟨(qb s[k]).toArray⟩ : ByteArray).size ≤ 4 := by
          show (qb s[k]).length ≤ 4
          unfold qb; repeat' split
          all_goals simp
        have HQ := Lib.hid (rquoted_any s[k])
        generalize (⟨(34 :: qsL (s.data.toList.take k)).toArray⟩ : ByteArray) = L1 at *
        generalize (⟨(qb s[k]).toArray⟩ : ByteArray) = qk at *
        go_wp2_with fail
        refine (HQ.out wr).mono ?_
        rintro e w2 ⟨rfl, b2⟩
        have b2 := br.trans (b2.mono hzr)
        go_wp2_with fail
        go_roundw
        case rel => exact ⟨k + 1, by omega, by go_num, by rw [HS.out], b2⟩
        case measure => simp [intOf]; omega
      · have hE : Hid ((⟨(34 :: qsL (s.data.toList.take k)).toArray⟩ : ByteArray) ++ ⟨#[34]⟩ = ⟨(quoteL s.data.toList).toArray⟩) := by
          show _ = _
          rw [List.take_of_length_le (show s.data.toList.length ≤ k by show s.size ≤ k; omega)]
          exact ByteArray.mk_append_mk (34 :: qsL s.data.toList) [34]
        generalize (⟨(34 :: qsL (s.data.toList.take k)).toArray⟩ : ByteArray) = L1 at *
        go_wp2_with fail
        go_ret2
        exact ⟨by rw [HE.out, ← hE.out]; rfl, br⟩
theorem idx_hex64 (k : Int) (h1 : 0 ≤ k) (h2 : k < 16) (w : World) : (Instr.index 9 (.string ⟨#[48, 49, 50, 51, 52, 53, 54, 55, 56, 57, 97, 98, 99, 100, 101, 102]⟩) (.int .i64 k)).run Tryz.prog w = .ok (.int .u8 (hexD k.toNat).toNat) w := by
  have hn : k = 0 ∨ k = 1 ∨ k = 2 ∨ k = 3 ∨ k = 4 ∨ k = 5 ∨ k = 6 ∨ k = 7 ∨ k = 8 ∨ k = 9 ∨ k = 10 ∨ k = 11 ∨ k = 12 ∨ k = 13 ∨ k = 14 ∨ k = 15 := by omega
  rcases hn with rfl | rfl | rfl | rfl | rfl | rfl | rfl | rfl | rfl | rfl | rfl | rfl | rfl | rfl | rfl | rfl
  all_goals (show _ = _; kernel_rfl)
theorem digs_none {c : UInt8} (h : ∀ j, j < 16 → hexD j ≠ c) : Lib.indexByte digs c = -1 := by
  have key : ∀ l : List UInt8, c ∉ l → Lib.indexByte l c = -1 := by
    intro l
    induction l with
    | nil => intro _; rfl
    | cons b t ih =>
      intro hm
      have h1 : b ≠ c := fun e => hm (by simp [e])
      have h2 := ih fun hh => hm (by simp [hh])
      unfold Lib.indexByte
      rw [h2]
      simp [h1]
  refine key digs fun hm => ?_
  have hall : ∀ d ∈ digs, ∃ j, j < 16 ∧ hexD j = d := by decide
  obtain ⟨j, h1, h2⟩ := hall c hm
  exact h j h1 h2
set_option maxRecDepth 100000 in
set_option maxHeartbeats 1000000 in
theorem rvalue_any (c : UInt8) (w : World) : Calls Tryz.prog 31 #[.int .u8 c.toNat] w fun e w' => e = .returned (.int .i64 (Lib.indexByte digs c)) ∧ w' = w := by
  go_enter Tryz.func31, Tryz.ntmps31
  go_wp2_with fail
  go_loopw [3] (fun i wr => ∃ k : Nat, k ≤ 16 ∧ i = .int .i64 k ∧ Hid (∀ j, j < k → hexD j ≠ c) ∧ w = wr) (fun i _ => 16 - (intOf i).toNat)
  case atStart => exact ⟨0, by omega, rfl, fun j hj => absurd hj (by omega), (by first | rfl | trivial)⟩
  case round =>
    obtain ⟨k, hk, rfl, hr, rfl⟩ := hrel
    by_cases hlt : k < 16
    · have hx := idx_hex64 (k : Int) (by omega) (by omega) w
      rw [Int.toNat_natCast] at hx
      by_cases he : hexD k = c
      · have HR : Hid (Lib.indexByte digs c = k) := by show _ = _; rw [← he]; exact hex_idx k hlt
        have i1 : (((hexD k).toNat : Int) == c.toNat) = true := by rw [he]; simp
        have i2 : (k : Int) < 16 := by omega
        clear he
        go_wp2_with fail
        go_ret
        exact ⟨by rw [HR.out]; rfl, (by first | rfl | trivial)⟩
      · have i1 : (((hexD k).toNat : Int) == c.toNat) = false := by
          rw [beq_eq_false_iff_ne]; intro h; exact he (UInt8.toNat_inj.1 (by omega))
        have i2 : (k : Int) < 16 := by omega
        have HN : Hid (∀ j, j < k + 1 → hexD j ≠ c) := fun j hj => by
          rcases Nat.lt_or_ge j k with h | h
          · exact hr.out j h
          · have : j = k := by omega
            rw [this]; exact he
        clear he
        go_wp2_with fail
        go_roundw
        case rel => exact ⟨k + 1, by omega, by go_num, HN, (by first | rfl | trivial)⟩
        case measure => simp [intOf]; omega
    · obtain rfl : k = 16 := by omega
      have HR : Hid (Lib.indexByte digs c = -1) := digs_none hr.out
      go_wp2_with fail
      go_ret
      exact ⟨by rw [HR.out]; rfl, (by first | rfl | trivial)⟩
/-- how the reference's Unquote ends: what was read is quoted again and compared -/
theorem unq_hit {t out : List UInt8} (h1 : quoteL out = t) (h2 : out.length ≤ 4096) : unqR t = (out, 0) := unqR_some ⟨h1, h2⟩
theorem unq_miss {t out : List UInt8} (hd : ∀ u, IsU t u → u = out) (h : ¬ (quoteL out = t ∧ out.length ≤ 4096)) : unqR t = ([], 3) := unqR_none fun u hu => h (by rw [← hd u hu]; exact hu)
end Go.Proofs.YtmcgddlblhinlaaGreatDoor

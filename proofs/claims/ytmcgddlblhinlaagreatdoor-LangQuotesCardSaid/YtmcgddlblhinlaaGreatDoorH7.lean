/- Quote. -/
import Derived.Test.YtmcgddlblhinlaaGreatDoorH6
import Derived.Test.YtmcgddlblhinlaaGreatDoorP1
import Derived.StillTailTactics
namespace Go.Proofs.YtmcgddlblhinlaaGreatDoor
open Go.RowKit
theorem own_below {w w' : World} {base : Nat} {e : TypeId} {size : Nat} {v : Value} {n : Nat} {xs : List Value} (h : w.ownsRow base e size v n xs) (hb : Below w.heap.size w w') : w'.ownsRow base e size v n xs :=
  h.kept (row := none) ⟨hb.os, hb.tape, hb.output, hb.size, fun j hj _ => hb.block j hj⟩ (by cases h' : v.ownBlock <;> simp)
/-- a builder under way -/
def Bl (W : World) (n : Nat) (l : List UInt8) : Prop := n ≤ W.heap.size ∧ Lib.IsBuilder 61 5 n n (Lib.byteCells l) W
theorem Bl.below {W W' : World} {n : Nat} {l : List UInt8} (h : Bl W n l) (hb : Below W.heap.size W W') : Bl W' n l := by
  refine ⟨Nat.le_trans h.1 hb.size, ?_⟩
  have step : ∀ p, Lib.BuilderAt 61 5 n n p (Lib.byteCells l) W → Lib.BuilderAt 61 5 n n p (Lib.byteCells l) W' := fun p hp => by
    have hlt := hp.lt
    obtain ⟨h1, v, h2, h3, h4⟩ := hp
    exact ⟨h1, v, (hb.block n hlt).trans h2, own_below h3 hb, h4⟩
  exact h.2.imp (step _) (step _)
theorem Bl.new (w : World) : Bl (w.alloc (.cells #[.pointer none, .slice none 0 0] 61)) w.heap.size [] := ⟨by simp, Lib.fresh_isBuilder 61 5 w⟩
theorem write_any (n : Nat) (l l' : List UInt8) (s : ByteArray) (hs : s = ⟨l'.toArray⟩) (W : World) (h : Bl W n l) (hlen : l.length + l'.length ≤ 140737488355328) :
    Calls Tryz.prog 27 #[.pointer (some ⟨n, 0, none⟩), .string s] W fun e w' => (∃ k, e = .returned (.tuple #[.int .i64 k, .nilIface])) ∧ Bl w' n (l ++ l') ∧ Below n W w' := by
  subst hs
  refine (bu_write n n l ⟨l'.toArray⟩ W h.2 hlen h.1).mono ?_
  rintro e w' ⟨rfl, hb, hw⟩
  exact ⟨⟨_, rfl⟩, ⟨Nat.le_trans h.1 hw.size, hb⟩, hw⟩
theorem byte_any (n : Nat) (l : List UInt8) (c : UInt8) (W : World) (h : Bl W n l) (hlen : l.length < 140737488355328) :
    Calls Tryz.prog 25 #[.pointer (some ⟨n, 0, none⟩), .int .u8 c.toNat] W fun e w' => e = .returned .nilIface ∧ Bl w' n (l ++ [c]) ∧ Below n W w' := by
  refine (bu_byte n n l c W h.2 hlen h.1).mono ?_
  rintro e w' ⟨rfl, hb, hw⟩
  exact ⟨rfl, ⟨Nat.le_trans h.1 hw.size, hb⟩, hw⟩
theorem len_any (n : Nat) (l : List UInt8) (W : World) (h : Bl W n l) : Calls Tryz.prog 36 #[.pointer (some ⟨n, 0, none⟩)] W fun e w' => e = .returned (.int .i64 l.length) ∧ w' = W := by
  refine (Tryz.Builder_Len n n _ W h.2).mono ?_
  rintro e w' ⟨rfl, rfl⟩
  exact ⟨by rw [Lib.byteCells_length], rfl⟩
theorem str_any (n : Nat) (l : List UInt8) (W : World) (h : Bl W n l) : Calls Tryz.prog 28 #[.pointer (some ⟨n, 0, none⟩)] W fun e w' => e = .returned (.string ⟨l.toArray⟩) ∧ Below n W w' := Tryz.Builder_String_any n n l W h.2 h.1
theorem okP_def (c : UInt8) : okP c = decide (32 ≤ c.toNat ∧ c.toNat ≤ 126 ∧ c.toNat ≠ 34 ∧ c.toNat ≠ 92) := by
  unfold okP
  rw [decide_eq_decide]
  have e1 : c ≠ 34 ↔ c.toNat ≠ 34 := not_congr ⟨fun h => by rw [h]; rfl, fun h => UInt8.toNat_inj.1 h⟩
  have e2 : c ≠ 92 ↔ c.toNat ≠ 92 := not_congr ⟨fun h => by rw [h]; rfl, fun h => UInt8.toNat_inj.1 h⟩
  rw [e1, e2]
set_option maxHeartbeats 1000000 in
theorem plain_any (c : UInt8) (w : World) : Calls Tryz.prog 26 #[.int .u8 c.toNat] w fun e w' => e = .returned (.bool (okP c)) ∧ w = w' := by
  have HE := Lib.hid (okP_def c)
  have hc := c.toNat_lt
  by_cases h1 : 32 ≤ c.toNat
  · by_cases h2 : c.toNat ≤ 126
    · by_cases h3 : c.toNat = 34
      · have HR : Hid (okP c = false) := by show _ = _; rw [HE.out, decide_eq_false_iff_not]; omega
        have q1 : decide ((32 : Int) ≤ c.toNat) = true := by simp; omega
        have q2 : decide ((c.toNat : Int) ≤ 126) = true := by simp; omega
        have q3 : ((c.toNat : Int) != 34) = false := by simp; omega
        clear h1 h2 h3
        go_enter Tryz.func26, Tryz.ntmps26
        go_wp2_with fail
        go_ret
        exact ⟨by rw [HR.out]; rfl, rfl⟩
      · by_cases h4 : c.toNat = 92
        · have HR : Hid (okP c = false) := by show _ = _; rw [HE.out, decide_eq_false_iff_not]; omega
          have q1 : decide ((32 : Int) ≤ c.toNat) = true := by simp; omega
          have q2 : decide ((c.toNat : Int) ≤ 126) = true := by simp; omega
          have q3 : ((c.toNat : Int) != 34) = true := by simp; omega
          have q4 : ((c.toNat : Int) != 92) = false := by simp; omega
          clear h1 h2 h3 h4
          go_enter Tryz.func26, Tryz.ntmps26
          go_wp2_with fail
          go_ret
          exact ⟨by rw [HR.out]; rfl, rfl⟩
        · have HR : Hid (okP c = true) := by show _ = _; rw [HE.out, decide_eq_true_iff]; omega
          have q1 : decide ((32 : Int) ≤ c.toNat) = true := by simp; omega
          have q2 : decide ((c.toNat : Int) ≤ 126) = true := by simp; omega
          have q3 : ((c.toNat : Int) != 34) = true := by simp; omega
          have q4 : ((c.toNat : Int) != 92) = true := by simp; omega
          clear h1 h2 h3 h4
          go_enter Tryz.func26, Tryz.ntmps26
          go_wp2_with fail
          go_ret
          exact ⟨by rw [HR.out]; rfl, rfl⟩
    · have HR : Hid (okP c = false) := by show _ = _; rw [HE.out, decide_eq_false_iff_not]; omega
      have q1 : decide ((32 : Int) ≤ c.toNat) = true := by simp; omega
      have q2 : decide ((c.toNat : Int) ≤ 126) = false := by simp; omega
      clear h1 h2
      go_enter Tryz.func26, Tryz.ntmps26
      go_wp2_with fail
      go_ret
      exact ⟨by rw [HR.out]; rfl, rfl⟩
  · have HR : Hid (okP c = false) := by show _ = _; rw [HE.out, decide_eq_false_iff_not]; omega
    have q1 : decide ((32 : Int) ≤ c.toNat) = false := by simp; omega
    clear h1
    go_enter Tryz.func26, Tryz.ntmps26
    go_wp2_with fail
    go_ret
    exact ⟨by rw [HR.out]; rfl, rfl⟩
theorem idx_hex (k : Int) (h1 : 0 ≤ k) (h2 : k < 16) (w : World) : (Instr.index 9 (.string ⟨#[48, 49, 50, 51, 52, 53, 54, 55, 56, 57, 97, 98, 99, 100, 101, 102]⟩) (.int .u8 k)).run Tryz.prog w = .ok (.int .u8 (hexD k.toNat).toNat) w := by
  have hn : k = 0 ∨ k = 1 ∨ k = 2 ∨ k = 3 ∨ k = 4 ∨ k = 5 ∨ k = 6 ∨ k = 7 ∨ k = 8 ∨ k = 9 ∨ k = 10 ∨ k = 11 ∨ k = 12 ∨ k = 13 ∨ k = 14 ∨ k = 15 := by omega
  rcases hn with rfl | rfl | rfl | rfl | rfl | rfl | rfl | rfl | rfl | rfl | rfl | rfl | rfl | rfl | rfl | rfl
  all_goals (show _ = _; kernel_rfl)
theorem conv2 (W0 : World) (a b : UInt8) : (convert 59 9 (.slice (some ⟨W0.heap.size, 0, none⟩) 2 2)).run Tryz.prog (W0.alloc (.cells #[.int .u8 a.toNat, .int .u8 b.toNat] 5)) = .ok (.string ⟨#[a, b]⟩) (W0.alloc (.cells #[.int .u8 a.toNat, .int .u8 b.toNat] 5)) := by
  refine run_convert_bytes_back (P := Tryz.prog) _ 59 9 5 ⟨W0.heap.size, 0, none⟩ 2 [a, b] Tryz.underlying59 Tryz.underlying5 Tryz.underlying9 fun j hj => ?_
  match j, hj with
  | 0, _ => simp [go_sem, Addr.add]
  | 1, _ => simp [go_sem, Addr.add]
theorem take_byte (s : ByteArray) (k : Nat) (h : k < s.size) : s.data.toList.take (k + 1) = s.data.toList.take k ++ [s[k]] := by
  rw [List.take_succ_eq_append_getElem (by simpa using h)]; rfl
theorem qsL_snoc (v : List UInt8) (c : UInt8) : qsL (v ++ [c]) = qsL v ++ qb c := by simp [qsL]
/-- what Quote answers -/
def quoteR (s : ByteArray) : ByteArray × Int := if 4096 < s.size then (⟨#[]⟩, 4) else (⟨(quoteL s.data.toList).toArray⟩, 0)
set_option maxRecDepth 100000 in
set_option maxHeartbeats 4000000 in
theorem quote_any (s : ByteArray) (w : World) : Calls Tryz.prog 10 #[.string s] w fun e w' => e = .returned (.tuple #[.string (quoteR s).1, .int .i64 (quoteR s).2]) ∧ Below w.heap.size w w' := by
  by_cases hs : 4096 < s.size
  · have HE : Hid (quoteR s = (⟨#[]⟩, 4)) := if_pos hs
    have hsi : (4096 : Int) < s.size := by omega
    clear hs
    go_enter Tryz.func10, Tryz.ntmps10
    go_wp2_with fail
    go_ret2
    exact ⟨by rw [HE.out]; rfl, Below.refl _ _⟩
  · have HE : Hid (quoteR s = (⟨(quoteL s.data.toList).toArray⟩, 0)) := if_neg hs
    have hsi : ¬ (4096 : Int) < s.size := by omega
    have hs4 : s.size ≤ 4096 := by omega
    clear hs
    go_enter Tryz.func10, Tryz.ntmps10
    go_wp2_with fail
    have l0 := Bl.new w
    have b0 : Below w.heap.size w (w.alloc (.cells #[.pointer none, .slice none 0 0] 61)) := (Below.refl _ w).alloc (Nat.le_refl _) _
    generalize w.alloc (.cells #[.pointer none, .slice none 0 0] 61) = v0 at *
    refine (byte_any w.heap.size [] 34 v0 l0 (by simp)).mono ?_
    rintro e v1 ⟨rfl, l1, b1⟩
    have b1 := b0.trans b1
    clear b0 l0
    go_wp2_with fail
    go_loopw [13] (fun i wr => ∃ k : Nat, k ≤ s.size ∧ i = .int .i64 k ∧ Below w.heap.size w wr ∧ Bl wr w.heap.size (34 :: qsL (s.data.toList.take k))) (fun i _ => s.size - (intOf i).toNat)
    case atStart => exact ⟨0, by omega, rfl, b1, l1⟩
    case round =>
      obtain ⟨k, hk, rfl, br, lr⟩ := hrel
      have hzr := br.size
      by_cases hlt : k < s.size
      · have hql := (qsL_len (s.data.toList.take k)).2
        have htl : (s.data.toList.take k).length ≤ k := List.length_take_le _ _
        have HS : Hid (∀ r, qb s[k] = r → (34 :: qsL (s.data.toList.take (k + 1)) : List UInt8) = (34 :: qsL (s.data.toList.take k)) ++ r) := fun r hr => by rw [take_byte s k hlt, qsL_snoc, hr]; rfl
        have hkk : (k : Int) < s.size := by omega
        have hl0 : (34 :: qsL (s.data.toList.take k) : List UInt8).length ≤ 20000 := by simp only [List.length_cons]; omega
        clear hql htl
        generalize (34 :: qsL (s.data.toList.take k) : List UInt8) = L1 at *
        have hL1 := Lib.hid hl0
        by_cases hp : okP s[k] = true
        · have HS := Lib.hid (HS.out _ (by unfold qb; rw [if_pos hp]))
          have HP := Lib.hid hp
          clear hp
          go_wp2_with fail
          refine (plain_any _ _).mono ?_
          rw [HP.out]
          rintro e wz ⟨rfl, rfl⟩
          go_wp2_with fail
          refine (byte_any w.heap.size L1 _ _ lr (by omega)).mono ?_
          rintro e w2 ⟨rfl, l2, b2⟩
          have b2 := br.trans b2
          go_wp2_with fail
          go_roundw
          case rel => exact ⟨k + 1, by omega, by go_num, b2, by rw [HS.out]; exact l2⟩
          case measure => simp [intOf]; omega
        · have HP := Lib.hid (Bool.eq_false_iff.2 hp)
          by_cases hq : s[k] = 34 ∨ s[k] = 92
          · rcases hq with hq | hq
            · have HS := Lib.hid (HS.out [92, 34] (by unfold qb; rw [if_neg hp, if_pos (.inl hq), hq]))
              have HN : Hid (s[k].toNat = 34) := congrArg UInt8.toNat hq
              have hcv : (convert 59 9 (.slice (some ⟨wr.heap.size, 0, none⟩) 2 2)).run Tryz.prog (wr.alloc (.cells #[.int .u8 92, .int .u8 34] 5)) = .ok (.string ⟨#[92, 34]⟩) (wr.alloc (.cells #[.int .u8 92, .int .u8 34] 5)) := conv2 wr 92 34
              have bA := br.alloc hzr (.cells #[.int .u8 92, .int .u8 34] 5)
              have lA := lr.below ((Below.refl _ wr).alloc (Nat.le_refl _) (.cells #[.int .u8 92, .int .u8 34] 5))
              clear hp hq
              go_wp2_with fail
              refine (plain_any _ _).mono ?_
              rw [HP.out]
              rintro e wz ⟨rfl, rfl⟩
              rw [HN.out]
              go_wp2_with fail
              refine (write_any w.heap.size L1 [92, 34] _ rfl _ lA (by show L1.length + 2 ≤ _; omega)).mono ?_
              rintro e w2 ⟨⟨kk, rfl⟩, l2, b2⟩
              have b2 := bA.trans b2
              go_wp2_with fail
              go_roundw
              case rel => exact ⟨k + 1, by omega, by go_num, b2, by rw [HS.out]; exact l2⟩
              case measure => simp [intOf]; omega
            · have HS := Lib.hid (HS.out [92, 92] (by unfold qb; rw [if_neg hp, if_pos (.inr hq), hq]))
              have HN : Hid (s[k].toNat = 92) := congrArg UInt8.toNat hq
              have hcv : (convert 59 9 (.slice (some ⟨wr.heap.size, 0, none⟩) 2 2)).run Tryz.prog (wr.alloc (.cells #[.int .u8 92, .int .u8 92] 5)) = .ok (.string ⟨#[92, 92]⟩) (wr.alloc (.cells #[.int .u8 92, .int .u8 92] 5)) := conv2 wr 92 92
              have bA := br.alloc hzr (.cells #[.int .u8 92, .int .u8 92] 5)
              have lA := lr.below ((Below.refl _ wr).alloc (Nat.le_refl _) (.cells #[.int .u8 92, .int .u8 92] 5))
              clear hp hq
              go_wp2_with fail
              refine (plain_any _ _).mono ?_
              rw [HP.out]
              rintro e wz ⟨rfl, rfl⟩
              rw [HN.out]
              go_wp2_with fail
              refine (write_any w.heap.size L1 [92, 92] _ rfl _ lA (by show L1.length + 2 ≤ _; omega)).mono ?_
              rintro e w2 ⟨⟨kk, rfl⟩, l2, b2⟩
              have b2 := bA.trans b2
              go_wp2_with fail
              go_roundw
              case rel => exact ⟨k + 1, by omega, by go_num, b2, by rw [HS.out]; exact l2⟩
              case measure => simp [intOf]; omega
          · have HS := Lib.hid (HS.out _ (by unfold qb; rw [if_neg hp, if_neg hq]))
            have h34 : ((s[k].toNat : Int) == 34) = false := by
              rw [beq_eq_false_iff_ne]; intro h; exact hq (.inl (UInt8.toNat_inj.1 (by show s[k].toNat = 34; omega)))
            have h92 : ((s[k].toNat : Int) == 92) = false := by
              rw [beq_eq_false_iff_ne]; intro h; exact hq (.inr (UInt8.toNat_inj.1 (by show s[k].toNat = 92; omega)))
            clear hp hq
            go_wp2_with fail
            refine (plain_any _ _).mono ?_
            rw [HP.out]
            rintro e wz ⟨rfl, rfl⟩
            have hc := s[k].toNat_lt
            have hw1 : IntKind.u8.wrap ((s[k].toNat : Int) / 16) = (s[k].toNat : Int) / 16 := IntWalk.u8_in _ (by omega)
            have hw2 : (s[k].toNat : Int).tmod 16 = (s[k].toNat : Int) % 16 := IntWalk.rem_in _ _ (by omega)
            have hx1 : ∀ w, (Instr.index 9 (.string ⟨#[48, 49, 50, 51, 52, 53, 54, 55, 56, 57, 97, 98, 99, 100, 101, 102]⟩) (.int .u8 ((s[k].toNat : Int) / 16))).run Tryz.prog w = .ok (.int .u8 (hexD (s[k].toNat / 16)).toNat) w := fun w => idx_hex _ (by omega) (by omega) w
            have hx2 : ∀ w, (Instr.index 9 (.string ⟨#[48, 49, 50, 51, 52, 53, 54, 55, 56, 57, 97, 98, 99, 100, 101, 102]⟩) (.int .u8 ((s[k].toNat : Int) % 16))).run Tryz.prog w = .ok (.int .u8 (hexD (s[k].toNat % 16)).toNat) w := fun w => idx_hex _ (by omega) (by omega) w
            go_wp2_with fail
            have hsz : ¬ 9223372036854775807 < (⟨#[92, 120]⟩ : ByteArray).size + (⟨#[hexD (s[k].toNat / 16), hexD (s[k].toNat % 16)]⟩ : ByteArray).size := by show ¬ 9223372036854775807 < 2 + 2; omega
            go_still_tail 6, (by kernel_rfl)
            clear hw1 hw2 hx1 hx2
            obtain ⟨vd, hvd⟩ : ∃ vd, vd = wr.drew := ⟨_, rfl⟩
            have bd : Below w.heap.size w vd := by rw [hvd]; exact Below.drew br
            have ld : Bl vd w.heap.size L1 := by rw [hvd]; exact lr.below (Below.drew (Below.refl _ _))
            rw [show ({ heap := wr.heap, tape := wr.tape, drawn := wr.drawn + 1, os := wr.os, output := wr.output } : World) = vd from hvd.symm]
            clear hvd lr br
            have hcv := conv2 vd (hexD (s[k].toNat / 16)) (hexD (s[k].toNat % 16))
            have bA := bd.alloc bd.size (.cells #[.int .u8 (hexD (s[k].toNat / 16)).toNat, .int .u8 (hexD (s[k].toNat % 16)).toNat] 5)
            have lA := ld.below ((Below.refl _ vd).alloc (Nat.le_refl _) (.cells #[.int .u8 (hexD (s[k].toNat / 16)).toNat, .int .u8 (hexD (s[k].toNat % 16)).toNat] 5))
            go_wp2_with fail
            refine (write_any w.heap.size L1 [92, 120, hexD (s[k].toNat / 16), hexD (s[k].toNat % 16)] _ rfl _ lA (by show L1.length + 4 ≤ _; omega)).mono ?_
            rintro e w2 ⟨⟨kk, rfl⟩, l2, b2⟩
            have b2 := bA.trans b2
            go_wp2_with fail
            go_roundw
            case rel => exact ⟨k + 1, by omega, by go_num, b2, by rw [HS.out]; exact l2⟩
            case measure => simp [intOf]; omega
      · have hE : Hid ((34 :: qsL (s.data.toList.take k)) ++ [34] = quoteL s.data.toList) := by show _ = _; rw [List.take_of_length_le (show s.data.toList.length ≤ k by show s.size ≤ k; omega)]; rfl
        have hql := (qsL_len (s.data.toList.take k)).2
        have htl : (s.data.toList.take k).length ≤ k := List.length_take_le _ _
        have hl0 : (34 :: qsL (s.data.toList.take k) : List UInt8).length ≤ 20000 := by simp only [List.length_cons]; omega
        clear hql htl
        generalize (34 :: qsL (s.data.toList.take k) : List UInt8) = L1 at *
        have hL1 := Lib.hid hl0
        go_wp2_with fail
        refine (byte_any w.heap.size L1 34 _ lr (by omega)).mono ?_
        rintro e w2 ⟨rfl, l2, b2⟩
        have b2 := br.trans b2
        go_wp2_with fail
        refine (str_any w.heap.size _ _ l2).mono ?_
        rintro e w3 ⟨rfl, b3⟩
        have b3 := b2.trans b3
        go_wp2_with fail
        go_ret2
        exact ⟨by rw [HE.out, ← hE.out]; rfl, b3⟩
end Go.Proofs.YtmcgddlblhinlaaGreatDoor

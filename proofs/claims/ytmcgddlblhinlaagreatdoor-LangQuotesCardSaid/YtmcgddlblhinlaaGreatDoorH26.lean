/- The reference's Unquote. -/
import Derived.Test.YtmcgddlblhinlaaGreatDoorH9
import Derived.Deep.AppendLies
namespace Go.Proofs.YtmcgddlblhinlaaGreatDoor
open Go.RowKit
theorem cd_odd (s : ByteArray) (k : Nat) (h : k < s.size) : s.data.toList.drop k = s[k] :: s.data.toList.drop (k + 1) := list_get s k h
theorem cd_bs (s : ByteArray) (k : Nat) (h : k < s.size) (h92 : s[k] = 92) : codeL (s.data.toList.drop k) = match s.data.toList.drop (k + 1) with
    | [] => (0, 0)
    | b :: r2 => if b = 34 ∨ b = 92 then (b, 2) else if b ≠ 120 then (0, 0) else
      match r2 with
      | h :: l :: _ => if 0 ≤ Lib.indexByte digs h ∧ 0 ≤ Lib.indexByte digs l then (UInt8.ofNat (16 * (Lib.indexByte digs h).toNat + (Lib.indexByte digs l).toNat), 4) else (0, 0)
      | _ => (0, 0) := by
  rw [list_get s k h, codeL_cons, h92, if_neg (by decide), if_neg (by simp)]
  rfl
theorem cd_short (s : ByteArray) (k : Nat) (h : k < s.size) (h92 : s[k] = 92) (h1 : ¬ k + 1 < s.size) : codeL (s.data.toList.drop k) = (0, 0) := by
  rw [cd_bs s k h h92, List.drop_of_length_le (show s.data.toList.length ≤ k + 1 by show s.size ≤ k + 1; omega)]
theorem cd_two (s : ByteArray) (k : Nat) (h : k < s.size) (h92 : s[k] = 92) (h1 : k + 1 < s.size) (hq : s[k + 1] = 34 ∨ s[k + 1] = 92) : codeL (s.data.toList.drop k) = (s[k + 1], 2) := by
  rw [cd_bs s k h h92, list_get s (k + 1) h1]; simp only; rw [if_pos hq]
theorem cd_x (s : ByteArray) (k : Nat) (h : k < s.size) (h92 : s[k] = 92) (h1 : k + 1 < s.size) (hq : ¬ (s[k + 1] = 34 ∨ s[k + 1] = 92)) (hx : s[k + 1] ≠ 120) : codeL (s.data.toList.drop k) = (0, 0) := by
  rw [cd_bs s k h h92, list_get s (k + 1) h1]; simp only; rw [if_neg hq, if_pos hx]
theorem cd_end (s : ByteArray) (k : Nat) (h : k < s.size) (h92 : s[k] = 92) (h1 : k + 1 < s.size) (hq : ¬ (s[k + 1] = 34 ∨ s[k + 1] = 92)) (h3 : ¬ k + 3 < s.size) : codeL (s.data.toList.drop k) = (0, 0) := by
  rw [cd_bs s k h h92, list_get s (k + 1) h1]; simp only; rw [if_neg hq]
  split
  · rfl
  · have hl : (s.data.toList.drop (k + 1 + 1)).length ≤ 1 := by rw [List.length_drop]; have e : s.data.toList.length = s.size := rfl; omega
    match hd : s.data.toList.drop (k + 1 + 1), hl with
    | [], _ => rfl
    | [_], _ => rfl
theorem cd_four (s : ByteArray) (k : Nat) (h : k < s.size) (h92 : s[k] = 92) (h1 : k + 1 < s.size) (hx : s[k + 1] = 120) (h2 : k + 2 < s.size) (h3 : k + 3 < s.size) : codeL (s.data.toList.drop k) = if (0 : Int) ≤ Lib.indexByte digs s[k + 2] ∧ (0 : Int) ≤ Lib.indexByte digs s[k + 3] then (UInt8.ofNat (16 * (Lib.indexByte digs s[k + 2]).toNat + (Lib.indexByte digs s[k + 3]).toNat), 4) else (0, 0) := by
  rw [cd_bs s k h h92, list_get s (k + 1) h1]; simp only; rw [if_neg (by rw [hx]; decide), if_neg (by rw [hx]; simp)]
  rw [list_get s (k + 1 + 1) h2, list_get s (k + 1 + 1 + 1) h3]
theorem idx_str (s : ByteArray) (i : Int) (j : Nat) (hi : i = j) (h : j < s.size) (w : World) : (Instr.index 9 (.string s) (.int .i64 i)).run Tryz.prog w = .ok (.int .u8 s[j].toNat) w := by
  subst hi
  rw [run_index_string w 9 s .i64 _ Tryz.underlying9, dif_pos ⟨by omega, by omega⟩]
  rfl
theorem runq_miss (s : ByteArray) {out : List UInt8} (hd : ∀ u, IsU s.data.toList u → u = out) (h : ¬ (quoteL out = s.data.toList ∧ out.length ≤ 4096)) : (.tuple #[.string ⟨(unqR s.data.toList).1.toArray⟩, .int .i64 (unqR s.data.toList).2] : Value) = .tuple #[.string ⟨#[]⟩, .int .i64 3] := by
  rw [unq_miss hd h]
theorem runq_hit (s : ByteArray) (out : List UInt8) (h : quoteL out = s.data.toList) (h2 : out.length ≤ 4096) : (.tuple #[.string ⟨(unqR s.data.toList).1.toArray⟩, .int .i64 (unqR s.data.toList).2] : Value) = .tuple #[.string ⟨out.toArray⟩, .int .i64 0] := by
  rw [unq_hit h h2]
theorem runq_none (s : ByteArray) (h : ∀ u, ¬ IsU s.data.toList u) : (.tuple #[.string ⟨(unqR s.data.toList).1.toArray⟩, .int .i64 (unqR s.data.toList).2] : Value) = .tuple #[.string ⟨#[]⟩, .int .i64 3] := by
  rw [unqR_none h]
set_option maxRecDepth 100000 in
set_option maxHeartbeats 4000000 in
theorem runq_any (s : ByteArray) (hs : s.size ≤ 70000) (w : World) : Calls Tryz.prog 13 #[.string s] w fun e w' => e = .returned (.tuple #[.string ⟨(unqR s.data.toList).1.toArray⟩, .int .i64 (unqR s.data.toList).2]) ∧ Below w.heap.size w w' := by
  have HF : Hid (∀ {out : List UInt8}, (∀ u, IsU s.data.toList u → u = out) → ¬ (quoteL out = s.data.toList ∧ out.length ≤ 4096) → (.tuple #[.string ⟨(unqR s.data.toList).1.toArray⟩, .int .i64 (unqR s.data.toList).2] : Value) = .tuple #[.string ⟨#[]⟩, .int .i64 3]) := fun h1 h2 => runq_miss s h1 h2
  have HD := Lib.hid (runq_hit s)
  have HN := Lib.hid (runq_none s)
  generalize (.tuple #[.string ⟨(unqR s.data.toList).1.toArray⟩, .int .i64 (unqR s.data.toList).2] : Value) = res at *
  obtain ⟨i0, hi, hz0, hz1, hz2⟩ := info_parts Tryz.infoB5
  have HI : Hid ((Tryz.prog.info? 5 = some i0) ∧ i0.zero = some (.int .u8 0) ∧ i0.size = 1 ∧ i0.bytes = 1) := ⟨hi, hz0, hz1, hz2⟩
  clear hi hz0 hz1 hz2
  go_enter Tryz.func13, Tryz.ntmps13
  go_wp2_with fail
  go_loopw [4, 5] (fun v iv wr => ∃ (out : List UInt8) (k : Nat), iv = .int .i64 k ∧ 1 ≤ k ∧ k ≤ s.size + 1 ∧ out.length ≤ k ∧ wr.ownsRow w.heap.size 5 1 v out.length (Lib.byteCells out) ∧ Below w.heap.size w wr ∧ Hid (UJ s.data.toList out k)) (fun _ iv _ => s.size + 1 - (intOf iv).toNat)
  case atStart => exact ⟨[], 1, rfl, by omega, by omega, by simp, World.ownsRow_lit _ #[] 0 (Nat.le_refl _) (by simp) rfl, (Below.refl _ w).alloc (Nat.le_refl _) _, UJ.start⟩
  case round =>
    obtain ⟨out, k, rfl, hk1, hk2, ho4, hown, hbr, HU⟩ := hrel
    have hzr := hbr.size
    obtain ⟨va, vc, rfl⟩ := own_slice hown
    by_cases hlt : k < s.size
    rotate_left
    · have hlti : ¬ (k : Int) < s.size := by omega
      clear HN
      have HE : Hid (∀ u, IsU s.data.toList u → u = out) := HU.out.done (by exact fun hi => absurd (show k < s.size from hi) hlt)
      have hcv := conv_own hown
      by_cases hs4 : 4096 < out.length
      · have HR := Lib.hid (HF.out (out := out) HE.out fun h => absurd h.2 (by omega))
        have HQ : Hid (quoteR ⟨out.toArray⟩ = (⟨#[]⟩, 4)) := if_pos hs4
        clear HE HF HD HU hs4
        go_wp2_with fail
        refine (rquote_any _ _).mono ?_
        rw [HQ.out]
        rintro e w1 ⟨rfl, hb1⟩
        have hB1 := bt' hbr hb1 hzr
        go_wp2_with fail
        go_ret2
        exact ⟨by rw [HR.out]; rfl, hB1⟩
      have HQ : Hid (quoteR ⟨out.toArray⟩ = (⟨(quoteL out).toArray⟩, 0)) := if_neg hs4
      by_cases hq : (⟨(quoteL out).toArray⟩ : ByteArray) = s
      · have HR := Lib.hid (HD.out out (by rw [← hq]) (by omega))
        have HQ2 : Hid (quoteR ⟨out.toArray⟩ = (s, 0)) := by show _ = _; rw [HQ.out, hq]
        clear HE HF HD HU hs4 hq HQ
        go_wp2_with fail
        refine (rquote_any _ _).mono ?_
        rw [HQ2.out]
        rintro e w1 ⟨rfl, hb1⟩
        have hB1 := bt' hbr hb1 hzr
        have hcv1 := conv_own (own_below hown hb1)
        go_wp2_with fail
        go_ret2
        exact ⟨by rw [HR.out]; rfl, hB1⟩
      · have HR := Lib.hid (HF.out (out := out) HE.out fun h => hq (ba_ext h.1.symm).symm)
        generalize (⟨(quoteL out).toArray⟩ : ByteArray) = bk at *
        have hbq : (bk.toList == s.toList) = false := by
          rw [beq_eq_false_iff_ne, ByteArray.toList_eq, ByteArray.toList_eq]
          exact fun h => hq ((ba_ext h).trans rfl)
        clear HE HF HD HU hs4 hq
        go_wp2_with fail
        refine (rquote_any _ _).mono ?_
        rw [HQ.out]
        rintro e w1 ⟨rfl, hb1⟩
        have hB1 := bt' hbr hb1 hzr
        go_wp2_with fail
        go_ret2
        exact ⟨by rw [HR.out]; rfl, hB1⟩
    have hlti : (k : Int) < s.size := by omega
    by_cases h34 : s[k].toNat = 34
    · have h34i : ((s[k].toNat : Int) != 34) = false := by simp; omega
      clear HN
      have HE : Hid (∀ u, IsU s.data.toList u → u = out) := HU.out.done (by exact fun hi => byte_eq rfl h34)
      have hcv := conv_own hown
      by_cases hs4 : 4096 < out.length
      · have HR := Lib.hid (HF.out (out := out) HE.out fun h => absurd h.2 (by omega))
        have HQ : Hid (quoteR ⟨out.toArray⟩ = (⟨#[]⟩, 4)) := if_pos hs4
        clear HE HF HD HU hs4
        go_wp2_with fail
        refine (rquote_any _ _).mono ?_
        rw [HQ.out]
        rintro e w1 ⟨rfl, hb1⟩
        have hB1 := bt' hbr hb1 hzr
        go_wp2_with fail
        go_ret2
        exact ⟨by rw [HR.out]; rfl, hB1⟩
      have HQ : Hid (quoteR ⟨out.toArray⟩ = (⟨(quoteL out).toArray⟩, 0)) := if_neg hs4
      by_cases hq : (⟨(quoteL out).toArray⟩ : ByteArray) = s
      · have HR := Lib.hid (HD.out out (by rw [← hq]) (by omega))
        have HQ2 : Hid (quoteR ⟨out.toArray⟩ = (s, 0)) := by show _ = _; rw [HQ.out, hq]
        clear HE HF HD HU hs4 hq HQ
        go_wp2_with fail
        refine (rquote_any _ _).mono ?_
        rw [HQ2.out]
        rintro e w1 ⟨rfl, hb1⟩
        have hB1 := bt' hbr hb1 hzr
        have hcv1 := conv_own (own_below hown hb1)
        go_wp2_with fail
        go_ret2
        exact ⟨by rw [HR.out]; rfl, hB1⟩
      · have HR := Lib.hid (HF.out (out := out) HE.out fun h => hq (ba_ext h.1.symm).symm)
        generalize (⟨(quoteL out).toArray⟩ : ByteArray) = bk at *
        have hbq : (bk.toList == s.toList) = false := by
          rw [beq_eq_false_iff_ne, ByteArray.toList_eq, ByteArray.toList_eq]
          exact fun h => hq ((ba_ext h).trans rfl)
        clear HE HF HD HU hs4 hq
        go_wp2_with fail
        refine (rquote_any _ _).mono ?_
        rw [HQ.out]
        rintro e w1 ⟨rfl, hb1⟩
        have hB1 := bt' hbr hb1 hzr
        go_wp2_with fail
        go_ret2
        exact ⟨by rw [HR.out]; rfl, hB1⟩
    have h34i : ((s[k].toNat : Int) != 34) = true := by simp; omega
    have hn34 : s.data.toList[k] ≠ 34 := byte_ne rfl h34
    have HU2 : Hid (∀ c n, codeL (s.data.toList.drop k) = (c, n) → UJ s.data.toList (out ++ [c]) (k + n)) := fun c n h => HU.out.step hlt hn34 h
    have HN0 : Hid (codeL (s.data.toList.drop k) = (0, 0) → res = .tuple #[.string ⟨#[]⟩, .int .i64 3]) := fun h => HN.out (HU.out.none hlt hn34 (by rw [h]))
    by_cases h92 : s[k].toNat = 92
    rotate_left
    · have h92i : ((s[k].toNat : Int) != 92) = true := by simp; omega
      have HN : Hid (UJ s.data.toList (out ++ [s[k]]) (k + 1)) := HU.out.odd hlt hn34 (byte_ne rfl h92)
      clear HU HU2 HN0 h34 h92 HF HD hn34
      have hownA := hown.alloc (.cells #[.int .u8 s[k].toNat] 5)
      have HX := Lib.hid (heap_alloc_last wr (.cells #[.int .u8 s[k].toNat] 5))
      have hbl := Lib.byteCells_length out
      go_wp2_with (at_builtin; refine wpList_append_own _ rfl _ _ 59 rfl w.heap.size 5 i0 (.int .u8 0) 1 1 Tryz.underlying59 HI.out.1 HI.out.2.1 HI.out.2.2.1 HI.out.2.2.2 rfl (by decide) _ _ _ rfl hownA ⟨wr.heap.size, 0, none⟩ 1 1 [.int .u8 s[k].toNat] rfl rfl (World.news_of_block HX.out) (by simp [Value.oneCell']) (by unfold maxLen; omega) (by omega) (by simp; omega) ?_)
      intro v' w2 hown' hgrow _
      have hB2 : Below w.heap.size w w2 := (hbr.alloc hzr _).grown hgrow (by simp; omega) (fun k hk => (hownA.lt k hk).1)
      have hown2 : w2.ownsRow w.heap.size 5 1 v' (out ++ [s[k]]).length (Lib.byteCells (out ++ [s[k]])) := by
        rw [List.length_append, show Lib.byteCells (out ++ [s[k]]) = Lib.byteCells out ++ [.int .u8 s[k].toNat] by simp [Lib.byteCells]]; exact hown'
      clear hown' hgrow hownA
      go_wp2_with fail
      go_roundw
      case rel => exact ⟨out ++ [s[k]], k + 1, by go_num, by omega, by omega, by rw [List.length_append]; show out.length + 1 ≤ k + 1; omega, hown2, hB2, HN⟩
      case measure => simp [intOf]; omega
    have h92i : ((s[k].toNat : Int) != 92) = false := by simp; omega
    have hb92 : s[k] = 92 := byte_eq rfl h92
    by_cases h1 : k + 1 < s.size
    rotate_left
    · have h1i : ¬ (k : Int) + 1 < s.size := by omega
      have h3i : ¬ (k : Int) + 3 < s.size := by omega
      have HR := Lib.hid (HN0.out (cd_short s k hlt hb92 h1))
      clear HF HD
      go_wp2_with fail
      go_ret2
      exact ⟨by rw [HR.out]; rfl, hbr⟩
    have h1i : (k : Int) + 1 < s.size := by omega
    have HX4 := Lib.hid (cd_four s k hlt hb92 h1)
    by_cases hq : s[k + 1].toNat = 34
    · have hqi : ((s[k + 1].toNat : Int) == 34) = true := by simp; omega
      have HN : Hid (UJ s.data.toList (out ++ [s[k + 1]]) (k + 2)) := HU2.out _ _ (cd_two s k hlt hb92 h1 (.inl (byte_eq rfl hq)))
      clear HU HU2 HN0 HX4 h34 h92 HF HD hn34 hb92 hq
      have hownA := hown.alloc (.cells #[.int .u8 s[k + 1].toNat] 5)
      have HX := Lib.hid (heap_alloc_last wr (.cells #[.int .u8 s[k + 1].toNat] 5))
      have hbl := Lib.byteCells_length out
      go_wp2_with (at_builtin; refine wpList_append_own _ rfl _ _ 59 rfl w.heap.size 5 i0 (.int .u8 0) 1 1 Tryz.underlying59 HI.out.1 HI.out.2.1 HI.out.2.2.1 HI.out.2.2.2 rfl (by decide) _ _ _ rfl hownA ⟨wr.heap.size, 0, none⟩ 1 1 [.int .u8 s[k + 1].toNat] rfl rfl (World.news_of_block HX.out) (by simp [Value.oneCell']) (by unfold maxLen; omega) (by omega) (by simp; omega) ?_)
      intro v' w2 hown' hgrow _
      have hB2 : Below w.heap.size w w2 := (hbr.alloc hzr _).grown hgrow (by simp; omega) (fun k hk => (hownA.lt k hk).1)
      have hown2 : w2.ownsRow w.heap.size 5 1 v' (out ++ [s[k + 1]]).length (Lib.byteCells (out ++ [s[k + 1]])) := by
        rw [List.length_append, show Lib.byteCells (out ++ [s[k + 1]]) = Lib.byteCells out ++ [.int .u8 s[k + 1].toNat] by simp [Lib.byteCells]]; exact hown'
      clear hown' hgrow hownA
      go_wp2_with fail
      go_roundw
      case rel => exact ⟨out ++ [s[k + 1]], k + 2, by go_num, by omega, by omega, by rw [List.length_append]; show out.length + 1 ≤ k + 2; omega, hown2, hB2, HN⟩
      case measure => simp [intOf]; omega
    have hqi : ((s[k + 1].toNat : Int) == 34) = false := by simp; omega
    by_cases hq2 : s[k + 1].toNat = 92
    · have hqi2 : ((s[k + 1].toNat : Int) == 92) = true := by simp; omega
      have HN : Hid (UJ s.data.toList (out ++ [s[k + 1]]) (k + 2)) := HU2.out _ _ (cd_two s k hlt hb92 h1 (.inr (byte_eq rfl hq2)))
      clear HU HU2 HN0 HX4 h34 h92 HF HD hn34 hb92 hq hq2
      have hownA := hown.alloc (.cells #[.int .u8 s[k + 1].toNat] 5)
      have HX := Lib.hid (heap_alloc_last wr (.cells #[.int .u8 s[k + 1].toNat] 5))
      have hbl := Lib.byteCells_length out
      go_wp2_with (at_builtin; refine wpList_append_own _ rfl _ _ 59 rfl w.heap.size 5 i0 (.int .u8 0) 1 1 Tryz.underlying59 HI.out.1 HI.out.2.1 HI.out.2.2.1 HI.out.2.2.2 rfl (by decide) _ _ _ rfl hownA ⟨wr.heap.size, 0, none⟩ 1 1 [.int .u8 s[k + 1].toNat] rfl rfl (World.news_of_block HX.out) (by simp [Value.oneCell']) (by unfold maxLen; omega) (by omega) (by simp; omega) ?_)
      intro v' w2 hown' hgrow _
      have hB2 : Below w.heap.size w w2 := (hbr.alloc hzr _).grown hgrow (by simp; omega) (fun k hk => (hownA.lt k hk).1)
      have hown2 : w2.ownsRow w.heap.size 5 1 v' (out ++ [s[k + 1]]).length (Lib.byteCells (out ++ [s[k + 1]])) := by
        rw [List.length_append, show Lib.byteCells (out ++ [s[k + 1]]) = Lib.byteCells out ++ [.int .u8 s[k + 1].toNat] by simp [Lib.byteCells]]; exact hown'
      clear hown' hgrow hownA
      go_wp2_with fail
      go_roundw
      case rel => exact ⟨out ++ [s[k + 1]], k + 2, by go_num, by omega, by omega, by rw [List.length_append]; show out.length + 1 ≤ k + 2; omega, hown2, hB2, HN⟩
      case measure => simp [intOf]; omega
    have hqi2 : ((s[k + 1].toNat : Int) == 92) = false := by simp; omega
    have hqq : ¬ (s[k + 1] = 34 ∨ s[k + 1] = 92) := fun h => h.elim (byte_ne rfl hq) (byte_ne rfl hq2)
    by_cases h3 : k + 3 < s.size
    rotate_left
    · have h3i : ¬ (k : Int) + 3 < s.size := by omega
      have HR := Lib.hid (HN0.out (cd_end s k hlt hb92 h1 hqq h3))
      clear HF HD
      go_wp2_with fail
      go_ret2
      exact ⟨by rw [HR.out]; rfl, hbr⟩
    have h3i : (k : Int) + 3 < s.size := by omega
    have h2 : k + 2 < s.size := by omega
    have h2i : (k : Int) + 2 < s.size := by omega
    by_cases hx : s[k + 1].toNat = 120
    rotate_left
    · have hxi : ((s[k + 1].toNat : Int) == 120) = false := by simp; omega
      have HR := Lib.hid (HN0.out (cd_x s k hlt hb92 h1 hqq (byte_ne rfl hx)))
      clear HF HD
      go_wp2_with fail
      go_ret2
      exact ⟨by rw [HR.out]; rfl, hbr⟩
    have hxi : ((s[k + 1].toNat : Int) == 120) = true := by simp; omega
    have HX5 := Lib.hid (HX4.out (byte_eq rfl hx) h2 h3)
    have a2 := idx_lo digs s[k + 2]
    have a3 := idx_lo digs s[k + 3]
    have dl : digs.length = 16 := rfl
    rw [dl] at a2 a3
    have HV2 := Lib.hid (rvalue_any s[k + 2])
    have HV3 := Lib.hid (rvalue_any s[k + 3])
    clear HX4 hq hq2 hqq hx h34 h92 hn34 hb92 HU dl
    generalize Lib.indexByte digs s[k + 2] = i2 at *
    generalize Lib.indexByte digs s[k + 3] = i3 at *
    by_cases g2 : 0 ≤ i2
    rotate_left
    · have HR := Lib.hid (HN0.out (HX5.out.trans (if_neg fun h => g2 h.1)))
      clear HF HD HN0 HU2 HX5 HN a3
      go_wp2_with fail
      refine (HV2.out _).mono ?_
      rintro e w1 ⟨rfl, h⟩
      rw [h]; clear h
      go_wp2_with fail
      go_ret2
      exact ⟨by rw [HR.out]; rfl, hbr⟩
    by_cases g3 : 0 ≤ i3
    rotate_left
    · have HR := Lib.hid (HN0.out (HX5.out.trans (if_neg fun h => g3 h.2)))
      clear HF HD HN0 HU2 HX5 HN a2
      go_wp2_with fail
      refine (HV2.out _).mono ?_
      rintro e w1 ⟨rfl, h⟩
      rw [h]; clear h
      go_wp2_with fail
      refine (HV3.out _).mono ?_
      rintro e w1 ⟨rfl, h⟩
      rw [h]; clear h
      go_wp2_with fail
      go_ret2
      exact ⟨by rw [HR.out]; rfl, hbr⟩
    have hb2 : i2 ≤ 15 := by omega
    have hb3 : i3 ≤ 15 := by omega
    have HN1 := Lib.hid (HU2.out _ _ (HX5.out.trans (if_pos ⟨g2, g3⟩)))
    obtain ⟨cb, hcb⟩ : ∃ cb, cb = UInt8.ofNat (16 * i2.toNat + i3.toNat) := ⟨_, rfl⟩
    have HN : Hid (UJ s.data.toList (out ++ [cb]) (k + 4)) := by rw [hcb]; exact HN1.out
    have hcbn : (16 * i2 + i3 : Int) = cb.toNat := by rw [hcb]; simp; omega
    clear HF HD HN0 HU2 HX5 HN1 a2 a3 hcb
    go_wp2_with fail
    refine (HV2.out _).mono ?_
    rintro e w1 ⟨rfl, h⟩
    rw [h]; clear h
    go_wp2_with fail
    refine (HV3.out _).mono ?_
    rintro e w1 ⟨rfl, h⟩
    rw [h]; clear h
    go_wp2_with fail
    have hown1 := hown.alloc (.cells #[.int .u8 cb.toNat] 5)
    have hownA : (wr.alloc (.cells #[.int .u8 cb.toNat] 5)).drew.ownsRow w.heap.size 5 1 (.slice va out.length vc) out.length (Lib.byteCells out) := own_below hown1 (Below.drew (Below.refl _ _))
    have HX := Lib.hid (heap_alloc_last wr (.cells #[.int .u8 cb.toNat] 5))
    have hbl := Lib.byteCells_length out
    have hw1 : IntKind.i64.wrap (16 * i2) = 16 * i2 := IntWalk.i64_in _ (by omega)
    have hw2 : IntKind.i64.wrap (16 * i2 + i3) = 16 * i2 + i3 := IntWalk.i64_in _ (by omega)
    have hw3 : IntKind.u8.wrap (16 * i2 + i3) = cb.toNat := by rw [IntWalk.u8_in _ (by omega), hcbn]
    have hw4 : IntKind.i64.wrap ((k : Int) + 2) = k + 2 := IntWalk.i64_in _ (by omega)
    have hw5 : IntKind.i64.wrap ((k : Int) + 3) = k + 3 := IntWalk.i64_in _ (by omega)
    have hi4 : ∀ w, (Instr.index 9 (.string s) (.int .i64 ((k : Int) + 2))).run Tryz.prog w = .ok (.int .u8 s[k + 2].toNat) w := fun w => idx_str s _ (k + 2) (by omega) h2 w
    have hi5 : ∀ w, (Instr.index 9 (.string s) (.int .i64 ((k : Int) + 3))).run Tryz.prog w = .ok (.int .u8 s[k + 3].toNat) w := fun w => idx_str s _ (k + 3) (by omega) h3 w
    clear hcbn
    obtain ⟨c2, hc2⟩ : ∃ c2, c2 = s[k + 2] := ⟨_, rfl⟩
    obtain ⟨c3, hc3⟩ : ∃ c3, c3 = s[k + 3] := ⟨_, rfl⟩
    rw [← hc2] at HV2 hi4
    rw [← hc3] at HV3 hi5
    clear hc2 hc3
    go_region_law (first
      | (go_simp; go_at_call_of 31 (Value.int IntKind.u8 (c2.toNat : Int)); refine (HV2.out _).mono ?_; rintro e w1 ⟨rfl, h⟩; rw [h]; clear h)
      | (go_simp; go_at_call_of 31 (Value.int IntKind.u8 (c3.toNat : Int)); refine (HV3.out _).mono ?_; rintro e w1 ⟨rfl, h⟩; rw [h]; clear h)
      | (refine step_append_lies _ (by rfl) (.tmp 90) (.tmp 104) 59 (by rfl) w.heap.size 5 i0 (.int .u8 0) 1 1 Tryz.underlying59 HI.out.1 HI.out.2.1 HI.out.2.2.1 HI.out.2.2.2 rfl (by decide) (.slice va out.length vc) out.length (Lib.byteCells out) (by simp [Act.eval]) hownA ⟨wr.heap.size, 0, none⟩ 1 1 [.int .u8 cb.toNat] (by simp [Act.eval]) rfl (World.news_of_block (w := (wr.alloc (.cells #[.int .u8 cb.toNat] 5)).drew) HX.out) (fun u hu => by simp at hu; rw [hu]; rfl) (by decide) (by unfold maxLen; omega) (by omega) (by simp; omega) (wr.heap.size + 1) (by simp) ?_; intro g cap w2 hown' hgrow hat hlt'))
    all_goals
      have hB2 : Below w.heap.size w w2 := (Below.drew (hbr.alloc hzr _)).grown hgrow (by simp; omega) (fun k hk => (hownA.lt k hk).1)
      have hown2 : w2.ownsRow w.heap.size 5 1 (.slice (some ⟨g, 0, none⟩) (out.length + 1) cap) (out ++ [cb]).length (Lib.byteCells (out ++ [cb])) := by
        rw [List.length_append, show Lib.byteCells (out ++ [cb]) = Lib.byteCells out ++ [.int .u8 cb.toNat] by simp [Lib.byteCells]]; exact hown'
      clear hown' hgrow hat hlt' hownA hown1 hw1 hw2 hw3 hw4 hw5 hi4 hi5
      go_wp2_with fail
      go_roundw
      case rel => exact ⟨out ++ [cb], k + 4, by go_num, by omega, by omega, by rw [List.length_append]; show out.length + 1 ≤ k + 4; omega, hown2, hB2, HN⟩
      case measure => simp [intOf]; omega
end Go.Proofs.YtmcgddlblhinlaaGreatDoor

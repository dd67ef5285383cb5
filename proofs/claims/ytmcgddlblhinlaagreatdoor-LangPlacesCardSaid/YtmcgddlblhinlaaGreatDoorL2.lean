/- LangPlaces. -/
import Derived.Test.YtmcgddlblhinlaaGreatDoorH22
import Derived.Test.YtmcgddlblhinlaaGreatDoorH23
namespace Go.Proofs.YtmcgddlblhinlaaGreatDoor
open Go.RowKit
theorem piece_le : ∀ (xs : List ByteArray) (j : Nat), (xs.getD j ⟨#[]⟩).size ≤ (catB xs).length
  | [], j => by simp [catB, ByteArray.size]
  | x :: t, 0 => by
    simp [catB]
  | x :: t, j + 1 => by
    have := piece_le t j
    simp [catB] at this ⊢; omega
theorem place_of {s : ByteArray} (h : (parseR s).2.2 = 3) : ∃ j : Nat, (parseR s).2.1 = (j : Int) + 1 ∧ j < (pcS s).length ∧ (Lib.hasSuffix ((pcS s).getD j ⟨#[]⟩).data.toList [10] = true → ∀ rest : ByteArray, (catB ((pcS s).take (j + 1))).length + rest.size ≤ 8192 → parseR (⟨(catB ((pcS s).take (j + 1))).toArray⟩ ++ rest) = (Mis.zero, (j : Int) + 1, 3)) := by
  obtain ⟨j, h1, h2, h3⟩ := parse_place h misE_ne3 (nlc s) (Nat.le_refl _)
  refine ⟨j, by omega, h2, fun hs rest hl => ?_⟩
  have e1 : (⟨(catB ((pcS s).take (j + 1))).toArray⟩ ++ rest : ByteArray) = ⟨(catB ((pcs (nlc s) s.data.toList).take (j + 1)) ++ rest.data.toList).toArray⟩ := by
    refine bs_ext ?_
    simp [pcS]
  have e2 := h3 hs rest.data.toList (by
    have : rest.data.toList.length = rest.size := rfl
    rw [List.length_append, this]; exact hl)
  rw [e1, e2, h1]
  have : (1 : Int) + (j : Int) = (j : Int) + 1 := by omega
  rw [this]
set_option maxRecDepth 100000 in
set_option maxHeartbeats 4000000 in
theorem places_any (s t : ByteArray) (w : World) (hG : Glob w) : Calls Tryz.prog 7 #[.string s, .string t] w fun e w' => e = .returned (.bool true) ∧ Below w.heap.size w w' := by
  have HG := Lib.hid hG
  clear hG
  go_enter Tryz.func7, Tryz.ntmps7
  go_wp2_with fail
  refine (greatS_any _ _ _ _ _ Mis.zero s w (misAt_zero _ _)).mono ?_
  rintro e w1 ⟨⟨g, rfl, -⟩, b1⟩
  cases g with
  | true =>
    go_wp2_with fail
    refine (awake_any w1 (glob_on HG.out b1)).mono ?_
    rintro e wz ⟨rfl, hbz⟩
    have hBz := b1.trans (hbz.mono b1.size)
    clear hbz
    go_wp2_with fail
    go_ret
    exact ⟨rfl, hBz⟩
  | false =>
  by_cases hs : (1500 : Int) < s.size
  · go_wp2_with fail
    refine (awake_any w1 (glob_on HG.out b1)).mono ?_
    rintro e wz ⟨rfl, hbz⟩
    have hBz := b1.trans (hbz.mono b1.size)
    clear hbz
    go_wp2_with fail
    go_ret
    exact ⟨rfl, hBz⟩
  by_cases ht : (1500 : Int) < t.size
  · go_wp2_with fail
    refine (awake_any w1 (glob_on HG.out b1)).mono ?_
    rintro e wz ⟨rfl, hbz⟩
    have hBz := b1.trans (hbz.mono b1.size)
    clear hbz
    go_wp2_with fail
    go_ret
    exact ⟨rfl, hBz⟩
  have hs9 : s.size ≤ 1500 := by omega
  have ht9 : t.size ≤ 1500 := by omega
  go_wp2_with fail
  refine (parse_any s w1 (glob_on HG.out b1)).mono ?_
  unfold ParsePost
  have HPL := Lib.hid (place_of (s := s))
  have HBD : Hid (∀ j, ((pcS s).getD j ⟨#[]⟩).size ≤ 1500 ∧ (catB ((pcS s).take j)).length ≤ 1500) := fun j => by
    have h1 := pcs_cat (nlc s) s.data.toList
    have h2 := piece_le (pcS s) j
    have h3 := catB_take (pcS s) j
    have h4 : s.data.toList.length = s.size := rfl
    have h5 : (catB (pcS s)).length ≤ s.data.toList.length := h1
    omega
  generalize parseR s = R at *
  obtain ⟨mm, n, er⟩ := R
  dsimp only at HPL ⊢
  rintro e w2 ⟨VQ, VC, VO, VF, VX, rfl, hM, hb2⟩
  have b2 := b1.trans (hb2.mono b1.size)
  clear hb2 b1
  obtain ⟨hq, hc, ho, hf, hx⟩ := hM
  obtain ⟨A1, c1, rfl, -⟩ := hq
  obtain ⟨A2, c2, rfl, -⟩ := hc
  obtain ⟨A3, c3, rfl, -⟩ := ho
  obtain ⟨A4, c4, rfl, -⟩ := hf
  obtain ⟨A5, c5, rfl, -⟩ := hx
  have b3 := b2.alloc b2.size (.cells #[.slice A1 mm.q.length c1, .slice A2 mm.cs.length c2, .slice A3 mm.os.length c3, .slice A4 mm.fs.length c4, .slice A5 mm.xs.length c5, .bool mm.bd] 31)
  by_cases her : er = 3
  rotate_left
  · have qe : (er != 3) = true := by simpa using her
    clear her
    go_wp2_with fail
    refine (awake_any _ (glob_on HG.out b3)).mono ?_
    rintro e wz ⟨rfl, hbz⟩
    have hBz := b3.trans (hbz.mono b3.size)
    clear hbz
    go_wp2_with fail
    go_ret
    exact ⟨rfl, hBz⟩
  subst her
  obtain ⟨j, rfl, hj, hP⟩ := HPL.out rfl
  have HPA := Lib.hid hP
  clear hP HPL
  go_wp2_with fail
  generalize w2.alloc (.cells #[.slice A1 mm.q.length c1, .slice A2 mm.cs.length c2, .slice A3 mm.os.length c3, .slice A4 mm.fs.length c4, .slice A5 mm.xs.length c5, .bool mm.bd] 31) = w3 at *
  refine (split_after s (by omega) w3 (glob_on HG.out b3)).mono ?_
  rintro e w4 ⟨c, rfl, hc1, hc2, hb4, hlt, hcell⟩
  have b4 := b3.trans (hb4.mono b3.size)
  have hx := hcell j hj
  have HC := Lib.hid hcell
  obtain ⟨hp1, -⟩ := HBD.out j
  have HCT := Lib.hid (HBD.out (j + 1)).2
  clear hcell hb4 HBD
  generalize hps : pcS s = ps at *
  generalize hpc : ps.getD j ⟨#[]⟩ = pc at *
  have i1 : ¬ (j : Int) + 1 < 1 := by omega
  have i2 : ¬ (ps.length : Int) < (j : Int) + 1 := by omega
  go_wp2_with fail
  refine (Tryz.strings_HasSuffix pc ⟨#[10]⟩ w4 (by omega)).mono ?_
  rintro e w5 ⟨rfl, rfl⟩
  by_cases hsf : Lib.hasSuffix pc.data.toList [10] = true
  rotate_left
  · have hsf : Lib.hasSuffix pc.data.toList [10] = false := by simpa using hsf
    have e2 : Lib.hasSuffix pc.data.toList (⟨#[10]⟩ : ByteArray).data.toList = false := hsf
    rw [e2]
    clear e2 hsf
    go_wp2_with fail
    refine (awake_any _ (glob_on HG.out b4)).mono ?_
    rintro e wz ⟨rfl, hbz⟩
    have hBz := b4.trans (hbz.mono b4.size)
    clear hbz
    go_wp2_with fail
    go_ret
    exact ⟨rfl, hBz⟩
  have HPA2 := Lib.hid (HPA.out hsf t (by have := HCT.out; omega))
  have e2 : Lib.hasSuffix pc.data.toList (⟨#[10]⟩ : ByteArray).data.toList = true := hsf
  rw [e2]
  have HCT2 := HCT.out
  have htl : (ps.take (j + 1)).length = j + 1 := by rw [List.length_take]; omega
  have HJ := Lib.hid (Tryz.strings_Join w3.heap.size 0 c (ps.take (j + 1)) ⟨#[]⟩ w5 (fun i x hi => by
    have hi2 : i < (ps.take (j + 1)).length := (List.getElem?_eq_some_iff.1 hi).1
    rw [htl] at hi2
    have h1 := HC.out i (by omega)
    rw [Nat.zero_add]
    rw [h1]
    rw [List.getElem?_take_of_lt (by omega)] at hi
    simp [List.getD, hi]) hlt (by omega) (by omega) (by
      rw [show (⟨#[]⟩ : ByteArray).data.toList = [] from rfl, join_cat]; omega))
  rw [show (⟨#[]⟩ : ByteArray).data.toList = [] from rfl, join_cat, htl] at HJ
  clear e2 hsf HPA
  generalize hct : (⟨(catB (ps.take (j + 1))).toArray⟩ : ByteArray) = ct at *
  have hcs : ct.size ≤ 1500 := by rw [← hct]; exact HCT2
  clear hct HCT HCT2
  go_wp2_with fail
  have hjc : ((j : Int) + 1).toNat = j + 1 := by omega
  refine HJ.out.mono ?_
  rintro e w6 ⟨rfl, hb6⟩
  have b6 := b4.trans (hb6.mono b4.size)
  clear hb6
  go_wp2_with fail
  refine (parse_any _ w6 (glob_on HG.out b6)).mono ?_
  unfold ParsePost
  rw [HPA2.out]
  rintro e w7 ⟨UQ, UC, UO, UF, UX, rfl, hM7, hb7⟩
  have HM7 := Lib.hid hM7
  have b7 := b6.trans (hb7.mono b6.size)
  clear hb7
  obtain ⟨hq, hc, ho, hf, hx⟩ := hM7
  obtain ⟨D1, d1, rfl, -⟩ := hq
  obtain ⟨D2, d2, rfl, -⟩ := hc
  obtain ⟨D3, d3, rfl, -⟩ := ho
  obtain ⟨D4, d4, rfl, -⟩ := hf
  obtain ⟨D5, d5, rfl, -⟩ := hx
  simp only [Mis.zero, List.length_nil]
  have HM8 : Hid (MisAt w7 w7.heap.size (.slice D1 0 d1) (.slice D2 0 d2) (.slice D3 0 d3) (.slice D4 0 d4) (.slice D5 0 d5) Mis.zero) := HM7.out
  have hb8 := (Below.refl w7.heap.size w7).alloc (Nat.le_refl _) (.cells #[.slice D1 0 d1, .slice D2 0 d2, .slice D3 0 d3, .slice D4 0 d4, .slice D5 0 d5, .bool false] 31)
  clear HM7
  go_wp2_with fail
  refine (same0 _ _ _ _ _ _ (HM8.out.on hb8)).mono ?_
  rintro e w8 ⟨rfl, hb9⟩
  have b8 := b7.trans ((hb8.trans (hb9.mono hb8.size)).mono b7.size)
  clear hb8 hb9
  go_wp2_with fail
  refine (awake_any w8 (glob_on HG.out b8)).mono ?_
  rintro e wz ⟨rfl, hbz⟩
  have hBz := b8.trans (hbz.mono b8.size)
  clear hbz
  go_wp2_with fail
  go_ret
  exact ⟨rfl, hBz⟩
end Go.Proofs.YtmcgddlblhinlaaGreatDoor

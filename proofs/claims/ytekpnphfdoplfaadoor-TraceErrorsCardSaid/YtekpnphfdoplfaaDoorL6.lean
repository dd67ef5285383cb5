/- Walk of the law TraceErrors. -/
import Derived.Test.YtekpnphfdoplfaaDoorL5
namespace Go.Proofs.YtekpnphfdoplfaaDoor
open Go.RowKit Go.Shelf
set_option maxHeartbeats 4000000 in
set_option maxRecDepth 100000 in
theorem law_errors (v : Value) (xs : List Ent) (l r : ByteArray) (hl1 : l.size ≤ 140737488351232) (hr1 : r.size ≤ 140737488351232) (w : World) (hv : Ents w w.heap.size v xs) (hG : Glob w) : Calls Tryd.prog 8 #[v, .string l, .string r] w fun e w' => e = .returned (.bool true) ∧ Below w.heap.size w w' := by
  by_cases h60 : 60 < xs.length
  · have hg : decide (60 < xs.length) = true := decide_eq_true h60
    go_enter Tryd.func8, Tryd.ntmps8
    go_wp2_with fail
    refine (great_any v xs w hv).mono ?_
    rw [hg]
    rintro e w1 ⟨rfl, b1⟩
    go_wp2_with fail
    refine (awake_any w1 (hG.below (b1))).mono ?_
    rintro e w2 ⟨rfl, b2⟩
    go_wp2_with fail
    go_ret
    exact ⟨rfl, (b1).trans (b2.mono (b1).size)⟩
  · have hg : decide (60 < xs.length) = false := decide_eq_false h60
    by_cases h2 : 200 < l.size + r.size
    · have h2' : (200 : Int) < (l.size : Int) + r.size := by omega
      go_enter Tryd.func8, Tryd.ntmps8
      go_wp2_with fail
      refine (great_any v xs w hv).mono ?_
      rw [hg]
      rintro e w1 ⟨rfl, b1⟩
      go_wp2_with fail
      refine (awake_any w1 (hG.below (b1))).mono ?_
      rintro e w2 ⟨rfl, b2⟩
      go_wp2_with fail
      go_ret
      exact ⟨rfl, (b1).trans (b2.mono (b1).size)⟩
    · have h2' : ¬ (200 : Int) < (l.size : Int) + r.size := by omega
      obtain ⟨a, hae⟩ : ∃ a, (Lib.cut l.data.toList [10]).1 = a := ⟨_, rfl⟩
      have ha10 : (10 : UInt8) ∉ a := by rw [← hae]; exact cut_no10 _
      have hal : a.length ≤ 200 := by
        have h1 := cut_len1 l.data.toList
        have h3 : l.data.toList.length = l.size := rfl
        rw [← hae]; omega
      have hab : (⟨a.toArray⟩ : ByteArray).size = a.length := rfl
      by_cases hE : chkE xs = 0
      · have hcl := cat_short xs ((chkE_iff xs).1 hE).2.1
        have HP := Lib.hid (printR_ok hE (by omega))
        have hX : (parseR ((⟨a.toArray⟩ : ByteArray) ++ ⟨#[10]⟩)).2.2 = 3 → parseR ((⟨(catL xs).toArray⟩ : ByteArray) ++ ⟨a.toArray⟩ ++ ⟨#[10]⟩ ++ r) = ([], (xs.length : Int) + 1, 3) := fun h3 => by
          rw [show ((⟨a.toArray⟩ : ByteArray) ++ ⟨#[10]⟩) = ⟨(a ++ [10]).toArray⟩ from ByteArray.mk_append_mk a [10]] at h3
          have h4 := parse_line_bad ha10 (by omega) h3
          have e : ((⟨(catL xs).toArray⟩ : ByteArray) ++ ⟨a.toArray⟩ ++ ⟨#[10]⟩ ++ r).data.toList = catL xs ++ (a ++ 10 :: r.data.toList) := by simp [ByteArray.data_append]
          refine parse_stop hE ha10 h4 _ e ?_
          have : ((⟨(catL xs).toArray⟩ : ByteArray) ++ ⟨a.toArray⟩ ++ ⟨#[10]⟩ ++ r).size = _ := congrArg List.length e
          rw [this]
          have h5 : r.data.toList.length = r.size := rfl
          simp only [List.length_append, List.length_cons, h5]; omega
        have HX := Lib.hid hX
        have hps : (⟨(catL xs).toArray⟩ : ByteArray).size = (catL xs).length := rfl
        have hl60 : xs.length ≤ 60 := by omega
        clear hX hE ha10
        generalize (⟨(catL xs).toArray⟩ : ByteArray) = ps at *
        go_enter Tryd.func8, Tryd.ntmps8
        go_wp2_with fail
        refine (great_any v xs w hv).mono ?_
        rw [hg]
        rintro e w1 ⟨rfl, b1⟩
        go_wp2_with fail
        refine (print_any v xs w1 (hv.keep b1) (hG.below b1)).mono ?_
        rw [HP.out]
        rintro e w2 ⟨rfl, b2⟩
        have c2 := b1.trans (b2.mono b1.size)
        go_wp2_with fail
        refine (cut_any l (by omega) w2 (hG.below c2)).mono ?_
        rw [hae]
        rintro e w3 ⟨rfl, q, hq⟩
        have b3 : Below w2.heap.size w2 w3 := by rw [hq]; exact below_drewN (Below.refl _ _) q
        have c3 := c2.trans (b3.mono c2.size)
        clear hq q hae
        generalize (Lib.cut l.data.toList [10]).2.1 = cr at *
        generalize (Lib.cut l.data.toList [10]).2.2 = cf at *
        generalize (⟨a.toArray⟩ : ByteArray) = ab at *
        clear HP
        have k1 : ¬ 9223372036854775807 < ab.size + 1 := by omega
        have k2 : ¬ 9223372036854775807 < ps.size + ab.size := by omega
        have k3 : ¬ 9223372036854775807 < ps.size + ab.size + 1 := by omega
        have k4 : ¬ 9223372036854775807 < ps.size + ab.size + 1 + r.size := by omega
        go_wp2_with fail
        generalize ab ++ (⟨#[10]⟩ : ByteArray) = t1 at *
        by_cases h3 : (parseR t1).2.2 = 3
        · have HS := Lib.hid (HX.out h3)
          have h3' : ((parseR t1).2.2 != 3) = false := by simpa using h3
          by_cases h1 : (parseR t1).2.1 = 1
          · have h1' : ((parseR t1).2.1 != 1) = false := by simpa using h1
            clear h3 h1 HX
            refine (parse_any t1 w3 (hG.below c3)).mono ?_
            unfold ParsePost
            generalize (parseR t1).1 = Q1 at *
            generalize (parseR t1).2.1 = n1 at *
            generalize (parseR t1).2.2 = e1 at *
            rintro e w4 ⟨u4, rfl, hu4, b4⟩
            have c4 := c3.trans (b4.mono c3.size)
            obtain ⟨A4, k4', rfl, hlc4, hc4⟩ := hu4.shp
            go_wp2_with fail
            generalize ps ++ ab ++ (⟨#[10]⟩ : ByteArray) ++ r = t2 at *
            refine (parse_any t2 w4 (hG.below c4)).mono ?_
            unfold ParsePost
            rw [HS.out]
            dsimp only
            rintro e w5 ⟨u5, rfl, hu5, b5⟩
            have c5 := c4.trans (b5.mono c4.size)
            obtain ⟨A5, k5, rfl, hlc5, hc5⟩ := hu5.shp
            obtain ⟨A0, k0, rfl, hlc0, hc0⟩ := hv.shp
            go_wp2_with fail
            refine (awake_any w5 (hG.below (c5))).mono ?_
            rintro e w6 ⟨rfl, b6⟩
            go_wp2_with fail
            go_ret
            exact ⟨rfl, (c5).trans (b6.mono (c5).size)⟩
          · have h1' : ((parseR t1).2.1 != 1) = true := by simpa using h1
            clear h3 h1 HX
            refine (parse_any t1 w3 (hG.below c3)).mono ?_
            unfold ParsePost
            generalize (parseR t1).1 = Q1 at *
            generalize (parseR t1).2.1 = n1 at *
            generalize (parseR t1).2.2 = e1 at *
            rintro e w4 ⟨u4, rfl, hu4, b4⟩
            have c4 := c3.trans (b4.mono c3.size)
            obtain ⟨A4, k4', rfl, hlc4, hc4⟩ := hu4.shp
            go_wp2_with fail
            refine (awake_any w4 (hG.below (c4))).mono ?_
            rintro e w5 ⟨rfl, b5⟩
            go_wp2_with fail
            go_ret
            exact ⟨rfl, (c4).trans (b5.mono (c4).size)⟩
        · have h3' : ((parseR t1).2.2 != 3) = true := by simpa using h3
          clear h3 HX
          refine (parse_any t1 w3 (hG.below c3)).mono ?_
          unfold ParsePost
          generalize (parseR t1).1 = Q1 at *
          generalize (parseR t1).2.1 = n1 at *
          generalize (parseR t1).2.2 = e1 at *
          rintro e w4 ⟨u4, rfl, hu4, b4⟩
          have c4 := c3.trans (b4.mono c3.size)
          obtain ⟨A4, k4', rfl, hlc4, hc4⟩ := hu4.shp
          go_wp2_with fail
          refine (awake_any w4 (hG.below (c4))).mono ?_
          rintro e w5 ⟨rfl, b5⟩
          go_wp2_with fail
          go_ret
          exact ⟨rfl, (c4).trans (b5.mono (c4).size)⟩
      · have HP := Lib.hid (printR_bad hE)
        have hEb : (chkE xs != 0) = true := by simpa using hE
        clear hE
        go_enter Tryd.func8, Tryd.ntmps8
        go_wp2_with fail
        refine (great_any v xs w hv).mono ?_
        rw [hg]
        rintro e w1 ⟨rfl, b1⟩
        go_wp2_with fail
        generalize chkE xs = ce at *
        refine (print_any v xs w1 (hv.keep b1) (hG.below b1)).mono ?_
        rw [HP.out]
        rintro e w2 ⟨rfl, b2⟩
        have c2 := b1.trans (b2.mono b1.size)
        go_wp2_with fail
        refine (cut_any l (by omega) w2 (hG.below c2)).mono ?_
        rw [hae]
        rintro e w3 ⟨rfl, q, hq⟩
        have b3 : Below w2.heap.size w2 w3 := by rw [hq]; exact below_drewN (Below.refl _ _) q
        have c3 := c2.trans (b3.mono c2.size)
        clear hq q hae
        generalize (Lib.cut l.data.toList [10]).2.1 = cr at *
        generalize (Lib.cut l.data.toList [10]).2.2 = cf at *
        clear ha10
        generalize (⟨a.toArray⟩ : ByteArray) = ab at *
        have k1 : ¬ 9223372036854775807 < ab.size + 1 := by omega
        go_wp2_with fail
        generalize ab ++ (⟨#[10]⟩ : ByteArray) = t1 at *
        refine (parse_any t1 w3 (hG.below c3)).mono ?_
        unfold ParsePost
        generalize (parseR t1).1 = Q1 at *
        generalize (parseR t1).2.1 = n1 at *
        generalize (parseR t1).2.2 = e1 at *
        rintro e w4 ⟨u4, rfl, hu4, b4⟩
        have c4 := c3.trans (b4.mono c3.size)
        obtain ⟨A4, k4', rfl, hlc4, hc4⟩ := hu4.shp
        go_wp2_with fail
        refine (awake_any w4 (hG.below (c4))).mono ?_
        rintro e w5 ⟨rfl, b5⟩
        go_wp2_with fail
        go_ret
        exact ⟨rfl, (c4).trans (b5.mono (c4).size)⟩
end Go.Proofs.YtekpnphfdoplfaaDoor

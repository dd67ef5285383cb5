/- Walk of the law TraceRoundTrip. -/
import Derived.Test.YtekpnphfdoplfaaDoorL2
import Derived.Test.YtekpnphfdoplfaaDoorB10
import Derived.Test.YtekpnphfdoplfaaDoorP5
namespace Go.Proofs.YtekpnphfdoplfaaDoor
open Go.RowKit Go.Shelf
theorem Ents.shp {w : World} {v : Value} {xs : List Ent} (h : Ents w w.heap.size v xs) : ∃ A c, v = .slice A xs.length c ∧ xs.length ≤ c ∧ c ≤ 9223372036854775807 := by
  obtain ⟨A, c, rfl, h1, h2, _⟩ := h
  exact ⟨A, c, rfl, h1, h2⟩
set_option maxHeartbeats 4000000 in
set_option maxRecDepth 100000 in
theorem law_round (v : Value) (xs : List Ent) (s : ByteArray) (hs : s.size ≤ 9223372036854775807) (w : World) (hv : Ents w w.heap.size v xs) (hG : Glob w) : Calls Tryd.prog 7 #[v, .string s] w fun e w' => e = .returned (.bool true) ∧ Below w.heap.size w w' := by
  by_cases h60 : 60 < xs.length
  · have hg : decide (60 < xs.length) = true := decide_eq_true h60
    go_enter Tryd.func7, Tryd.ntmps7
    go_wp2_with fail
    refine (great_any v xs w hv).mono ?_
    rw [hg]
    rintro e w1 ⟨rfl, b1⟩
    go_wp2_with fail
    refine (awake_any w1 (hG.below (b1))).mono ?_
    rintro e w2 ⟨rfl, b2⟩
    go_wp2_with fail
    go_ret
    exact ⟨rfl, (b1).trans (b2.mono (b1).size)⟩
  · have hg : decide (60 < xs.length) = false := decide_eq_false h60
    by_cases h2 : 2000 < s.size
    · have h2' : (2000 : Int) < s.size := by omega
      go_enter Tryd.func7, Tryd.ntmps7
      go_wp2_with fail
      refine (great_any v xs w hv).mono ?_
      rw [hg]
      rintro e w1 ⟨rfl, b1⟩
      go_wp2_with fail
      refine (awake_any w1 (hG.below (b1))).mono ?_
      rintro e w2 ⟨rfl, b2⟩
      go_wp2_with fail
      go_ret
      exact ⟨rfl, (b1).trans (b2.mono (b1).size)⟩
    · have h2' : ¬ (2000 : Int) < s.size := by omega
      by_cases hE : chkE xs = 0
      · have hl := cat_short xs ((chkE_iff xs).1 hE).2.1
        have HP := Lib.hid (printR_ok hE (by omega))
        have HR := Lib.hid (parse_print hE (by omega))
        clear hl hE
        go_enter Tryd.func7, Tryd.ntmps7
        go_wp2_with fail
        refine (great_any v xs w hv).mono ?_
        rw [hg]
        rintro e w1 ⟨rfl, b1⟩
        go_wp2_with fail
        generalize (⟨(catL xs).toArray⟩ : ByteArray) = ps at *
        refine (print_any v xs w1 (hv.keep b1) (hG.below b1)).mono ?_
        rw [HP.out]
        rintro e w2 ⟨rfl, b2⟩
        have c2 := b1.trans (b2.mono b1.size)
        go_wp2_with fail
        refine (parse_any ps w2 (hG.below c2)).mono ?_
        unfold ParsePost
        rw [HR.out]
        rintro e w3 ⟨u3, rfl, hu3, b3⟩
        have c3 := c2.trans (b3.mono c2.size)
        obtain ⟨A3, k3, rfl, hlc3, hc3⟩ := hu3.shp
        go_wp2_with fail
        refine (same_any v _ xs xs w3 (hv.keep c3) hu3).mono ?_
        rw [sameL_self]
        rintro e w4 ⟨rfl, b4⟩
        have c4 := c3.trans (b4.mono c3.size)
        go_wp2_with fail
        by_cases hf : (parseR s).2.2 = 0
        · obtain ⟨hn0, ht⟩ := parse_ok hf
          have HT := Lib.hid ht
          clear ht
          refine (parse_any s w4 (hG.below c4)).mono ?_
          unfold ParsePost
          rw [hf, hn0]
          clear hf hn0
          generalize (parseR s).1 = Q at *
          rintro e w5 ⟨u5, rfl, hu5, b5⟩
          have c5 := c4.trans (b5.mono c4.size)
          obtain ⟨A5, k5, rfl, hlc5, hc5⟩ := hu5.shp
          go_wp2_with fail
          refine (print_any _ Q w5 hu5 (hG.below c5)).mono ?_
          rw [HT.out]
          rintro e w6 ⟨rfl, b6⟩
          have c6 := c5.trans (b6.mono c5.size)
          go_wp2_with fail
          refine (awake_any w6 (hG.below (c6))).mono ?_
          rintro e w7 ⟨rfl, b7⟩
          go_wp2_with fail
          go_ret
          exact ⟨rfl, (c6).trans (b7.mono (c6).size)⟩
        · obtain ⟨h1, h2⟩ := parse_bad hf
          have hfb : ((parseR s).2.2 != 0) = true := by simpa using hf
          clear hf
          refine (parse_any s w4 (hG.below c4)).mono ?_
          unfold ParsePost
          rw [h1]
          clear h1
          generalize (parseR s).2.2 = er at *
          generalize (parseR s).2.1 = ln at *
          rintro e w5 ⟨u5, rfl, hu5, b5⟩
          have c5 := c4.trans (b5.mono c4.size)
          obtain ⟨A5, k5, rfl, hlc5, hc5⟩ := hu5.shp
          go_wp2_with fail
          refine (awake_any w5 (hG.below (c5))).mono ?_
          rintro e w6 ⟨rfl, b6⟩
          go_wp2_with fail
          go_ret
          exact ⟨rfl, (c5).trans (b6.mono (c5).size)⟩
      · have HP := Lib.hid (printR_bad hE)
        have hEb : (chkE xs == 0) = false := by simpa using hE
        clear hE
        go_enter Tryd.func7, Tryd.ntmps7
        go_wp2_with fail
        refine (great_any v xs w hv).mono ?_
        rw [hg]
        rintro e w1 ⟨rfl, b1⟩
        go_wp2_with fail
        generalize chkE xs = ce at *
        refine (print_any v xs w1 (hv.keep b1) (hG.below b1)).mono ?_
        rw [HP.out]
        rintro e w2 ⟨rfl, b2⟩
        have c2 := b1.trans (b2.mono b1.size)
        go_wp2_with fail
        by_cases hf : (parseR s).2.2 = 0
        · obtain ⟨hn0, ht⟩ := parse_ok hf
          have HT := Lib.hid ht
          clear ht
          refine (parse_any s w2 (hG.below c2)).mono ?_
          unfold ParsePost
          rw [hf, hn0]
          clear hf hn0
          generalize (parseR s).1 = Q at *
          rintro e w3 ⟨u3, rfl, hu3, b3⟩
          have c3 := c2.trans (b3.mono c2.size)
          obtain ⟨A3, k3, rfl, hlc3, hc3⟩ := hu3.shp
          go_wp2_with fail
          refine (print_any _ Q w3 hu3 (hG.below c3)).mono ?_
          rw [HT.out]
          rintro e w4 ⟨rfl, b4⟩
          have c4 := c3.trans (b4.mono c3.size)
          go_wp2_with fail
          refine (awake_any w4 (hG.below (c4))).mono ?_
          rintro e w5 ⟨rfl, b5⟩
          go_wp2_with fail
          go_ret
          exact ⟨rfl, (c4).trans (b5.mono (c4).size)⟩
        · obtain ⟨h1, h2⟩ := parse_bad hf
          have hfb : ((parseR s).2.2 != 0) = true := by simpa using hf
          clear hf
          refine (parse_any s w2 (hG.below c2)).mono ?_
          unfold ParsePost
          rw [h1]
          clear h1
          generalize (parseR s).2.2 = er at *
          generalize (parseR s).2.1 = ln at *
          rintro e w3 ⟨u3, rfl, hu3, b3⟩
          have c3 := c2.trans (b3.mono c2.size)
          obtain ⟨A3, k3, rfl, hlc3, hc3⟩ := hu3.shp
          go_wp2_with fail
          refine (awake_any w3 (hG.below (c3))).mono ?_
          rintro e w4 ⟨rfl, b4⟩
          go_wp2_with fail
          go_ret
          exact ⟨rfl, (c3).trans (b4.mono (c3).size)⟩
end Go.Proofs.YtekpnphfdoplfaaDoor

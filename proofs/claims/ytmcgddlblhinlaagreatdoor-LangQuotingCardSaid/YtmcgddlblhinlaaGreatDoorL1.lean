/- LangQuoting. -/
import Derived.Test.YtmcgddlblhinlaaGreatDoorH22
namespace Go.Proofs.YtmcgddlblhinlaaGreatDoor
open Go.RowKit
set_option maxRecDepth 100000 in
set_option maxHeartbeats 4000000 in
theorem quoting_any (s t : ByteArray) (w : World) (hG : Glob w) : Calls Tryz.prog 5 #[.string s, .string t] w fun e w' => e = .returned (.bool true) ∧ Below w.heap.size w w' := by
  have HG := Lib.hid hG
  clear hG
  go_enter Tryz.func5, Tryz.ntmps5
  go_wp2_with fail
  refine (greatS_any _ _ _ _ _ Mis.zero s w (misAt_zero _ _)).mono ?_
  rintro e w1 ⟨⟨g, rfl, -⟩, b1⟩
  cases g with
  | true =>
    go_wp2_with fail
    refine (awake_any w1 (glob_on HG.out b1)).mono ?_
    rintro e wz ⟨rfl, hbz⟩
    have hBz := b1.trans (hbz.mono b1.size)
    clear hbz
    go_wp2_with fail
    go_ret
    exact ⟨rfl, hBz⟩
  | false =>
  go_wp2_with fail
  refine (greatS_any _ _ _ _ _ Mis.zero t w1 (misAt_zero _ _)).mono ?_
  rintro e w2 ⟨⟨g, rfl, hg⟩, hb2⟩
  have b2 := b1.trans (hb2.mono b1.size)
  clear hb2 b1
  cases g with
  | true =>
    go_wp2_with fail
    refine (awake_any w2 (glob_on HG.out b2)).mono ?_
    rintro e wz ⟨rfl, hbz⟩
    have hBz := b2.trans (hbz.mono b2.size)
    clear hbz
    go_wp2_with fail
    go_ret
    exact ⟨rfl, hBz⟩
  | false =>
  have ht := hg rfl
  have ht : t.size ≤ 9000 := by omega
  clear hg
  go_wp2_with fail
  refine (quote_any s w2).mono ?_
  by_cases hs : 4096 < s.size
  · have hi : ¬ (s.size : Int) ≤ 4096 := by omega
    rw [show quoteR s = (⟨#[]⟩, 4) from if_pos hs]
    rintro e w3 ⟨rfl, hb3⟩
    have b3 := b2.trans (hb3.mono b2.size)
    clear hb3 b2
    go_wp2_with fail
    refine (unq_any t (by omega) w3).mono ?_
    rcases unqR_cases t.data.toList with ⟨u, hu, he⟩ | ⟨-, he⟩
    · rw [he]
      rintro e w7 ⟨rfl, hb7⟩
      have b7 := b3.trans (hb7.mono b3.size)
      have hqu : quoteR ⟨u.toArray⟩ = (t, 0) := by
        have h1 : ¬ 4096 < (⟨u.toArray⟩ : ByteArray).size := by have := hu.2; show ¬ 4096 < u.length; omega
        rw [quoteR, if_neg h1]
        have h2 : quoteL u = t.data.toList := hu.1
        show ((⟨(quoteL u).toArray⟩ : ByteArray), (0 : Int)) = (t, 0)
        rw [h2]
      have HQU := Lib.hid hqu
      clear hb7 hu he hqu
      generalize (⟨u.toArray⟩ : ByteArray) = us at *
      go_wp2_with fail
      refine (quote_any us w7).mono ?_
      rw [HQU.out]
      rintro e w8 ⟨rfl, hb8⟩
      have b8 := b7.trans (hb8.mono b7.size)
      clear hb8
      go_wp2_with fail
      refine (awake_any w8 (glob_on HG.out b8)).mono ?_
      rintro e wz ⟨rfl, hbz⟩
      have hBz := b8.trans (hbz.mono b8.size)
      clear hbz
      go_wp2_with fail
      go_ret
      exact ⟨rfl, hBz⟩
    · rw [he]
      rintro e w7 ⟨rfl, hb7⟩
      have b7 := b3.trans (hb7.mono b3.size)
      clear hb7 he
      go_wp2_with fail
      refine (awake_any w7 (glob_on HG.out b7)).mono ?_
      rintro e wz ⟨rfl, hbz⟩
      have hBz := b7.trans (hbz.mono b7.size)
      clear hbz
      go_wp2_with fail
      go_ret
      exact ⟨rfl, hBz⟩
  · have hi : (s.size : Int) ≤ 4096 := by omega
    have hq := quoteS_size s
    have HQ : Hid (unqR (quoteS s).data.toList = (s.data.toList, 0)) := unqR_some ⟨rfl, by show s.size ≤ 4096; omega⟩
    have HR : Hid (∀ k (h : k < (quoteS s).size), ¬ (((quoteS s)[k].toNat : Int) < 32) ∧ ¬ ((126 : Int) < (quoteS s)[k].toNat)) := fun k h => by
      have := quote_range s.data.toList (quoteS s)[k] (by
        have h1 : k < (quoteL s.data.toList).length := h
        show (quoteL s.data.toList).toArray[k] ∈ _
        simp)
      omega
    rw [show quoteR s = (quoteS s, 0) from if_neg hs]
    generalize quoteS s = q at *
    rintro e w3 ⟨rfl, hb3⟩
    have b3 := b2.trans (hb3.mono b2.size)
    clear hb3 b2
    go_wp2_with fail
    refine (unq_any q (by omega) w3).mono ?_
    rw [HQ.out]
    rintro e w4 ⟨rfl, hb4⟩
    have b4 := b3.trans (hb4.mono b3.size)
    clear hb4 b3
    have e1 : (⟨s.data.toList.toArray⟩ : ByteArray) = s := rfl
    rw [e1]
    clear e1
    go_wp2_with fail
    go_loopw [50] (fun i wr => ∃ k : Nat, k ≤ q.size ∧ i = .int .i64 k ∧ Below w.heap.size w wr) (fun i _ => q.size - (intOf i).toNat)
    case atStart => exact ⟨0, by omega, rfl, b4⟩
    case round =>
      obtain ⟨k, hk, rfl, br⟩ := hrel
      by_cases hlt : k < q.size
      · obtain ⟨r1, r2⟩ := HR.out k hlt
        go_wp2_with fail
        go_roundw
        case rel => exact ⟨k + 1, by omega, by go_num, br⟩
        case measure => simp [intOf]; omega
      · obtain rfl : k = q.size := by omega
        go_wp2_with fail
        refine (unq_any t (by omega) wr).mono ?_
        rcases unqR_cases t.data.toList with ⟨u, hu, he⟩ | ⟨-, he⟩
        · rw [he]
          rintro e w7 ⟨rfl, hb7⟩
          have b7 := br.trans (hb7.mono br.size)
          have hqu : quoteR ⟨u.toArray⟩ = (t, 0) := by
            have h1 : ¬ 4096 < (⟨u.toArray⟩ : ByteArray).size := by have := hu.2; show ¬ 4096 < u.length; omega
            rw [quoteR, if_neg h1]
            have h2 : quoteL u = t.data.toList := hu.1
            show ((⟨(quoteL u).toArray⟩ : ByteArray), (0 : Int)) = (t, 0)
            rw [h2]
          have HQU := Lib.hid hqu
          clear hb7 hu he hqu
          generalize (⟨u.toArray⟩ : ByteArray) = us at *
          go_wp2_with fail
          refine (quote_any us w7).mono ?_
          rw [HQU.out]
          rintro e w8 ⟨rfl, hb8⟩
          have b8 := b7.trans (hb8.mono b7.size)
          clear hb8
          go_wp2_with fail
          refine (awake_any w8 (glob_on HG.out b8)).mono ?_
          rintro e wz ⟨rfl, hbz⟩
          have hBz := b8.trans (hbz.mono b8.size)
          clear hbz
          go_wp2_with fail
          go_ret
          exact ⟨rfl, hBz⟩
        · rw [he]
          rintro e w7 ⟨rfl, hb7⟩
          have b7 := br.trans (hb7.mono br.size)
          clear hb7 he
          go_wp2_with fail
          refine (awake_any w7 (glob_on HG.out b7)).mono ?_
          rintro e wz ⟨rfl, hbz⟩
          have hBz := b7.trans (hbz.mono b7.size)
          clear hbz
          go_wp2_with fail
          go_ret
          exact ⟨rfl, hBz⟩
end Go.Proofs.YtmcgddlblhinlaaGreatDoor

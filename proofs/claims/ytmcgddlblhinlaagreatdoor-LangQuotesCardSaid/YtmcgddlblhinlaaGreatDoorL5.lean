/- LangQuotes. -/
import Derived.Test.YtmcgddlblhinlaaGreatDoorH22
import Derived.Test.YtmcgddlblhinlaaGreatDoorH26
namespace Go.Proofs.YtmcgddlblhinlaaGreatDoor
open Go.RowKit
set_option maxRecDepth 100000 in
set_option maxHeartbeats 4000000 in
theorem quotes_any (s t : ByteArray) (w : World) (hG : Glob w) : Calls Tryz.prog 3 #[.string s, .string t] w fun e w' => e = .returned (.bool true) ∧ Below w.heap.size w w' := by
  have HG := Lib.hid hG
  clear hG
  go_enter Tryz.func3, Tryz.ntmps3
  go_wp2_with fail
  refine (greatS_any _ _ _ _ _ Mis.zero s w (misAt_zero _ _)).mono ?_
  rintro e w1 ⟨⟨g, rfl, -⟩, b1⟩
  cases g with
  | true =>
    go_wp2_with fail
    refine (awake_any w1 (glob_on HG.out b1)).mono ?_
    rintro e wz ⟨rfl, hbz⟩
    have hBz := b1.trans (hbz.mono b1.size)
    clear hbz
    go_wp2_with fail
    go_ret
    exact ⟨rfl, hBz⟩
  | false =>
  go_wp2_with fail
  refine (greatS_any _ _ _ _ _ Mis.zero t w1 (misAt_zero _ _)).mono ?_
  rintro e w2 ⟨⟨g, rfl, hg⟩, hb2⟩
  have b2 := b1.trans (hb2.mono b1.size)
  clear hb2 b1
  cases g with
  | true =>
    go_wp2_with fail
    refine (awake_any w2 (glob_on HG.out b2)).mono ?_
    rintro e wz ⟨rfl, hbz⟩
    have hBz := b2.trans (hbz.mono b2.size)
    clear hbz
    go_wp2_with fail
    go_ret
    exact ⟨rfl, hBz⟩
  | false =>
  have ht := hg rfl
  have ht : t.size ≤ 9000 := by omega
  clear hg
  have HQ := Lib.hid (quote_any s)
  have HR := Lib.hid (rquote_any s)
  have HU := Lib.hid (unq_any t (by omega))
  have HV := Lib.hid (runq_any t (by omega))
  generalize quoteR s = q at *
  obtain ⟨q, qe⟩ := q
  generalize (⟨(unqR t.data.toList).1.toArray⟩ : ByteArray) = u at *
  generalize (unqR t.data.toList).2 = ue at *
  dsimp only at *
  have t1 : (q.toList == q.toList) = true := by simp
  have t2 : (qe == qe) = true := by simp
  have t3 : (u.toList == u.toList) = true := by simp
  have t4 : (ue == ue) = true := by simp
  go_wp2_with fail
  refine (HQ.out w2).mono ?_
  rintro e w3 ⟨rfl, hb3⟩
  have b3 := b2.trans (hb3.mono b2.size)
  clear hb3 b2
  go_wp2_with fail
  refine (HR.out w3).mono ?_
  rintro e w4 ⟨rfl, hb4⟩
  have b4 := b3.trans (hb4.mono b3.size)
  clear hb4 b3
  go_wp2_with fail
  refine (HU.out w4).mono ?_
  rintro e w5 ⟨rfl, hb5⟩
  have b5 := b4.trans (hb5.mono b4.size)
  clear hb5 b4
  go_wp2_with fail
  refine (HV.out w5).mono ?_
  rintro e w6 ⟨rfl, hb6⟩
  have b6 := b5.trans (hb6.mono b5.size)
  clear hb6 b5
  go_wp2_with fail
  refine (awake_any w6 (glob_on HG.out b6)).mono ?_
  rintro e wz ⟨rfl, hbz⟩
  have hBz := b6.trans (hbz.mono b6.size)
  clear hbz
  go_wp2_with fail
  go_ret
  exact ⟨rfl, hBz⟩
end Go.Proofs.YtmcgddlblhinlaaGreatDoor

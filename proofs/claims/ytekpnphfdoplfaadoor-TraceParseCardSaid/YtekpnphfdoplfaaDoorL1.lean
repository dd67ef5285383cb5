/- Walk of the law TraceParse. -/
import Derived.Test.YtekpnphfdoplfaaDoorL2
import Derived.Test.YtekpnphfdoplfaaDoorB15
namespace Go.Proofs.YtekpnphfdoplfaaDoor
open Go.RowKit Go.Shelf
set_option maxHeartbeats 4000000 in
set_option maxRecDepth 100000 in
theorem law_parse (s : ByteArray) (hs : s.size ≤ 9223372036854775807) (w : World) (hG : Glob w) : Calls Tryd.prog 3 #[.string s] w fun e w' => e = .returned (.bool true) ∧ Below w.heap.size w w' := by
  by_cases h2 : 2000 < s.size
  · have h2' : (2000 : Int) < s.size := by omega
    go_enter Tryd.func3, Tryd.ntmps3
    go_wp2_with fail
    refine (awake_any w hG).mono ?_
    rintro e w2 ⟨rfl, b2⟩
    go_wp2_with fail
    go_ret
    exact ⟨rfl, b2⟩
  · have h2' : ¬ (2000 : Int) < s.size := by omega
    go_enter Tryd.func3, Tryd.ntmps3
    go_wp2_with fail
    refine (parse_any s w hG).mono ?_
    rintro e w1 ⟨u1, rfl, hu1, b1⟩
    go_wp2_with fail
    refine (rparse_any s w1).mono ?_
    rintro e w2 ⟨u2, rfl, hu2, b2⟩
    have c2 := b1.trans (b2.mono b1.size)
    generalize (parseR s).2.2 = er at *
    generalize (parseR s).2.1 = ln at *
    generalize (parseR s).1 = Q at *
    go_wp2_with fail
    refine (same_any u1 u2 Q Q w2 (hu1.keep b2) hu2).mono ?_
    rw [sameL_self]
    rintro e w3 ⟨rfl, b3⟩
    have c3 := c2.trans (b3.mono c2.size)
    go_wp2_with fail
    refine (awake_any w3 (hG.below (c3))).mono ?_
    rintro e w4 ⟨rfl, b4⟩
    go_wp2_with fail
    go_ret
    exact ⟨rfl, (c3).trans (b4.mono (c3).size)⟩
end Go.Proofs.YtekpnphfdoplfaaDoor

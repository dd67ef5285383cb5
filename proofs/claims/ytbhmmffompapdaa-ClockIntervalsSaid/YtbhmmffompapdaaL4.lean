/- Walk over the law ClockIntervals: its parts joined. -/
import Derived.Test.YtbhmmffompapdaaRows
import Derived.Test.YtbhmmffompapdaaI0
import Derived.Test.YtbhmmffompapdaaI1
import Derived.Test.YtbhmmffompapdaaI2
import Derived.Test.YtbhmmffompapdaaI3
import Derived.Test.YtbhmmffompapdaaI4
import Derived.Test.YtbhmmffompapdaaI5
import Derived.Test.YtbhmmffompapdaaI6
import Derived.WalkKit
import Derived.WalkSpells
import Derived.WalkLawsBesides
import Derived.Handy
import Derived.Deep.QuietTactic
import Derived.BigQuiet
import Derived.Deep.RegionHeld3
import Derived.Deep.DeepCutAuto
import Derived.Lib.Hide
namespace Go.Proofs.Ytbhmmffompapdaa
open Go.RowKit

theorem intervals_any (l a b n1 d1 n2 d2 xf xt u v : Int) (w : World) (wxf : (Lit.int .i64 xf).wf = true) (wxt : (Lit.int .i64 xt).wf = true) (wu : (Lit.int .u8 u).wf = true) (wv : (Lit.int .u8 v).wf = true) : Calls Try.prog 5 #[.agg #[.int .i64 l, .int .i64 a, .int .i64 b, .int .i64 n1, .int .i64 d1, .int .i64 n2, .int .i64 d2], .agg #[.int .i64 xf, .int .i64 xt], .int .u8 u, .int .u8 v] w fun e w' => e = .returned (.bool true) ∧ Below w.heap.size w w' := by
  obtain ⟨u0, u1⟩ := u8_bd wu
  obtain ⟨v0, v1⟩ := u8_bd wv
  by_cases h : clkE l a b n1 d1 n2 d2 = 0 ∧ l ≤ 274877906944 ∧ 0 ≤ xf ∧ xf < xt ∧ xt ≤ 274877906944
  · obtain ⟨h1, h2, h3, h4, h5⟩ := h
    by_cases q1 : n1 = 1
    · subst q1
      by_cases q2 : d1 = 1
      · subst q2
        by_cases q3 : n2 = 1
        · subst q3
          by_cases q4 : d2 = 1
          · subst q4
            by_cases q5 : b < xf
            · exact intervals_one l a b xf xt u v w h1 h2 h3 h4 h5 u0 u1 v0 v1 q5
            · exact intervals_b l a b xf xt u v w h1 h2 h3 h4 h5 u0 u1 v0 v1 (by omega)
          · exact intervals_d2 l a b d2 xf xt u v w h1 h2 h3 h4 h5 u0 u1 v0 v1 (by simpa using q4)
        · exact intervals_n2 l a b n2 d2 xf xt u v w h1 h2 h3 h4 h5 u0 u1 v0 v1 (by simpa using q3)
      · exact intervals_d1 l a b d1 n2 d2 xf xt u v w h1 h2 h3 h4 h5 u0 u1 v0 v1 (by simpa using q2)
    · exact intervals_n1 l a b n1 d1 n2 d2 xf xt u v w h1 h2 h3 h4 h5 u0 u1 v0 v1 (by simpa using q1)
  · exact intervals_out l a b n1 d1 n2 d2 xf xt u v w h
end Go.Proofs.Ytbhmmffompapdaa

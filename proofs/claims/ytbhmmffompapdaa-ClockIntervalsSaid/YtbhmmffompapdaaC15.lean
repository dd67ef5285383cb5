/- Plain laws on guards of longer intervals, and at rate 1. -/
import Derived.Test.YtbhmmffompapdaaRows
import Derived.Test.YtbhmmffompapdaaC13
import Derived.Test.YtbhmmffompapdaaC14
import Derived.Test.YtbhmmffompapdaaL3
import Derived.WalkKit
import Derived.WalkSpells
import Derived.WalkLawsBesides
import Derived.Handy
import Derived.Deep.QuietTactic
import Derived.BigQuiet
import Derived.Deep.RegionHeld3
import Derived.Deep.DeepCutAuto
import Derived.Lib.Hide
namespace Go.Proofs.Ytbhmmffompapdaa
open Go.RowKit

section
variable {l a b n1 d1 n2 d2 : Int}
theorem gF_le (hc : ClkOk l a b n1 d1 n2 d2) (x y : Int) (h : x ≤ y) : gF l a n1 d1 n2 d2 x ≤ gF l a n1 d1 n2 d2 y := by
  obtain ⟨f1, f2, f3, f4⟩ := gF_spec hc x
  obtain ⟨g1, g2, g3, g4⟩ := gF_spec hc y
  by_cases hh : gF l a n1 d1 n2 d2 y < gF l a n1 d1 n2 d2 x
  · have h1 := f3 _ g1 hh
    have h2 := g4 (by omega)
    simp [gp1] at h1 h2
    omega
  · omega
theorem gT_le (hc : ClkOk l a b n1 d1 n2 d2) (x y : Int) (h : x ≤ y) : gT l b n1 d1 x ≤ gT l b n1 d1 y := by
  obtain ⟨f1, f2, f3, f4⟩ := gT_spec hc x
  obtain ⟨g1, g2, g3, g4⟩ := gT_spec hc y
  by_cases hh : gT l b n1 d1 y < gT l b n1 d1 x
  · have h1 := f3 _ g1 hh
    have h2 := g4 (by omega)
    simp [gp2] at h1 h2
    omega
  · omega
/-- the guard of a longer interval -/
theorem guard_longer (h0 : clkE l a b n1 d1 n2 d2 = 0) (xf xt yf yt : Int) (hx : ¬ (xf < 0 ∨ xt ≤ xf ∨ 1099511627776 < xt)) (hy : ¬ (yf < 0 ∨ yt ≤ yf ∨ 1099511627776 < yt)) (h1 : yf ≤ xf) (h2 : xt ≤ yt) :
    (guardE l a b n1 d1 n2 d2 xf xt = 0 ∧ guardE l a b n1 d1 n2 d2 yf yt = 0 ∧ guardF l a b n1 d1 n2 d2 yf yt ≤ guardF l a b n1 d1 n2 d2 xf xt ∧ guardT l a b n1 d1 n2 d2 xf xt ≤ guardT l a b n1 d1 n2 d2 yf yt) ∨ guardE l a b n1 d1 n2 d2 xf xt = 20 := by
  have hc := clk_ok h0
  have k1 := gF_le hc yf xf h1
  have k2 := gT_le hc xt yt h2
  by_cases h : gF l a n1 d1 n2 d2 xf < gT l b n1 d1 xt
  · have e1 := gw4 (bne_eq_false_iff_eq.2 h0) hx h
    have e2 := gw4 (xf := yf) (xt := yt) (bne_eq_false_iff_eq.2 h0) hy (by omega)
    left
    refine ⟨e1, e2, ?_, ?_⟩
    · rw [guardF, guardF, if_pos e1, if_pos e2]; exact k1
    · rw [guardT, guardT, if_pos e1, if_pos e2]; exact k2
  · right
    exact gw3 (bne_eq_false_iff_eq.2 h0) hx (by omega)
end
/-- a clock with the rate 1: an interval behind Truth with more ticks than the drift -/
theorem guard_one (l a b xf xt : Int) (h0 : clkE l a b 1 1 1 1 = 0) (hl : l ≤ 274877906944) (hx : 0 ≤ xf) (hx2 : xf < xt) (hx3 : xt ≤ 274877906944) (hb : b < xf) (hn : b + 2 - a < xt - xf) : guardE l a b 1 1 1 1 xf xt = 0 := by
  have hc := clk_ok h0
  have ha := hc.a0
  have hab := hc.ab
  have hl0 := hc.l0
  obtain ⟨f1, f2, f3, f4⟩ := gF_spec hc xf
  obtain ⟨t1, t2, t3, t4⟩ := gT_spec hc xt
  have z1 : tFrom l a 1 1 1 1 (xf - a + l + 1) = xf := by
    simp only [tFrom]
    rw [if_pos (by omega), Int.mul_one, Int.ediv_one]
    omega
  have z2 : tTo l b 1 1 (xf - a + l + 1) < xt := by
    simp only [tTo]
    rw [Int.mul_one, Int.ediv_one]
    omega
  have p1 : gp1 l a 1 1 1 1 xf (xf - a + l + 1) = true := by
    unfold gp1; exact decide_eq_true (by omega)
  have p2 : gp2 l b 1 1 xt (xf - a + l + 1) = false := by
    unfold gp2; exact decide_eq_false (by omega)
  refine gw4 (bne_eq_false_iff_eq.2 h0) (by omega) ?_
  have k1 : gF l a 1 1 1 1 xf ≤ xf - a + l + 1 := by
    by_cases h : xf - a + l + 1 < gF l a 1 1 1 1 xf
    · have := f3 _ (by omega) h
      rw [p1] at this
      cases this
    · omega
  have k2 : xf - a + l + 1 < gT l b 1 1 xt := by
    by_cases h : gT l b 1 1 xt ≤ xf - a + l + 1
    · have := gp2_mono hc xt _ _ h (t4 (by omega))
      rw [p2] at this
      cases this
    · omega
  omega
theorem drift_one (l a b : Int) (h0 : clkE l a b 1 1 1 1 = 0) (hl : l ≤ 274877906944) (hb : b ≤ 274877906944) : truthE l a b 1 1 1 1 (l + 1) = 0 ∧ truthF l a b 1 1 1 1 (l + 1) = a ∧ truthT l a b 1 1 1 1 (l + 1) = b + 2 := by
  have e1 : tTo l b 1 1 (l + 1) = b + 2 := by
    simp only [tTo]
    rw [Int.mul_one, Int.ediv_one]
    omega
  have e2 : tFrom l a 1 1 1 1 (l + 1) = a := by
    simp only [tFrom]
    rw [if_pos (by omega), Int.mul_one, Int.ediv_one]
    omega
  have := truth_zero l a b 1 1 1 1 (l + 1) h0 (by omega) (by have := (clk_ok h0).l0; omega) (by omega)
  rw [e1, e2] at this
  exact this
theorem Guard_is (l a b n1 d1 n2 d2 xf xt E F T : Int) (w : World) (h : Hid (guardE l a b n1 d1 n2 d2 xf xt = E ∧ guardF l a b n1 d1 n2 d2 xf xt = F ∧ guardT l a b n1 d1 n2 d2 xf xt = T)) :
    Calls Try.prog 16 #[.agg #[.int .i64 l, .int .i64 a, .int .i64 b, .int .i64 n1, .int .i64 d1, .int .i64 n2, .int .i64 d2], .agg #[.int .i64 xf, .int .i64 xt]] w fun e w' => e = .returned (.tuple #[.agg #[.int .i64 F, .int .i64 T], .int .i64 E]) ∧ Below w.heap.size w w' := by
  have := Guard_any l a b n1 d1 n2 d2 xf xt w
  rwa [h.out.1, h.out.2.1, h.out.2.2] at this
theorem u8_bd {x : Int} (h : (Lit.int .u8 x).wf = true) : 0 ≤ x ∧ x ≤ 255 := by
  simpa [Lit.wf, IntKind.min, IntKind.max, IntKind.signed, IntKind.bits] using h
theorem max0 (x : Int) : max 0 x = if 0 < x then x else 0 := by
  rw [Int.max_def]; split <;> split <;> omega
end Go.Proofs.Ytbhmmffompapdaa

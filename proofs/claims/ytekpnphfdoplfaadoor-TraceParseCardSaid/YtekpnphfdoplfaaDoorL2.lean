/- Walk of the law TraceOf. -/
import Derived.Test.YtekpnphfdoplfaaDoorB8
namespace Go.Proofs.YtekpnphfdoplfaaDoor
open Go.RowKit Go.Shelf
theorem sameL_self (xs : List Ent) : sameL xs xs = true := (sameL_iff xs xs).2 rfl
theorem Ents.keep {w w' : World} {v : Value} {xs : List Ent} (h : Ents w w.heap.size v xs) (hb : Below w.heap.size w w') : Ents w' w'.heap.size v xs := (h.below hb).more hb.size
set_option maxHeartbeats 4000000 in
set_option maxRecDepth 100000 in
theorem law_of (v : Value) (xs : List Ent) (tk : Int) (w : World) (hv : Ents w w.heap.size v xs) (hok : ∀ x ∈ xs, okE x) (htk : (Lit.int .i64 tk).wf = true) (hG : Glob w) : Calls Tryd.prog 4 #[v, .int .i64 tk] w fun e w' => e = .returned (.bool true) ∧ Below w.heap.size w w' := by
  by_cases h60 : 60 < xs.length
  · have hg : decide (60 < xs.length) = true := decide_eq_true h60
    go_enter Tryd.func4, Tryd.ntmps4
    go_wp2_with fail
    refine (great_any v xs w hv).mono ?_
    rw [hg]
    rintro e w1 ⟨rfl, b1⟩
    go_wp2_with fail
    refine (awake_any w1 (hG.below (b1))).mono ?_
    rintro e w2 ⟨rfl, b2⟩
    go_wp2_with fail
    go_ret
    exact ⟨rfl, (b1).trans (b2.mono (b1).size)⟩
  · have hg : decide (60 < xs.length) = false := decide_eq_false h60
    have hl : xs.length ≤ 65536 := by omega
    go_enter Tryd.func4, Tryd.ntmps4
    go_wp2_with fail
    refine (great_any v xs w hv).mono ?_
    rw [hg]
    rintro e w1 ⟨rfl, b1⟩
    go_wp2_with fail
    refine (hops_any v xs tk w1 (hv.keep b1) hok htk hl).mono ?_
    rintro e w2 ⟨u2, rfl, hu2, b2⟩
    have c2 := b1.trans (b2.mono b1.size)
    go_wp2_with fail
    refine (rhops_any v xs tk w2 (hv.keep c2) hl).mono ?_
    rintro e w3 ⟨u3, rfl, hu3, b3⟩
    have c3 := c2.trans (b3.mono c2.size)
    have d3 := hu2.below b3
    generalize (hopR tk xs).2 = er at *
    generalize (hopR tk xs).1 = hs at *
    go_wp2_with fail
    refine (of_any v xs tk w3 (hv.keep c3) hok htk hl).mono ?_
    rintro e w4 ⟨u4, rfl, hu4, b4⟩
    have c4 := c3.trans (b4.mono c3.size)
    have d4 := d3.below (b4.mono b3.size)
    have e4 := hu3.below b4
    go_wp2_with fail
    refine (rof_any v xs tk w4 (hv.keep c4) hl).mono ?_
    rintro e w5 ⟨u5, rfl, hu5, b5⟩
    have c5 := c4.trans (b5.mono c4.size)
    have d5 := d4.below (b5.mono (Nat.le_trans b3.size b4.size))
    have e5 := e4.below (b5.mono b4.size)
    go_wp2_with fail
    refine (same_any u4 u5 _ _ w5 (hu4.keep b5) hu5).mono ?_
    rw [sameL_self]
    rintro e w6 ⟨rfl, b6⟩
    have c6 := c5.trans (b6.mono c5.size)
    have d6 := d5.below (b6.mono (Nat.le_trans (Nat.le_trans b3.size b4.size) b5.size))
    have e6 := e5.below (b6.mono (Nat.le_trans b4.size b5.size))
    go_wp2_with fail
    refine (eq_any u2 u3 hs hs w6 _ _ d6 e6).mono ?_
    rw [decide_eq_true rfl]
    rintro e w7 ⟨rfl, b7⟩
    have c7 := c6.trans (b7.mono c6.size)
    go_wp2_with fail
    refine (awake_any w7 (hG.below (c7))).mono ?_
    rintro e w8 ⟨rfl, b8⟩
    go_wp2_with fail
    go_ret
    exact ⟨rfl, (c7).trans (b8.mono (c7).size)⟩
end Go.Proofs.YtekpnphfdoplfaaDoor

/- Walk of the law TracePrint. -/
import Derived.Test.YtekpnphfdoplfaaDoorL2
import Derived.Test.YtekpnphfdoplfaaDoorB10
namespace Go.Proofs.YtekpnphfdoplfaaDoor
open Go.RowKit Go.Shelf
set_option maxHeartbeats 4000000 in
set_option maxRecDepth 100000 in
theorem law_print (v : Value) (xs : List Ent) (w : World) (hv : Ents w w.heap.size v xs) (hG : Glob w) : Calls Tryd.prog 6 #[v] w fun e w' => e = .returned (.bool true) ∧ Below w.heap.size w w' := by
  by_cases h60 : 60 < xs.length
  · have hg : decide (60 < xs.length) = true := decide_eq_true h60
    go_enter Tryd.func6, Tryd.ntmps6
    go_wp2_with fail
    refine (great_any v xs w hv).mono ?_
    rw [hg]
    rintro e w1 ⟨rfl, b1⟩
    go_wp2_with fail
    refine (awake_any w1 (hG.below (b1))).mono ?_
    rintro e w2 ⟨rfl, b2⟩
    go_wp2_with fail
    go_ret
    exact ⟨rfl, (b1).trans (b2.mono (b1).size)⟩
  · have hg : decide (60 < xs.length) = false := decide_eq_false h60
    go_enter Tryd.func6, Tryd.ntmps6
    go_wp2_with fail
    refine (great_any v xs w hv).mono ?_
    rw [hg]
    rintro e w1 ⟨rfl, b1⟩
    go_wp2_with fail
    refine (print_any v xs w1 (hv.keep b1) (hG.below b1)).mono ?_
    rintro e w2 ⟨rfl, b2⟩
    have c2 := b1.trans (b2.mono b1.size)
    go_wp2_with fail
    refine (rprint_any v xs w2 (hv.keep c2)).mono ?_
    rintro e w3 ⟨rfl, b3⟩
    have c3 := c2.trans (b3.mono c2.size)
    generalize (printR xs).2 = er at *
    generalize (printR xs).1 = ps at *
    go_wp2_with fail
    refine (check_any v xs w3 (hv.keep c3)).mono ?_
    rintro e w4 ⟨rfl, b4⟩
    have c4 := c3.trans (b4.mono c3.size)
    go_wp2_with fail
    refine (rcheck_any v xs w4 (hv.keep c4)).mono ?_
    rintro e w5 ⟨rfl, b5⟩
    have c5 := c4.trans (b5.mono c4.size)
    generalize chkE xs = ce at *
    go_wp2_with fail
    refine (awake_any w5 (hG.below (c5))).mono ?_
    rintro e w6 ⟨rfl, b6⟩
    go_wp2_with fail
    go_ret
    exact ⟨rfl, (c5).trans (b6.mono (c5).size)⟩
end Go.Proofs.YtekpnphfdoplfaaDoor

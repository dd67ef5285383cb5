/- awake answers true in every world; the law without premises. -/
import Derived.Test.YthlfhfliidhelaaGreatDoorL1e
import Derived.Test.YthlfhfliidhelaaGreatDoorW10
import Derived.Test.YthlfhfliidhelaaGreatDoorMh
set_option linter.unusedSimpArgs false
set_option linter.unusedVariables false
set_option linter.all false
namespace Go.Proofs.YthlfhfliidhelaaGreatDoor
open Go.RowKit
theorem spA_eq : spA = spL := by kernel_rfl
theorem awake_ok : AwakeOk := fun w h => top_any w h.1 h.2.1 (by rw [spA_eq]; exact h.2.2)
theorem law_all (a b : Arc) (VT VA VD UT UA UD : Value) (w : World) (h : ArcAt w w.heap.size VT VA VD a) (h' : ArcAt w w.heap.size UT UA UD b) (h6 : GOk w) :
    Calls Tryz.prog 3 #[.agg #[.string a.ms, .string a.lg, VT, VA, VD], .agg #[.string b.ms, .string b.lg, UT, UA, UD]] w (LawPost w) :=
  law_any table_ok awake_ok a b VT VA VD UT UA UD w h h' h6
end Go.Proofs.YthlfhfliidhelaaGreatDoor

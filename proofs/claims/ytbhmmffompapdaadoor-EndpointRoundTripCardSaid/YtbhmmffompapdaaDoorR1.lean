/- Rows that list sentinels: what the package-level variables hold when the law begins. -/
import Derived.Test.YtbhmmffompapdaaDoorR0
import Derived.Test.YtbhmmffompapdaaDoorE16
import Derived.HandedShaped
import Derived.Shelf.Vars
import Derived.Stop.LaidErr
namespace Go.Proofs.YtbhmmffompapdaaDoor
open Go.ChangeShapes Go.WideShapes Go.ChangeAt Go.RowKit
theorem returns_laid_shaped {H : Type} {enc : TypeId × Value → H} {a : Assume} {C : Checked} {os : Os} {f : FuncId} {fn : Func} {s : ChangeSpec} {conds : List PathCond} {apart fresh handsOn again : Bool} {X : World → Array Value → Prop}
    (hX : ∀ (w w' : World) (args : Array Value), w.heap = w'.heap → X w args → X w' args)
    (own : ownKnob C.prog.godebug = none) (started : os.Started) (noInit : C.prog.inits.idxOf? f = none) (hfn : C.prog.funcs[f]? = some fn)
    (witness : ∃ (w : World) (tape : Tape) (i : Input), w.os = os ∧ (w.forCall tape i).Shaped C.prog ∧ i.vars = [] ∧ Input.okWide C.prog (w.forCall tape i) .any w.heap.size f i ∧
      ((s.pre enc C.prog fn conds apart (w.forCall tape i).memory i.args ∧ X (w.forCall tape i).memory i.args) ∧ sizedMet enc C.prog fn (OpenSpec.ofChange s) apart (w.forCall tape i).memory i.args) ∧ a.holds C.prog (lone (Frame.enter C.prog f i.args .normal) [] (w.forCall tape i)))
    (contract : ∀ (W : World) (base : Nat) (args : Array Value) (ds gs : List (DataW H)) (before : List MemPlace),
      (∀ (j : Nat) t v, fn.params[j]? = some t → args[j]? = some v → Value.okWide C.prog W .any base t v) →
      DataW.Whole enc C.prog fn.params.toList s.vars apart W args.toList ds gs before →
      conds.all (PathCond.test C.prog ⟨fn.params.toList, ds, s.plain.varTypes C.prog, gs⟩) = true →
      (DataW.weightsEach C.prog (fn.params.toList ++ s.plain.varTypes C.prog) (ds ++ gs)).all (· ≤ reachBytes) = true → X W args → W.ShapedOpen C.prog →
      Calls C.prog f args W fun e W' => ∃ v, e = .returned v ∧ s.post enc C.prog fn apart fresh handsOn again W args v W') :
    ReturnsInHanded a C os f .any (fun w args => (s.pre enc C.prog fn conds apart w args ∧ X w args) ∧ sizedMet enc C.prog fn (OpenSpec.ofChange s) apart w args) (s.post enc C.prog fn apart fresh handsOn again) := by
  refine returnsInHanded_of_calls own started noInit witness ?_
  intro w tape i _ hsh _ hok hpre hholds
  obtain ⟨_, _, _, fn', hfn', _, _, _, _, hval⟩ := hok
  have e : fn' = fn := Option.some.inj (hfn'.symm.trans hfn)
  subst e
  obtain ⟨⟨⟨ds, gs, before, hw, hc⟩, hx⟩, hz⟩ := hpre
  have hw' := DataW.Whole.of_heap (w' := w.forCall tape i) (by rfl) hw
  refine (contract (w.forCall tape i) w.heap.size i.args ds gs before hval hw' hc (hz.weights hw) (hX _ _ _ (by rfl) hx) hsh).mono fun e W' ⟨v, he, hp⟩ => ?_
  subst he
  exact ChangeSpec.post_blind hp
theorem Tryd.gR : Tryd.prog.globalNamed "strconv.ErrRange" = some 2 := by kernel_rfl
theorem Tryd.gS : Tryd.prog.globalNamed "strconv.ErrSyntax" = some 1 := by kernel_rfl
theorem Tryd.gRType : (Tryd.prog.globals[2]?).map (·.type) = some 63 := by kernel_rfl
theorem Tryd.gSType : (Tryd.prog.globals[1]?).map (·.type) = some 63 := by kernel_rfl
theorem Tryd.cells103 : Tryd.prog.cellsOf 103 = 1 := by kernel_rfl
theorem Tryd.cells9 : Tryd.prog.cellsOf 9 = 1 := by kernel_rfl
theorem Tryd.star : "*errors.errorString" = "*" ++ "errors.errorString" := by decide
theorem Tryd.row101 (u : TypeId) (h : Tryd.prog.typeName? 3 u = some "*errors.errorString") : u = 101 :=
  typeName_ptr_named (nm := "errors.errorString") (by rw [← Tryd.star]; kernel_rfl) (by kernel_rfl) (by decide) u (by rw [← Tryd.star]; exact h)
theorem glob_of {W : World} (hL : laidMetH Tryd.prog Rows.endpointTextsRow.laid W) (hsh : W.ShapedOpen Tryd.prog) : Glob W := by
  rw [MakeChecks.laidMetH_plain _ _ _ (by kernel_rfl)] at hL
  have h3 := laidMet.tail (laidMet.tail (laidMet.tail hL))
  obtain ⟨a1, s1, hv1, _⟩ := laid_sentinel h3 Tryd.gR Tryd.gRType Tryd.underlying63 Tryd.row101 Tryd.underlying101 Tryd.underlying103 rfl rfl Tryd.underlying9 Tryd.cells103 Tryd.cells9
  obtain ⟨a2, s2, hv2, _⟩ := laid_sentinel (laidMet.tail h3) Tryd.gS Tryd.gSType Tryd.underlying63 Tryd.row101 Tryd.underlying101 Tryd.underlying103 rfl rfl Tryd.underlying9 Tryd.cells103 Tryd.cells9
  have c1 : W.cell? ⟨2, 0, none⟩ = some (.iface 101 (.pointer (some a1))) := by simpa using World.var?_cell Tryd.gR hv1 0
  have c2 : W.cell? ⟨1, 0, none⟩ = some (.iface 101 (.pointer (some a2))) := by simpa using World.var?_cell Tryd.gS hv2 0
  obtain ⟨m, hm⟩ := cell_of_shapedOpen_int (P := Tryd.prog) (g := 0) (t := 3) (zero := #[.int .i64 0]) hsh (of_decide_eq_true (by kernel_rfl)) (by kernel_rfl) rfl (by kernel_rfl) (by kernel_rfl) Tryd.underlying3
  exact ⟨World.block_lt_of_cell? _ _ c1, ⟨m, hm⟩, ⟨_, _, c2⟩, _, _, c1⟩
end Go.Proofs.YtbhmmffompapdaaDoor

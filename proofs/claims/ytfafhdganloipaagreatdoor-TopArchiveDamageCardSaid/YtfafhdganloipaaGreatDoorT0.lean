/- TopArchiveDamage: how the row's inputs are opened. -/
import Derived.Test.YtfafhdganloipaaGreatDoorR0
import Derived.Test.YtfafhdganloipaaGreatDoorRA
import Derived.Carry
namespace Go.Proofs.YtfafhdganloipaaGreatDoor
open Go.ChangeShapes Go.WideShapes Go.ChangeAt Go.RowKit
theorem lit_wf {k : IntKind} {P : Program} {u : TypeId} {H : Type} {enc : TypeId × Value → H} {W : World} {sp : Nat → Bool} {held : Bool} {v : Value} {d : DataW H} {p : List MemPlace} {r : Reach} {b0 : Nat} (hu : P.underlying u = some (.int k)) (hv : Value.okWide P W r b0 u v) (h : DataW.Trod enc P W 0 sp held u v d p) :
    ∃ n : Int, v = .int k n ∧ (Lit.int k n).wf = true := by
  obtain ⟨n, e, _, _, hw⟩ := open_int hu hv h
  exact ⟨n, e, hw⟩
set_option maxRecDepth 100000 in
theorem ta_contract {H : Type} {enc : TypeId × Value → H} (W : World) (base : Nat) (args : Array Value) (ds gs : List (DataW H)) (before : List MemPlace)
    (hval0 : ∀ (j : Nat) t v, Tryz.f3.params[j]? = some t → args[j]? = some v → Value.okWide Tryz.prog W .any base t v)
    (hW : DataW.Whole enc Tryz.prog Tryz.f3.params.toList Rows.topArchiveDamageSpec.vars false W args.toList ds gs before)
    (hL : laidMetH Tryz.prog Rows.topArchiveDamageRow.laid W) (hsh : W.ShapedOpen Tryz.prog) :
    Calls Tryz.prog 3 args W fun e W' => ∃ v, e = .returned v ∧ Rows.topArchiveDamageSpec.post enc Tryz.prog Tryz.f3 false true false false W args v W' := by
  have hval := hval0
  have hW' := hW
  obtain ⟨p, q, hA0, hV, rfl, hfz, hnd⟩ := hW
  have hA : DataW.TrodAll enc Tryz.prog W 0 (fun _ => true) true Tryz.f3.params.toList args.toList ds p := hA0
  rw [Tryz.params3] at hA hval
  obtain ⟨v0, v1, v2, v3, d0, d1, d2, d3, p0, p1, p2, p3, rfl, rfl, rfl, h0, h1, h2, h3⟩ := trodAll_four hA
  obtain ⟨rfl, rfl⟩ := trodVars_none hV
  obtain ⟨VT, VA, VD, a, rfl, hM0⟩ := open_arc (hval 0 26 v0 rfl rfl) h0
  obtain ⟨n0, rfl, k1⟩ := lit_wf Tryz.underlying27 (hval 1 27 v1 rfl rfl) h1
  obtain ⟨c0, rfl, k2⟩ := lit_wf Tryz.underlying5 (hval 2 5 v2 rfl rfl) h2
  obtain ⟨l0, rfl, k3⟩ := lit_wf Tryz.underlying27 (hval 3 27 v3 rfl rfl) h3
  obtain ⟨n, rfl, hn⟩ := wf16 k1
  obtain ⟨c, rfl, hc⟩ := wf8 k2
  obtain ⟨k, rfl, hk⟩ := wf16 k3
  refine (law_all a VT VA VD n c k hn hc hk W hM0 (gok_of hL hsh)).mono fun e W' ⟨he, hb⟩ => ?_
  subst he
  exact ⟨_, rfl, law_post Tryz.laidOut Tryz.underlying4 rfl (by decide +kernel) rfl rfl rfl rfl hW' hb⟩
end Go.Proofs.YtfafhdganloipaaGreatDoor

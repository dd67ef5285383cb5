/- How the rows of the endpoint laws are closed: what a law leaves, and how its arguments are opened. -/
import Derived.Test.YtbhmmffompapdaaDoorE14
import Derived.Test.YtbhmmffompapdaaDoorCards
import Derived.Test.YtbhmmffompapdaaDoorTie
import Derived.ProofKit
import Derived.OpenShut
import Derived.JoinedCond
import Derived.LaidMore
import Derived.Lay
import Derived.SevenTiedAt
import Derived.Stop.Joined
import Derived.Deep.Matrix
import Derived.Deep.Slices
namespace Go.Proofs.YtbhmmffompapdaaDoor
open Go.ChangeShapes Go.WideShapes Go.ChangeAt Go.RowKit
theorem Tryd.own : ownKnob Tryd.prog.godebug = none := by kernel_rfl
theorem Tryd.laidOut : laidOutB Tryd.prog = true := by kernel_rfl
section
variable {H : Type} {enc : TypeId × Value → H} {P : Program}
theorem trodAll_stays (hl : laidOutB P = true) {W W' : World} {sp : Nat → Bool} (hb : Below W.heap.size W W') : ∀ {ts : List TypeId} {vs : List Value} {ds : List (DataW H)} {ps : List MemPlace},
    (∀ t ∈ ts, P.readableRec t = true ∧ t < P.types.size) → DataW.TrodAll enc P W 0 (fun _ => true) true ts vs ds ps → (∀ x ∈ ps, x.block < W.heap.size ∧ sp x.block = true) → DataW.TrodAll enc P W' 0 sp true ts vs ds ps
  | [], [], [], _, _, h, _ => h
  | t :: ts, v :: vs, d :: ds, ps, hr, ⟨p, q, h1, h2, e⟩, hp => by
    subst e
    refine ⟨p, q, WideElems.Trod_stays hl (hr t (by simp)).1 (hr t (by simp)).2 h1 (fun x hx => hb.same (hp x (by simp [hx])).1) (fun x hx => (hp x (by simp [hx])).2), trodAll_stays hl hb (fun t ht => hr t (by simp [ht])) h2 (fun x hx => hp x (by simp [hx])), rfl⟩
  | [], [], _ :: _, _, _, h, _ => h.elim
  | [], _ :: _, [], _, _, h, _ => h.elim
  | [], _ :: _, _ :: _, _, _, h, _ => h.elim
  | _ :: _, [], [], _, _, h, _ => h.elim
  | _ :: _, [], _ :: _, _, _, h, _ => h.elim
  | _ :: _, _ :: _, [], _, _, h, _ => h.elim
/-- a law's row: true, nothing that was there has changed -/
theorem law_post {f : Func} {s : ChangeSpec} {W W' : World} {args : Array Value} {ds gs : List (DataW H)} {before : List MemPlace} {tb : TypeId} (hl : laidOutB P = true) (htb : P.underlying tb = some .bool) (hrt : f.resultTypes = #[tb])
    (hr : ∀ t ∈ f.params.toList, P.readableRec t = true ∧ t < P.types.size)
    (hsv : s.vars = []) (h1 : (s.fn H (ds ++ gs)).results = [.lit (.bool true)]) (h2 : (s.fn H (ds ++ gs)).args = ds) (h3 : (s.fn H (ds ++ gs)).vars = [])
    (hW : DataW.Whole enc P f.params.toList s.vars false W args.toList ds gs before) (hb : Below W.heap.size W W') :
    s.post enc P f false true false false W args (.bool true) W' := by
  have hW' := hW
  have hlt : ∀ p ∈ before, p.block < W.heap.size := fun p hp => hW.lt p hp
  obtain ⟨p, q, hA, hV, rfl, hfz, hnd⟩ := hW
  rw [hsv] at hV
  obtain ⟨rfl, rfl⟩ := trodVars_none hV
  simp only [List.append_nil] at hlt hW'
  refine ⟨ds, [], p, [], p, [], hW', ?_, ?_, ?_, hb.frame _, fun h => by cases h⟩
  · rw [hrt, h1]
    exact trodAll_mk1 (shut_bool htb _)
  · rw [h2]
    exact trodAll_stays hl hb hr hA (fun x hx => ⟨hlt x hx, by simpa using hlt x hx⟩)
  · rw [hsv, h3]
    rfl
/-- a struct of two integers -/
theorem trod_pair {H : Type} {enc : TypeId × Value → H} {P : Program} {w : World} {base : Nat} {spare : Nat → Bool} {held : Bool} {t e : TypeId} {f0 f1 : Field} {fuel : Nat} {c0 c1 : Value} {x : DataW H × List MemPlace}
    (ht : P.underlying t = some (.struct #[f0, f1])) (he : P.underlying e = some (.int .i64)) (h0 : f0.type = e) (h1 : f1.type = e) (o0 : f0.offset = 0) (o1 : f1.offset = 1) (hc : P.cellsOf e = 1)
    (h : DataW.trod enc P w base spare held fuel t [c0, c1] = some x) : ∃ a b : Int, c0 = .int .i64 a ∧ c1 = .int .i64 b ∧ (Lit.int .i64 a).wf = true ∧ (Lit.int .i64 b).wf = true := by
  obtain ⟨xs, n, _, hx, _, hlen, hg⟩ := DataW.trod_struct ht h
  match xs, hlen with
  | [y0, y1], _ =>
    have g0 := hg 0 f0 rfl
    have g1 := hg 1 f1 rfl
    simp [h0, h1, o0, o1, hc] at g0 g1
    obtain ⟨a, e0, _, wa⟩ := DataW.trod_int he g0
    obtain ⟨b, e1, _, wb⟩ := DataW.trod_int he g1
    simp at e0 e1
    exact ⟨a, b, e0, e1, wa, wb⟩
end
section
variable {H : Type} {enc : TypeId × Value → H} {w : World} {base : Nat} {spare : Nat → Bool} {held : Bool}
theorem Tryd.cells23 : Tryd.prog.cellsOf 23 = 2 := by kernel_rfl
theorem Tryd.cells3 : Tryd.prog.cellsOf 3 = 1 := by kernel_rfl
theorem Tryd.cells31 : Tryd.prog.cellsOf 31 = 1 := by kernel_rfl
set_option maxRecDepth 100000 in
theorem open_ep {r : Reach} {b0 : Nat} {v : Value} {d : DataW H} {p : List MemPlace} (hv : Value.okWide Tryd.prog w r b0 23 v) (h : DataW.Trod enc Tryd.prog w base spare held 23 v d p) :
    ∃ a b : Int, v = .agg #[.int .i64 a, .int .i64 b] ∧ (Lit.int .i64 a).wf = true ∧ (Lit.int .i64 b).wf = true := by
  obtain ⟨cs, rfl, hsz⟩ := okWide_struct Tryd.underlying23 hv
  obtain ⟨cl⟩ := cs
  match cl, hsz.trans Tryd.cells23 with
  | [c0, c1], _ =>
    obtain ⟨fuel, hf⟩ := h
    obtain ⟨a, b, rfl, rfl, wa, wb⟩ := trod_pair Tryd.underlying23 Tryd.underlying3 rfl rfl rfl rfl Tryd.cells3 (by simpa [Value.cells] using hf)
    exact ⟨a, b, rfl, wa, wb⟩
theorem add_eq {a : Addr} {b o : Nat} (h : a = ⟨b, o, none⟩) (n : Nat) : a.add n = ⟨b, o + n, none⟩ := by subst h; unfold Addr.add; split <;> simp_all
theorem ints_of {a : Addr} {L C : Nat} {Z : List Int} (hL : L ≤ C) (hC : C ≤ maxLen) (hZ : L ≤ Z.length) (hc : ∀ c, c < L → w.cell? (a.add c) = some (.int .i64 (Z.getD c 0))) : Ints w w.heap.size (.slice (some a) L C) (Z.take L) := by
  have hl : (Z.take L).length = L := by rw [List.length_take]; omega
  refine ⟨some a, C, by rw [hl], by omega, hC, fun hp => ?_⟩
  have h0 := hc 0 (by omega)
  have ha : a.add 0 = a := by simp [Addr.add]
  rw [ha] at h0
  obtain ⟨b, o, sp⟩ := a
  obtain rfl : sp = none := World.cell?_spot h0
  refine ⟨b, o, rfl, World.block_lt_of_cell? _ _ h0, fun j hj => ?_⟩
  have := hc j (by omega)
  rw [add_eq rfl] at this
  rw [this]
  simp [List.getD, show j < L by omega]
set_option maxRecDepth 100000 in
theorem open_intsv {r : Reach} {b0 : Nat} {v : Value} {d : DataW H} {p : List MemPlace} (hv : Value.okWide Tryd.prog w r b0 31 v) (h : DataW.Trod enc Tryd.prog w base (fun _ => true) held 31 v d p) :
    ∃ xs, Ints w w.heap.size v xs := by
  obtain ⟨A, len, cap, rfl⟩ := okWide_slice Tryd.underlying31 hv
  obtain ⟨fuel, hf⟩ := h
  rcases open_ints Tryd.underlying31 Tryd.underlying3 Tryd.cells3 hf with ⟨h0, _⟩ | ⟨a, len', cap', zs, h0, _, hl, hm, hz, _, hc, _⟩
  · simp [Value.cells] at h0
    obtain ⟨rfl, rfl, rfl⟩ := h0
    exact ⟨[], ints_nil _ _⟩
  · simp [Value.cells] at h0
    obtain ⟨rfl, rfl, rfl⟩ := h0
    simp only [if_true] at hz
    exact ⟨_, ints_of hl hm (by omega) (fun c hcl => hc c (by omega))⟩
set_option maxRecDepth 100000 in
theorem open_grps {r : Reach} {b0 : Nat} {v : Value} {d : DataW H} {p : List MemPlace} (hv : Value.okWide Tryd.prog w r b0 29 v) (h : DataW.Trod enc Tryd.prog w base (fun _ => true) held 29 v d p) :
    ∃ gs, Grps w w.heap.size v gs := by
  obtain ⟨A, len, cap, rfl⟩ := okWide_slice Tryd.underlying29 hv
  obtain ⟨fuel, hf⟩ := h
  rcases Deep.open_int_rows Tryd.underlying29 Tryd.underlying31 Tryd.underlying3 Tryd.cells31 Tryd.cells3 hf with ⟨h0, _⟩ | ⟨a, len', cap', A', L, C, Z, h0, _, hl, hm, _, hr⟩
  · simp [Value.cells] at h0
    obtain ⟨rfl, rfl, rfl⟩ := h0
    exact ⟨[], none, 0, rfl, by simp, by simp [maxLen], fun h => by simp at h⟩
  · simp [Value.cells] at h0
    obtain ⟨rfl, rfl, rfl⟩ := h0
    refine ⟨(List.range len).map fun r => if (A' r).isSome then (Z r).take (L r) else [], some a, cap, by simp, by simpa using hl, hm, fun hp => ?_⟩
    simp only [List.length_map, List.length_range] at hp ⊢
    have h0 := (hr 0 (by omega)).1
    have ha : a.add 0 = a := by simp [Addr.add]
    rw [ha] at h0
    obtain ⟨b, o, sp⟩ := a
    obtain rfl : sp = none := World.cell?_spot h0
    refine ⟨b, o, rfl, World.block_lt_of_cell? _ _ h0, fun j hj => ?_⟩
    obtain ⟨h1, h2, h3, h4, _, h6, h7⟩ := hr j (by omega)
    rw [add_eq rfl] at h1
    refine ⟨_, h1, ?_⟩
    have e : ((List.range len).map fun r => if (A' r).isSome then (Z r).take (L r) else []).getD j [] = if (A' j).isSome then (Z j).take (L j) else [] := by simp [List.getD, hj]
    rw [e]
    cases hA : A' j with
    | none =>
      have := h6 hA
      have hL : L j = 0 := by omega
      rw [hL, this]
      exact ints_nil _ _
    | some a' =>
      exact ints_of h2 h3 (by omega) (fun c hc => (h7 a' hA).2 c (by omega))
end
end Go.Proofs.YtbhmmffompapdaaDoor

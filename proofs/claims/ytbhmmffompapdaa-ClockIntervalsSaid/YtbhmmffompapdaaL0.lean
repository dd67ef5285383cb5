/- How the rows of the clock laws are closed: what a law leaves, and how its arguments are opened. -/
import Derived.Test.YtbhmmffompapdaaRows
import Derived.WalkKit
import Derived.ProofKit
import Derived.OpenShut
import Derived.JoinedCond
namespace Go.Proofs.Ytbhmmffompapdaa
open Go.ChangeShapes Go.WideShapes Go.ChangeAt Go.RowKit
theorem Try.own : ownKnob Try.prog.godebug = none := by kernel_rfl
theorem Try.laidOut : laidOutB Try.prog = true := by kernel_rfl
section
variable {H : Type} {enc : TypeId × Value → H} {P : Program}
theorem trodAll_stays (hl : laidOutB P = true) {W W' : World} {sp : Nat → Bool} (hb : Below W.heap.size W W') : ∀ {ts : List TypeId} {vs : List Value} {ds : List (DataW H)} {ps : List MemPlace},
    (∀ t ∈ ts, P.readableRec t = true ∧ t < P.types.size) → DataW.TrodAll enc P W 0 (fun _ => true) true ts vs ds ps → (∀ x ∈ ps, x.block < W.heap.size ∧ sp x.block = true) → DataW.TrodAll enc P W' 0 sp true ts vs ds ps
  | [], [], [], _, _, h, _ => h
  | t :: ts, v :: vs, d :: ds, ps, hr, ⟨p, q, h1, h2, e⟩, hp => by
    subst e
    refine ⟨p, q, WideElems.Trod_stays hl (hr t (by simp)).1 (hr t (by simp)).2 h1 (fun x hx => hb.same (hp x (by simp [hx])).1) (fun x hx => (hp x (by simp [hx])).2), trodAll_stays hl hb (fun t ht => hr t (by simp [ht])) h2 (fun x hx => hp x (by simp [hx])), rfl⟩
  | [], [], _ :: _, _, _, h, _ => h.elim
  | [], _ :: _, [], _, _, h, _ => h.elim
  | [], _ :: _, _ :: _, _, _, h, _ => h.elim
  | _ :: _, [], [], _, _, h, _ => h.elim
  | _ :: _, [], _ :: _, _, _, h, _ => h.elim
  | _ :: _, _ :: _, [], _, _, h, _ => h.elim
/-- a law's row: true, nothing that was there has changed -/
theorem law_post {f : Func} {s : ChangeSpec} {W W' : World} {args : Array Value} {ds gs : List (DataW H)} {before : List MemPlace} {tb : TypeId} (hl : laidOutB P = true) (htb : P.underlying tb = some .bool) (hrt : f.resultTypes = #[tb])
    (hr : ∀ t ∈ f.params.toList, P.readableRec t = true ∧ t < P.types.size)
    (hsv : s.vars = []) (h1 : (s.fn H (ds ++ gs)).results = [.lit (.bool true)]) (h2 : (s.fn H (ds ++ gs)).args = ds) (h3 : (s.fn H (ds ++ gs)).vars = [])
    (hW : DataW.Whole enc P f.params.toList s.vars false W args.toList ds gs before) (hb : Below W.heap.size W W') :
    s.post enc P f false true false false W args (.bool true) W' := by
  have hW' := hW
  have hlt : ∀ p ∈ before, p.block < W.heap.size := fun p hp => hW.lt p hp
  obtain ⟨p, q, hA, hV, rfl, hfz, hnd⟩ := hW
  rw [hsv] at hV
  obtain ⟨rfl, rfl⟩ := trodVars_none hV
  simp only [List.append_nil] at hlt hW'
  refine ⟨ds, [], p, [], p, [], hW', ?_, ?_, ?_, hb.frame _, fun h => by cases h⟩
  · rw [hrt, h1]
    exact trodAll_mk1 (shut_bool htb _)
  · rw [h2]
    exact trodAll_stays hl hb hr hA (fun x hx => ⟨hlt x hx, by simpa using hlt x hx⟩)
  · rw [hsv, h3]
    rfl
/-- a struct of two integers -/
theorem trod_pair {H : Type} {enc : TypeId × Value → H} {P : Program} {w : World} {base : Nat} {spare : Nat → Bool} {held : Bool} {t e : TypeId} {f0 f1 : Field} {fuel : Nat} {c0 c1 : Value} {x : DataW H × List MemPlace}
    (ht : P.underlying t = some (.struct #[f0, f1])) (he : P.underlying e = some (.int .i64)) (h0 : f0.type = e) (h1 : f1.type = e) (o0 : f0.offset = 0) (o1 : f1.offset = 1) (hc : P.cellsOf e = 1)
    (h : DataW.trod enc P w base spare held fuel t [c0, c1] = some x) : ∃ a b : Int, c0 = .int .i64 a ∧ c1 = .int .i64 b ∧ (Lit.int .i64 a).wf = true ∧ (Lit.int .i64 b).wf = true := by
  obtain ⟨xs, n, _, hx, _, hlen, hg⟩ := DataW.trod_struct ht h
  match xs, hlen with
  | [y0, y1], _ =>
    have g0 := hg 0 f0 rfl
    have g1 := hg 1 f1 rfl
    simp [h0, h1, o0, o1, hc] at g0 g1
    obtain ⟨a, e0, _, wa⟩ := DataW.trod_int he g0
    obtain ⟨b, e1, _, wb⟩ := DataW.trod_int he g1
    simp at e0 e1
    exact ⟨a, b, e0, e1, wa, wb⟩
end
section
variable {H : Type} {enc : TypeId × Value → H} {w : World} {base : Nat} {spare : Nat → Bool} {held : Bool}
theorem Try.cells27 : Try.prog.cellsOf 27 = 7 := by kernel_rfl
theorem Try.cells23 : Try.prog.cellsOf 23 = 2 := by kernel_rfl
theorem Try.cells25 : Try.prog.cellsOf 25 = 2 := by kernel_rfl
theorem Try.cells3 : Try.prog.cellsOf 3 = 1 := by kernel_rfl
theorem open_span {r : Reach} {b0 : Nat} {v : Value} {d : DataW H} {p : List MemPlace} (hv : Value.okWide Try.prog w r b0 23 v) (h : DataW.Trod enc Try.prog w base spare held 23 v d p) :
    ∃ a b : Int, v = .agg #[.int .i64 a, .int .i64 b] ∧ (Lit.int .i64 a).wf = true ∧ (Lit.int .i64 b).wf = true := by
  obtain ⟨cs, rfl, hsz⟩ := okWide_struct Try.underlying23 hv
  obtain ⟨cl⟩ := cs
  match cl, hsz.trans Try.cells23 with
  | [c0, c1], _ =>
    obtain ⟨fuel, hf⟩ := h
    obtain ⟨a, b, rfl, rfl, wa, wb⟩ := trod_pair Try.underlying23 Try.underlying3 rfl rfl rfl rfl Try.cells3 (by simpa [Value.cells] using hf)
    exact ⟨a, b, rfl, wa, wb⟩
theorem open_clock {r : Reach} {b0 : Nat} {v : Value} {d : DataW H} {p : List MemPlace} (hv : Value.okWide Try.prog w r b0 27 v) (h : DataW.Trod enc Try.prog w base spare held 27 v d p) :
    ∃ l a b n1 d1 n2 d2 : Int, v = .agg #[.int .i64 l, .int .i64 a, .int .i64 b, .int .i64 n1, .int .i64 d1, .int .i64 n2, .int .i64 d2] := by
  obtain ⟨cs, rfl, hsz⟩ := okWide_struct Try.underlying27 hv
  obtain ⟨cl⟩ := cs
  match cl, hsz.trans Try.cells27 with
  | [c0, c1, c2, c3, c4, c5, c6], _ =>
    obtain ⟨fuel, hf⟩ := h
    obtain ⟨xs, n, _, hx, _, hlen, hg⟩ := DataW.trod_struct Try.underlying27 hf
    match xs, hlen with
    | [y0, y1, y2, y3], _ =>
      have g0 := hg 0 _ rfl
      have g1 := hg 1 _ rfl
      have g2 := hg 2 _ rfl
      have g3 := hg 3 _ rfl
      simp [Value.cells, Try.cells3, Try.cells23, Try.cells25] at g0 g1 g2 g3
      obtain ⟨l, e0, _, _⟩ := DataW.trod_int Try.underlying3 g0
      obtain ⟨a, b, rfl, rfl, _, _⟩ := trod_pair Try.underlying23 Try.underlying3 rfl rfl rfl rfl Try.cells3 g1
      obtain ⟨n1, d1, rfl, rfl, _, _⟩ := trod_pair Try.underlying25 Try.underlying3 rfl rfl rfl rfl Try.cells3 g2
      obtain ⟨n2, d2, rfl, rfl, _, _⟩ := trod_pair Try.underlying25 Try.underlying3 rfl rfl rfl rfl Try.cells3 g3
      simp at e0
      subst e0
      exact ⟨l, a, b, n1, d1, n2, d2, rfl⟩
end
end Go.Proofs.Ytbhmmffompapdaa

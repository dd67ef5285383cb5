/- How the rows of the plan laws are closed: what a law leaves, how its arguments are opened, what the package-level variables hold. -/
import Derived.Test.YtgnlanfpholdaaaDoorF18
import Derived.Test.YtgnlanfpholdaaaDoorCards
import Derived.Test.YtgnlanfpholdaaaDoorTie
import Derived.ProofKit
import Derived.OpenShut
import Derived.JoinedCond
import Derived.LaidMore
import Derived.Lay
import Derived.SevenTiedAt
import Derived.Stop.Joined
import Derived.Deep.Matrix
import Derived.Deep.Slices
import Derived.HandedShaped
import Derived.Shelf.Vars
import Derived.Stop.LaidErr
import Derived.Lib.LaidTab
namespace Go.Proofs.YtgnlanfpholdaaaDoor
open Go.ChangeShapes Go.WideShapes Go.ChangeAt Go.RowKit
theorem Tryd.own : ownKnob Tryd.prog.godebug = none := by kernel_rfl
theorem Tryd.laidOut : laidOutB Tryd.prog = true := by kernel_rfl
section
variable {H : Type} {enc : TypeId × Value → H} {P : Program}
theorem trodAll_stays (hl : laidOutB P = true) {W W' : World} {sp : Nat → Bool} (hb : Below W.heap.size W W') : ∀ {ts : List TypeId} {vs : List Value} {ds : List (DataW H)} {ps : List MemPlace},
    (∀ t ∈ ts, P.readableRec t = true ∧ t < P.types.size) → DataW.TrodAll enc P W 0 (fun _ => true) true ts vs ds ps → (∀ x ∈ ps, x.block < W.heap.size ∧ sp x.block = true) → DataW.TrodAll enc P W' 0 sp true ts vs ds ps
  | [], [], [], _, _, h, _ => h
  | t :: ts, v :: vs, d :: ds, ps, hr, ⟨p, q, h1, h2, e⟩, hp => by
    subst e
    refine ⟨p, q, WideElems.Trod_stays hl (hr t (by simp)).1 (hr t (by simp)).2 h1 (fun x hx => hb.same (hp x (by simp [hx])).1) (fun x hx => (hp x (by simp [hx])).2), trodAll_stays hl hb (fun t ht => hr t (by simp [ht])) h2 (fun x hx => hp x (by simp [hx])), rfl⟩
  | [], [], _ :: _, _, _, h, _ => h.elim
  | [], _ :: _, [], _, _, h, _ => h.elim
  | [], _ :: _, _ :: _, _, _, h, _ => h.elim
  | _ :: _, [], [], _, _, h, _ => h.elim
  | _ :: _, [], _ :: _, _, _, h, _ => h.elim
  | _ :: _, _ :: _, [], _, _, h, _ => h.elim
/-- a law's row: true, nothing that was there has changed -/
theorem law_post {f : Func} {s : ChangeSpec} {W W' : World} {args : Array Value} {ds gs : List (DataW H)} {before : List MemPlace} {tb : TypeId} (hl : laidOutB P = true) (htb : P.underlying tb = some .bool) (hrt : f.resultTypes = #[tb])
    (hr : ∀ t ∈ f.params.toList, P.readableRec t = true ∧ t < P.types.size)
    (hsv : s.vars = []) (h1 : (s.fn H (ds ++ gs)).results = [.lit (.bool true)]) (h2 : (s.fn H (ds ++ gs)).args = ds) (h3 : (s.fn H (ds ++ gs)).vars = [])
    (hW : DataW.Whole enc P f.params.toList s.vars false W args.toList ds gs before) (hb : Below W.heap.size W W') :
    s.post enc P f false true false false W args (.bool true) W' := by
  have hW' := hW
  have hlt : ∀ p ∈ before, p.block < W.heap.size := fun p hp => hW.lt p hp
  obtain ⟨p, q, hA, hV, rfl, hfz, hnd⟩ := hW
  rw [hsv] at hV
  obtain ⟨rfl, rfl⟩ := trodVars_none hV
  simp only [List.append_nil] at hlt hW'
  refine ⟨ds, [], p, [], p, [], hW', ?_, ?_, ?_, hb.frame _, fun h => by cases h⟩
  · rw [hrt, h1]
    exact trodAll_mk1 (shut_bool htb _)
  · rw [h2]
    exact trodAll_stays hl hb hr hA (fun x hx => ⟨hlt x hx, by simpa using hlt x hx⟩)
  · rw [hsv, h3]
    rfl
end
theorem returns_laid_shaped {H : Type} {enc : TypeId × Value → H} {a : Assume} {C : Checked} {os : Os} {f : FuncId} {fn : Func} {s : ChangeSpec} {conds : List PathCond} {apart fresh handsOn again : Bool} {X : World → Array Value → Prop}
    (hX : ∀ (w w' : World) (args : Array Value), w.heap = w'.heap → X w args → X w' args)
    (own : ownKnob C.prog.godebug = none) (started : os.Started) (noInit : C.prog.inits.idxOf? f = none) (hfn : C.prog.funcs[f]? = some fn)
    (witness : ∃ (w : World) (tape : Tape) (i : Input), w.os = os ∧ (w.forCall tape i).Shaped C.prog ∧ i.vars = [] ∧ Input.okWide C.prog (w.forCall tape i) .any w.heap.size f i ∧
      ((s.pre enc C.prog fn conds apart (w.forCall tape i).memory i.args ∧ X (w.forCall tape i).memory i.args) ∧ sizedMet enc C.prog fn (OpenSpec.ofChange s) apart (w.forCall tape i).memory i.args) ∧ a.holds C.prog (lone (Frame.enter C.prog f i.args .normal) [] (w.forCall tape i)))
    (contract : ∀ (W : World) (base : Nat) (args : Array Value) (ds gs : List (DataW H)) (before : List MemPlace),
      (∀ (j : Nat) t v, fn.params[j]? = some t → args[j]? = some v → Value.okWide C.prog W .any base t v) →
      DataW.Whole enc C.prog fn.params.toList s.vars apart W args.toList ds gs before →
      conds.all (PathCond.test C.prog ⟨fn.params.toList, ds, s.plain.varTypes C.prog, gs⟩) = true →
      (DataW.weightsEach C.prog (fn.params.toList ++ s.plain.varTypes C.prog) (ds ++ gs)).all (· ≤ reachBytes) = true → X W args → W.ShapedOpen C.prog →
      Calls C.prog f args W fun e W' => ∃ v, e = .returned v ∧ s.post enc C.prog fn apart fresh handsOn again W args v W') :
    ReturnsInHanded a C os f .any (fun w args => (s.pre enc C.prog fn conds apart w args ∧ X w args) ∧ sizedMet enc C.prog fn (OpenSpec.ofChange s) apart w args) (s.post enc C.prog fn apart fresh handsOn again) := by
  refine returnsInHanded_of_calls own started noInit witness ?_
  intro w tape i _ hsh _ hok hpre hholds
  obtain ⟨_, _, _, fn', hfn', _, _, _, _, hval⟩ := hok
  have e : fn' = fn := Option.some.inj (hfn'.symm.trans hfn)
  subst e
  obtain ⟨⟨⟨ds, gs, before, hw, hc⟩, hx⟩, hz⟩ := hpre
  have hw' := DataW.Whole.of_heap (w' := w.forCall tape i) (by rfl) hw
  refine (contract (w.forCall tape i) w.heap.size i.args ds gs before hval hw' hc (hz.weights hw) (hX _ _ _ (by rfl) hx) hsh).mono fun e W' ⟨v, he, hp⟩ => ?_
  subst he
  exact ChangeSpec.post_blind hp
section
variable {H : Type} {enc : TypeId × Value → H} {w : World} {base : Nat} {spare : Nat → Bool} {held : Bool}
theorem Tryd.cells25 : Tryd.prog.cellsOf 25 = 2 := by kernel_rfl
theorem Tryd.cells3 : Tryd.prog.cellsOf 3 = 1 := by kernel_rfl
theorem Tryd.cells22 : Tryd.prog.cellsOf 22 = 1 := by kernel_rfl
theorem Tryd.cells23 : Tryd.prog.cellsOf 23 = 1 := by kernel_rfl
theorem Tryd.cells40 : Tryd.prog.cellsOf 40 = 7 := by kernel_rfl
theorem add_eq {a : Addr} {b o : Nat} (h : a = ⟨b, o, none⟩) (n : Nat) : a.add n = ⟨b, o + n, none⟩ := by subst h; unfold Addr.add; split <;> simp_all
theorem ints_of {a : Addr} {L C : Nat} {Z : List Int} (hL : L ≤ C) (hC : C ≤ maxLen) (hZ : L ≤ Z.length) (hc : ∀ c, c < L → w.cell? (a.add c) = some (.int .i64 (Z.getD c 0))) : Ints w w.heap.size (.slice (some a) L C) (Z.take L) := by
  have hl : (Z.take L).length = L := by rw [List.length_take]; omega
  refine ⟨some a, C, by rw [hl], by omega, hC, fun hp => ?_⟩
  have h0 := hc 0 (by omega)
  have ha : a.add 0 = a := by simp [Addr.add]
  rw [ha] at h0
  obtain ⟨b, o, sp⟩ := a
  obtain rfl : sp = none := World.cell?_spot h0
  refine ⟨b, o, rfl, World.block_lt_of_cell? _ _ h0, fun j hj => ?_⟩
  have := hc j (by omega)
  rw [add_eq rfl] at this
  rw [this]
  simp [List.getD, show j < L by omega]
set_option maxRecDepth 100000 in
theorem open_ints_cell {c : Value} {fuel : Nat} {x : DataW H × List MemPlace} (h : DataW.trod enc Tryd.prog w base (fun _ => true) held fuel 22 [c] = some x) :
    ∃ xs, Ints w w.heap.size c xs := by
  rcases open_ints Tryd.underlying22 Tryd.underlying3 Tryd.cells3 h with ⟨h0, _⟩ | ⟨a, len', cap', zs, h0, _, hl, hm, hz, _, hc, _⟩
  · simp at h0
    subst h0
    exact ⟨[], ints_nil _ _⟩
  · simp at h0
    subst h0
    simp only [if_true] at hz
    exact ⟨_, ints_of hl hm (by omega) (fun c hcl => hc c (by omega))⟩
set_option maxRecDepth 100000 in
/-- seven cells that read as a contact -/
theorem trod_con {fuel : Nat} {cs : List Value} {x : DataW H × List MemPlace} (h : DataW.trod enc Tryd.prog w base spare held fuel 40 cs = some x) :
    ∃ c : Con, cs = [.int .i64 c.a, .int .i64 c.b, .int .i64 c.s, .int .i64 c.e, .int .i64 c.r, .int .i64 c.g, .int .i64 c.l] := by
  obtain ⟨xs, n, _, hx, hl, hlen, hg⟩ := DataW.trod_struct Tryd.underlying40 h
  rw [Tryd.cells40] at hl
  match cs, hl, xs, hlen with
  | [c0, c1, c2, c3, c4, c5, c6], _, [y0, y1, y2, y3, y4, y5, y6], _ =>
    have g0 := hg 0 _ rfl
    have g1 := hg 1 _ rfl
    have g2 := hg 2 _ rfl
    have g3 := hg 3 _ rfl
    have g4 := hg 4 _ rfl
    have g5 := hg 5 _ rfl
    have g6 := hg 6 _ rfl
    simp [Tryd.cells3] at g0 g1 g2 g3 g4 g5 g6
    obtain ⟨a0, e0, _⟩ := DataW.trod_int Tryd.underlying3 g0
    obtain ⟨a1, e1, _⟩ := DataW.trod_int Tryd.underlying3 g1
    obtain ⟨a2, e2, _⟩ := DataW.trod_int Tryd.underlying3 g2
    obtain ⟨a3, e3, _⟩ := DataW.trod_int Tryd.underlying3 g3
    obtain ⟨a4, e4, _⟩ := DataW.trod_int Tryd.underlying3 g4
    obtain ⟨a5, e5, _⟩ := DataW.trod_int Tryd.underlying3 g5
    obtain ⟨a6, e6, _⟩ := DataW.trod_int Tryd.underlying3 g6
    simp at e0 e1 e2 e3 e4 e5 e6
    subst e0 e1 e2 e3 e4 e5 e6
    exact ⟨⟨a0, a1, a2, a3, a4, a5, a6⟩, rfl⟩
instance : Inhabited Con := ⟨Con.zero⟩
set_option maxRecDepth 100000 in
theorem open_cons_cell {c : Value} {fuel : Nat} {x : DataW H × List MemPlace} (h : DataW.trod enc Tryd.prog w base (fun _ => true) held fuel 23 [c] = some x) :
    ∃ cs, Cons w w.heap.size c cs := by
  rcases Deep.open_slice Tryd.underlying23 h with ⟨h0, _⟩ | ⟨a, len, cap, m, n, D, Pl, h0, _, hl, hm, hmm, _, hr⟩
  · simp at h0
    subst h0
    exact ⟨[], cons_nil _ _⟩
  · simp at h0
    subst h0
    simp only [if_true] at hmm
    subst hmm
    rw [Tryd.cells40] at hr
    obtain ⟨f, hf⟩ := Deep.choose_lt (α := Con) (p := fun i k => ∀ j, j < 7 → w.cell? ((a.add (i * 7)).add j) = [Value.int .i64 k.a, .int .i64 k.b, .int .i64 k.s, .int .i64 k.e, .int .i64 k.r, .int .i64 k.g, .int .i64 k.l][j]?) (fun i hi => by
      obtain ⟨cs', h1, h2⟩ := hr i hi
      obtain ⟨k, rfl⟩ := trod_con h2
      exact ⟨k, (World.cells?_some h1).2.2⟩)
    refine ⟨(List.range len).map f, some a, m, by simp, by simpa using hl, hm, fun hp => ?_⟩
    simp only [List.length_map, List.length_range] at hp ⊢
    have h0 := hf 0 (by omega) 0 (by omega)
    simp only [Nat.zero_mul] at h0
    have ha : a.add 0 = a := by simp [Addr.add]
    rw [ha, ha] at h0
    obtain ⟨b, o, sp⟩ := a
    obtain rfl : sp = none := World.cell?_spot h0
    refine ⟨b, o, rfl, World.block_lt_of_cell? _ _ h0, fun j hj => ?_⟩
    have e : ((List.range len).map f).getD j Con.zero = f j := by simp [List.getD, hj]
    rw [e]
    have hh := hf j (by omega)
    rw [add_eq rfl] at hh
    refine ⟨?_, ?_, ?_, ?_, ?_, ?_, ?_⟩
    · have := hh 0 (by omega); rw [add_eq rfl] at this; exact this
    · have := hh 1 (by omega); rw [add_eq rfl] at this; exact this
    · have := hh 2 (by omega); rw [add_eq rfl] at this; exact this
    · have := hh 3 (by omega); rw [add_eq rfl] at this; exact this
    · have := hh 4 (by omega); rw [add_eq rfl] at this; exact this
    · have := hh 5 (by omega); rw [add_eq rfl] at this; exact this
    · have := hh 6 (by omega); rw [add_eq rfl] at this; exact this
set_option maxRecDepth 100000 in
theorem open_plan {r : Reach} {b0 : Nat} {v : Value} {d : DataW H} {p : List MemPlace} (hv : Value.okWide Tryd.prog w r b0 25 v) (h : DataW.Trod enc Tryd.prog w base (fun _ => true) held 25 v d p) :
    ∃ qv cv qs cs, v = .agg #[qv, cv] ∧ Ints w w.heap.size qv qs ∧ Cons w w.heap.size cv cs := by
  obtain ⟨cs, rfl, hsz⟩ := okWide_struct Tryd.underlying25 hv
  obtain ⟨cl⟩ := cs
  match cl, hsz.trans Tryd.cells25 with
  | [c0, c1], _ =>
    obtain ⟨fuel, hf⟩ := h
    obtain ⟨xs, n, _, hx, _, hlen, hg⟩ := DataW.trod_struct Tryd.underlying25 (show DataW.trod enc Tryd.prog w base (fun _ => true) held fuel 25 [c0, c1] = _ by simpa [Value.cells] using hf)
    match xs, hlen with
    | [y0, y1], _ =>
      have g0 := hg 0 _ rfl
      have g1 := hg 1 _ rfl
      simp [Tryd.cells22, Tryd.cells23] at g0 g1
      obtain ⟨qs, hq⟩ := open_ints_cell g0
      obtain ⟨cs, hc⟩ := open_cons_cell g1
      exact ⟨c0, c1, qs, cs, rfl, hq, hc⟩
set_option maxRecDepth 100000 in
theorem open_con {r : Reach} {b0 : Nat} {v : Value} {d : DataW H} {p : List MemPlace} (hv : Value.okWide Tryd.prog w r b0 40 v) (h : DataW.Trod enc Tryd.prog w base spare held 40 v d p) :
    ∃ c : Con, v = .agg #[.int .i64 c.a, .int .i64 c.b, .int .i64 c.s, .int .i64 c.e, .int .i64 c.r, .int .i64 c.g, .int .i64 c.l] := by
  obtain ⟨cs, rfl, hsz⟩ := okWide_struct Tryd.underlying40 hv
  obtain ⟨fuel, hf⟩ := h
  obtain ⟨c, hc⟩ := trod_con (show DataW.trod enc Tryd.prog w base spare held fuel 40 cs.toList = _ by simpa [Value.cells] using hf)
  refine ⟨c, ?_⟩
  obtain ⟨cl⟩ := cs
  simp at hc
  rw [hc]
end
theorem Tryd.gR : Tryd.prog.globalNamed "strconv.ErrRange" = some 3 := by kernel_rfl
theorem Tryd.gS : Tryd.prog.globalNamed "strconv.ErrSyntax" = some 2 := by kernel_rfl
theorem Tryd.gRType : (Tryd.prog.globals[3]?).map (·.type) = some 69 := by kernel_rfl
theorem Tryd.gSType : (Tryd.prog.globals[2]?).map (·.type) = some 69 := by kernel_rfl
theorem Tryd.gPType : (Tryd.prog.globals[1]?).map (·.type) = some 127 := by kernel_rfl
theorem Tryd.cellsP : Tryd.prog.cellsOf 127 = 20 := by kernel_rfl
theorem Tryd.cellsU : Tryd.prog.cellsOf 109 = 1 := by kernel_rfl
theorem Tryd.cells149 : Tryd.prog.cellsOf 149 = 1 := by kernel_rfl
theorem Tryd.cells9 : Tryd.prog.cellsOf 9 = 1 := by kernel_rfl
theorem Tryd.star : "*errors.errorString" = "*" ++ "errors.errorString" := by decide
theorem Tryd.row147 (u : TypeId) (h : Tryd.prog.typeName? 3 u = some "*errors.errorString") : u = 147 :=
  typeName_ptr_named (nm := "errors.errorString") (by rw [← Tryd.star]; kernel_rfl) (by kernel_rfl) (by decide) u (by rw [← Tryd.star]; exact h)
theorem pow_data : (Rows.laid_internal_strconv_uint64pow10 : DataW Unit) = Lib.tabData .u64 Lib.pow10Tab := by kernel_rfl
theorem var_lt {P : Program} {W : World} {nm : String} {g : Nat} {cs : Array Value} (hg : P.globalNamed nm = some g) (h : W.var? P nm = some cs) : g < W.heap.size := by
  unfold World.var? at h
  rw [hg] at h
  simp only [Option.bind_some] at h
  split at h
  · exact blk_lt (by assumption)
  · cases h
theorem Tryd.gB : Tryd.prog.globalNamed "math/bits.deBruijn64tab" = some 7 := by kernel_rfl
theorem glob_of {W : World} (hL : laidMetH Tryd.prog Rows.planHorizonRow.laid W) (hsh : W.ShapedOpen Tryd.prog) : Glob W := by
  rw [MakeChecks.laidMetH_plain _ _ _ (by kernel_rfl)] at hL
  have h2 := laidMet.tail (laidMet.tail hL)
  have h4 := laidMet.tail (laidMet.tail h2)
  obtain ⟨a1, s1, hv1, _⟩ := laid_sentinel h4 Tryd.gR Tryd.gRType Tryd.underlying69 Tryd.row147 Tryd.underlying147 Tryd.underlying149 rfl rfl Tryd.underlying9 Tryd.cells149 Tryd.cells9
  obtain ⟨a2, s2, hv2, _⟩ := laid_sentinel (laidMet.tail h4) Tryd.gS Tryd.gSType Tryd.underlying69 Tryd.row147 Tryd.underlying147 Tryd.underlying149 rfl rfl Tryd.underlying9 Tryd.cells149 Tryd.cells9
  have c1 : W.cell? ⟨3, 0, none⟩ = some (.iface 147 (.pointer (some a1))) := by simpa using World.var?_cell Tryd.gR hv1 0
  have c2 : W.cell? ⟨2, 0, none⟩ = some (.iface 147 (.pointer (some a2))) := by simpa using World.var?_cell Tryd.gS hv2 0
  obtain ⟨m, hm⟩ := cell_of_shapedOpen_int (P := Tryd.prog) (g := 0) (t := 3) (zero := #[.int .i64 0]) hsh (of_decide_eq_true (by kernel_rfl)) (by kernel_rfl) rfl (by kernel_rfl) (by kernel_rfl) Tryd.underlying3
  have ht := Lib.tabIs_of_head (k := .u64) (zs := Lib.pow10Tab) Tryd.gPow Tryd.gPType Tryd.underlying127 Tryd.underlying109 Tryd.cellsU Tryd.cellsP (by rw [← pow_data]; exact h2)
  have h8 : 8 ≤ W.heap.size := by
    obtain ⟨ps, ⟨g', t', cs, fuel, p, q, hg', ht', hvar, hd, _, _⟩, _⟩ := laidMet.tail hL
    exact var_lt Tryd.gB hvar
  exact ⟨h8, ⟨m, hm⟩, ⟨_, _, c2⟩, ⟨_, _, c1⟩, ht⟩
end Go.Proofs.YtgnlanfpholdaaaDoor

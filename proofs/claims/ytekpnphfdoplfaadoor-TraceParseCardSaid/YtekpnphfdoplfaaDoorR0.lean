/- How the rows of the trace laws are closed: what a law leaves, how its arguments are opened, what the package-level variables hold. -/
import Derived.Test.YtekpnphfdoplfaaDoorB8
import Derived.Test.YtekpnphfdoplfaaDoorCards
import Derived.Test.YtekpnphfdoplfaaDoorTie
import Derived.ProofKit
import Derived.OpenShut
import Derived.JoinedCond
import Derived.LaidMore
import Derived.Lay
import Derived.SevenTiedAt
import Derived.Stop.Joined
import Derived.Deep.Matrix
import Derived.Deep.Slices
import Derived.HandedShaped
import Derived.Shelf.Vars
import Derived.Stop.LaidErr
import Derived.Lib.LaidTab
import Derived.Lib.LaidU8
namespace Go.Proofs.YtekpnphfdoplfaaDoor
open Go.ChangeShapes Go.WideShapes Go.ChangeAt Go.RowKit
theorem Tryd.own : ownKnob Tryd.prog.godebug = none := by kernel_rfl
theorem Tryd.laidOut : laidOutB Tryd.prog = true := by kernel_rfl
section
variable {H : Type} {enc : TypeId × Value → H} {P : Program}
theorem trodAll_stays (hl : laidOutB P = true) {W W' : World} {sp : Nat → Bool} (hb : Below W.heap.size W W') : ∀ {ts : List TypeId} {vs : List Value} {ds : List (DataW H)} {ps : List MemPlace},
    (∀ t ∈ ts, P.readableRec t = true ∧ t < P.types.size) → DataW.TrodAll enc P W 0 (fun _ => true) true ts vs ds ps → (∀ x ∈ ps, x.block < W.heap.size ∧ sp x.block = true) → DataW.TrodAll enc P W' 0 sp true ts vs ds ps
  | [], [], [], _, _, h, _ => h
  | t :: ts, v :: vs, d :: ds, ps, hr, ⟨p, q, h1, h2, e⟩, hp => by
    subst e
    refine ⟨p, q, WideElems.Trod_stays hl (hr t (by simp)).1 (hr t (by simp)).2 h1 (fun x hx => hb.same (hp x (by simp [hx])).1) (fun x hx => (hp x (by simp [hx])).2), trodAll_stays hl hb (fun t ht => hr t (by simp [ht])) h2 (fun x hx => hp x (by simp [hx])), rfl⟩
  | [], [], _ :: _, _, _, h, _ => h.elim
  | [], _ :: _, [], _, _, h, _ => h.elim
  | [], _ :: _, _ :: _, _, _, h, _ => h.elim
  | _ :: _, [], [], _, _, h, _ => h.elim
  | _ :: _, [], _ :: _, _, _, h, _ => h.elim
  | _ :: _, _ :: _, [], _, _, h, _ => h.elim
/-- a law's row: true, nothing that was there has changed -/
theorem law_post {f : Func} {s : ChangeSpec} {W W' : World} {args : Array Value} {ds gs : List (DataW H)} {before : List MemPlace} {tb : TypeId} (hl : laidOutB P = true) (htb : P.underlying tb = some .bool) (hrt : f.resultTypes = #[tb])
    (hr : ∀ t ∈ f.params.toList, P.readableRec t = true ∧ t < P.types.size)
    (hsv : s.vars = []) (h1 : (s.fn H (ds ++ gs)).results = [.lit (.bool true)]) (h2 : (s.fn H (ds ++ gs)).args = ds) (h3 : (s.fn H (ds ++ gs)).vars = [])
    (hW : DataW.Whole enc P f.params.toList s.vars false W args.toList ds gs before) (hb : Below W.heap.size W W') :
    s.post enc P f false true false false W args (.bool true) W' := by
  have hW' := hW
  have hlt : ∀ p ∈ before, p.block < W.heap.size := fun p hp => hW.lt p hp
  obtain ⟨p, q, hA, hV, rfl, hfz, hnd⟩ := hW
  rw [hsv] at hV
  obtain ⟨rfl, rfl⟩ := trodVars_none hV
  simp only [List.append_nil] at hlt hW'
  refine ⟨ds, [], p, [], p, [], hW', ?_, ?_, ?_, hb.frame _, fun h => by cases h⟩
  · rw [hrt, h1]
    exact trodAll_mk1 (shut_bool htb _)
  · rw [h2]
    exact trodAll_stays hl hb hr hA (fun x hx => ⟨hlt x hx, by simpa using hlt x hx⟩)
  · rw [hsv, h3]
    rfl
end
theorem returns_laid_shaped {H : Type} {enc : TypeId × Value → H} {a : Assume} {C : Checked} {os : Os} {f : FuncId} {fn : Func} {s : ChangeSpec} {conds : List PathCond} {apart fresh handsOn again : Bool} {X : World → Array Value → Prop}
    (hX : ∀ (w w' : World) (args : Array Value), w.heap = w'.heap → X w args → X w' args)
    (own : ownKnob C.prog.godebug = none) (started : os.Started) (noInit : C.prog.inits.idxOf? f = none) (hfn : C.prog.funcs[f]? = some fn)
    (witness : ∃ (w : World) (tape : Tape) (i : Input), w.os = os ∧ (w.forCall tape i).Shaped C.prog ∧ i.vars = [] ∧ Input.okWide C.prog (w.forCall tape i) .any w.heap.size f i ∧
      ((s.pre enc C.prog fn conds apart (w.forCall tape i).memory i.args ∧ X (w.forCall tape i).memory i.args) ∧ sizedMet enc C.prog fn (OpenSpec.ofChange s) apart (w.forCall tape i).memory i.args) ∧ a.holds C.prog (lone (Frame.enter C.prog f i.args .normal) [] (w.forCall tape i)))
    (contract : ∀ (W : World) (base : Nat) (args : Array Value) (ds gs : List (DataW H)) (before : List MemPlace),
      (∀ (j : Nat) t v, fn.params[j]? = some t → args[j]? = some v → Value.okWide C.prog W .any base t v) →
      DataW.Whole enc C.prog fn.params.toList s.vars apart W args.toList ds gs before →
      conds.all (PathCond.test C.prog ⟨fn.params.toList, ds, s.plain.varTypes C.prog, gs⟩) = true →
      (DataW.weightsEach C.prog (fn.params.toList ++ s.plain.varTypes C.prog) (ds ++ gs)).all (· ≤ reachBytes) = true → X W args → W.ShapedOpen C.prog →
      Calls C.prog f args W fun e W' => ∃ v, e = .returned v ∧ s.post enc C.prog fn apart fresh handsOn again W args v W') :
    ReturnsInHanded a C os f .any (fun w args => (s.pre enc C.prog fn conds apart w args ∧ X w args) ∧ sizedMet enc C.prog fn (OpenSpec.ofChange s) apart w args) (s.post enc C.prog fn apart fresh handsOn again) := by
  refine returnsInHanded_of_calls own started noInit witness ?_
  intro w tape i _ hsh _ hok hpre hholds
  obtain ⟨_, _, _, fn', hfn', _, _, _, _, hval⟩ := hok
  have e : fn' = fn := Option.some.inj (hfn'.symm.trans hfn)
  subst e
  obtain ⟨⟨⟨ds, gs, before, hw, hc⟩, hx⟩, hz⟩ := hpre
  have hw' := DataW.Whole.of_heap (w' := w.forCall tape i) (by rfl) hw
  refine (contract (w.forCall tape i) w.heap.size i.args ds gs before hval hw' hc (hz.weights hw) (hX _ _ _ (by rfl) hx) hsh).mono fun e W' ⟨v, he, hp⟩ => ?_
  subst he
  exact ChangeSpec.post_blind hp
section
variable {H : Type} {enc : TypeId × Value → H} {w : World} {base : Nat} {spare : Nat → Bool} {held : Bool}
theorem Tryd.cells3 : Tryd.prog.cellsOf 3 = 1 := by kernel_rfl
theorem Tryd.cells37 : Tryd.prog.cellsOf 37 = 6 := by kernel_rfl
theorem add_eq {a : Addr} {b o : Nat} (h : a = ⟨b, o, none⟩) (n : Nat) : a.add n = ⟨b, o + n, none⟩ := by subst h; unfold Addr.add; split <;> simp_all
set_option maxRecDepth 100000 in
/-- six cells that read as an entry -/
theorem trod_ent {fuel : Nat} {cs : List Value} {x : DataW H × List MemPlace} (h : DataW.trod enc Tryd.prog w base spare held fuel 37 cs = some x) :
    ∃ k : Ent, okE k ∧ cs = [.int .i64 k.t, .int .i64 k.k, .int .i64 k.n, .int .i64 k.j, .int .i64 k.c, .int .i64 k.v] := by
  obtain ⟨xs, n, _, hx, hl, hlen, hg⟩ := DataW.trod_struct Tryd.underlying37 h
  rw [Tryd.cells37] at hl
  match cs, hl, xs, hlen with
  | [c0, c1, c2, c3, c4, c5], _, [y0, y1, y2, y3, y4, y5], _ =>
    have g0 := hg 0 _ rfl
    have g1 := hg 1 _ rfl
    have g2 := hg 2 _ rfl
    have g3 := hg 3 _ rfl
    have g4 := hg 4 _ rfl
    have g5 := hg 5 _ rfl
    simp [Tryd.cells3] at g0 g1 g2 g3 g4 g5
    obtain ⟨a0, e0, _⟩ := DataW.trod_int Tryd.underlying3 g0
    obtain ⟨a1, e1, _⟩ := DataW.trod_int Tryd.underlying3 g1
    obtain ⟨a2, e2, _⟩ := DataW.trod_int Tryd.underlying3 g2
    obtain ⟨a3, e3, _, w3⟩ := DataW.trod_int Tryd.underlying3 g3
    obtain ⟨a4, e4, _⟩ := DataW.trod_int Tryd.underlying3 g4
    obtain ⟨a5, e5, _, w5⟩ := DataW.trod_int Tryd.underlying3 g5
    simp at e0 e1 e2 e3 e4 e5
    subst e0 e1 e2 e3 e4 e5
    exact ⟨⟨a0, a1, a2, a3, a4, a5⟩, ⟨w3, w5⟩, rfl⟩
instance : Inhabited Ent := ⟨Ent.zero⟩
set_option maxRecDepth 100000 in
theorem open_ents_cell {c : Value} {fuel : Nat} {x : DataW H × List MemPlace} (h : DataW.trod enc Tryd.prog w base (fun _ => true) held fuel 23 [c] = some x) :
    ∃ xs, Ents w w.heap.size c xs ∧ ∀ x ∈ xs, okE x := by
  rcases Deep.open_slice Tryd.underlying23 h with ⟨h0, _⟩ | ⟨a, len, cap, m, n, D, Pl, h0, _, hl, hm, hmm, _, hr⟩
  · simp at h0
    subst h0
    exact ⟨[], ents_nil _ _, fun x hx => by cases hx⟩
  · simp at h0
    subst h0
    simp only [if_true] at hmm
    subst hmm
    rw [Tryd.cells37] at hr
    obtain ⟨f, hf⟩ := Deep.choose_lt (α := Ent) (p := fun i k => okE k ∧ ∀ j, j < 6 → w.cell? ((a.add (i * 6)).add j) = [Value.int .i64 k.t, .int .i64 k.k, .int .i64 k.n, .int .i64 k.j, .int .i64 k.c, .int .i64 k.v][j]?) (fun i hi => by
      obtain ⟨cs', h1, h2⟩ := hr i hi
      obtain ⟨k, hk, rfl⟩ := trod_ent h2
      exact ⟨k, hk, (World.cells?_some h1).2.2⟩)
    refine ⟨(List.range len).map f, ⟨some a, m, by simp, by simpa using hl, hm, fun hp => ?_⟩, fun x hx => ?_⟩
    · simp only [List.length_map, List.length_range] at hp ⊢
      have h0 := (hf 0 (by omega)).2 0 (by omega)
      simp only [Nat.zero_mul] at h0
      have ha : a.add 0 = a := by simp [Addr.add]
      rw [ha, ha] at h0
      obtain ⟨b, o, sp⟩ := a
      obtain rfl : sp = none := World.cell?_spot h0
      refine ⟨b, o, rfl, World.block_lt_of_cell? _ _ h0, fun j hj => ?_⟩
      have e : ((List.range len).map f).getD j Ent.zero = f j := by simp [List.getD, hj]
      rw [e]
      have hh := (hf j (by omega)).2
      rw [add_eq rfl] at hh
      refine ⟨?_, ?_, ?_, ?_, ?_, ?_⟩
      · have := hh 0 (by omega); rw [add_eq rfl] at this; exact this
      · have := hh 1 (by omega); rw [add_eq rfl] at this; exact this
      · have := hh 2 (by omega); rw [add_eq rfl] at this; exact this
      · have := hh 3 (by omega); rw [add_eq rfl] at this; exact this
      · have := hh 4 (by omega); rw [add_eq rfl] at this; exact this
      · have := hh 5 (by omega); rw [add_eq rfl] at this; exact this
    · obtain ⟨i, hi, rfl⟩ := List.mem_map.1 hx
      exact (hf i (by have := List.mem_range.1 hi; omega)).1
set_option maxRecDepth 100000 in
theorem open_ents {r : Reach} {b0 : Nat} {v : Value} {d : DataW H} {p : List MemPlace} (hv : Value.okWide Tryd.prog w r b0 23 v) (h : DataW.Trod enc Tryd.prog w base (fun _ => true) held 23 v d p) :
    ∃ xs, Ents w w.heap.size v xs ∧ ∀ x ∈ xs, okE x := by
  obtain ⟨A, l, c, rfl⟩ := okWide_slice Tryd.underlying23 hv
  obtain ⟨fuel, hf⟩ := h
  exact open_ents_cell (show DataW.trod enc Tryd.prog w base (fun _ => true) held fuel 23 [.slice A l c] = _ by simpa [Value.cells] using hf)
end
theorem Tryd.gR : Tryd.prog.globalNamed "strconv.ErrRange" = some 4 := by kernel_rfl
theorem Tryd.gS : Tryd.prog.globalNamed "strconv.ErrSyntax" = some 3 := by kernel_rfl
theorem Tryd.gRType : (Tryd.prog.globals[4]?).map (·.type) = some 63 := by kernel_rfl
theorem Tryd.gSType : (Tryd.prog.globals[3]?).map (·.type) = some 63 := by kernel_rfl
theorem Tryd.gPType : (Tryd.prog.globals[5]?).map (·.type) = some 154 := by kernel_rfl
theorem Tryd.cellsP : Tryd.prog.cellsOf 154 = 20 := by kernel_rfl
theorem Tryd.cellsU : Tryd.prog.cellsOf 134 = 1 := by kernel_rfl
theorem Tryd.gAType : (Tryd.prog.globals[1]?).map (·.type) = some 98 := by kernel_rfl
theorem Tryd.cellsA : Tryd.prog.cellsOf 98 = 256 := by kernel_rfl
theorem Tryd.cells5 : Tryd.prog.cellsOf 5 = 1 := by kernel_rfl
theorem Tryd.cells152 : Tryd.prog.cellsOf 152 = 1 := by kernel_rfl
theorem Tryd.cells9 : Tryd.prog.cellsOf 9 = 1 := by kernel_rfl
theorem Tryd.star : "*errors.errorString" = "*" ++ "errors.errorString" := by decide
theorem Tryd.row150 (u : TypeId) (h : Tryd.prog.typeName? 3 u = some "*errors.errorString") : u = 150 :=
  typeName_ptr_named (nm := "errors.errorString") (by rw [← Tryd.star]; kernel_rfl) (by kernel_rfl) (by decide) u (by rw [← Tryd.star]; exact h)
theorem pow_data : (Rows.laid_internal_strconv_uint64pow10 : DataW Unit) = Lib.tabData .u64 Lib.pow10Tab := by kernel_rfl
theorem space_data : (Rows.laid_strings_asciiSpace : DataW Unit) = Lib.tabData .u8 Lib.asciiSpaceTab := by kernel_rfl
theorem white_data : (Rows.laid_unicode_White_Space : DataW Unit) = Lib.whiteData := by kernel_rfl
theorem glob_of {W : World} (hL : laidMetH Tryd.prog Rows.traceParseRow.laid W) (hsh : W.ShapedOpen Tryd.prog) : Glob W := by
  rw [MakeChecks.laidMetH_plain _ _ _ (by kernel_rfl)] at hL
  have h2 := laidMet.tail (laidMet.tail hL)
  have h3 := laidMet.tail h2
  have h4 := laidMet.tail h3
  have h6 := laidMet.tail (laidMet.tail h4)
  obtain ⟨a1, s1, hv1, _⟩ := laid_sentinel h3 Tryd.gR Tryd.gRType Tryd.underlying63 Tryd.row150 Tryd.underlying150 Tryd.underlying152 rfl rfl Tryd.underlying9 Tryd.cells152 Tryd.cells9
  obtain ⟨a2, s2, hv2, _⟩ := laid_sentinel h4 Tryd.gS Tryd.gSType Tryd.underlying63 Tryd.row150 Tryd.underlying150 Tryd.underlying152 rfl rfl Tryd.underlying9 Tryd.cells152 Tryd.cells9
  have c1 : W.cell? ⟨4, 0, none⟩ = some (.iface 150 (.pointer (some a1))) := by simpa using World.var?_cell Tryd.gR hv1 0
  have c2 : W.cell? ⟨3, 0, none⟩ = some (.iface 150 (.pointer (some a2))) := by simpa using World.var?_cell Tryd.gS hv2 0
  obtain ⟨m, hm⟩ := cell_of_shapedOpen_int (P := Tryd.prog) (g := 0) (t := 3) (zero := #[.int .i64 0]) hsh (of_decide_eq_true (by kernel_rfl)) (by kernel_rfl) rfl (by kernel_rfl) (by kernel_rfl) Tryd.underlying3
  have ht := Lib.tabIs_of_head (k := .u64) (zs := Lib.pow10Tab) Tryd.gPow Tryd.gPType Tryd.underlying154 Tryd.underlying134 Tryd.cellsU Tryd.cellsP (by rw [← pow_data]; exact h2)
  have ha := Lib.tabIs_of_head (k := .u8) (zs := Lib.asciiSpaceTab) Tryd.gSpace Tryd.gAType Tryd.underlying98 Tryd.underlying5 Tryd.cells5 Tryd.cellsA (by rw [← space_data]; exact h6)
  have hw : Lib.WhiteTab 2 W := whiteTab_of_reads { Tryd.lays157 with } ⟨by kernel_rfl, by kernel_rfl, by kernel_rfl, by kernel_rfl, by kernel_rfl, by kernel_rfl, by kernel_rfl, by kernel_rfl⟩ (Lib.laidMet.reads hL (by rw [← white_data]; exact .tail _ (.tail _ (.tail _ (.tail _ (.tail _ (.head _)))))))
  exact ⟨⟨m, hm⟩, ha, hw, ⟨_, _, c2⟩, ⟨_, _, c1⟩, ht⟩
end Go.Proofs.YtekpnphfdoplfaaDoor

/- How the row is closed: what a law leaves, what the package-level variables hold. -/
import Derived.Test.YtpcbccpobhdokaaGreatDoorE3
import Derived.Test.YtpcbccpobhdokaaGreatDoorCards
import Derived.Test.YtpcbccpobhdokaaGreatDoorRows
import Derived.ProofKit
import Derived.OpenShut
import Derived.JoinedCond
import Derived.LaidMore
import Derived.Lay
import Derived.SevenTiedAt
import Derived.Stop.Joined
import Derived.Deep.Matrix
import Derived.Deep.Slices
import Derived.HandedShaped
import Derived.Shelf.Vars
import Derived.Stop.LaidErr
import Derived.Lib.LaidTab
import Derived.Test.YtpcbccpobhdokaaGreatDoorA1
set_option linter.unusedSimpArgs false
set_option linter.unusedVariables false
set_option linter.all false
namespace Go.Proofs.YtpcbccpobhdokaaGreatDoor
open Go.ChangeShapes Go.WideShapes Go.ChangeAt Go.RowKit
theorem Tryz.own : ownKnob Tryz.prog.godebug = none := by kernel_rfl
theorem Tryz.rows : Tryz.prog.types.size = 767 := by kernel_rfl
theorem Tryz.lo0 : (List.range' 0 60).all (rowFine Tryz.prog) = true := by kernel_rfl
theorem Tryz.lo1 : (List.range' 60 60).all (rowFine Tryz.prog) = true := by kernel_rfl
theorem Tryz.lo2 : (List.range' 120 60).all (rowFine Tryz.prog) = true := by kernel_rfl
theorem Tryz.lo3 : (List.range' 180 60).all (rowFine Tryz.prog) = true := by kernel_rfl
theorem Tryz.lo4 : (List.range' 240 60).all (rowFine Tryz.prog) = true := by kernel_rfl
theorem Tryz.lo5 : (List.range' 300 60).all (rowFine Tryz.prog) = true := by kernel_rfl
theorem Tryz.lo6 : (List.range' 360 60).all (rowFine Tryz.prog) = true := by kernel_rfl
theorem Tryz.lo7 : (List.range' 420 60).all (rowFine Tryz.prog) = true := by kernel_rfl
theorem Tryz.lo8 : (List.range' 480 60).all (rowFine Tryz.prog) = true := by kernel_rfl
theorem Tryz.lo9 : (List.range' 540 60).all (rowFine Tryz.prog) = true := by kernel_rfl
theorem Tryz.lo10 : (List.range' 600 60).all (rowFine Tryz.prog) = true := by kernel_rfl
theorem Tryz.lo11 : (List.range' 660 60).all (rowFine Tryz.prog) = true := by kernel_rfl
theorem Tryz.lo12 : (List.range' 720 47).all (rowFine Tryz.prog) = true := by kernel_rfl
theorem Tryz.loG : Tryz.prog.globals.all (fun g => decide (g.type < Tryz.prog.types.size)) = true := by kernel_rfl
theorem Tryz.loF : Tryz.prog.funcs.all (fun f => f.params.all fun t => decide (t < Tryz.prog.types.size)) = true := by kernel_rfl
theorem Tryz.laidOut : laidOutB Tryz.prog = true := by
  unfold laidOutB
  rw [Tryz.loG, Tryz.loF, Bool.and_true, Bool.and_true, List.all_eq_true]
  intro t ht
  rw [List.mem_range, Tryz.rows] at ht
  by_cases h1 : t < 60
  · exact List.all_eq_true.1 Tryz.lo0 t (List.mem_range'_1.2 ⟨by omega, by omega⟩)
  by_cases h2 : t < 120
  · exact List.all_eq_true.1 Tryz.lo1 t (List.mem_range'_1.2 ⟨by omega, by omega⟩)
  by_cases h3 : t < 180
  · exact List.all_eq_true.1 Tryz.lo2 t (List.mem_range'_1.2 ⟨by omega, by omega⟩)
  by_cases h4 : t < 240
  · exact List.all_eq_true.1 Tryz.lo3 t (List.mem_range'_1.2 ⟨by omega, by omega⟩)
  by_cases h5 : t < 300
  · exact List.all_eq_true.1 Tryz.lo4 t (List.mem_range'_1.2 ⟨by omega, by omega⟩)
  by_cases h6 : t < 360
  · exact List.all_eq_true.1 Tryz.lo5 t (List.mem_range'_1.2 ⟨by omega, by omega⟩)
  by_cases h7 : t < 420
  · exact List.all_eq_true.1 Tryz.lo6 t (List.mem_range'_1.2 ⟨by omega, by omega⟩)
  by_cases h8 : t < 480
  · exact List.all_eq_true.1 Tryz.lo7 t (List.mem_range'_1.2 ⟨by omega, by omega⟩)
  by_cases h9 : t < 540
  · exact List.all_eq_true.1 Tryz.lo8 t (List.mem_range'_1.2 ⟨by omega, by omega⟩)
  by_cases h10 : t < 600
  · exact List.all_eq_true.1 Tryz.lo9 t (List.mem_range'_1.2 ⟨by omega, by omega⟩)
  by_cases h11 : t < 660
  · exact List.all_eq_true.1 Tryz.lo10 t (List.mem_range'_1.2 ⟨by omega, by omega⟩)
  by_cases h12 : t < 720
  · exact List.all_eq_true.1 Tryz.lo11 t (List.mem_range'_1.2 ⟨by omega, by omega⟩)
  exact List.all_eq_true.1 Tryz.lo12 t (List.mem_range'_1.2 ⟨by omega, by omega⟩)
section
variable {H : Type} {enc : TypeId × Value → H} {P : Program}
theorem trodAll_stays (hl : laidOutB P = true) {W W' : World} {sp : Nat → Bool} (hb : Below W.heap.size W W') : ∀ {ts : List TypeId} {vs : List Value} {ds : List (DataW H)} {ps : List MemPlace},
    (∀ t ∈ ts, P.readableRec t = true ∧ t < P.types.size) → DataW.TrodAll enc P W 0 (fun _ => true) true ts vs ds ps → (∀ x ∈ ps, x.block < W.heap.size ∧ sp x.block = true) → DataW.TrodAll enc P W' 0 sp true ts vs ds ps
  | [], [], [], _, _, h, _ => h
  | t :: ts, v :: vs, d :: ds, ps, hr, ⟨p, q, h1, h2, e⟩, hp => by
    subst e
    refine ⟨p, q, WideElems.Trod_stays hl (hr t (by simp)).1 (hr t (by simp)).2 h1 (fun x hx => hb.same (hp x (by simp [hx])).1) (fun x hx => (hp x (by simp [hx])).2), trodAll_stays hl hb (fun t ht => hr t (by simp [ht])) h2 (fun x hx => hp x (by simp [hx])), rfl⟩
  | [], [], _ :: _, _, _, h, _ => h.elim
  | [], _ :: _, [], _, _, h, _ => h.elim
  | [], _ :: _, _ :: _, _, _, h, _ => h.elim
  | _ :: _, [], [], _, _, h, _ => h.elim
  | _ :: _, [], _ :: _, _, _, h, _ => h.elim
  | _ :: _, _ :: _, [], _, _, h, _ => h.elim
theorem law_post {f : Func} {s : ChangeSpec} {W W' : World} {args : Array Value} {ds gs : List (DataW H)} {before : List MemPlace} {tb : TypeId} (hl : laidOutB P = true) (htb : P.underlying tb = some .bool) (hrt : f.resultTypes = #[tb])
    (hr : ∀ t ∈ f.params.toList, P.readableRec t = true ∧ t < P.types.size)
    (hsv : s.vars = []) (h1 : (s.fn H (ds ++ gs)).results = [.lit (.bool true)]) (h2 : (s.fn H (ds ++ gs)).args = ds) (h3 : (s.fn H (ds ++ gs)).vars = [])
    (hW : DataW.Whole enc P f.params.toList s.vars false W args.toList ds gs before) (hb : Below W.heap.size W W') :
    s.post enc P f false true false false W args (.bool true) W' := by
  have hW' := hW
  have hlt : ∀ p ∈ before, p.block < W.heap.size := fun p hp => hW.lt p hp
  obtain ⟨p, q, hA, hV, rfl, hfz, hnd⟩ := hW
  rw [hsv] at hV
  obtain ⟨rfl, rfl⟩ := trodVars_none hV
  simp only [List.append_nil] at hlt hW'
  refine ⟨ds, [], p, [], p, [], hW', ?_, ?_, ?_, hb.frame _, fun h => by cases h⟩
  · rw [hrt, h1]
    exact trodAll_mk1 (shut_bool htb _)
  · rw [h2]
    exact trodAll_stays hl hb hr hA (fun x hx => ⟨hlt x hx, by simpa using hlt x hx⟩)
  · rw [hsv, h3]
    rfl
end
theorem returns_laid_shaped {H : Type} {enc : TypeId × Value → H} {a : Assume} {C : Checked} {os : Os} {f : FuncId} {fn : Func} {s : ChangeSpec} {conds : List PathCond} {apart fresh handsOn again : Bool} {X : World → Array Value → Prop}
    (hX : ∀ (w w' : World) (args : Array Value), w.heap = w'.heap → X w args → X w' args)
    (own : ownKnob C.prog.godebug = none) (started : os.Started) (noInit : C.prog.inits.idxOf? f = none) (hfn : C.prog.funcs[f]? = some fn)
    (witness : ∃ (w : World) (tape : Tape) (i : Input), w.os = os ∧ (w.forCall tape i).Shaped C.prog ∧ i.vars = [] ∧ Input.okWide C.prog (w.forCall tape i) .any w.heap.size f i ∧
      ((s.pre enc C.prog fn conds apart (w.forCall tape i).memory i.args ∧ X (w.forCall tape i).memory i.args) ∧ sizedMet enc C.prog fn (OpenSpec.ofChange s) apart (w.forCall tape i).memory i.args) ∧ a.holds C.prog (lone (Frame.enter C.prog f i.args .normal) [] (w.forCall tape i)))
    (contract : ∀ (W : World) (base : Nat) (args : Array Value) (ds gs : List (DataW H)) (before : List MemPlace),
      (∀ (j : Nat) t v, fn.params[j]? = some t → args[j]? = some v → Value.okWide C.prog W .any base t v) →
      DataW.Whole enc C.prog fn.params.toList s.vars apart W args.toList ds gs before →
      conds.all (PathCond.test C.prog ⟨fn.params.toList, ds, s.plain.varTypes C.prog, gs⟩) = true →
      (DataW.weightsEach C.prog (fn.params.toList ++ s.plain.varTypes C.prog) (ds ++ gs)).all (· ≤ reachBytes) = true → X W args → W.ShapedOpen C.prog →
      Calls C.prog f args W fun e W' => ∃ v, e = .returned v ∧ s.post enc C.prog fn apart fresh handsOn again W args v W') :
    ReturnsInHanded a C os f .any (fun w args => (s.pre enc C.prog fn conds apart w args ∧ X w args) ∧ sizedMet enc C.prog fn (OpenSpec.ofChange s) apart w args) (s.post enc C.prog fn apart fresh handsOn again) := by
  refine returnsInHanded_of_calls own started noInit witness ?_
  intro w tape i _ hsh _ hok hpre hholds
  obtain ⟨_, _, _, fn', hfn', _, _, _, _, hval⟩ := hok
  have e : fn' = fn := Option.some.inj (hfn'.symm.trans hfn)
  subst e
  obtain ⟨⟨⟨ds, gs, before, hw, hc⟩, hx⟩, hz⟩ := hpre
  have hw' := DataW.Whole.of_heap (w' := w.forCall tape i) (by rfl) hw
  refine (contract (w.forCall tape i) w.heap.size i.args ds gs before hval hw' hc (hz.weights hw) (hX _ _ _ (by rfl) hx) hsh).mono fun e W' ⟨v, he, hp⟩ => ?_
  subst he
  exact ChangeSpec.post_blind hp
theorem six_some : (((begin Tryz.prog (fun _ _ => 0) default).world.heap[5]?).bind Obj.row?).isSome = true := by kernel_rfl
theorem six_of {W : World} (hsh : W.ShapedOpen Tryz.prog) : 6 ≤ W.heap.size := by
  obtain ⟨⟨zero, t⟩, h0⟩ := Option.isSome_iff_exists.1 six_some
  obtain ⟨cs, hh, _⟩ := hsh.1 5 zero t (of_decide_eq_true (by kernel_rfl)) h0
  rcases Nat.lt_or_ge 5 W.heap.size with h | h
  · exact h
  · rw [Array.getElem?_eq_none (by omega)] at hh
    cases hh
theorem pow_data : (Rows.laid_internal_strconv_uint64pow10 : DataW Unit) = Lib.tabData .u64 Lib.pow10Tab := by kernel_rfl
theorem Tryz.gPType : (Tryz.prog.globals[1]?).map (·.type) = some 295 := by kernel_rfl
theorem Tryz.cellsP : Tryz.prog.cellsOf 295 = 20 := by kernel_rfl
theorem Tryz.cellsU : Tryz.prog.cellsOf 136 = 1 := by kernel_rfl
theorem pow_of {W : World} {l : List (String × DataW Unit)} (h2 : laidMet Tryz.prog (("internal/strconv.uint64pow10", Rows.laid_internal_strconv_uint64pow10) :: l) W) : Lib.TabIs Tryz.prog W "internal/strconv.uint64pow10" .u64 Lib.pow10Tab :=
  Lib.tabIs_of_head (k := .u64) (zs := Lib.pow10Tab) gPow Tryz.gPType Tryz.underlying295 Tryz.underlying136 Tryz.cellsU Tryz.cellsP (by rw [← pow_data]; exact h2)
theorem gok_of {W : World} {l : List (String × DataW Unit)} {a b : String × DataW Unit} (hL : laidMet Tryz.prog (a :: b :: ("internal/strconv.uint64pow10", Rows.laid_internal_strconv_uint64pow10) :: l) W) (hsh : W.ShapedOpen Tryz.prog) : GOk W := by
  have h2 := laidMet.tail (laidMet.tail hL)
  obtain ⟨m, hm⟩ := cell_of_shapedOpen_int (P := Tryz.prog) (g := 0) (t := 3) (zero := #[.int .i64 0]) hsh (of_decide_eq_true (by kernel_rfl)) (by kernel_rfl) rfl (by kernel_rfl) (by kernel_rfl) Tryz.underlying3
  exact ⟨six_of hsh, pow_of h2, m, hm⟩
end Go.Proofs.YtpcbccpobhdokaaGreatDoor
namespace Go.Proofs.YtpcbccpobhdokaaGreatDoor
open Go.ChangeShapes Go.WideShapes Go.ChangeAt Go.RowKit
section
variable {H : Type} {enc : TypeId × Value → H} {w : World} {base : Nat} {spare : Nat → Bool} {held : Bool}
theorem Tryz.cells3 : Tryz.prog.cellsOf 3 = 1 := by kernel_rfl
theorem Tryz.cells9 : Tryz.prog.cellsOf 9 = 1 := by kernel_rfl
theorem Tryz.cells30 : Tryz.prog.cellsOf 30 = 2 := by kernel_rfl
theorem Tryz.cells37 : Tryz.prog.cellsOf 37 = 4 := by kernel_rfl
theorem add_eq {a : Addr} {b o : Nat} (h : a = ⟨b, o, none⟩) (n : Nat) : a.add n = ⟨b, o + n, none⟩ := by subst h; unfold Addr.add; split <;> simp_all
set_option maxRecDepth 100000 in
theorem open_sl {α : Type} (z : α) (st : Nat) (hst : 0 < st) {t e : TypeId} {cs : List Value} {fuel : Nat} {x : DataW H × List MemPlace} (ht : Tryz.prog.underlying t = some (.slice e)) (hce : Tryz.prog.cellsOf e = st) (rel : α → List Value → Prop)
    (elem : ∀ (cs : List Value) (f : Nat) (x : DataW H × List MemPlace), DataW.trod enc Tryz.prog w base (fun _ => true) held f e cs = some x → ∃ k, rel k cs) (h : DataW.trod enc Tryz.prog w base (fun _ => true) held fuel t cs = some x) :
    ∃ (c : Value) (xs : List α) (A : Option Addr) (cp : Nat), cs = [c] ∧ c = .slice A xs.length cp ∧ xs.length ≤ cp ∧ cp ≤ maxLen ∧ (0 < xs.length → ∃ b o, A = some ⟨b, o, none⟩ ∧ b < w.heap.size ∧ ∀ j, j < xs.length → ∃ cs, rel (xs.getD j z) cs ∧ ∀ k, k < st → w.cell? ⟨b, o + j * st + k, none⟩ = cs[k]?) := by
  rcases Deep.open_slice ht h with ⟨h0, _⟩ | ⟨a, len, cap, m, n, D, Pl, h0, _, hl, hm, hmm, _, hr⟩
  · exact ⟨_, [], none, 0, h0, rfl, by simp, by simp [maxLen], fun hp => by simp at hp⟩
  · simp only [if_true] at hmm
    subst hmm
    rw [hce] at hr
    haveI : Inhabited α := ⟨z⟩
    obtain ⟨f, hf⟩ := Deep.choose_lt (α := α) (p := fun i k => ∃ cs, rel k cs ∧ cs.length = st ∧ ∀ j, j < st → w.cell? ((a.add (i * st)).add j) = cs[j]?) (fun i hi => by
      obtain ⟨cs', h1, h2⟩ := hr i hi
      obtain ⟨k, hk⟩ := elem _ _ _ h2
      exact ⟨k, cs', hk, (World.cells?_some h1).2.1, (World.cells?_some h1).2.2⟩)
    refine ⟨_, (List.range len).map f, some a, m, h0, by simp, by simpa using hl, hm, fun hp => ?_⟩
    simp only [List.length_map, List.length_range] at hp ⊢
    obtain ⟨cs0, _, hl0, h0⟩ := hf 0 (by omega)
    have h0 := h0 0 hst
    obtain ⟨v0, hv0⟩ : ∃ v, cs0[0]? = some v := ⟨cs0[0], by simp [hl0, hst]⟩
    simp only [Nat.zero_mul] at h0
    have ha : a.add 0 = a := by simp [Addr.add]
    rw [ha, ha, hv0] at h0
    obtain ⟨b, o, sp⟩ := a
    obtain rfl : sp = none := World.cell?_spot h0
    refine ⟨b, o, rfl, World.block_lt_of_cell? _ _ h0, fun j hj => ?_⟩
    have e : ((List.range len).map f).getD j z = f j := by simp [List.getD, hj]
    rw [e]
    obtain ⟨cs, h1, _, h2⟩ := hf j (by omega)
    refine ⟨cs, h1, fun k hk => ?_⟩
    have := h2 k hk
    rw [add_eq rfl, add_eq rfl] at this
    exact this
set_option maxRecDepth 100000 in
theorem trod_rat {fuel : Nat} {cs : List Value} {x : DataW H × List MemPlace} (h : DataW.trod enc Tryz.prog w base spare held fuel 30 cs = some x) : ∃ (a b : Int), cs = [.int .i64 a, .int .i64 b] := by
  obtain ⟨xs, n, _, hx, hl, hlen, hg⟩ := DataW.trod_struct Tryz.underlying30 h
  rw [Tryz.cells30] at hl
  match cs, hl, xs, hlen with
  | [c0, c1], _, [y0, y1], _ =>
    have g0 := hg 0 _ rfl
    have g1 := hg 1 _ rfl
    simp [Tryz.cells3] at g0 g1
    obtain ⟨a0, e0, _⟩ := DataW.trod_int Tryz.underlying3 g0
    obtain ⟨a1, e1, _⟩ := DataW.trod_int Tryz.underlying3 g1
    simp at e0 e1
    subst e0 e1
    exact ⟨a0, a1, rfl⟩
set_option maxRecDepth 100000 in
theorem trod_met {fuel : Nat} {cs : List Value} {x : DataW H × List MemPlace} (h : DataW.trod enc Tryz.prog w base spare held fuel 37 cs = some x) : ∃ k : Met, cs = metVals k := by
  obtain ⟨xs, n, _, hx, hl, hlen, hg⟩ := DataW.trod_struct Tryz.underlying37 h
  rw [Tryz.cells37] at hl
  match cs, hl, xs, hlen with
  | [c0, c1, c2, c3], _, [y0, y1, y2], _ =>
    have g0 := hg 0 _ rfl
    have g1 := hg 1 _ rfl
    have g2 := hg 2 _ rfl
    simp [Tryz.cells3, Tryz.cells9, Tryz.cells30] at g0 g1 g2
    obtain ⟨a0, e0, _⟩ := DataW.trod_string Tryz.underlying9 g0
    obtain ⟨a1, e1, _⟩ := DataW.trod_int Tryz.underlying3 g1
    obtain ⟨a, b, e2⟩ := trod_rat g2
    simp at e0 e1 e2
    obtain ⟨rfl, rfl⟩ := e2
    subst e0 e1
    exact ⟨⟨a0, a1, a, b⟩, rfl⟩
set_option maxRecDepth 100000 in
theorem open_mets_cs {cs : List Value} {fuel : Nat} {x : DataW H × List MemPlace} (h : DataW.trod enc Tryz.prog w base (fun _ => true) held fuel 22 cs = some x) : ∃ c xs, cs = [c] ∧ Mets w w.heap.size c xs := by
  obtain ⟨c, xs, A, cp, h0, h1, h2, h3, h4⟩ := open_sl (α := Met) mz 4 (by decide) Tryz.underlying22 Tryz.cells37 (fun k cs => cs = metVals k) (fun cs f x hx => trod_met hx) h
  refine ⟨c, xs, h0, A, cp, h1, h2, h3, fun hp => ?_⟩
  obtain ⟨b, o, h5, h6, h7⟩ := h4 hp
  refine ⟨b, o, h5, h6, fun j hj => ?_⟩
  obtain ⟨cs, hr, hc⟩ := h7 j hj
  subst hr
  exact ⟨hc 0 (by omega), hc 1 (by omega), hc 2 (by omega), hc 3 (by omega)⟩
set_option maxRecDepth 100000 in
theorem open_mets {r : Reach} {b0 : Nat} {v : Value} {d : DataW H} {p : List MemPlace} (hv : Value.okWide Tryz.prog w r b0 22 v) (h : DataW.Trod enc Tryz.prog w base (fun _ => true) held 22 v d p) : ∃ xs, Mets w w.heap.size v xs := by
  obtain ⟨A, l, c, rfl⟩ := okWide_slice Tryz.underlying22 hv
  obtain ⟨fuel, hf⟩ := h
  obtain ⟨c', xs, h1, h2⟩ := open_mets_cs (show DataW.trod enc Tryz.prog w base (fun _ => true) held fuel 22 [.slice A l c] = _ by simpa [Value.cells] using hf)
  obtain rfl := (List.cons.inj h1).1
  exact ⟨xs, h2⟩
end
end Go.Proofs.YtpcbccpobhdokaaGreatDoor

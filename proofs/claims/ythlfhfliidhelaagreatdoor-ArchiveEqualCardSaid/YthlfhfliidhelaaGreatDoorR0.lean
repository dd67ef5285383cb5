/- How the row is closed: what a law leaves, what the package-level variables hold. -/
import Derived.Test.YthlfhfliidhelaaGreatDoorL1e
import Derived.RowKit
import Derived.ProofKit
import Derived.OpenShut
import Derived.JoinedCond
import Derived.LaidMore
import Derived.Lay
import Derived.SevenTiedAt
import Derived.Stop.Joined
import Derived.Deep.Matrix
import Derived.Deep.Slices
import Derived.HandedShaped
import Derived.Shelf.Vars
import Derived.Stop.LaidErr
import Derived.Lib.LaidTab
import Derived.Test.YthlfhfliidhelaaGreatDoorY0
set_option linter.unusedSimpArgs false
set_option linter.unusedVariables false
set_option linter.all false
namespace Go.Proofs.YthlfhfliidhelaaGreatDoor
open Go.ChangeShapes Go.WideShapes Go.ChangeAt Go.RowKit
theorem Tryz.own : ownKnob Tryz.prog.godebug = none := by kernel_rfl
theorem Tryz.rows : Tryz.prog.types.size = 964 := by kernel_rfl
theorem Tryz.lo0 : (List.range' 0 60).all (rowFine Tryz.prog) = true := by kernel_rfl
theorem Tryz.lo1 : (List.range' 60 60).all (rowFine Tryz.prog) = true := by kernel_rfl
theorem Tryz.lo2 : (List.range' 120 60).all (rowFine Tryz.prog) = true := by kernel_rfl
theorem Tryz.lo3 : (List.range' 180 60).all (rowFine Tryz.prog) = true := by kernel_rfl
theorem Tryz.lo4 : (List.range' 240 60).all (rowFine Tryz.prog) = true := by kernel_rfl
theorem Tryz.lo5 : (List.range' 300 60).all (rowFine Tryz.prog) = true := by kernel_rfl
theorem Tryz.lo6 : (List.range' 360 60).all (rowFine Tryz.prog) = true := by kernel_rfl
theorem Tryz.lo7 : (List.range' 420 60).all (rowFine Tryz.prog) = true := by kernel_rfl
theorem Tryz.lo8 : (List.range' 480 60).all (rowFine Tryz.prog) = true := by kernel_rfl
theorem Tryz.lo9 : (List.range' 540 60).all (rowFine Tryz.prog) = true := by kernel_rfl
theorem Tryz.lo10 : (List.range' 600 60).all (rowFine Tryz.prog) = true := by kernel_rfl
theorem Tryz.lo11 : (List.range' 660 60).all (rowFine Tryz.prog) = true := by kernel_rfl
theorem Tryz.lo12 : (List.range' 720 60).all (rowFine Tryz.prog) = true := by kernel_rfl
theorem Tryz.lo13 : (List.range' 780 60).all (rowFine Tryz.prog) = true := by kernel_rfl
theorem Tryz.lo14 : (List.range' 840 60).all (rowFine Tryz.prog) = true := by kernel_rfl
theorem Tryz.lo15 : (List.range' 900 60).all (rowFine Tryz.prog) = true := by kernel_rfl
theorem Tryz.lo16 : (List.range' 960 4).all (rowFine Tryz.prog) = true := by kernel_rfl
theorem Tryz.loG : Tryz.prog.globals.all (fun g => decide (g.type < Tryz.prog.types.size)) = true := by kernel_rfl
theorem Tryz.loF : Tryz.prog.funcs.all (fun f => f.params.all fun t => decide (t < Tryz.prog.types.size)) = true := by kernel_rfl
theorem Tryz.laidOut : laidOutB Tryz.prog = true := by
  unfold laidOutB
  rw [Tryz.loG, Tryz.loF, Bool.and_true, Bool.and_true, List.all_eq_true]
  intro t ht
  rw [List.mem_range, Tryz.rows] at ht
  by_cases h1 : t < 60
  · exact List.all_eq_true.1 Tryz.lo0 t (List.mem_range'_1.2 ⟨by omega, by omega⟩)
  by_cases h2 : t < 120
  · exact List.all_eq_true.1 Tryz.lo1 t (List.mem_range'_1.2 ⟨by omega, by omega⟩)
  by_cases h3 : t < 180
  · exact List.all_eq_true.1 Tryz.lo2 t (List.mem_range'_1.2 ⟨by omega, by omega⟩)
  by_cases h4 : t < 240
  · exact List.all_eq_true.1 Tryz.lo3 t (List.mem_range'_1.2 ⟨by omega, by omega⟩)
  by_cases h5 : t < 300
  · exact List.all_eq_true.1 Tryz.lo4 t (List.mem_range'_1.2 ⟨by omega, by omega⟩)
  by_cases h6 : t < 360
  · exact List.all_eq_true.1 Tryz.lo5 t (List.mem_range'_1.2 ⟨by omega, by omega⟩)
  by_cases h7 : t < 420
  · exact List.all_eq_true.1 Tryz.lo6 t (List.mem_range'_1.2 ⟨by omega, by omega⟩)
  by_cases h8 : t < 480
  · exact List.all_eq_true.1 Tryz.lo7 t (List.mem_range'_1.2 ⟨by omega, by omega⟩)
  by_cases h9 : t < 540
  · exact List.all_eq_true.1 Tryz.lo8 t (List.mem_range'_1.2 ⟨by omega, by omega⟩)
  by_cases h10 : t < 600
  · exact List.all_eq_true.1 Tryz.lo9 t (List.mem_range'_1.2 ⟨by omega, by omega⟩)
  by_cases h11 : t < 660
  · exact List.all_eq_true.1 Tryz.lo10 t (List.mem_range'_1.2 ⟨by omega, by omega⟩)
  by_cases h12 : t < 720
  · exact List.all_eq_true.1 Tryz.lo11 t (List.mem_range'_1.2 ⟨by omega, by omega⟩)
  by_cases h13 : t < 780
  · exact List.all_eq_true.1 Tryz.lo12 t (List.mem_range'_1.2 ⟨by omega, by omega⟩)
  by_cases h14 : t < 840
  · exact List.all_eq_true.1 Tryz.lo13 t (List.mem_range'_1.2 ⟨by omega, by omega⟩)
  by_cases h15 : t < 900
  · exact List.all_eq_true.1 Tryz.lo14 t (List.mem_range'_1.2 ⟨by omega, by omega⟩)
  by_cases h16 : t < 960
  · exact List.all_eq_true.1 Tryz.lo15 t (List.mem_range'_1.2 ⟨by omega, by omega⟩)
  exact List.all_eq_true.1 Tryz.lo16 t (List.mem_range'_1.2 ⟨by omega, by omega⟩)
section
variable {H : Type} {enc : TypeId × Value → H} {P : Program}
theorem trodAll_stays (hl : laidOutB P = true) {W W' : World} {sp : Nat → Bool} (hb : Below W.heap.size W W') : ∀ {ts : List TypeId} {vs : List Value} {ds : List (DataW H)} {ps : List MemPlace},
    (∀ t ∈ ts, P.readableRec t = true ∧ t < P.types.size) → DataW.TrodAll enc P W 0 (fun _ => true) true ts vs ds ps → (∀ x ∈ ps, x.block < W.heap.size ∧ sp x.block = true) → DataW.TrodAll enc P W' 0 sp true ts vs ds ps
  | [], [], [], _, _, h, _ => h
  | t :: ts, v :: vs, d :: ds, ps, hr, ⟨p, q, h1, h2, e⟩, hp => by
    subst e
    refine ⟨p, q, WideElems.Trod_stays hl (hr t (by simp)).1 (hr t (by simp)).2 h1 (fun x hx => hb.same (hp x (by simp [hx])).1) (fun x hx => (hp x (by simp [hx])).2), trodAll_stays hl hb (fun t ht => hr t (by simp [ht])) h2 (fun x hx => hp x (by simp [hx])), rfl⟩
  | [], [], _ :: _, _, _, h, _ => h.elim
  | [], _ :: _, [], _, _, h, _ => h.elim
  | [], _ :: _, _ :: _, _, _, h, _ => h.elim
  | _ :: _, [], [], _, _, h, _ => h.elim
  | _ :: _, [], _ :: _, _, _, h, _ => h.elim
  | _ :: _, _ :: _, [], _, _, h, _ => h.elim
theorem law_post {f : Func} {s : ChangeSpec} {W W' : World} {args : Array Value} {ds gs : List (DataW H)} {before : List MemPlace} {tb : TypeId} (hl : laidOutB P = true) (htb : P.underlying tb = some .bool) (hrt : f.resultTypes = #[tb])
    (hr : ∀ t ∈ f.params.toList, P.readableRec t = true ∧ t < P.types.size)
    (hsv : s.vars = []) (h1 : (s.fn H (ds ++ gs)).results = [.lit (.bool true)]) (h2 : (s.fn H (ds ++ gs)).args = ds) (h3 : (s.fn H (ds ++ gs)).vars = [])
    (hW : DataW.Whole enc P f.params.toList s.vars false W args.toList ds gs before) (hb : Below W.heap.size W W') :
    s.post enc P f false true false false W args (.bool true) W' := by
  have hW' := hW
  have hlt : ∀ p ∈ before, p.block < W.heap.size := fun p hp => hW.lt p hp
  obtain ⟨p, q, hA, hV, rfl, hfz, hnd⟩ := hW
  rw [hsv] at hV
  obtain ⟨rfl, rfl⟩ := trodVars_none hV
  simp only [List.append_nil] at hlt hW'
  refine ⟨ds, [], p, [], p, [], hW', ?_, ?_, ?_, hb.frame _, fun h => by cases h⟩
  · rw [hrt, h1]
    exact trodAll_mk1 (shut_bool htb _)
  · rw [h2]
    exact trodAll_stays hl hb hr hA (fun x hx => ⟨hlt x hx, by simpa using hlt x hx⟩)
  · rw [hsv, h3]
    rfl
end
theorem returns_laid_shaped {H : Type} {enc : TypeId × Value → H} {a : Assume} {C : Checked} {os : Os} {f : FuncId} {fn : Func} {s : ChangeSpec} {conds : List PathCond} {apart fresh handsOn again : Bool} {X : World → Array Value → Prop}
    (hX : ∀ (w w' : World) (args : Array Value), w.heap = w'.heap → X w args → X w' args)
    (own : ownKnob C.prog.godebug = none) (started : os.Started) (noInit : C.prog.inits.idxOf? f = none) (hfn : C.prog.funcs[f]? = some fn)
    (witness : ∃ (w : World) (tape : Tape) (i : Input), w.os = os ∧ (w.forCall tape i).Shaped C.prog ∧ i.vars = [] ∧ Input.okWide C.prog (w.forCall tape i) .any w.heap.size f i ∧
      ((s.pre enc C.prog fn conds apart (w.forCall tape i).memory i.args ∧ X (w.forCall tape i).memory i.args) ∧ sizedMet enc C.prog fn (OpenSpec.ofChange s) apart (w.forCall tape i).memory i.args) ∧ a.holds C.prog (lone (Frame.enter C.prog f i.args .normal) [] (w.forCall tape i)))
    (contract : ∀ (W : World) (base : Nat) (args : Array Value) (ds gs : List (DataW H)) (before : List MemPlace),
      (∀ (j : Nat) t v, fn.params[j]? = some t → args[j]? = some v → Value.okWide C.prog W .any base t v) →
      DataW.Whole enc C.prog fn.params.toList s.vars apart W args.toList ds gs before →
      conds.all (PathCond.test C.prog ⟨fn.params.toList, ds, s.plain.varTypes C.prog, gs⟩) = true →
      (DataW.weightsEach C.prog (fn.params.toList ++ s.plain.varTypes C.prog) (ds ++ gs)).all (· ≤ reachBytes) = true → X W args → W.ShapedOpen C.prog →
      Calls C.prog f args W fun e W' => ∃ v, e = .returned v ∧ s.post enc C.prog fn apart fresh handsOn again W args v W') :
    ReturnsInHanded a C os f .any (fun w args => (s.pre enc C.prog fn conds apart w args ∧ X w args) ∧ sizedMet enc C.prog fn (OpenSpec.ofChange s) apart w args) (s.post enc C.prog fn apart fresh handsOn again) := by
  refine returnsInHanded_of_calls own started noInit witness ?_
  intro w tape i _ hsh _ hok hpre hholds
  obtain ⟨_, _, _, fn', hfn', _, _, _, _, hval⟩ := hok
  have e : fn' = fn := Option.some.inj (hfn'.symm.trans hfn)
  subst e
  obtain ⟨⟨⟨ds, gs, before, hw, hc⟩, hx⟩, hz⟩ := hpre
  have hw' := DataW.Whole.of_heap (w' := w.forCall tape i) (by rfl) hw
  refine (contract (w.forCall tape i) w.heap.size i.args ds gs before hval hw' hc (hz.weights hw) (hX _ _ _ (by rfl) hx) hsh).mono fun e W' ⟨v, he, hp⟩ => ?_
  subst he
  exact ChangeSpec.post_blind hp
theorem eleven_some : (((begin Tryz.prog (fun _ _ => 0) default).world.heap[10]?).bind Obj.row?).isSome = true := by kernel_rfl
theorem eleven_of {W : World} (hsh : W.ShapedOpen Tryz.prog) : 11 ≤ W.heap.size := by
  obtain ⟨⟨zero, t⟩, h0⟩ := Option.isSome_iff_exists.1 eleven_some
  obtain ⟨cs, hh, _⟩ := hsh.1 10 zero t (of_decide_eq_true (by kernel_rfl)) h0
  rcases Nat.lt_or_ge 10 W.heap.size with h | h
  · exact h
  · rw [Array.getElem?_eq_none (by omega)] at hh
    cases hh
theorem Tryz.gPType : (Tryz.prog.globals[2]?).map (·.type) = some 607 := by kernel_rfl
theorem Tryz.cellsP : Tryz.prog.cellsOf 607 = 20 := by kernel_rfl
theorem Tryz.cellsU : Tryz.prog.cellsOf 480 = 1 := by kernel_rfl
theorem gSpace : Tryz.prog.globalNamed "strings.asciiSpace" = some 0 := by kernel_rfl
theorem Tryz.gSType : (Tryz.prog.globals[0]?).map (·.type) = some 399 := by kernel_rfl
theorem Tryz.cellsS : Tryz.prog.cellsOf 399 = 256 := by kernel_rfl
theorem Tryz.cellsB : Tryz.prog.cellsOf 5 = 1 := by kernel_rfl
theorem space_row : ((((begin Tryz.prog (fun _ _ => 0) default).world.heap[0]?).bind Obj.row?).map (·.2)) = some 399 := by kernel_rfl
def spZ : List Int := (List.range 256).map fun i => if i = 9 ∨ i = 10 ∨ i = 11 ∨ i = 12 ∨ i = 13 ∨ i = 32 then 1 else 0
theorem spZ_eq : spZ.map (fun z => Value.int .u8 z) = spL := by
  unfold spZ spL
  rw [List.map_map]
  rfl
theorem gok_of {W : World} (hP : Lib.TabIs Tryz.prog W "internal/strconv.uint64pow10" .u64 Lib.pow10Tab) (hS : Lib.TabIs Tryz.prog W "strings.asciiSpace" .u8 spZ) (hsh : W.ShapedOpen Tryz.prog) : GOk W := by
  refine ⟨eleven_of hsh, hP, ?_⟩
  obtain ⟨⟨zero, t⟩, h0, ht⟩ := Option.map_eq_some_iff.1 space_row
  obtain rfl : t = 399 := ht
  obtain ⟨cs, hh, _⟩ := hsh.1 0 zero 399 (of_decide_eq_true (by kernel_rfl)) h0
  unfold Lib.TabIs World.var? at hS
  rw [gSpace] at hS
  simp only [Option.bind_some, hh, Option.some.injEq] at hS
  refine ⟨(0, 0), ?_, Nat.le_refl _⟩
  rw [hh, ← spZ_eq]
  simp_all
end Go.Proofs.YthlfhfliidhelaaGreatDoor
namespace Go.Proofs.YthlfhfliidhelaaGreatDoor
open Go.ChangeShapes Go.WideShapes Go.ChangeAt Go.RowKit
section
variable {H : Type} {enc : TypeId × Value → H} {w : World} {base : Nat} {spare : Nat → Bool} {held : Bool}
theorem Tryz.cells3 : Tryz.prog.cellsOf 3 = 1 := by kernel_rfl
theorem Tryz.cells4 : Tryz.prog.cellsOf 4 = 1 := by kernel_rfl
theorem Tryz.cells9 : Tryz.prog.cellsOf 9 = 1 := by kernel_rfl
theorem Tryz.cells22 : Tryz.prog.cellsOf 22 = 1 := by kernel_rfl
theorem Tryz.cells23 : Tryz.prog.cellsOf 23 = 1 := by kernel_rfl
theorem Tryz.cells24 : Tryz.prog.cellsOf 24 = 1 := by kernel_rfl
theorem Tryz.cells26 : Tryz.prog.cellsOf 26 = 5 := by kernel_rfl
theorem Tryz.cells34 : Tryz.prog.cellsOf 34 = 7 := by kernel_rfl
theorem Tryz.cells35 : Tryz.prog.cellsOf 35 = 1 := by kernel_rfl
theorem Tryz.cells37 : Tryz.prog.cellsOf 37 = 11 := by kernel_rfl
theorem Tryz.cells38 : Tryz.prog.cellsOf 38 = 1 := by kernel_rfl
theorem Tryz.cells40 : Tryz.prog.cellsOf 40 = 1 := by kernel_rfl
theorem Tryz.cells42 : Tryz.prog.cellsOf 42 = 4 := by kernel_rfl
theorem Tryz.cells43 : Tryz.prog.cellsOf 43 = 1 := by kernel_rfl
theorem Tryz.cells57 : Tryz.prog.cellsOf 57 = 5 := by kernel_rfl
theorem Tryz.cells120 : Tryz.prog.cellsOf 120 = 4 := by kernel_rfl
theorem Tryz.cells122 : Tryz.prog.cellsOf 122 = 3 := by kernel_rfl
theorem Tryz.cells124 : Tryz.prog.cellsOf 124 = 2 := by kernel_rfl
theorem add_eq {a : Addr} {b o : Nat} (h : a = ⟨b, o, none⟩) (n : Nat) : a.add n = ⟨b, o + n, none⟩ := by subst h; unfold Addr.add; split <;> simp_all
set_option maxRecDepth 100000 in
theorem open_sl {α : Type} (z : α) (st : Nat) (hst : 0 < st) {t e : TypeId} {cs : List Value} {fuel : Nat} {x : DataW H × List MemPlace} (ht : Tryz.prog.underlying t = some (.slice e)) (hce : Tryz.prog.cellsOf e = st) (rel : α → List Value → Prop)
    (elem : ∀ (cs : List Value) (f : Nat) (x : DataW H × List MemPlace), DataW.trod enc Tryz.prog w base (fun _ => true) held f e cs = some x → ∃ k, rel k cs) (h : DataW.trod enc Tryz.prog w base (fun _ => true) held fuel t cs = some x) :
    ∃ (c : Value) (xs : List α) (A : Option Addr) (cp : Nat), cs = [c] ∧ c = .slice A xs.length cp ∧ xs.length ≤ cp ∧ cp ≤ maxLen ∧ (0 < xs.length → ∃ b o, A = some ⟨b, o, none⟩ ∧ b < w.heap.size ∧ ∀ j, j < xs.length → ∃ cs, rel (xs.getD j z) cs ∧ ∀ k, k < st → w.cell? ⟨b, o + j * st + k, none⟩ = cs[k]?) := by
  rcases Deep.open_slice ht h with ⟨h0, _⟩ | ⟨a, len, cap, m, n, D, Pl, h0, _, hl, hm, hmm, _, hr⟩
  · exact ⟨_, [], none, 0, h0, rfl, by simp, by simp [maxLen], fun hp => by simp at hp⟩
  · simp only [if_true] at hmm
    subst hmm
    rw [hce] at hr
    haveI : Inhabited α := ⟨z⟩
    obtain ⟨f, hf⟩ := Deep.choose_lt (α := α) (p := fun i k => ∃ cs, rel k cs ∧ cs.length = st ∧ ∀ j, j < st → w.cell? ((a.add (i * st)).add j) = cs[j]?) (fun i hi => by
      obtain ⟨cs', h1, h2⟩ := hr i hi
      obtain ⟨k, hk⟩ := elem _ _ _ h2
      exact ⟨k, cs', hk, (World.cells?_some h1).2.1, (World.cells?_some h1).2.2⟩)
    refine ⟨_, (List.range len).map f, some a, m, h0, by simp, by simpa using hl, hm, fun hp => ?_⟩
    simp only [List.length_map, List.length_range] at hp ⊢
    obtain ⟨cs0, _, hl0, h0⟩ := hf 0 (by omega)
    have h0 := h0 0 hst
    obtain ⟨v0, hv0⟩ : ∃ v, cs0[0]? = some v := ⟨cs0[0], by simp [hl0, hst]⟩
    simp only [Nat.zero_mul] at h0
    have ha : a.add 0 = a := by simp [Addr.add]
    rw [ha, ha, hv0] at h0
    obtain ⟨b, o, sp⟩ := a
    obtain rfl : sp = none := World.cell?_spot h0
    refine ⟨b, o, rfl, World.block_lt_of_cell? _ _ h0, fun j hj => ?_⟩
    have e : ((List.range len).map f).getD j z = f j := by simp [List.getD, hj]
    rw [e]
    obtain ⟨cs, h1, _, h2⟩ := hf j (by omega)
    refine ⟨cs, h1, fun k hk => ?_⟩
    have := h2 k hk
    rw [add_eq rfl, add_eq rfl] at this
    exact this
def hpVals (k : Hp) : List Value := [.int .i64 k.c, .int .i64 k.b, .int .i64 k.e, .int .i64 k.a]
set_option maxRecDepth 100000 in
theorem trod_hp {fuel : Nat} {cs : List Value} {x : DataW H × List MemPlace} (h : DataW.trod enc Tryz.prog w base spare held fuel 120 cs = some x) : ∃ k : Hp, cs = hpVals k := by
  obtain ⟨xs, n, _, hx, hl, hlen, hg⟩ := DataW.trod_struct Tryz.underlying120 h
  rw [Tryz.cells120] at hl
  match cs, hl, xs, hlen with
  | [c0, c1, c2, c3], _, [y0, y1, y2, y3], _ =>
    have g0 := hg 0 _ rfl
    have g1 := hg 1 _ rfl
    have g2 := hg 2 _ rfl
    have g3 := hg 3 _ rfl
    simp [Tryz.cells3] at g0 g1 g2 g3
    obtain ⟨a0, e0, _⟩ := DataW.trod_int Tryz.underlying3 g0
    obtain ⟨a1, e1, _⟩ := DataW.trod_int Tryz.underlying3 g1
    obtain ⟨a2, e2, _⟩ := DataW.trod_int Tryz.underlying3 g2
    obtain ⟨a3, e3, _⟩ := DataW.trod_int Tryz.underlying3 g3
    simp at e0 e1 e2 e3
    subst e0 e1 e2 e3
    exact ⟨⟨a0, a1, a2, a3⟩, rfl⟩
def shpVals (k : Shp) : List Value := [.int .i64 k.c, .int .i64 k.a, .int .i64 k.b]
set_option maxRecDepth 100000 in
theorem trod_shp {fuel : Nat} {cs : List Value} {x : DataW H × List MemPlace} (h : DataW.trod enc Tryz.prog w base spare held fuel 122 cs = some x) : ∃ k : Shp, cs = shpVals k := by
  obtain ⟨xs, n, _, hx, hl, hlen, hg⟩ := DataW.trod_struct Tryz.underlying122 h
  rw [Tryz.cells122] at hl
  match cs, hl, xs, hlen with
  | [c0, c1, c2], _, [y0, y1, y2], _ =>
    have g0 := hg 0 _ rfl
    have g1 := hg 1 _ rfl
    have g2 := hg 2 _ rfl
    simp [Tryz.cells3] at g0 g1 g2
    obtain ⟨a0, e0, _⟩ := DataW.trod_int Tryz.underlying3 g0
    obtain ⟨a1, e1, _⟩ := DataW.trod_int Tryz.underlying3 g1
    obtain ⟨a2, e2, _⟩ := DataW.trod_int Tryz.underlying3 g2
    simp at e0 e1 e2
    subst e0 e1 e2
    exact ⟨⟨a0, a1, a2⟩, rfl⟩
def spnVals (k : Spn) : List Value := [.int .i64 k.f, .int .i64 k.t]
set_option maxRecDepth 100000 in
theorem trod_spn {fuel : Nat} {cs : List Value} {x : DataW H × List MemPlace} (h : DataW.trod enc Tryz.prog w base spare held fuel 124 cs = some x) : ∃ k : Spn, cs = spnVals k := by
  obtain ⟨xs, n, _, hx, hl, hlen, hg⟩ := DataW.trod_struct Tryz.underlying124 h
  rw [Tryz.cells124] at hl
  match cs, hl, xs, hlen with
  | [c0, c1], _, [y0, y1], _ =>
    have g0 := hg 0 _ rfl
    have g1 := hg 1 _ rfl
    simp [Tryz.cells3] at g0 g1
    obtain ⟨a0, e0, _⟩ := DataW.trod_int Tryz.underlying3 g0
    obtain ⟨a1, e1, _⟩ := DataW.trod_int Tryz.underlying3 g1
    simp at e0 e1
    subst e0 e1
    exact ⟨⟨a0, a1⟩, rfl⟩
def demVals (k : Dem) : List Value := [.int .i64 k.s, .int .i64 k.d, .int .i64 k.v, .int .i64 k.r, .int .i64 k.e]
set_option maxRecDepth 100000 in
theorem trod_dem {fuel : Nat} {cs : List Value} {x : DataW H × List MemPlace} (h : DataW.trod enc Tryz.prog w base spare held fuel 57 cs = some x) : ∃ k : Dem, cs = demVals k := by
  obtain ⟨xs, n, _, hx, hl, hlen, hg⟩ := DataW.trod_struct Tryz.underlying57 h
  rw [Tryz.cells57] at hl
  match cs, hl, xs, hlen with
  | [c0, c1, c2, c3, c4], _, [y0, y1, y2, y3, y4], _ =>
    have g0 := hg 0 _ rfl
    have g1 := hg 1 _ rfl
    have g2 := hg 2 _ rfl
    have g3 := hg 3 _ rfl
    have g4 := hg 4 _ rfl
    simp [Tryz.cells3] at g0 g1 g2 g3 g4
    obtain ⟨a0, e0, _⟩ := DataW.trod_int Tryz.underlying3 g0
    obtain ⟨a1, e1, _⟩ := DataW.trod_int Tryz.underlying3 g1
    obtain ⟨a2, e2, _⟩ := DataW.trod_int Tryz.underlying3 g2
    obtain ⟨a3, e3, _⟩ := DataW.trod_int Tryz.underlying3 g3
    obtain ⟨a4, e4, _⟩ := DataW.trod_int Tryz.underlying3 g4
    simp at e0 e1 e2 e3 e4
    subst e0 e1 e2 e3 e4
    exact ⟨⟨a0, a1, a2, a3, a4⟩, rfl⟩
set_option maxRecDepth 100000 in
theorem open_hps {cs : List Value} {fuel : Nat} {x : DataW H × List MemPlace} (h : DataW.trod enc Tryz.prog w base (fun _ => true) held fuel 35 cs = some x) : ∃ c xs, cs = [c] ∧ Hps w w.heap.size c xs := by
  obtain ⟨c, xs, A, cp, h0, h1, h2, h3, h4⟩ := open_sl (α := Hp) ⟨0, 0, 0, 0⟩ 4 (by decide) Tryz.underlying35 Tryz.cells120 (fun k cs => cs = hpVals k) (fun cs f x hx => trod_hp hx) h
  refine ⟨c, xs, h0, A, cp, h1, h2, h3, fun hp => ?_⟩
  obtain ⟨b, o, h5, h6, h7⟩ := h4 hp
  refine ⟨b, o, h5, h6, fun j hj => ?_⟩
  obtain ⟨cs, hr, hc⟩ := h7 j hj
  subst hr
  exact ⟨hc 0 (by omega), hc 1 (by omega), hc 2 (by omega), hc 3 (by omega)⟩
set_option maxRecDepth 100000 in
theorem open_shps {cs : List Value} {fuel : Nat} {x : DataW H × List MemPlace} (h : DataW.trod enc Tryz.prog w base (fun _ => true) held fuel 38 cs = some x) : ∃ c xs, cs = [c] ∧ Shps w w.heap.size c xs := by
  obtain ⟨c, xs, A, cp, h0, h1, h2, h3, h4⟩ := open_sl (α := Shp) ⟨0, 0, 0⟩ 3 (by decide) Tryz.underlying38 Tryz.cells122 (fun k cs => cs = shpVals k) (fun cs f x hx => trod_shp hx) h
  refine ⟨c, xs, h0, A, cp, h1, h2, h3, fun hp => ?_⟩
  obtain ⟨b, o, h5, h6, h7⟩ := h4 hp
  refine ⟨b, o, h5, h6, fun j hj => ?_⟩
  obtain ⟨cs, hr, hc⟩ := h7 j hj
  subst hr
  exact ⟨hc 0 (by omega), hc 1 (by omega), hc 2 (by omega)⟩
set_option maxRecDepth 100000 in
theorem open_spns {cs : List Value} {fuel : Nat} {x : DataW H × List MemPlace} (h : DataW.trod enc Tryz.prog w base (fun _ => true) held fuel 43 cs = some x) : ∃ c xs, cs = [c] ∧ Spns w w.heap.size c xs := by
  obtain ⟨c, xs, A, cp, h0, h1, h2, h3, h4⟩ := open_sl (α := Spn) ⟨0, 0⟩ 2 (by decide) Tryz.underlying43 Tryz.cells124 (fun k cs => cs = spnVals k) (fun cs f x hx => trod_spn hx) h
  refine ⟨c, xs, h0, A, cp, h1, h2, h3, fun hp => ?_⟩
  obtain ⟨b, o, h5, h6, h7⟩ := h4 hp
  refine ⟨b, o, h5, h6, fun j hj => ?_⟩
  obtain ⟨cs, hr, hc⟩ := h7 j hj
  subst hr
  exact ⟨hc 0 (by omega), hc 1 (by omega)⟩
set_option maxRecDepth 100000 in
theorem open_dems {cs : List Value} {fuel : Nat} {x : DataW H × List MemPlace} (h : DataW.trod enc Tryz.prog w base (fun _ => true) held fuel 24 cs = some x) : ∃ c xs, cs = [c] ∧ Dems w w.heap.size c xs := by
  obtain ⟨c, xs, A, cp, h0, h1, h2, h3, h4⟩ := open_sl (α := Dem) ⟨0, 0, 0, 0, 0⟩ 5 (by decide) Tryz.underlying24 Tryz.cells57 (fun k cs => cs = demVals k) (fun cs f x hx => trod_dem hx) h
  refine ⟨c, xs, h0, A, cp, h1, h2, h3, fun hp => ?_⟩
  obtain ⟨b, o, h5, h6, h7⟩ := h4 hp
  refine ⟨b, o, h5, h6, fun j hj => ?_⟩
  obtain ⟨cs, hr, hc⟩ := h7 j hj
  subst hr
  exact ⟨hc 0 (by omega), hc 1 (by omega), hc 2 (by omega), hc 3 (by omega), hc 4 (by omega)⟩
set_option maxRecDepth 100000 in
theorem open_spnss {cs : List Value} {fuel : Nat} {x : DataW H × List MemPlace} (h : DataW.trod enc Tryz.prog w base (fun _ => true) held fuel 40 cs = some x) : ∃ c xs, cs = [c] ∧ Spnss w w.heap.size c xs := by
  obtain ⟨c, xs, A, cp, h0, h1, h2, h3, h4⟩ := open_sl (α := (List Spn)) [] 1 (by decide) Tryz.underlying40 Tryz.cells43 (fun k cs => ∃ V, cs = [V] ∧ Spns w w.heap.size V k) (fun cs f x hx => by obtain ⟨c, xs, h1, h2⟩ := open_spns hx; exact ⟨xs, c, h1, h2⟩) h
  refine ⟨c, xs, h0, A, cp, h1, h2, h3, fun hp => ?_⟩
  obtain ⟨b, o, h5, h6, h7⟩ := h4 hp
  refine ⟨b, o, h5, h6, fun j hj => ?_⟩
  obtain ⟨cs, hr, hc⟩ := h7 j hj
  obtain ⟨V, rfl, hV⟩ := hr
  exact ⟨V, hc 0 (by omega), hV⟩
def tktVals (k : Tkt) (V : Value) : List Value := [.int .i64 k.n, .int .i64 k.s, .int .i64 k.d, .int .i64 k.z, .int .i64 k.r, .int .i64 k.e, .int .i64 k.p, .bool k.cu, V, .int .i64 k.st, .int .i64 k.un]
set_option maxRecDepth 100000 in
theorem trod_req {fuel : Nat} {cs : List Value} {x : DataW H × List MemPlace} (h : DataW.trod enc Tryz.prog w base spare held fuel 34 cs = some x) : ∃ (a b c d e f : Int) (g : Bool), cs = [.int .i64 a, .int .i64 b, .int .i64 c, .int .i64 d, .int .i64 e, .int .i64 f, .bool g] := by
  obtain ⟨xs, n, _, hx, hl, hlen, hg⟩ := DataW.trod_struct Tryz.underlying34 h
  rw [Tryz.cells34] at hl
  match cs, hl, xs, hlen with
  | [c0, c1, c2, c3, c4, c5, c6], _, [y0, y1, y2, y3, y4, y5, y6], _ =>
    have g0 := hg 0 _ rfl
    have g1 := hg 1 _ rfl
    have g2 := hg 2 _ rfl
    have g3 := hg 3 _ rfl
    have g4 := hg 4 _ rfl
    have g5 := hg 5 _ rfl
    have g6 := hg 6 _ rfl
    simp [Tryz.cells3, Tryz.cells4] at g0 g1 g2 g3 g4 g5 g6
    obtain ⟨a0, e0, _⟩ := DataW.trod_int Tryz.underlying3 g0
    obtain ⟨a1, e1, _⟩ := DataW.trod_int Tryz.underlying3 g1
    obtain ⟨a2, e2, _⟩ := DataW.trod_int Tryz.underlying3 g2
    obtain ⟨a3, e3, _⟩ := DataW.trod_int Tryz.underlying3 g3
    obtain ⟨a4, e4, _⟩ := DataW.trod_int Tryz.underlying3 g4
    obtain ⟨a5, e5, _⟩ := DataW.trod_int Tryz.underlying3 g5
    obtain ⟨a6, e6, _⟩ := DataW.trod_bool Tryz.underlying4 g6
    simp at e0 e1 e2 e3 e4 e5 e6
    subst e0 e1 e2 e3 e4 e5 e6
    exact ⟨_, _, _, _, _, _, _, rfl⟩
set_option maxRecDepth 100000 in
theorem trod_tkt {fuel : Nat} {cs : List Value} {x : DataW H × List MemPlace} (h : DataW.trod enc Tryz.prog w base (fun _ => true) held fuel 37 cs = some x) : ∃ k : Tkt, ∃ V, cs = tktVals k V ∧ Hps w w.heap.size V k.hs := by
  obtain ⟨xs, n, _, hx, hl, hlen, hg⟩ := DataW.trod_struct Tryz.underlying37 h
  rw [Tryz.cells37] at hl
  match cs, hl, xs, hlen with
  | [c0, c1, c2, c3, c4, c5, c6, c7, c8, c9, c10], _, [y0, y1, y2, y3, y4], _ =>
    have g0 := hg 0 _ rfl
    have g1 := hg 1 _ rfl
    have g2 := hg 2 _ rfl
    have g3 := hg 3 _ rfl
    have g4 := hg 4 _ rfl
    simp [Tryz.cells3, Tryz.cells34, Tryz.cells35] at g0 g1 g2 g3 g4
    obtain ⟨a0, e0, _⟩ := DataW.trod_int Tryz.underlying3 g0
    obtain ⟨a, b, c, d, e, f, g, e1⟩ := trod_req g1
    obtain ⟨V, hs, e2, hV⟩ := open_hps g2
    obtain ⟨a3, e3, _⟩ := DataW.trod_int Tryz.underlying3 g3
    obtain ⟨a4, e4, _⟩ := DataW.trod_int Tryz.underlying3 g4
    simp at e0 e1 e2 e3 e4
    obtain ⟨rfl, rfl, rfl, rfl, rfl, rfl, rfl⟩ := e1
    subst e0 e2 e3 e4
    exact ⟨⟨a0, a, b, c, d, e, f, g, hs, a3, a4⟩, _, rfl, hV⟩
def anwVals (k : Anw) (U V : Value) : List Value := [.bool k.ac, .int .i64 k.vo, U, V]
set_option maxRecDepth 100000 in
theorem trod_anw {fuel : Nat} {cs : List Value} {x : DataW H × List MemPlace} (h : DataW.trod enc Tryz.prog w base (fun _ => true) held fuel 42 cs = some x) : ∃ k : Anw, ∃ U V, cs = anwVals k U V ∧ Shps w w.heap.size U k.sh ∧ Spnss w w.heap.size V k.cu := by
  obtain ⟨xs, n, _, hx, hl, hlen, hg⟩ := DataW.trod_struct Tryz.underlying42 h
  rw [Tryz.cells42] at hl
  match cs, hl, xs, hlen with
  | [c0, c1, c2, c3], _, [y0, y1, y2, y3], _ =>
    have g0 := hg 0 _ rfl
    have g1 := hg 1 _ rfl
    have g2 := hg 2 _ rfl
    have g3 := hg 3 _ rfl
    simp [Tryz.cells3, Tryz.cells4, Tryz.cells38, Tryz.cells40] at g0 g1 g2 g3
    obtain ⟨a0, e0, _⟩ := DataW.trod_bool Tryz.underlying4 g0
    obtain ⟨a1, e1, _⟩ := DataW.trod_int Tryz.underlying3 g1
    obtain ⟨U, sh, e2, hU⟩ := open_shps g2
    obtain ⟨V, cu, e3, hV⟩ := open_spnss g3
    simp at e0 e1 e2 e3
    subst e0 e1 e2 e3
    exact ⟨⟨a0, a1, sh, cu⟩, _, _, rfl, hU, hV⟩
set_option maxRecDepth 100000 in
theorem open_tkts {cs : List Value} {fuel : Nat} {x : DataW H × List MemPlace} (h : DataW.trod enc Tryz.prog w base (fun _ => true) held fuel 22 cs = some x) : ∃ c xs, cs = [c] ∧ Tkts w w.heap.size c xs := by
  obtain ⟨c, xs, A, cp, h0, h1, h2, h3, h4⟩ := open_sl (α := Tkt) ⟨0, 0, 0, 0, 0, 0, 0, false, [], 0, 0⟩ 11 (by decide) Tryz.underlying22 Tryz.cells37 (fun k cs => ∃ V, cs = tktVals k V ∧ Hps w w.heap.size V k.hs) (fun cs f x hx => trod_tkt hx) h
  refine ⟨c, xs, h0, A, cp, h1, h2, h3, fun hp => ?_⟩
  obtain ⟨b, o, h5, h6, h7⟩ := h4 hp
  refine ⟨b, o, h5, h6, fun j hj => ?_⟩
  obtain ⟨cs, hr, hc⟩ := h7 j hj
  obtain ⟨V, rfl, hV⟩ := hr
  exact ⟨hc 0 (by omega), hc 1 (by omega), hc 2 (by omega), hc 3 (by omega), hc 4 (by omega), hc 5 (by omega), hc 6 (by omega), hc 7 (by omega), ⟨V, hc 8 (by omega), hV⟩, hc 9 (by omega), hc 10 (by omega)⟩
set_option maxRecDepth 100000 in
theorem open_anws {cs : List Value} {fuel : Nat} {x : DataW H × List MemPlace} (h : DataW.trod enc Tryz.prog w base (fun _ => true) held fuel 23 cs = some x) : ∃ c xs, cs = [c] ∧ Anws w w.heap.size c xs := by
  obtain ⟨c, xs, A, cp, h0, h1, h2, h3, h4⟩ := open_sl (α := Anw) ⟨false, 0, [], []⟩ 4 (by decide) Tryz.underlying23 Tryz.cells42 (fun k cs => ∃ U V, cs = anwVals k U V ∧ Shps w w.heap.size U k.sh ∧ Spnss w w.heap.size V k.cu) (fun cs f x hx => trod_anw hx) h
  refine ⟨c, xs, h0, A, cp, h1, h2, h3, fun hp => ?_⟩
  obtain ⟨b, o, h5, h6, h7⟩ := h4 hp
  refine ⟨b, o, h5, h6, fun j hj => ?_⟩
  obtain ⟨cs, hr, hc⟩ := h7 j hj
  obtain ⟨U, V, rfl, hU, hV⟩ := hr
  exact ⟨hc 0 (by omega), hc 1 (by omega), ⟨U, hc 2 (by omega), hU⟩, ⟨V, hc 3 (by omega), hV⟩⟩
set_option maxRecDepth 100000 in
theorem open_arc {r : Reach} {b0 : Nat} {v : Value} {d : DataW H} {p : List MemPlace} (hv : Value.okWide Tryz.prog w r b0 26 v) (h : DataW.Trod enc Tryz.prog w base (fun _ => true) held 26 v d p) :
    ∃ (VT VA VD : Value) (a : Arc), v = .agg #[.string a.ms, .string a.lg, VT, VA, VD] ∧ ArcAt w w.heap.size VT VA VD a := by
  obtain ⟨cs, rfl, hsz⟩ := okWide_struct Tryz.underlying26 hv
  obtain ⟨cl⟩ := cs
  match cl, hsz.trans Tryz.cells26 with
  | [c0, c1, c2, c3, c4], _ =>
    obtain ⟨fuel, hf⟩ := h
    obtain ⟨xs, n, _, hx, _, hlen, hg⟩ := DataW.trod_struct Tryz.underlying26 (show DataW.trod enc Tryz.prog w base (fun _ => true) held fuel 26 [c0, c1, c2, c3, c4] = _ by simpa [Value.cells] using hf)
    match xs, hlen with
    | [y0, y1, y2, y3, y4], _ =>
      have g0 := hg 0 _ rfl
      have g1 := hg 1 _ rfl
      have g2 := hg 2 _ rfl
      have g3 := hg 3 _ rfl
      have g4 := hg 4 _ rfl
      simp [Tryz.cells9, Tryz.cells22, Tryz.cells23, Tryz.cells24] at g0 g1 g2 g3 g4
      obtain ⟨ms, e0, _⟩ := DataW.trod_string Tryz.underlying9 g0
      obtain ⟨lg, e1, _⟩ := DataW.trod_string Tryz.underlying9 g1
      obtain ⟨VT, tk, e2, hT⟩ := open_tkts g2
      obtain ⟨VA, an, e3, hA⟩ := open_anws g3
      obtain ⟨VD, dm, e4, hD⟩ := open_dems g4
      simp at e0 e1 e2 e3 e4
      subst e0 e1 e2 e3 e4
      exact ⟨_, _, _, ⟨ms, lg, tk, an, dm⟩, rfl, hT, hA, hD⟩
end
end Go.Proofs.YthlfhfliidhelaaGreatDoor

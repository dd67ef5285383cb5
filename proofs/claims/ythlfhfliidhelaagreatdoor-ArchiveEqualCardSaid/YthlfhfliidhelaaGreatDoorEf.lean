/- A function's body: entered, left. -/
import Derived.Test.YthlfhfliidhelaaGreatDoorEe
import Derived.Laws.IdiomCopy
import Derived.Deep.Draws
set_option linter.unusedSimpArgs false
set_option linter.unusedVariables false
set_option linter.all false
namespace Go.Proofs.YthlfhfliidhelaaGreatDoor.Eng
open Go.RowKit
variable {P : Program} {nG : Nat} {K : Known}
theorem WR.unnamed {base : Nat} {w0 : World} {J : Inj} {H : AH} {w : World} (h : WR P nG base w0 J H w) {B : Nat} (hB : base ≤ B) (hn : ∀ b x, (H.get b).isSome = true → J b = some x → x.B ≠ B) (o : Obj) : WR P nG base w0 J H (w.putObj B o) :=
  ⟨h.glob, h.ids, by rw [World.putObj_size]; exact h.lt, h.inj, fun b o' x hg hj => (h.obj b o' x hg hj).of_heap (.refl J) (World.putObj_heap_other (hn b x (by rw [hg]; rfl) hj)), h.own, h.sep, h.nx, h.top, by rw [World.putObj_size]; exact h.room, h.clean,
   ⟨h.below.os, h.below.tape, h.below.output, by rw [World.putObj_size]; exact h.below.size, fun k hk => by rw [World.putObj_heap_other (by omega)]; exact h.below.block k hk⟩⟩
theorem Ev.unnamed {N : Nat} {J J' : Inj} {H H' : AH} {w w' : World} (h : Ev N J H w J' H' w') {B : Nat} (hB : w.heap.size ≤ B) (o : Obj) : Ev N J H w J' H' (w'.putObj B o) :=
  ⟨h.ext, h.fresh, h.next, fun k hk hn => by rw [World.putObj_heap_other (by omega)]; exact h.frame k hk hn, h.newB, by rw [World.putObj_size]; exact h.size, h.live⟩
theorem fget_argsF : ∀ (l : List Value) (k : Nat) (fr : Fr), k + l.length ≤ 256 → ∀ t, t < 256 → fget t (argsF k l fr) = if k ≤ t ∧ t < k + l.length then l.getD (t - k) undef else fget t fr
  | [], k, fr, _, t, _ => by rw [if_neg (by rintro ⟨h1, h2⟩; simp at h2; omega)]; rfl
  | v :: l, k, fr, h, t, ht => by
    simp only [List.length_cons] at h ⊢
    show fget t (argsF (k + 1) l (fset v k fr)) = _
    rw [fget_argsF l (k + 1) _ (by omega) t ht]
    by_cases h1 : k + 1 ≤ t ∧ t < k + 1 + l.length
    · rw [if_pos h1, if_pos (by omega)]
      rw [show t - k = (t - (k + 1)) + 1 from by omega]; simp [List.getD]
    · rw [if_neg h1, fget_fset _ _ (by omega) ht]
      by_cases h2 : t = k
      · subst h2; rw [if_pos rfl, if_pos (by omega), Nat.sub_self]; rfl
      · rw [if_neg h2, if_neg (by omega)]
theorem fget_frOf {l : List Value} (hl : l.length ≤ 256) {t : Nat} (ht : t < 256) : fget t (frOf l) = l.getD t undef := by
  unfold frOf
  rw [fget_argsF l 0 fr0 (by omega) t ht]
  by_cases h : t < l.length
  · rw [if_pos (by omega)]; rfl
  · rw [if_neg (by omega), fget_fr0]
    simp [List.getD, List.getElem?_eq_none (show l.length ≤ t from by omega)]
theorem VRs.getD {J : Inj} {l l' : List Value} (h : VRs J l l') (t : Nat) : VR J (l.getD t undef) (l'.getD t undef) := by
  have hlen := h.length
  by_cases ht : t < l.length
  · obtain ⟨v', h1, h2⟩ := h.get (List.getElem?_eq_getElem ht)
    simp only [List.getD, List.getElem?_eq_getElem ht, h1, Option.getD_some]
    exact h2
  · simp only [List.getD, List.getElem?_eq_none (show l.length ≤ t from by omega), List.getElem?_eq_none (show l'.length ≤ t from by omega), Option.getD_none]
    exact VR.undef J
theorem FR.of_args {J : Inj} {l l' : List Value} (h : VRs J l l') {sz : Nat} (hl : l.length ≤ sz) (hsz : sz ≤ 255) : FR J sz (frOf l) ((⟨l'⟩ : Array Value) ++ Array.replicate (sz - (⟨l'⟩ : Array Value).size) undef) := by
  have hlen := h.length
  refine ⟨by simp; omega, by omega, fun t ht => ?_⟩
  rw [fget_frOf (by omega) (by omega)]
  have e : ((⟨l'⟩ : Array Value) ++ Array.replicate (sz - (⟨l'⟩ : Array Value).size) undef).getD t undef = l'.getD t undef := by
    by_cases ht' : t < l'.length
    · have : t < (⟨l'⟩ : Array Value).size := ht'
      simp [Array.getElem?_append, ht', List.getD]
    · simp [Array.getElem?_append, ht', List.getD]
      rw [Array.getElem?_replicate]
      split <;> rfl
  rw [e]
  exact h.getD t
/-! results -/
def okRes (sz : Nat) : ResultVar → Bool
  | .tmp t => Nat.ble (t + 1) sz
  | .cell a _ => Nat.ble (a + 1) sz
noncomputable def okFunc (nG : Nat) (fn : Func) : Bool := match fn.body with
  | some c => (Nat.ble fn.ntmps 255 && fn.results.toList.all (okRes fn.ntmps)) && (!(fn.name == "runtime.NumGoroutine") && okCode fn.ntmps nG c)
  | none => true
theorem asAddr_run {a : Addr} {w : World} : (asAddr (.pointer (some a))).run P w = .ok a w := rfl
theorem res_sound {base sz : Nat} {w0 : World} {J : Inj} {fr : Fr} {H : AH} {tmps : Array Value} {w : World} (hf : FR J sz fr tmps) (hw : WR P nG base w0 J H w) {g : ResultVar → Sem Value} (hg : ∀ t, g (.tmp t) = pure (tmps.getD t undef)) (hc : ∀ a t, g (.cell a t) = do loadVar t (← asAddr (tmps.getD a undef))) :
    ∀ {l : List ResultVar} {vs : List Value}, l.all (okRes sz) = true → resV P fr H l = some vs → ∃ vs', (l.mapM g).run P w = .ok vs' w ∧ VRs J vs vs'
  | [], vs, _, h => by
    obtain rfl := Option.some.inj h
    exact ⟨[], rfl, .nil⟩
  | .tmp t :: l, vs, hok, h => by
    simp only [List.all_cons, Bool.and_eq_true, okRes, Nat.ble_eq] at hok
    unfold resV at h
    split at h
    · rename_i r hr
      obtain rfl := Option.some.inj h
      obtain ⟨vs', h1, h2⟩ := res_sound hf hw hg hc hok.2 hr
      refine ⟨tmps.getD t undef :: vs', ?_, .cons _ _ _ _ (hf.rel t hok.1) h2⟩
      simp only [List.mapM_cons, hg, Sem.run_bind, Sem.run_pure, Result.andThen, h1]
    · cases h
  | .cell a t :: l, vs, hok, h => by
    simp only [List.all_cons, Bool.and_eq_true, okRes, Nat.ble_eq] at hok
    unfold resV at h
    split at h
    · rename_i v r hv hr
      obtain rfl := Option.some.inj h
      obtain ⟨vs', h1, h2⟩ := res_sound hf hw hg hc hok.2 hr
      obtain ⟨v', h3, h4⟩ := ldV_sound hw hv (hf.rel a hok.1)
      refine ⟨v' :: vs', ?_, .cons _ _ _ _ h4 h2⟩
      have h5 : (do loadVar t (← asAddr (tmps.getD a undef)) : Sem Value).run P w = .ok v' w := by
        obtain ⟨b, o, hx, _⟩ := vPtr_some hv
        have hr := hf.rel a hok.1
        rw [hx] at hr
        obtain ⟨y, _, hy⟩ := hr.ptr_inv
        rw [hy] at h3 ⊢
        exact h3
      rw [← hc] at h5
      simp only [List.mapM_cons, Sem.run_bind, Sem.run_pure, h5, Result.andThen, h1]
    · cases h
def resOf : List Value → Value
  | [v] => v
  | l => .tuple ⟨l⟩
theorem results_sound {base sz : Nat} {w0 : World} {J : Inj} {fr : Fr} {H : AH} {tmps : Array Value} {w : World} (hf : FR J sz fr tmps) (hw : WR P nG base w0 J H w) {fn : Func} {vs : List Value} (hok : fn.results.toList.all (okRes sz) = true) (hr : resV P fr H fn.results.toList = some vs) :
    ∃ v', (results fn tmps).run P w = .ok v' w ∧ VR J (resOf vs) v' := by
  have key : ∀ (g : ResultVar → Sem Value), (∀ t, g (.tmp t) = pure (tmps.getD t undef)) → (∀ a t, g (.cell a t) = do loadVar t (← asAddr (tmps.getD a undef))) →
      ∃ v', (do let vs ← fn.results.mapM g; pure (if h : vs.size = 1 then vs[0] else .tuple vs) : Sem Value).run P w = .ok v' w ∧ VR J (resOf vs) v' := fun g hg hc => by
    obtain ⟨vs', h1, h2⟩ := res_sound hf hw hg hc hok hr
    refine ⟨if h : (⟨vs'⟩ : Array Value).size = 1 then (⟨vs'⟩ : Array Value)[0] else .tuple ⟨vs'⟩, ?_, ?_⟩
    · rw [Sem.run_bind, Array.mapM_eq_mapM_toList, Sem.run_map, h1]; rfl
    · cases h2 with
      | nil => exact .tuple _ _ .nil
      | cons v v' l l' h hl =>
        cases hl with
        | nil => exact h
        | cons u u' l l' h' hl => exact .tuple _ _ (.cons _ _ _ _ h (.cons _ _ _ _ h' hl))
  exact key _ (fun _ => rfl) (fun _ _ => rfl)
end Go.Proofs.YthlfhfliidhelaaGreatDoor.Eng
namespace Go.Proofs.YthlfhfliidhelaaGreatDoor.Eng
open Go.RowKit
variable {P : Program} {nG : Nat} {K : Known}
def BodySem (P : Program) (nG : Nat) (f : Nat) (args : List Value) (H : AH) (v : Value) (H' : AH) : Prop :=
  (∃ fn c, P.funcs[f]? = some fn ∧ fn.body = some c ∧ (fn.name == "runtime.NumGoroutine") = false) ∧
  ∀ (base : Nat) (w0 : World) (J : Inj) (w : World) (args' : List Value), VRs J args args' → WR P nG base w0 J H w →
    CallsIn Fence.wide 0 P f ⟨args'⟩ w fun e w' => ∃ v', e = .returned v' ∧ ∃ J', VR J' v v' ∧ WR P nG base w0 J' H' w' ∧ Ev H.next J H w J' H' w'
def CodesOk (P : Program) (nG : Nat) (K : Known) (n : Nat) : Prop :=
  ∀ (c : Code) (fr : Fr) (H : AH) (e : Ex) (fr' : Fr) (H' : AH), exec P nG K n (.code c) fr H = .ok e fr' H' → CodeSem P nG c fr H e fr' H'
theorem leaves_sem {fn : Func} {a : Act} {fr : Fr} {base S sz : Nat} {w0 : World} {J0 : Inj} {H0 : AH} {wb : World} {J : Inj} {H : AH} {vs : List Value} {v : Value} (hf : FR J sz fr a.tmps) (hok : fn.results.toList.all (okRes sz) = true) (hr : resV P fr H fn.results.toList = some vs) (hv : v = resOf vs) (hS : base ≤ S) (hSw : wb.heap.size ≤ S) : ∀ (rs : List Nat) (w : World),
      WR P nG base w0 J H w → Ev H0.next J0 H0 wb J H w → rs.Nodup → (∀ r ∈ rs, S ≤ r ∧ w.heap[r]? = some (.deferred (some [])) ∧ ∀ b x, (H.get b).isSome = true → J b = some x → x.B ≠ r) →
      LeavesInM Fence.wide 0 P fn a.tmps (fun e w' => ∃ v', e = .returned v' ∧ ∃ J', VR J' v v' ∧ WR P nG base w0 J' H w' ∧ Ev H0.next J0 H0 wb J' H w') (rs.map markD) .returning w
  | [], w, hw, he, _, _ => by
    obtain ⟨v', h1, h2⟩ := results_sound hf hw hok hr
    exact ⟨v', h1, v', rfl, J, by rw [hv]; exact h2, hw, he⟩
  | r :: rs, w, hw, he, hnd, hp => by
    obtain ⟨h1, h2, h3⟩ := hp r (by simp)
    rw [List.nodup_cons] at hnd
    simp only [List.map_cons, LeavesInM]
    refine ⟨(fun h => by cases h), .inl ⟨r, _, rfl, run_takeDeferred h2, ?_⟩⟩
    refine leaves_sem hf hok hr hv hS hSw rs _ (hw.unnamed (by omega) h3 _) (he.unnamed (by omega) _) hnd.2 fun k hk => ?_
    obtain ⟨k1, k2, k3⟩ := hp k (by simp [hk])
    exact ⟨k1, by rw [World.putObj_heap_other (by rintro rfl; exact hnd.1 hk)]; exact k2, k3⟩
theorem body_sem (hfun : ∀ (f : Nat) (fn : Func), K f = none → P.funcs[f]? = some fn → okFunc nG fn = true) {n : Nat} (hcode : CodesOk P nG K n) {f : Nat} {first cap : Array Value} {args : List Value} {fr : Fr} {H : AH} {v : Value} {H' : AH} (hK : K f = none)
    (h : exec P nG K (n + 1) (.call (.func (.func f) first cap) args) fr H = .val v H') : BodySem P nG f (first.toList ++ (args ++ cap.toList)) H v H' := by
  rw [exec_call] at h
  unfold callF at h
  simp only [hK] at h
  split at h
  · rename_i fn hfn
    split at h
    · rename_i b hb
      split at h
      · rename_i hle
        rw [Nat.ble_eq, lenL_eq, appL_eq, appL_eq] at hle
        rw [appL_eq, appL_eq] at h
        have hok := hfun f fn hK hfn
        unfold okFunc at hok
        rw [hb] at hok
        simp only [Bool.and_eq_true, Nat.ble_eq, Bool.not_eq_true'] at hok
        obtain ⟨⟨ok1, ok2⟩, ok3, ok4⟩ := hok
        refine ⟨⟨fn, b, hfn, hb, ok3⟩, fun base w0 J w args' hargs hw => ?_⟩
        have key : ∀ (e : Ex) (fr1 : Fr) (H1 : AH) (vs : List Value), (e = .normal ∨ e = .ret) → exec P nG K n (.code b) (frOf (first.toList ++ (args ++ cap.toList))) H = .ok e fr1 H1 → resV P fr1 H1 fn.results.toList = some vs → v = resOf vs → H1 = H' →
            CallsIn Fence.wide 0 P f ⟨args'⟩ w fun e w' => ∃ v', e = .returned v' ∧ ∃ J', VR J' v v' ∧ WR P nG base w0 J' H' w' ∧ Ev H.next J H w J' H' w' := by
          rintro e fr1 H1 vs he hex hres hv rfl
          refine callsIn_of_wp_marks hfn hb trivial ?_
          have hS : base ≤ w.heap.size := hw.room
          refine hcode _ _ _ _ _ _ hex (base := base) (w0 := w0) (S := w.heap.size) (r := none) (J := J) ok4 ⟨⟨hw.glob, FR.of_args hargs hle ok1⟩, ok1, hw, .inl ⟨rfl, ?_⟩, ⟨[], rfl, by simp, by simp⟩⟩ (Nat.le_refl _) fun a' w' ha => ?_
          · rw [fget_frOf (by omega) (by decide)]
            simp [List.getD, slotR, List.getElem?_eq_none (show (first.toList ++ (args ++ cap.toList)).length ≤ 255 from by omega)]
          · obtain ⟨J', hst, hev⟩ := ha
            obtain ⟨rs, p1, p2, p3⟩ := hst.pins
            have hl := leaves_sem (fn := fn) hst.at_.fr ok2 hres hv hS (Nat.le_refl _) rs w' hst.wr hev p2 p3
            rw [← p1] at hl
            rcases he with rfl | rfl <;> exact hl
        unfold retV at h
        split at h
        · rename_i fr1 H1 hex
          split at h
          · rename_i u hres
            injection h with h1 h2; subst h1
            exact key _ _ _ _ (.inl rfl) hex hres rfl h2
          · rename_i l hne hres
            injection h with h1 h2; subst h1
            exact key _ _ _ _ (.inl rfl) hex hres (by cases l with | nil => rfl | cons u l => cases l with | nil => exact absurd rfl (hne u) | cons _ _ => rfl) h2
          · cases h
        · rename_i fr1 H1 hex
          split at h
          · rename_i u hres
            injection h with h1 h2; subst h1
            exact key _ _ _ _ (.inr rfl) hex hres rfl h2
          · rename_i l hne hres
            injection h with h1 h2; subst h1
            exact key _ _ _ _ (.inr rfl) hex hres (by cases l with | nil => rfl | cons u l => cases l with | nil => exact absurd rfl (hne u) | cons _ _ => rfl) h2
          · cases h
        · cases h
        · cases h
      · cases h
    · cases h
  · cases h
end Go.Proofs.YthlfhfliidhelaaGreatDoor.Eng
namespace Go.Proofs.YthlfhfliidhelaaGreatDoor.Eng
open Go.RowKit
variable {P : Program} {nG : Nat} {K : Known}
theorem WR.extra {base : Nat} {w0 : World} {J : Inj} {H : AH} {w : World} (h : WR P nG base w0 J H w) (o : Obj) : WR P nG base w0 J H (w.alloc o) :=
  ⟨h.glob, h.ids, fun b x hj => by have := h.lt b x hj; simp; omega, h.inj, fun b o' x hg hj => (h.obj b o' x hg hj).of_heap (.refl J) (Below.heap_alloc w o _ (h.lt b x hj)), h.own, h.sep, h.nx, h.top, by have := h.room; simp; omega, h.clean, h.below.alloc h.room o⟩
theorem Ev.extra (N : Nat) (J : Inj) (H : AH) (w : World) (o : Obj) : Ev N J H w J H (w.alloc o) :=
  ⟨.refl J, fun b x h h' => (by rw [h] at h'; cases h'), Nat.le_refl _, fun B hB _ => Below.heap_alloc w o B hB, fun b x h h' => (by rw [h] at h'; cases h'), by simp, fun _ _ h => h⟩
theorem enter_sem {base sz S : Nat} {w0 : World} {r : Option Nat} {J : Inj} {fr : Fr} {H : AH} {ac : Act} {w : World} (hst : St P nG base w0 sz S r J fr H ac w) (hS : S ≤ w.heap.size) (hao : aroundOk fr H = true) (hroom : H.room = true) {ps : Array Tmp} {a b : Code} (hok : ps.toList.all (fun t => Nat.ble (t + 1) sz) = true ∧ okCode sz nG a = true ∧ okCode sz nG b = true) (fn : FuncId) :
    ∃ (l : Nat) (mark : List Deferred) (w1 : World), (Instr.enterLoop fn ac.tmps ps a b (FF r).round).run P w = .ok (l, mark) w1 ∧ w.heap.size ≤ l ∧ WR P nG base w0 (J.add H.next ⟨l, 0, 0, 0⟩) (H.new (.loop fr ps.toList a b (some none))) w1 ∧
      Ev H.next J H w (J.add H.next ⟨l, 0, 0, 0⟩) (H.new (.loop fr ps.toList a b (some none))) w1 ∧ Pins S (J.add H.next ⟨l, 0, 0, 0⟩) (H.new (.loop fr ps.toList a b (some none))) w1 (mark ++ ac.defers) := by
  have hr : H.next + 1 ≤ 262144 := by unfold AH.room at hroom; rw [Nat.ble_eq] at hroom; exact hroom
  have hor : ∀ (w' : World) (d : Nat), OR P nG (J.add H.next ⟨w'.heap.size, 0, 0, 0⟩) (w'.alloc (.loop { state := .ready, pending := none, fn, tmps := ac.tmps, params := ps, assign := a, body := b, defers := d })) ⟨w'.heap.size, 0, 0, 0⟩ (.loop fr ps.toList a b (some none)) := fun w' d =>
    ⟨_, sz, World.alloc_heap_new w' _, hst.at_.fr.mono (Inj.le_add hst.wr.fresh), rfl, rfl, rfl, ⟨hst.sz, hok.1, hok.2.1, hok.2.2⟩, rfl, rfl⟩
  rcases hst.ar with ⟨rfl, h2⟩ | ⟨l0, x0, h1, h2, rfl⟩
  · refine ⟨w.heap.size + 1, [markD w.heap.size], _, run_enterLoop_outer fn ac.tmps ps a b, by omega, ?_⟩
    have hw' := hst.wr.extra (.deferred (some []))
    have he' := Ev.extra H.next J H w (.deferred (some []))
    have e : (w.alloc (.deferred (some []))).heap.size = w.heap.size + 1 := by simp
    obtain ⟨k1, k2⟩ := hw'.alloc hr _ _ 0 0 (hor (w.alloc (.deferred (some []))) w.heap.size)
    rw [e] at k1 k2
    refine ⟨k1, he'.trans hst.wr.ids k2, ?_⟩
    refine Pins.ev ?_ k2 hst.wr.ids
    obtain ⟨rs, p1, p2, p3⟩ := hst.pins
    have hlt : ∀ k ∈ rs, k < w.heap.size := fun k hk => (Array.getElem?_eq_some_iff.1 (p3 k hk).2.1).1
    refine ⟨w.heap.size :: rs, by rw [p1]; rfl, List.nodup_cons.2 ⟨fun h => by have := hlt _ h; omega, p2⟩, fun k hk => ?_⟩
    rcases List.mem_cons.1 hk with rfl | hk
    · exact ⟨hS, World.alloc_heap_new w _, fun b x _ hj => by have := hst.wr.lt b x hj; omega⟩
    · obtain ⟨q1, q2, q3⟩ := p3 k hk
      exact ⟨q1, (Below.heap_alloc w _ k (hlt k hk)).trans q2, q3⟩
  · have hloop : ∃ L, w.heap[x0.B]? = some (.loop L) := by
      unfold aroundOk at hao
      rw [h1] at hao
      dsimp only at hao
      cases hg : H.get l0 with
      | none => rw [hg] at hao; cases hao
      | some o =>
        rw [hg] at hao
        cases o with
        | cells cs e => cases hao
        | map es => cases hao
        | loop fr' ps' a' b' st => obtain ⟨L, sz', h3, _⟩ := hst.wr.obj l0 _ x0 hg h2; exact ⟨L, h3⟩
    obtain ⟨L, hL⟩ := hloop
    refine ⟨w.heap.size, [], _, run_enterLoop_inner hL fn ac.tmps ps a b, Nat.le_refl _, ?_⟩
    obtain ⟨k1, k2⟩ := hst.wr.alloc hr _ _ 0 0 (hor w L.defers)
    exact ⟨k1, k2, hst.pins.ev k2 hst.wr.ids⟩
theorem isBody_some {v : Value} (h : isBody K v = true) : ∃ f first cap, v = .func (.func f) first cap ∧ K f = none := by
  unfold isBody at h
  split at h
  · rename_i f first cap
    refine ⟨f, first, cap, rfl, ?_⟩
    cases hk : K f with
    | none => rfl
    | some x => rw [hk] at h; cases h
  · cases h
theorem call_enter {f : Nat} {fn : Func} {c : Code} (hf : P.funcs[f]? = some fn) (hb : fn.body = some c) (hn : (fn.name == "runtime.NumGoroutine") = false) (args : Array Value) (w : World) : (callFunc f args).run P w = .ok (.enter f args) w := by
  unfold callFunc
  simp only [Sem.run_bind]
  have : (program).run P w = .ok P w := rfl
  rw [this]
  simp only [Result.andThen, hf, hn, hb]
  rfl
def BodiesOk (P : Program) (nG : Nat) (K : Known) (n : Nat) : Prop :=
  ∀ (f : Nat) (first cap : Array Value) (args : List Value) (fr : Fr) (H : AH) (v : Value) (H' : AH), K f = none → exec P nG K n (.call (.func (.func f) first cap) args) fr H = .val v H' → BodySem P nG f (first.toList ++ (args ++ cap.toList)) H v H'
theorem range_sem {n : Nat} (hbod : BodiesOk P nG K n) {g : Operand} {ps : Array Tmp} {a b : Code} {x y : Ih → Fr → AH → Rs} {fr : Fr} {H : AH} {e : Ex} {fr' : Fr} {H' : AH} (h : cRange K g ps a b x y (exec P nG K n) fr H = .ok e fr' H') : CodeSem P nG (.rangeFunc g ps a b) fr H e fr' H' := by
  unfold cRange at h
  split at h
  · rename_i hcond
    rw [Bool.and_eq_true, Bool.and_eq_true] at hcond
    obtain ⟨hao, hisb, hroom⟩ := hcond
    obtain ⟨f, first, cap, hev, hK⟩ := isBody_some hisb
    rw [hev] at h
    split at h
    · rename_i v H2 hx
      obtain ⟨⟨fnn, cc, b1, b2, b3⟩, hbs⟩ := hbod f first cap _ _ _ v H2 hK hx
      have key : ∃ (fr1 : Fr) (ps1 : List Tmp) (a1 b1 : Code) (j : Option Code), H2.get H.next = some (.loop fr1 ps1 a1 b1 (some j)) ∧ fr' = fr ∧ H' = H2.put H.next none ∧ ((j = none ∧ e = .normal) ∨ (∃ i, j = some (.exit i) ∧ e = .exit i) ∨ (j = some .ret ∧ e = .ret)) := by
        split at h
        · rename_i hg; injection h with h1 h2 h3; exact ⟨_, _, _, _, _, hg, h2.symm, h3.symm, .inl ⟨rfl, h1.symm⟩⟩
        · rename_i i hg; injection h with h1 h2 h3; exact ⟨_, _, _, _, _, hg, h2.symm, h3.symm, .inr (.inl ⟨i, rfl, h1.symm⟩)⟩
        · rename_i hg; injection h with h1 h2 h3; exact ⟨_, _, _, _, _, hg, h2.symm, h3.symm, .inr (.inr ⟨rfl, h1.symm⟩)⟩
        · cases h
      clear h
      obtain ⟨fr1, ps1, a1, b1', j, hg, rfl, rfl, hj⟩ := key
      intro base sz S w0 r J ac w Q hok hst hS hQ
      simp only [okCode, Bool.and_eq_true] at hok
      have hv := hst.at_.ev hok.1
      rw [hev] at hv
      refine wpIn_rangeFunc fun fn hfn => ?_
      obtain ⟨l, mark, w1, hent, hl, hwr1, hev1, hpin1⟩ := enter_sem hst hS hao hroom ⟨hok.2.1, hok.2.2.1, hok.2.2.2⟩ fn
      generalize hgv : ac.eval g = gv at hv
      cases hv with
      | func _ fs fs' cs cs' k1 k2 =>
        have hy : VR (J.add H.next ⟨l, 0, 0, 0⟩) (.func (.yield H.next) #[] #[]) (.func (.yield l) #[] #[]) := .yield H.next ⟨l, 0, 0, 0⟩ (Inj.add_same _ _ _)
        have hle := Inj.le_add (x := (⟨l, 0, 0, 0⟩ : Tg)) hst.wr.fresh
        have hcall := hbs base w0 _ w1 (fs' ++ ([.func (.yield l) #[] #[]] ++ cs')) ((k1.mono hle).append ((VRs.cons _ _ _ _ hy .nil).append (k2.mono hle))) hwr1
        refine ⟨l, mark, w1, { target := .fn (.func f) ⟨cs'⟩, args := ⟨fs'⟩ ++ #[.func (.yield l) #[] #[]] }, w1, f, ⟨fs' ++ ([.func (.yield l) #[] #[]] ++ cs')⟩, w1, hent, ?_, fun _ _ => trivial, ?_, fun h => absurd h (by intro h; cases h), ?_⟩
        · have hm : (#[Operand.const (.func (.yield l) #[] #[])] : Array Operand).map ac.eval = #[.func (.yield l) #[] #[]] := by simp [Act.eval]
          simp only [resolve, hgv, hm]
          rfl
        · show (callFunc f ((⟨fs'⟩ ++ #[.func (.yield l) #[] #[]]) ++ ⟨cs'⟩)).run P w1 = _
          rw [call_enter b1 b2 b3]
          simp
        · refine CallsIn.mono (F := FF r) hcall fun e3 w3 ⟨v', he3, J3, r1, r2, r3⟩ => ?_
          subst he3
          have hJ3 : J3 H.next = some ⟨l, 0, 0, 0⟩ := r3.ext _ _ (Inj.add_same _ _ _)
          obtain ⟨L, sz', l1, l2, l3, l4, l5, l6, l7⟩ := r2.obj _ _ _ hg hJ3
          have hb6 := r2.small hJ3
          have hpend : L.state ≠ .busy ∧ L.pending = j := by
            cases j with
            | none => exact ⟨(by rw [l7.1]; intro h; cases h), l7.2⟩
            | some c => exact ⟨(by rw [l7.1]; intro h; cases h), l7.2⟩
          refine ⟨j, _, by rw [← hpend.2]; exact run_endLoop l1 hpend.1, ?_⟩
          have hlive : ∀ k, k < 262144 → ((H2.put H.next none).get k).isSome = true → k ≠ H.next ∧ (H2.get k).isSome = true := fun k hk hs => by
            rw [AH.get_put H2 _ hb6 hk] at hs
            split at hs
            · cases hs
            · rename_i hne; exact ⟨hne, hs⟩
          have hnd : ∀ k z, ((H2.put H.next none).get k).isSome = true → J3 k = some z → z.B ≠ l := fun k z hs hz he => by
            obtain ⟨n1, n2⟩ := hlive k (r2.small hz) hs
            exact n1 (r2.inj k H.next z ⟨l, 0, 0, 0⟩ n2 (by rw [hg]; rfl) hz hJ3 he)
          have hwr4 := (r2.drop hb6).unnamed (B := l) (by have := hst.wr.room; omega) hnd (.loop { L with state := .exhausted })
          have hev3 : Ev H.next J H w J3 H2 w3 := hev1.trans hst.wr.ids (r3.weak (by simp))
          have hev4 : Ev H.next J H w J3 (H2.put H.next none) (w3.putObj l (.loop { L with state := .exhausted })) := (hev3.trans hst.wr.ids (Ev.drop r2 (by have := hst.wr.top; omega) hb6)).unnamed hl _
          have hpin4 : Pins S J3 (H2.put H.next none) (w3.putObj l (.loop { L with state := .exhausted })) (mark ++ ac.defers) := by
            obtain ⟨rs, p1, p2, p3⟩ := hpin1.ev r3 hwr1.ids
            refine ⟨rs, p1, p2, fun k hk => ?_⟩
            obtain ⟨q1, q2, q3⟩ := p3 k hk
            have : l ≠ k := q3 H.next ⟨l, 0, 0, 0⟩ (by rw [hg]; rfl) hJ3
            exact ⟨q1, by rw [World.putObj_heap_other (Ne.symm this)]; exact q2, fun b z hs hz => q3 b z (hlive b (r2.small hz) hs).2 hz⟩
          have haft : After P nG base w0 sz S r H.next J H w fr' (H2.put H.next none) { ac with defers := mark ++ ac.defers } (w3.putObj l (.loop { L with state := .exhausted })) :=
            ⟨J3, ⟨⟨hwr4.glob, hst.at_.fr.mono hev4.ext⟩, hst.sz, hwr4, hst.ar.mono hev4.ext, hpin4⟩, hev4⟩
          rcases hj with ⟨rfl, rfl⟩ | ⟨i, rfl, rfl⟩ | ⟨rfl, rfl⟩
          · exact hQ _ _ haft
          · exact wpIn_exit (hQ _ _ haft)
          · exact wpIn_ret (hQ _ _ haft)
    · cases h
    · cases h
  · cases h
end Go.Proofs.YthlfhfliidhelaaGreatDoor.Eng
namespace Go.Proofs.YthlfhfliidhelaaGreatDoor.Eng
open Go.RowKit
variable {P : Program} {nG : Nat} {K : Known}
theorem FR.setPs {J : Inj} {sz : Nat} : ∀ {ps : List Tmp} {args args' : List Value} {fr : Fr} {tmps : Array Value}, VRs J args args' → ps.all (fun t => Nat.ble (t + 1) sz) = true → FR J sz fr tmps → FR J sz (setPs ps args fr) ((ps.zip args').foldl (fun t (p, v) => t.setIfInBounds p v) tmps)
  | [], args, args', fr, tmps, _, _, h => by
    cases args <;> simpa [Eng.setPs] using h
  | p :: ps, [], args', fr, tmps, ha, _, h => by
    cases ha; simpa [Eng.setPs] using h
  | p :: ps, v :: args, args', fr, tmps, ha, hp, h => by
    cases ha with
    | cons _ v' _ l' hv hl =>
      simp only [List.all_cons, Bool.and_eq_true, Nat.ble_eq] at hp
      show FR J sz (Eng.setPs ps args (fset v p fr)) ((ps.zip l').foldl _ (tmps.setIfInBounds p v'))
      exact FR.setPs hl hp.2 (h.put hp.1 hv)
theorem FR.setR {J : Inj} {sz : Nat} {fr : Fr} {tmps : Array Value} (h : FR J sz fr tmps) (hsz : sz ≤ 255) (v : Value) : FR J sz (fset v slotR fr) tmps :=
  ⟨h.size, h.le, fun t ht => by rw [fget_fset v fr (by decide) (by omega), if_neg (by unfold slotR; omega)]; exact h.rel t ht⟩
theorem zip_foldl (ps : Array Tmp) (args : List Value) (tmps : Array Value) : ((ps.zip (⟨args⟩ : Array Value)).foldl (fun tmps (t, a) => tmps.setIfInBounds t a) tmps) = (ps.toList.zip args).foldl (fun t (p, v) => t.setIfInBounds p v) tmps := by
  rw [← Array.foldl_toList]
  simp
theorem loop_get {base : Nat} {w0 : World} {J : Inj} {H : AH} {w : World} (h : WR P nG base w0 J H w) {l : Nat} {x : Tg} (hJ : J l = some x) {fr : Fr} {ps : List Tmp} {a b : Code} {st : Option (Option Code)} (hg : H.get l = some (.loop fr ps a b st)) :
    ∃ (L : Loop) (sz : Nat), w.heap[x.B]? = some (.loop L) ∧ FR J sz fr L.tmps ∧ L.params.toList = ps ∧ L.assign = a ∧ L.body = b ∧
      (sz ≤ 255 ∧ ps.all (fun t => Nat.ble (t + 1) sz) = true ∧ okCode sz nG a = true ∧ okCode sz nG b = true) ∧
      (match (generalizing := false) st with
       | none => L.state = .busy
       | some none => L.state = .ready ∧ L.pending = none
       | some (some c) => L.state = .done ∧ L.pending = some c) := h.obj _ _ _ hg hJ
theorem begR_some {l : Nat} {H : AH} {k : AH → Rs} {r : Rs} (h : begR l H k = r) (hr : ∀ tr, r ≠ .bad tr) : ∃ fr ps a b, H.get l = some (.loop fr ps a b (some none)) ∧ k (H.put l (some (.loop fr ps a b none))) = r := by
  unfold begR at h
  split at h
  · rename_i hg; exact ⟨_, _, _, _, hg, h⟩
  · exact absurd h.symm (hr _)
theorem endJ_some {l : Nat} {v : Bool} {j : Option Code} {H : AH} {u : Value} {H' : AH} (h : endJ l v j H = .val u H') : ∃ fr ps a b, H.get l = some (.loop fr ps a b none) ∧ u = .bool v ∧ H' = H.put l (some (.loop fr ps a b (some j))) := by
  unfold endJ at h
  split at h
  · rename_i hg; injection h with h1 h2; exact ⟨_, _, _, _, hg, h1.symm, h2.symm⟩
  · cases h
theorem end_sem {base : Nat} {w0 : World} {J : Inj} {H : AH} {w : World} (h : WR P nG base w0 J H w) {l : Nat} {x : Tg} (hJ : J l = some x) (hl : nG ≤ l) {v : Bool} {j : Option Code} {u : Value} {H' : AH} (he : endJ l v j H = .val u H') (hv : v = j.isNone) :
    ∃ w', (Instr.endRound x.B j).run P w = .ok (.bool v) w' ∧ u = .bool v ∧ WR P nG base w0 J H' w' ∧ Ev H.next J H w J H' w' := by
  obtain ⟨fr, ps, a, b, hg, rfl, rfl⟩ := endJ_some he
  obtain ⟨L, sz, l1, l2, l3, l4, l5, l6, l7⟩ := loop_get h hJ hg
  have := run_endRound (P := P) j l1
  rw [← hv] at this
  refine ⟨_, this, rfl, ?_⟩
  exact h.object (by have := h.top; omega) hg hJ hl fun w' hw' => ⟨_, sz, hw', l2, l3, l4, l5, l6, by
    subst hv
    cases j with
    | none => exact ⟨rfl, rfl⟩
    | some c => exact ⟨rfl, rfl⟩⟩
theorem yield_sem {n : Nat} (hcode : CodesOk P nG K n) {l : Nat} {fs cs : Array Value} {args : List Value} {fr0 : Fr} {H : AH} {v : Value} {H' : AH} (h : exec P nG K (n + 1) (.call (.func (.yield l) fs cs) args) fr0 H = .val v H') : CallSem P nG (.func (.yield l) fs cs) args H v H' := by
  rw [exec_call] at h
  unfold callF at h
  dsimp only at h
  split at h
  · rename_i fr ps a b hg
    split at h
    · rename_i hlen
      rw [Bool.and_eq_true, Nat.beq_eq, Nat.ble_eq, lenL_eq, lenL_eq] at hlen
      obtain ⟨hlen, hnl⟩ := hlen
      intro base w0 J w f' args' hf hargs hw
      cases hf with
      | yield _ x hJ =>
      obtain ⟨L, sz, l1, l2, l3, l4, l5, ⟨o1, o2, o3, o4⟩, l7⟩ := loop_get hw hJ hg
      have hal := hargs.length
      have hy := run_yield (P := P) (args := (⟨args'⟩ : Array Value)) l1 (by show args'.length = _; rw [← Array.length_toList, l3]; omega)
      have hcal : Callee (.func (.yield x.B) #[] #[]) ⟨args'⟩ = Instr.yield x.B ⟨args'⟩ := by
        unfold Callee Deferred.ofValue
        show Instr.yield x.B (#[] ++ ⟨args'⟩) = _
        simp
      refine .inr (.inl ⟨x.B, L.fn, _, L.assign, L.body, by rw [hcal]; exact hy, ?_⟩)
      rw [zip_foldl, l3, l4, l5]
      refine roundIn_of_wpIn (F := Fence.wide) trivial ?_
      have hfr := (FR.setPs hargs o2 l2).setR o1 (.func (.yield l) #[] #[])
      have hst0 : St P nG base w0 sz w.heap.size (some x.B) J (fset (.func (.yield l) #[] #[]) slotR (setPs ps args fr)) H { tmps := (ps.zip args').foldl (fun t (p, v) => t.setIfInBounds p v) L.tmps, defers := [] } w :=
        ⟨⟨hw.glob, hfr⟩, o1, hw, .inr ⟨l, x, (fget_fset _ _ (by decide) (by decide)).trans (if_pos rfl), hJ, rfl⟩, ⟨[], rfl, by simp, by simp⟩⟩
      cases hx : exec P nG K n (.code a) (fset (.func (.yield l) #[] #[]) slotR (setPs ps args fr)) H with
      | bad tr => rw [hx] at h; cases h
      | val u H1 => rw [hx] at h; cases h
      | ok e1 fr2 H2 =>
        rw [hx] at h
        cases e1 with
        | exit i => cases h
        | ret => cases h
        | normal =>
          dsimp only at h
          refine (hcode _ _ _ _ _ _ hx).then_ (base := base) (w0 := w0) (r := some x.B) (S := w.heap.size) o3 hst0 (Nat.le_refl _) fun J1 a1 w1 k1 k2 k3 => ?_
          have hx1 : J1 l = some x := k2.ext _ _ hJ
          have hbeg : ∃ r, begR l H2 (fun H3 => exec P nG K n (.code b) fr2 H3) = r ∧ endR l r = .val v H' := ⟨_, rfl, h⟩
          obtain ⟨r0, hb1, hb2⟩ := hbeg
          obtain ⟨fr3, ps3, a3, b3, hg3, hex⟩ := begR_some hb1 (fun tr he => by subst he; cases hb2)
          obtain ⟨L2, sz2, m1, m2, m3, m4, m5, m6, m7⟩ := loop_get k1.wr hx1 hg3
          have hbr := run_beginRound (P := P) m1 m7.1
          obtain ⟨hwr2, hev2⟩ := k1.wr.object (N := H2.next) (o2 := .loop fr3 ps3 a3 b3 none) (obj := .loop { L2 with state := .busy }) k1.wr.top hg3 hx1 hnl (fun w' hw' => ⟨_, sz2, hw', m2, m3, m4, m5, m6, rfl⟩)
          refine ⟨_, hbr, ?_⟩
          have hst2 := k1.ev hwr2 hev2
          have hS2 : w.heap.size ≤ (w1.putObj x.B (.loop { L2 with state := .busy })).heap.size := by rw [World.putObj_size]; exact k3
          have fin : ∀ (e : Ex) (fr4 : Fr) (H4 : AH), r0 = .ok e fr4 H4 → ∀ (vb : Bool) (j : Option Code), endJ l vb j H4 = .val v H' → vb = j.isNone → ∀ a' w', After P nG base w0 sz w.heap.size (some x.B) (H2.put l (some (.loop fr3 ps3 a3 b3 none))).next J1 (H2.put l (some (.loop fr3 ps3 a3 b3 none))) (w1.putObj x.B (.loop { L2 with state := .busy })) fr4 H4 a' w' →
              ∃ v' w'', (Instr.endRound x.B j).run P w' = .ok v' w'' ∧ (∃ v1, Ending.returned v' = .returned v1 ∧ ∃ J', VR J' v v1 ∧ WR P nG base w0 J' H' w'' ∧ Ev H.next J H w J' H' w'') := fun e fr4 H4 _ vb j hend hvb a' w' ⟨J4, q1, q2⟩ => by
            obtain ⟨w'', e1, rfl, e3, e4⟩ := end_sem q1.wr (q2.ext _ _ hx1) hnl hend hvb
            refine ⟨_, w'', e1, _, rfl, J4, .bool vb, e3, ?_⟩
            have h12 := k2.trans hw.ids (hev2.weak k2.next)
            have h14 := h12.trans hw.ids (q2.weak (by rw [AH.next_put]; exact k2.next))
            exact h14.trans hw.ids (e4.weak h14.next)
          cases hr0 : r0 with
          | bad tr => rw [hr0] at hb2; cases hb2
          | val u H4 => rw [hr0] at hb2; cases hb2
          | ok e4 fr4 H4 =>
            rw [hr0] at hb2 hex
            refine hcode _ _ _ _ _ _ hex (base := base) (w0 := w0) (r := some x.B) (S := w.heap.size) o4 hst2 hS2 fun a' w' ha => ?_
            cases e4 with
            | normal => exact fin _ _ _ hr0 true none hb2 rfl a' w' ha
            | exit i => exact fin _ _ _ hr0 false (some (.exit i)) hb2 rfl a' w' ha
            | ret => exact fin _ _ _ hr0 false (some .ret) hb2 rfl a' w' ha
    · cases h
  · cases h
def KnownOk (P : Program) (nG : Nat) (f : Nat) (h : List Value → AH → RO) : Prop :=
  ∀ (args : List Value) (H : AH) (v : Value) (H' : AH), h args H = .ok v H' → ∀ (base : Nat) (w0 : World) (J : Inj) (w : World) (args' : List Value), VRs J args args' → WR P nG base w0 J H w →
    (∃ as, (callFunc f ⟨args'⟩).run P w = .ok (.enter f as) w ∧ CallsIn Fence.wide 0 P f as w (fun e w' => ∃ v', e = .returned v' ∧ ∃ J', VR J' v v' ∧ WR P nG base w0 J' H' w' ∧ Ev H.next J H w J' H' w')) ∨
    ∃ v' w', (callFunc f ⟨args'⟩).run P w = .ok (.value v') w' ∧ ∃ J', VR J' v v' ∧ WR P nG base w0 J' H' w' ∧ Ev H.next J H w J' H' w'
structure Hyp (P : Program) (nG : Nat) (K : Known) : Prop where
  mixed : P.follows .mixedOrders = true
  funcs : ∀ (f : Nat) (fn : Func), K f = none → P.funcs[f]? = some fn → okFunc nG fn = true
  known : ∀ (f : Nat) (h : List Value → AH → RO), K f = some h → KnownOk P nG f h
theorem callee_func {f : Nat} {fs cs args : List Value} : Callee (.func (.func f) ⟨fs⟩ ⟨cs⟩) ⟨args⟩ = callFunc f ⟨fs ++ (args ++ cs)⟩ := by
  unfold Callee Deferred.ofValue
  show callFunc f (((⟨fs⟩ : Array Value) ++ ⟨args⟩) ++ ⟨cs⟩) = _
  simp
theorem call_sem (hyp : Hyp P nG K) {n : Nat} (hcode : CodesOk P nG K n) {f : Value} {args : List Value} {fr : Fr} {H : AH} {v : Value} {H' : AH} (h : exec P nG K (n + 1) (.call f args) fr H = .val v H') : CallSem P nG f args H v H' := by
  have h0 := h
  rw [exec_call] at h
  unfold callF at h
  split at h
  · rename_i g first cap
    intro base w0 J w f' args' hf hargs hw
    cases hf with
    | func _ fs fs' cs cs' k1 k2 =>
      have hall := k1.append (hargs.append k2)
      unfold CallV
      rw [callee_func]
      cases hK : K g with
      | none =>
        obtain ⟨⟨fn, c, b1, b2, b3⟩, hb⟩ := body_sem hyp.funcs hcode hK h0
        exact .inl ⟨g, _, call_enter b1 b2 b3 _ w, hb base w0 J w _ hall hw⟩
      | some hk =>
        simp only [hK] at h
        rw [appL_eq, appL_eq] at h
        cases hr : hk (fs ++ (args ++ cs)) H with
        | bad => rw [hr] at h; cases h
        | ok v1 H1 =>
          rw [hr] at h
          injection h with h1 h2; subst h1 h2
          rcases hyp.known g hk hK _ _ _ _ hr base w0 J w _ hall hw with ⟨as, q1, q2⟩ | ⟨v', w', q1, q2⟩
          · exact .inl ⟨g, as, q1, q2⟩
          · exact .inr (.inr ⟨v', w', q1, q2⟩)
  · exact yield_sem hcode h0
  · cases h
theorem code_sem (hyp : Hyp P nG K) {n : Nat} (hc : CallsOk P nG K (n + 1)) (hcodes : ∀ m, m ≤ n → CodesOk P nG K m) (hbod : BodiesOk P nG K n) : CodesOk P nG K (n + 1) := by
  intro c fr H e fr' H' h
  have h0 := h
  rw [exec_code] at h
  have hcn : CallsOk P nG K n := hc.mono (by omega)
  cases c with
  | skip =>
    injection h with h1 h2 h3; subst h1 h2 h3
    intro base sz S w0 r J ac w Q hok hst hS hQ
    exact wpIn_skip (hQ ac w ⟨J, hst, Ev.refl _ _ _ _⟩)
  | label l =>
    injection h with h1 h2 h3; subst h1 h2 h3
    intro base sz S w0 r J ac w Q hok hst hS hQ
    exact wpIn_label (hQ ac w ⟨J, hst, Ev.refl _ _ _ _⟩)
  | exit i =>
    injection h with h1 h2 h3; subst h1 h2 h3
    intro base sz S w0 r J ac w Q hok hst hS hQ
    exact wpIn_exit (hQ ac w ⟨J, hst, Ev.refl _ _ _ _⟩)
  | ret =>
    injection h with h1 h2 h3; subst h1 h2 h3
    intro base sz S w0 r J ac w Q hok hst hS hQ
    exact wpIn_ret (hQ ac w ⟨J, hst, Ev.refl _ _ _ _⟩)
  | goto l => cases h
  | refuse s => cases h
  | scope b => cases h
  | region id ops draw =>
    cases draw with
    | false => exact region_sem hcn h
    | true => exact draw_sem hyp.mixed hcn h
  | seq a b =>
    replace h : Rs.seq (exec P nG K n (.code a) fr H) (exec P nG K n (.code b)) = _ := h
    cases h1 : exec P nG K n (.code a) fr H with
    | bad tr => rw [h1] at h; cases h
    | val v H1 => rw [h1] at h; cases h
    | ok e1 fr1 H1 =>
      rw [h1] at h
      have hs := hcodes n (Nat.le_refl _) _ _ _ _ _ _ h1
      cases e1 with
      | normal => exact seq_sem hs (hcodes n (Nat.le_refl _) _ _ _ _ _ _ h)
      | exit i => injection h with g1 g2 g3; subst g1 g2 g3; exact seq_sem_out (by intro h; cases h) hs
      | ret => injection h with g1 g2 g3; subst g1 g2 g3; exact seq_sem_out (by intro h; cases h) hs
  | cond c a b =>
    replace h : vBool (ev c fr) (exec P nG K n (.code a) fr H) (exec P nG K n (.code b) fr H) (.bad [7]) = _ := h
    generalize hv : ev c fr = u at h
    cases u <;> first | cases h | skip
    rename_i t
    cases t with
    | true => exact cond_sem hv (hcodes n (Nat.le_refl _) _ _ _ _ _ _ h)
    | false => exact cond_sem hv (hcodes n (Nat.le_refl _) _ _ _ _ _ _ h)
  | block id b =>
    replace h : Rs.blk (exec P nG K n (.code b) fr H) id = _ := h
    cases h1 : exec P nG K n (.code b) fr H with
    | bad tr => rw [h1] at h; cases h
    | val v H1 => rw [h1] at h; cases h
    | ok e1 fr1 H1 =>
      rw [h1] at h
      exact block_sem (hcodes n (Nat.le_refl _) _ _ _ _ _ _ h1) h
  | loop b =>
    intro base sz S w0 r J ac w Q hok hst hS hQ
    exact wpIn_loop_rounds (n + 1) (rounds_sem (n + 1) (fun m hm => hcodes m (by omega) b) fr H e fr' H' h0 hok hst hS hQ)
  | rangeFunc g ps a b =>
    replace h : cRange K g ps a b (codeF P nG K a) (codeF P nG K b) (exec P nG K n) fr H = _ := h
    exact range_sem hbod h
theorem all_sem (hyp : Hyp P nG K) : ∀ n, (∀ m, m ≤ n → CodesOk P nG K m) ∧ CallsOk P nG K (n + 1) ∧ BodiesOk P nG K n
  | 0 => by
    refine ⟨fun m hm => ?_, fun k hk => ?_, fun f first cap args fr H v H' _ h => ?_⟩
    · obtain rfl : m = 0 := by omega
      exact fun c fr H e fr' H' h => by cases h
    · obtain rfl : k = 0 := by omega
      exact fun f args fr H v H' h => by cases h
    · cases h
  | n + 1 => by
    obtain ⟨h1, h2, h3⟩ := all_sem hyp n
    have h4 := code_sem hyp h2 h1 h3
    refine ⟨fun m hm => ?_, fun k hk => ?_, fun f first cap args fr H v H' hK h => body_sem hyp.funcs (h1 n (Nat.le_refl _)) hK h⟩
    · rcases Nat.lt_or_ge n m with h | h
      · obtain rfl : m = n + 1 := by omega
        exact h4
      · exact h1 m h
    · rcases Nat.lt_or_ge n k with h | h
      · obtain rfl : k = n + 1 := by omega
        exact fun f args fr H v H' h => call_sem hyp (h1 n (Nat.le_refl _)) h
      · exact h2 k (by omega)
theorem run_call (hyp : Hyp P nG K) {n : Nat} {f : Value} {args : List Value} {fr : Fr} {H : AH} {v : Value} {H' : AH} (h : exec P nG K n (.call f args) fr H = .val v H') : CallSem P nG f args H v H' :=
  (all_sem hyp n).2.1 n (by omega) f args fr H v H' h
end Go.Proofs.YthlfhfliidhelaaGreatDoor.Eng
namespace Go.Proofs.YthlfhfliidhelaaGreatDoor.Eng
open Go.RowKit
variable {P : Program} {nG : Nat} {K : Known}
noncomputable def putAll (l : List (Nat × AO)) (H : AH) : AH := List.rec H (fun p _ ih => ih.put p.1 (some p.2)) l
noncomputable def dropAll (l : List (Nat × AO)) (H : AH) : AH := List.rec H (fun p _ ih => ih.put p.1 none) l
noncomputable def mkH (nx : Nat) (l : List (Nat × AO)) : AH := putAll l ⟨nx, m8⟩
def okNames (n : Nat) (l : List (Nat × AO)) : Bool := l.all fun p => Nat.ble (p.1 + 1) n
theorem okNames_lt {n : Nat} {l : List (Nat × AO)} (h : okNames n l = true) : ∀ p ∈ l, p.1 < n := fun p hp => by
  have := (List.all_eq_true.1 h) p hp
  rw [Nat.ble_eq] at this; exact this
theorem putAll_next : ∀ (l : List (Nat × AO)) (H : AH), (putAll l H).next = H.next
  | [], _ => rfl
  | _ :: l, H => putAll_next l H
theorem putAll_get : ∀ {l : List (Nat × AO)} (H : AH), (∀ p ∈ l, p.1 < 262144) → ∀ b, b < 262144 → (∃ o, (b, o) ∈ l ∧ (putAll l H).get b = some o) ∨ ((∀ o, (b, o) ∉ l) ∧ (putAll l H).get b = H.get b)
  | [], H, _, b, _ => .inr ⟨by simp, rfl⟩
  | p :: l, H, h, b, hb => by
    have e : (putAll (p :: l) H).get b = if b = p.1 then some p.2 else (putAll l H).get b := AH.get_put _ _ (h p (by simp)) hb
    by_cases h1 : b = p.1
    · subst h1
      exact .inl ⟨p.2, by simp, by rw [e, if_pos rfl]⟩
    · rw [e, if_neg h1]
      rcases putAll_get (l := l) H (fun q hq => h q (by simp [hq])) b hb with ⟨o, h2, h3⟩ | ⟨h2, h3⟩
      · exact .inl ⟨o, by simp [h2], h3⟩
      · refine .inr ⟨fun o ho => ?_, h3⟩
        rcases List.mem_cons.1 ho with h4 | h4
        · exact h1 (by rw [← h4])
        · exact h2 o h4
theorem dropAll_get : ∀ {l : List (Nat × AO)} (H : AH), (∀ p ∈ l, p.1 < 262144) → ∀ b, b < 262144 → ((∃ o, (b, o) ∈ l) ∧ (dropAll l H).get b = none) ∨ ((∀ o, (b, o) ∉ l) ∧ (dropAll l H).get b = H.get b)
  | [], H, _, b, _ => .inr ⟨by simp, rfl⟩
  | p :: l, H, h, b, hb => by
    have e : (dropAll (p :: l) H).get b = if b = p.1 then none else (dropAll l H).get b := AH.get_put _ _ (h p (by simp)) hb
    by_cases h1 : b = p.1
    · subst h1
      exact .inl ⟨⟨p.2, by simp⟩, by rw [e, if_pos rfl]⟩
    · rw [e, if_neg h1]
      rcases dropAll_get (l := l) H (fun q hq => h q (by simp [hq])) b hb with ⟨⟨o, h2⟩, h3⟩ | ⟨h2, h3⟩
      · exact .inl ⟨⟨o, by simp [h2]⟩, h3⟩
      · refine .inr ⟨fun o ho => ?_, h3⟩
        rcases List.mem_cons.1 ho with h4 | h4
        · exact h1 (by rw [← h4])
        · exact h2 o h4
theorem WR.sub {base : Nat} {w0 : World} {J : Inj} {H H1 : AH} {w : World} (h : WR P nG base w0 J H w) (hn : H1.next = H.next) (hs : ∀ b, b < 262144 → H1.get b = none ∨ H1.get b = H.get b) : WR P nG base w0 J H1 w := by
  have hl : ∀ b x, J b = some x → (H1.get b).isSome = true → H1.get b = H.get b := fun b x hx hb => by
    rcases hs b (h.small hx) with h1 | h1
    · rw [h1] at hb; cases hb
    · exact h1
  refine ⟨h.glob, by rw [hn]; exact h.ids, h.lt, fun b b' x x' l l' j j' => h.inj b b' x x' (by rw [← hl b x j l]; exact l) (by rw [← hl b' x' j' l']; exact l') j j', fun b o x hg hj => h.obj b o x (by rw [← hl b x hj (by rw [hg]; rfl)]; exact hg) hj, h.own, h.sep, by rw [hn]; exact h.nx, by rw [hn]; exact h.top, h.room, fun b h1 h2 => ?_, h.below⟩
  rcases hs b h2 with h3 | h3
  · exact h3
  · rw [h3]; exact h.clean b (by rw [← hn]; exact h1) h2
structure Memo where
  args : List Value
  nx : Nat
  li : List (Nat × AO)
  v : Value
  nx' : Nat
  lo : List (Nat × AO)
noncomputable def getsL (H : AH) : List Nat → List (Option AO) := List.rec [] (fun b _ ih => H.get b :: ih)
noncomputable def view (bs : List Nat) (r : Rs) : Option (Value × Nat × List (Option AO)) := match r with
  | .val v H => some (v, H.next, getsL H bs)
  | _ => none
def namesL (l : List (Nat × AO)) : List Nat := List.map (·.1) l
def objsL (l : List (Nat × AO)) : List (Option AO) := List.map (fun p => some p.2) l
structure Memo.Ok (P : Program) (nG : Nat) (K : Known) (f : Nat) (m : Memo) : Prop where
  run : ∃ n, view (namesL m.lo) (exec P nG K n (.call (.func (.func f) #[] #[]) m.args) fr0 (mkH m.nx m.li)) = some (m.v, m.nx', objsL m.lo)
  names : ((okNames m.nx m.li && okNames m.nx' m.lo) && (Nat.ble m.nx m.nx' && Nat.ble m.nx' 262144)) = true
noncomputable def sameE : List (Value × Value) → List (Value × Value) → Bool := List.rec (List.rec true (fun _ _ _ => false)) (fun p _ ih l => List.rec false (fun q l _ => (sameV p.1 q.1 && sameV p.2 q.2) && ih l) l)
noncomputable def sameA2 : List Value → List Value → Bool := List.rec (List.rec true (fun _ _ _ => false)) (fun v _ ih l => List.rec false (fun u l _ => Bool.rec false (ih l) (sameV v u)) l)
noncomputable def sameO (a : AO) (b : Option AO) : Bool := match a, b with
  | .cells cs e, some (.cells cs' e') => Nat.beq e e' && sameA2 cs cs'
  | .map es, some (.map es') => sameE es es'
  | _, _ => false
noncomputable def shows (H : AH) : List (Nat × AO) → Bool := List.rec true (fun p _ ih => Bool.rec false ih (sameO p.2 (H.get p.1)))
noncomputable def Memo.fits (m : Memo) (args : List Value) (H : AH) : Bool := Bool.rec false (Bool.rec false (shows H m.li) (sameA2 m.args args)) (Nat.beq H.next m.nx)
noncomputable def Memo.out (m : Memo) (H : AH) : AH := ⟨m.nx', (putAll m.lo (dropAll m.li H)).objs⟩
noncomputable def askM (ms : List Memo) (args : List Value) (H : AH) : RO := List.rec .bad (fun m _ ih => Bool.rec ih (.ok m.v (m.out H)) (m.fits args H)) ms
theorem sameE_eq : ∀ {l r : List (Value × Value)}, sameE l r = true → r = l
  | [], [], _ => rfl
  | [], _ :: _, h => by cases h
  | _ :: _, [], h => by cases h
  | (k, v) :: l, (k', v') :: r, h => by
    replace h : ((sameV k k' && sameV v v') && sameE l r) = true := h
    simp only [Bool.and_eq_true] at h
    rw [sameV_eq h.1.1, sameV_eq h.1.2, sameE_eq h.2]
theorem sameA2_eq : ∀ {l r : List Value}, sameA2 l r = true → r = l
  | [], [], _ => rfl
  | [], _ :: _, h => by cases h
  | _ :: _, [], h => by cases h
  | v :: l, u :: r, h => by
    replace h : (Bool.rec false (sameA2 l r) (sameV v u) : Bool) = true := h
    cases h1 : sameV v u with
    | false => rw [h1] at h; cases h
    | true => rw [h1] at h; rw [sameV_eq h1, sameA2_eq h]
theorem sameO_eq {a : AO} {b : Option AO} (h : sameO a b = true) : b = some a := by
  unfold sameO at h
  split at h
  · rw [Bool.and_eq_true, Nat.beq_eq] at h
    rw [h.1, sameA2_eq h.2]
  · rw [sameE_eq h]
  · cases h
theorem shows_get {H : AH} : ∀ {l : List (Nat × AO)}, shows H l = true → ∀ p ∈ l, H.get p.1 = some p.2
  | [], _, p, hp => by cases hp
  | q :: l, h, p, hp => by
    replace h : (Bool.rec false (shows H l) (sameO q.2 (H.get q.1)) : Bool) = true := h
    cases h1 : sameO q.2 (H.get q.1) with
    | false => rw [h1] at h; cases h
    | true =>
      rw [h1] at h
      rcases List.mem_cons.1 hp with rfl | hp
      · exact sameO_eq h1
      · exact shows_get h p hp
theorem gets_mem {H : AH} : ∀ {l : List (Nat × AO)}, getsL H (namesL l) = objsL l → ∀ p ∈ l, H.get p.1 = some p.2
  | [], _, p, hp => by cases hp
  | q :: l, h, p, hp => by
    replace h : H.get q.1 :: getsL H (namesL l) = some q.2 :: objsL l := h
    injection h with h1 h2
    rcases List.mem_cons.1 hp with rfl | hp
    · exact h1
    · exact gets_mem h2 p hp
theorem m8_none (n b : Nat) : (⟨n, m8⟩ : AH).get b = none := m8_get b
theorem Memo.Ok.sound (hyp : Hyp P nG K) {f : Nat} {m : Memo} (ok : m.Ok P nG K f) {args : List Value} {H : AH} (hf : m.fits args H = true) : CallSem P nG (.func (.func f) #[] #[]) args H m.v (m.out H) := by
  obtain ⟨⟨n, hn⟩, hnm⟩ := ok
  rw [Bool.and_eq_true, Bool.and_eq_true, Bool.and_eq_true, Nat.ble_eq, Nat.ble_eq] at hnm
  obtain ⟨⟨a1, a2⟩, a3, a4⟩ := hnm
  have hli := okNames_lt a1
  have hlo := okNames_lt a2
  unfold Memo.fits at hf
  cases e1 : Nat.beq H.next m.nx with
  | false => rw [e1] at hf; cases hf
  | true =>
  rw [e1] at hf
  dsimp only at hf
  cases e2 : sameA2 m.args args with
  | false => rw [e2] at hf; cases hf
  | true =>
  rw [e2] at hf
  rw [Nat.beq_eq] at e1
  have e3 := sameA2_eq e2
  subst e3
  have hsh := shows_get hf
  unfold view at hn
  split at hn <;> first | (cases hn; done) | skip
  rename_i v Hx hx
  injection hn with hn; injection hn with hv hn; injection hn with hnx hg
  subst hv
  have hgo := gets_mem hg
  have hcs := run_call hyp hx
  intro base w0 J w f' args' hf' hargs hw
  have hmk : ∀ b, b < 262144 → (∃ o, (b, o) ∈ m.li ∧ (mkH m.nx m.li).get b = some o) ∨ ((∀ o, (b, o) ∉ m.li) ∧ (mkH m.nx m.li).get b = none) := fun b hb => by
    rcases putAll_get ⟨m.nx, m8⟩ (fun p hp => by have := hli p hp; omega) b hb with h | ⟨h1, h2⟩
    · exact .inl h
    · exact .inr ⟨h1, by rw [m8_none] at h2; exact h2⟩
  have hmn : (mkH m.nx m.li).next = m.nx := putAll_next _ _
  have hsub : ∀ b, b < 262144 → (mkH m.nx m.li).get b = none ∨ (mkH m.nx m.li).get b = H.get b := fun b hb => by
    rcases hmk b hb with ⟨o, h1, h2⟩ | ⟨_, h2⟩
    · exact .inr (by rw [h2]; exact (hsh _ h1).symm)
    · exact .inl h2
  have hw1 := hw.sub (by rw [hmn, e1]) hsub
  have ho6 : ∀ p ∈ m.lo, p.1 < 262144 := fun p hp => by have := hlo p hp; omega
  have hout : ∀ b, b < 262144 → (∃ o, (b, o) ∈ m.lo ∧ (m.out H).get b = some o ∧ Hx.get b = some o) ∨ ((m.out H).get b = none) ∨ ((∀ o, (b, o) ∉ m.li) ∧ (m.out H).get b = H.get b) := fun b hb => by
    have e : (m.out H).get b = (putAll m.lo (dropAll m.li H)).get b := rfl
    rcases putAll_get (dropAll m.li H) ho6 b hb with ⟨o, h1, h2⟩ | ⟨_, h2⟩
    · exact .inl ⟨o, h1, by rw [e]; exact h2, hgo _ h1⟩
    · rcases dropAll_get H (fun p hp => by have := hli p hp; omega) b hb with ⟨_, h4⟩ | ⟨h3, h4⟩
      · exact .inr (.inl (by rw [e, h2, h4]))
      · exact .inr (.inr ⟨h3, by rw [e, h2, h4]⟩)
  have fin : ∀ (J' : Inj) (w' : World), WR P nG base w0 J' Hx w' → Ev (mkH m.nx m.li).next J (mkH m.nx m.li) w J' Hx w' → WR P nG base w0 J' (m.out H) w' ∧ Ev H.next J H w J' (m.out H) w' := fun J' w' k1 k2 => by
    rw [hmn.trans e1.symm] at k2
    have hlive1 : ∀ b x, J b = some x → ((mkH m.nx m.li).get b).isSome = true → (H.get b).isSome = true := fun b x hx hl => by
      rcases hsub b (hw.small hx) with h | h
      · rw [h] at hl; cases hl
      · rw [← h]; exact hl
    have hold : ∀ b x, J' b = some x → (∀ o, (b, o) ∉ m.li) → (H.get b).isSome = true → b < 262144 → J b = some x ∧ w'.heap[x.B]? = w.heap[x.B]? ∧ ∀ b1 x1, (Hx.get b1).isSome = true → J' b1 = some x1 → x1.B ≠ x.B := fun b x hx hni hl hb => by
      have hlt := hw.bigger hl hb
      have hJ : J b = some x := by
        cases hj : J b with
        | some y => rw [← hx]; exact (k2.ext _ _ hj).symm
        | none => have := k2.fresh b x hj hx; omega
      have hap : ∀ b1 x1, ((mkH m.nx m.li).get b1).isSome = true → J b1 = some x1 → x1.B ≠ x.B := fun b1 x1 hl1 hj1 he => by
        have := hw.inj b1 b x1 x (hlive1 b1 x1 hj1 hl1) hl hj1 hJ he
        subst this
        rcases hmk b1 hb with ⟨o, h1, _⟩ | ⟨_, h2⟩
        · exact hni o h1
        · rw [h2] at hl1; cases hl1
      obtain ⟨q1, q2⟩ := k2.apart hw.ids (hw.lt b x hJ) hap
      exact ⟨hJ, q1, q2⟩
    have hcase : ∀ b x, J' b = some x → ((m.out H).get b).isSome = true → ((Hx.get b).isSome = true ∧ (m.out H).get b = Hx.get b) ∨ ((∀ o, (b, o) ∉ m.li) ∧ (m.out H).get b = H.get b ∧ (H.get b).isSome = true) := fun b x hx hl => by
      rcases hout b (k1.small hx) with ⟨o, _, h2, h3⟩ | h2 | ⟨h2, h3⟩
      · exact .inl ⟨by rw [h3]; rfl, by rw [h2, h3]⟩
      · rw [h2] at hl; cases hl
      · exact .inr ⟨h2, h3, by rw [← h3]; exact hl⟩
    refine ⟨⟨k1.glob, fun b x hx => ?_, k1.lt, ?_, ?_, k1.own, k1.sep, ?_, a4, k1.room, ?_, k1.below⟩, ⟨k2.ext, k2.fresh, ?_, ?_, ?_, k2.size, ?_⟩⟩
    · have := k1.ids b x hx; rw [hnx] at this; exact this
    · intro b b' x x' l l' j j' he
      rcases hcase b x j l with ⟨h1, _⟩ | ⟨h1, _, h2⟩ <;> rcases hcase b' x' j' l' with ⟨h1', _⟩ | ⟨h1', _, h2'⟩
      · exact k1.inj b b' x x' h1 h1' j j' he
      · obtain ⟨_, _, q⟩ := hold b' x' j' h1' h2' (k1.small j')
        exact absurd he (q b x h1 j)
      · obtain ⟨_, _, q⟩ := hold b x j h1 h2 (k1.small j)
        exact absurd he.symm (q b' x' h1' j')
      · obtain ⟨q, _⟩ := hold b x j h1 h2 (k1.small j)
        obtain ⟨q', _⟩ := hold b' x' j' h1' h2' (k1.small j')
        exact hw.inj b b' x x' h2 h2' q q' he
    · intro b o x hg hj
      rcases hcase b x hj (by rw [hg]; rfl) with ⟨_, h2⟩ | ⟨h1, h2, h3⟩
      · exact k1.obj b o x (by rw [← h2]; exact hg) hj
      · obtain ⟨q1, q2, _⟩ := hold b x hj h1 h3 (k1.small hj)
        exact (hw.obj b o x (by rw [← h2]; exact hg) q1).of_heap k2.ext q2
    · have := hw.nx
      show nG ≤ m.nx'
      omega
    · intro b h1 h2
      have h1 : m.nx' ≤ b := h1
      rcases hout b h2 with ⟨o, h3, _, _⟩ | h3 | ⟨_, h3⟩
      · have := hlo _ h3; simp only at this; omega
      · exact h3
      · rw [h3]; exact hw.clean b (by omega) h2
    · show H.next ≤ m.nx'
      omega
    · intro B hB hnt
      exact k2.frame B hB fun b x hl hx => hnt b x (hlive1 b x hx hl) hx
    · intro b x h1 h2
      rcases k2.newB b x h1 h2 with h | ⟨b0, x0, q1, q2, q3⟩
      · exact .inl h
      · exact .inr ⟨b0, x0, hlive1 b0 x0 q2 q1, q2, q3⟩
    · intro b hb hl
      have hb6 : b < 262144 := by omega
      rcases hout b hb6 with ⟨o, _, h2, h3⟩ | h2 | ⟨_, h3⟩
      · have := k2.live b hb (by rw [h3]; rfl)
        rcases hsub b hb6 with h | h
        · rw [h] at this; cases this
        · rw [← h]; exact this
      · rw [h2] at hl; cases hl
      · rw [← h3]; exact hl
  have hc := hcs base w0 J w f' args' hf' hargs hw1
  rcases hc with ⟨g, as, h1, h2⟩ | ⟨l, g, tm, c1, c2, h1, h2⟩ | ⟨v', w', h1, J', h2, h3, h4⟩
  · exact .inl ⟨g, as, h1, CallsIn.mono h2 fun e w' ⟨v', he, J', p1, p2, p3⟩ => by
      obtain ⟨q1, q2⟩ := fin J' w' p2 p3
      exact ⟨v', he, J', p1, q1, q2⟩⟩
  · exact .inr (.inl ⟨l, g, tm, c1, c2, h1, RoundIn.mono h2 fun e w' ⟨v', he, J', p1, p2, p3⟩ => by
      obtain ⟨q1, q2⟩ := fin J' w' p2 p3
      exact ⟨v', he, J', p1, q1, q2⟩⟩)
  · obtain ⟨q1, q2⟩ := fin J' w' h3 h4
    exact .inr (.inr ⟨v', w', h1, J', h2, q1, q2⟩)
noncomputable def withM (K : Known) (f : Nat) (ms : List Memo) : Known := fun g => Bool.rec (K g) (some (askM ms)) (Nat.beq g f)
theorem askM_some {ms : List Memo} {args : List Value} {H : AH} {v : Value} {H' : AH} (h : askM ms args H = .ok v H') : ∃ m ∈ ms, m.fits args H = true ∧ v = m.v ∧ H' = m.out H := by
  induction ms with
  | nil => cases h
  | cons m ms ih =>
    replace h : (Bool.rec (askM ms args H) (.ok m.v (m.out H)) (m.fits args H) : RO) = _ := h
    cases hf : m.fits args H with
    | true =>
      rw [hf] at h
      injection h with h1 h2
      exact ⟨m, by simp, hf, h1.symm, h2.symm⟩
    | false =>
      rw [hf] at h
      obtain ⟨m', h1, h2⟩ := ih h
      exact ⟨m', by simp [h1], h2⟩
theorem Hyp.withM (hyp : Hyp P nG K) {K' : Known} (hyp' : Hyp P nG K') {f : Nat} {ms : List Memo} (ok : ∀ m ∈ ms, m.Ok P nG K f) (hf : ∃ fn c, P.funcs[f]? = some fn ∧ fn.body = some c ∧ (fn.name == "runtime.NumGoroutine") = false) : Hyp P nG (Eng.withM K' f ms) where
  mixed := hyp.mixed
  funcs := fun g fn hg => by
    unfold Eng.withM at hg
    cases h : Nat.beq g f with
    | true => rw [h] at hg; cases hg
    | false => rw [h] at hg; exact hyp'.funcs g fn hg
  known := fun g h hg => by
    unfold Eng.withM at hg
    cases hb : Nat.beq g f with
    | false => rw [hb] at hg; exact hyp'.known g h hg
    | true =>
      rw [hb] at hg
      rw [Nat.beq_eq] at hb
      subst hb
      obtain rfl := Option.some.inj hg
      intro args H v H' hr base w0 J w args' hargs hw
      obtain ⟨m, h1, h2, rfl, rfl⟩ := askM_some hr
      have hc := (ok m h1).sound hyp h2 base w0 J w (.func (.func g) #[] #[]) args' (.func g [] [] [] [] .nil .nil) hargs hw
      obtain ⟨fn, c, b1, b2, b3⟩ := hf
      have e : Callee (.func (.func g) #[] #[]) ⟨args'⟩ = callFunc g ⟨args'⟩ := by
        have := callee_func (f := g) (fs := []) (cs := []) (args := args')
        simpa using this
      unfold CallV at hc
      rw [e] at hc
      have hen := call_enter b1 b2 b3 (⟨args'⟩ : Array Value) w
      rcases hc with ⟨g', as, q1, q2⟩ | ⟨l, g', tm, c1, c2, q1, q2⟩ | ⟨v', w', q1, q2⟩
      · rw [hen] at q1
        injection q1 with q1 _
        injection q1 with q1 q3
        subst q1 q3
        exact .inl ⟨_, hen, q2⟩
      · rw [hen] at q1
        injection q1 with q1 _
        cases q1
      · rw [hen] at q1
        injection q1 with q1 _
        cases q1
end Go.Proofs.YthlfhfliidhelaaGreatDoor.Eng
namespace Go.Proofs.YthlfhfliidhelaaGreatDoor.Eng
open Go.RowKit
variable {P : Program} {nG base : Nat} {w0 : World}
theorem WR.again {J : Inj} {H : AH} {w w' : World} (h : WR P nG base w0 J H w) (hr : H.next + 1 ≤ 262144) {e : TypeId} {b p k c' m : Nat} {x : Tg} {cs0 : List Value} (hb : H.get b = some (.cells cs0 e)) (hJ : J b = some x) (hnb : nG ≤ b) (h1 : 0 < x.s)
    (hp : p = k * x.s) (hC : c' + k = x.C) {c2 : Array Value} {fz : Nat × Nat} (hw : w'.heap[x.B]? = some (.cells c2 e fz)) (hfz : FZ fz c2.size x.s) (hsame : ∀ B, B ≠ x.B → w'.heap[B]? = w.heap[B]?) (hsz : w'.heap.size = w.heap.size) (hbel : Below base w0 w')
    (hinfo : (P.info? e).map (·.size) = some x.s) (hroom : x.d + x.C * x.s ≤ c2.size) (hmod : x.d % x.s = 0) {new news : List Value} (hn : VRs J new news) (hcells : ∀ (i : Nat) (v : Value), news[i]? = some v → c2[x.d + p + i]? = some v) (hm : m ≤ c') (hml : m < big) :
    ∃ J' : Inj, VR J' (.slice (some ⟨H.next, 0, none⟩) m (unk x.s m)) (.slice (some ⟨x.B, x.d + p, none⟩) m c') ∧ WR P nG base w0 J' ((H.put b none).new (.cells new e)) w' ∧ Ev H.next J H w J' ((H.put b none).new (.cells new e)) w' := by
  have hb6 := h.small hJ
  have hB := h.own b x hJ hnb
  have hf := h.fresh
  have hd := (h.drop hb6).skip (m := 1) (by simpa using hr)
  have hle' := Inj.le_add (x := (⟨x.B, x.d + p, x.s, c'⟩ : Tg)) hf
  have hlt := h.lt b x hJ
  refine ⟨J.add H.next ⟨x.B, x.d + p, x.s, c'⟩, ?_, ?_, ?_⟩
  · exact .slice H.next 0 _ _ (x.d + p) _ ⟨x.B, x.d + p, x.s, c'⟩ (Inj.add_same _ _ _) hm (.inl rfl) (.inr ⟨m, 0, rfl, hml, h1, hm, by simp, rfl⟩)
  · rw [AH.new_eq]
    refine hd.place (b := H.next) hf (by simp) (.cells new e) ⟨x.B, x.d + p, x.s, c'⟩ (by rw [hsz]; exact Nat.le_refl _) (by rw [hsz]; exact hlt) hB hbel (fun q _ hq => hsame q hq) ?_ ?_
    · intro b2 y hl2 hj2 he
      have hb2 := h.small hj2
      rw [AH.get_skip, AH.get_put H _ hb6 hb2] at hl2
      split at hl2
      · cases hl2
      · rename_i hne
        exact hne (h.inj b2 b y x hl2 (by rw [hb]; rfl) hj2 hJ he)
    · refine ⟨c2, fz, hw, hfz, fun i v hi => ?_, fun _ => ⟨hinfo, ?_⟩, by show (x.d + p) % x.s = 0; rw [hp, Nat.add_mul_mod_self_right]; exact hmod⟩
      · obtain ⟨v', b1, b2⟩ := hn.get hi
        exact ⟨v', hcells i v' b1, b2.mono hle'⟩
      · show x.d + p + c' * x.s ≤ c2.size
        have : (k + c') * x.s = x.C * x.s := by rw [← hC, Nat.add_comm]
        rw [Nat.add_mul] at this
        omega
  · refine ⟨hle', fun b2 y hn2 hy => ?_, Nat.le_succ _, fun B hB2 hnot => hsame B (fun e2 => hnot b x (by rw [hb]; rfl) hJ e2.symm), fun b2 y hn2 hy => ?_, by rw [hsz]; exact Nat.le_refl _, fun b2 hb2 hl2 => ?_⟩
    · rcases Inj.add_inv hy with ⟨rfl, _⟩ | ⟨_, hy⟩
      · exact Nat.le_refl _
      · rw [hn2] at hy; cases hy
    · rcases Inj.add_inv hy with ⟨_, rfl⟩ | ⟨_, hy⟩
      · exact .inr ⟨b, x, by rw [hb]; rfl, hJ, rfl⟩
      · rw [hn2] at hy; cases hy
    · have := h.top
      rw [AH.get_new _ _ (by simp; omega) (by omega), if_neg (by simp; omega), AH.get_put H _ hb6 (by omega)] at hl2
      split at hl2
      · cases hl2
      · exact hl2
theorem WR.anew {J : Inj} {H : AH} {w w' : World} (h : WR P nG base w0 J H w) (hr : H.next + 1 ≤ 262144) {e : TypeId} {b c' m s : Nat} (hb6 : b < 262144) (h1 : 0 < s) {c2 : Array Value} (hw : w'.heap[w.heap.size]? = some (.cells c2 e (0, 0)))
    (hsame : ∀ B, B < w.heap.size → w'.heap[B]? = w.heap[B]?) (hsz : w'.heap.size = w.heap.size + 1) (hbel : Below base w0 w') (hinfo : (P.info? e).map (·.size) = some s) (hroom : c' * s ≤ c2.size)
    {new news : List Value} (hn : VRs J new news) (hcells : ∀ (i : Nat) (v : Value), news[i]? = some v → c2[i]? = some v) (hm : m ≤ c') (hml : m < big) :
    ∃ J' : Inj, VR J' (.slice (some ⟨H.next, 0, none⟩) m (unk s m)) (.slice (some ⟨w.heap.size, 0, none⟩) m c') ∧ WR P nG base w0 J' ((H.put b none).new (.cells new e)) w' ∧ Ev H.next J H w J' ((H.put b none).new (.cells new e)) w' := by
  have hd := (h.drop hb6).skip (m := 1) (by simpa using hr)
  have hf := h.fresh
  have hle' := Inj.le_add (x := (⟨w.heap.size, 0, s, c'⟩ : Tg)) hf
  refine ⟨J.add H.next ⟨w.heap.size, 0, s, c'⟩, ?_, ?_, ?_⟩
  · exact .slice H.next 0 _ _ 0 _ ⟨w.heap.size, 0, s, c'⟩ (Inj.add_same _ _ _) hm (.inl rfl) (.inr ⟨m, 0, rfl, hml, h1, hm, by simp, rfl⟩)
  · rw [AH.new_eq]
    refine hd.place (b := H.next) hf (by simp) (.cells new e) ⟨w.heap.size, 0, s, c'⟩ (by omega) (by show w.heap.size < _; omega) h.room hbel (fun q hq _ => hsame q hq) ?_ ?_
    · intro b2 y _ hj2
      have := h.lt b2 y hj2
      show y.B ≠ w.heap.size
      omega
    · refine ⟨c2, (0, 0), hw, .inl (Nat.le_refl _), fun i v hi => ?_, fun _ => ⟨hinfo, by show 0 + c' * s ≤ _; omega⟩, Nat.zero_mod _⟩
      obtain ⟨v', b1, b2⟩ := hn.get hi
      exact ⟨v', by show c2[0 + i]? = _; rw [Nat.zero_add]; exact hcells i v' b1, b2.mono hle'⟩
  · refine ⟨hle', fun b2 y hn2 hy => ?_, Nat.le_succ _, fun B hB2 _ => hsame B hB2, fun b2 y hn2 hy => ?_, by omega, fun b2 hb2 hl2 => ?_⟩
    · rcases Inj.add_inv hy with ⟨rfl, _⟩ | ⟨_, hy⟩
      · exact Nat.le_refl _
      · rw [hn2] at hy; cases hy
    · rcases Inj.add_inv hy with ⟨_, rfl⟩ | ⟨_, hy⟩
      · exact .inl (Nat.le_refl _)
      · rw [hn2] at hy; cases hy
    · have := h.top
      rw [AH.get_new _ _ (by simp; omega) (by omega), if_neg (by simp; omega), AH.get_put H _ hb6 (by omega)] at hl2
      split at hl2
      · cases hl2
      · exact hl2
noncomputable def insertOk (nG e size i n c b b2 m : Nat) (old new : List Value) (H : AH) : Bool :=
  Nat.beq m 1 && (Nat.ble (i + 1) n && (Nat.ble n 900000 && (Nat.ble big c && (Nat.beq (stride c) size && (Nat.ble nG b && (!Nat.beq b b2 && (H.room && (Nat.ble 1 size && (allOne old && (allOne new && aoCells (H.get b) (fun _ e' => Nat.beq e e') false))))))))))
noncomputable def insertV (nG e size : Nat) (args : List Value) (H : AH) : RO := match args with
  | [.slice base n c, .int .i64 (.ofNat i), .slice base2 m c2] => match Nat.beq i n with
    | true => match Nat.ble n 900000 && Nat.beq m 1 with
      | true => appV nG e size (.slice base n c) (.slice base2 m c2) H
      | false => .bad
    | false => match base, base2 with
      | some ⟨b, p, none⟩, some ⟨b2, p2, none⟩ => match cellsAt H b p (Nat.mul n size), cellsAt H b2 p2 size with
        | some old, some new => match insertOk nG e size i n c b b2 m old new H with
          | true => .ok (.slice (some ⟨H.next, 0, none⟩) (Nat.succ n) (unk size (Nat.succ n))) ((H.put b none).new (.cells (appL (takeL (Nat.mul i size) old) (appL new (dropL (Nat.mul i size) old))) e))
          | false => .bad
        | _, _ => .bad
      | _, _ => .bad
  | _ => .bad
end Go.Proofs.YthlfhfliidhelaaGreatDoor.Eng
namespace Go.Proofs.YthlfhfliidhelaaGreatDoor.Eng
open Go.RowKit
def InsPlace (P : Program) (f size : Nat) : Prop := ∀ (B o B2 o2 n i c c2 : Nat) (old new : List Value) (w : World), i < n → n + 1 ≤ c → n ≤ 140737488355328 → B2 ≠ B → old.length = n * size → new.length = size →
  (∀ (t : Nat) (v : Value), old[t]? = some v → w.cell? ⟨B, o + t, none⟩ = some v) → (∀ (t : Nat) (v : Value), new[t]? = some v → w.cell? ⟨B2, o2 + t, none⟩ = some v) → (∀ v ∈ old, v.oneCell' = true) → (∀ v ∈ new, v.oneCell' = true) →
  ∀ {csB : Array Value} {tB : TypeId} {fB : Nat × Nat}, w.heap[B]? = some (.cells csB tB fB) → fB.2 ≤ fB.1 → (∀ t, t < (n + 1) * size → (w.cell? ⟨B, o + t, none⟩).isSome = true ∧ w.frozen? ⟨B, o + t, none⟩ = false) →
  Calls P f #[.slice (some ⟨B, o, none⟩) n c, .int .i64 i, .slice (some ⟨B2, o2, none⟩) 1 c2] w fun e w' => e = .returned (.slice (some ⟨B, o, none⟩) (n + 1) c) ∧ ∃ k, w' = ((w.drewN k).setCells B (o + (i + 1) * size) (old.drop (i * size))).setCells B (o + i * size) new
def InsGrow (P : Program) (f e size : Nat) : Prop := ∀ (B o B2 o2 n i c c2 : Nat) (old new : List Value) (w : World), i < n → n ≤ c → c < n + 1 → n + 1 ≤ 1000000 → old.length = n * size → new.length = size → B < w.heap.size → B2 < w.heap.size →
  (∀ (t : Nat) (v : Value), old[t]? = some v → w.cell? ⟨B, o + t, none⟩ = some v) → (∀ (t : Nat) (v : Value), new[t]? = some v → w.cell? ⟨B2, o2 + t, none⟩ = some v) → (∀ v ∈ old, v.oneCell' = true) → (∀ v ∈ new, v.oneCell' = true) →
  Calls P f #[.slice (some ⟨B, o, none⟩) n c, .int .i64 i, .slice (some ⟨B2, o2, none⟩) 1 c2] w fun r w' => ∃ (g : Nat), n + 1 ≤ g ∧ g ≤ maxLen ∧ ∃ (cs : Array Value), cs.size = g * size ∧ r = .returned (.slice (some ⟨w.heap.size, 0, none⟩) (n + 1) g) ∧
      (∀ (t : Nat) (v : Value), (old.take (i * size))[t]? = some v → cs[t]? = some v) ∧ w' = ((((w.drew.alloc (.cells cs e)).setCells w.heap.size (i * size) new).drew).setCells w.heap.size ((i + 1) * size) (old.drop (i * size)))
def InsEnd (P : Program) (f t : Nat) : Prop := ∀ (B o n c : Nat) (b2 : Option Addr) (c2 : Nat) (w : World), n ≤ c → n ≤ 140737488355328 → ∀ (v' : Value) (w' : World), (∀ ty, (Builtin.append_ #[t, t] ty #[.slice (some ⟨B, o, none⟩) n c, .slice b2 1 c2]).run P w = .ok v' w') →
  Calls P f #[.slice (some ⟨B, o, none⟩) n c, .int .i64 n, .slice b2 1 c2] w fun e w'' => e = .returned v' ∧ w'' = w'
def InsNil (P : Program) (f t : Nat) : Prop := ∀ (b2 : Option Addr) (c2 : Nat) (w : World) (v' : Value) (w' : World), (∀ ty, (Builtin.append_ #[t, t] ty #[.slice none 0 0, .slice b2 1 c2]).run P w = .ok v' w') →
  Calls P f #[.slice none 0 0, .int .i64 0, .slice b2 1 c2] w fun e w'' => e = .returned v' ∧ w'' = w'
variable {P : Program} {nG base : Nat} {w0 : World}
theorem addr_at (b o n : Nat) : (⟨b, o, none⟩ : Addr).add n = ⟨b, o + n, none⟩ := by
  unfold Addr.add; split <;> simp_all
theorem two_rows {w : World} {B q i n size : Nat} {e : TypeId} {fz : Nat × Nat} {c : Array Value} {olds news : List Value} (hw : w.heap[B]? = some (.cells c e fz)) (holen : olds.length = n * size) (hnlen : news.length = size) (hi : i ≤ n) (hroom : q + (n + 1) * size ≤ c.size)
    {w1 w2 : World} {d d1 : Nat} {l1 l2 : List Value} (hc : (l1 = olds.drop (i * size) ∧ d = (i + 1) * size ∧ l2 = news ∧ d1 = i * size) ∨ (l1 = news ∧ d = i * size ∧ l2 = olds.drop (i * size) ∧ d1 = (i + 1) * size))
    (h1 : w1.heap = (w.setCells B (q + d) l1).heap) (h2 : w2 = w1.setCells B (q + d1) l2) (hin : ∀ (t : Nat) (v : Value), (olds.take (i * size))[t]? = some v → c[q + t]? = some v) :
    ∃ c2, w2.heap[B]? = some (.cells c2 e fz) ∧ c2.size = c.size ∧ (∀ (t : Nat) (v : Value), (olds.take (i * size) ++ (news ++ olds.drop (i * size)))[t]? = some v → c2[q + t]? = some v) ∧ (∀ k, k ≠ B → w2.heap[k]? = w.heap[k]?) ∧ w2.heap.size = w.heap.size := by
  have e0 : (i + 1) * size = i * size + size := by rw [Nat.add_mul, Nat.one_mul]
  have e00 : (n + 1) * size = n * size + size := by rw [Nat.add_mul, Nat.one_mul]
  have e1 : i * size ≤ n * size := Nat.mul_le_mul_right _ hi
  have hd : (olds.drop (i * size)).length = n * size - i * size := by rw [List.length_drop, holen]
  have hb1 : q + d + l1.length ≤ c.size := by rcases hc with ⟨rfl, rfl, rfl, rfl⟩ | ⟨rfl, rfl, rfl, rfl⟩ <;> omega
  have hb2 : q + d1 + l2.length ≤ c.size := by rcases hc with ⟨rfl, rfl, rfl, rfl⟩ | ⟨rfl, rfl, rfl, rfl⟩ <;> omega
  obtain ⟨c1, g1, g2, g3, g4, g5, g6, -⟩ := setCells_heap l1 (q + d) w c hw hb1
  rw [← h1] at g1 g5 g6
  obtain ⟨c2, k1, k2, k3, k4, k5, k6, -⟩ := setCells_heap l2 (q + d1) w1 c1 g1 (by rw [g2]; exact hb2)
  rw [← h2] at k1 k5 k6
  have out1 : ∀ j, (j < q + d ∨ q + d + l1.length ≤ j) → c1[j]? = c[j]? := fun j hj => by
    have hx := World.cell?_setCells_out B l1 (q + d) w ⟨B, j, none⟩ (fun _ _ => hj)
    rw [World.cell_of hw] at hx
    have hy : (w.setCells B (q + d) l1).cell? ⟨B, j, none⟩ = c1[j]? := World.cell_of (by rw [← h1]; exact g1) j
    rw [← hy]; exact hx
  have out2 : ∀ j, (j < q + d1 ∨ q + d1 + l2.length ≤ j) → c2[j]? = c1[j]? := fun j hj => by
    have hx := World.cell?_setCells_out B l2 (q + d1) w1 ⟨B, j, none⟩ (fun _ _ => hj)
    rw [← h2, World.cell_of g1, World.cell_of k1] at hx
    exact hx
  have htl : (olds.take (i * size)).length = i * size := by rw [List.length_take, holen]; omega
  refine ⟨c2, k1, by rw [k2, g2], fun t v ht => ?_, fun k hk => by rw [k5 k hk, g5 k hk], by rw [k6, g6]⟩
  rw [List.getElem?_append] at ht
  split at ht
  · rename_i hlt
    rw [htl] at hlt
    rw [out2 _ (by rcases hc with ⟨rfl, rfl, rfl, rfl⟩ | ⟨rfl, rfl, rfl, rfl⟩ <;> omega), out1 _ (by rcases hc with ⟨rfl, rfl, rfl, rfl⟩ | ⟨rfl, rfl, rfl, rfl⟩ <;> omega)]
    exact hin t v ht
  · rename_i hge
    rw [htl] at hge ht
    rw [List.getElem?_append] at ht
    split at ht
    · rename_i hlt
      rw [hnlen] at hlt
      rcases hc with ⟨rfl, rfl, rfl, rfl⟩ | ⟨rfl, rfl, rfl, rfl⟩
      · have := k4 _ _ ht
        rw [show q + t = q + i * size + (t - i * size) by omega]; exact this
      · rw [out2 _ (by omega)]
        have := g4 _ _ ht
        rw [show q + t = q + i * size + (t - i * size) by omega]; exact this
    · rename_i hge2
      rw [hnlen] at hge2 ht
      rcases hc with ⟨rfl, rfl, rfl, rfl⟩ | ⟨rfl, rfl, rfl, rfl⟩
      · rw [out2 _ (by omega)]
        have := g4 _ _ ht
        rw [show q + t = q + (i + 1) * size + (t - i * size - size) by omega]; exact this
      · have := k4 _ _ ht
        rw [show q + t = q + (i + 1) * size + (t - i * size - size) by omega]; exact this
end Go.Proofs.YthlfhfliidhelaaGreatDoor.Eng
namespace Go.Proofs.YthlfhfliidhelaaGreatDoor.Eng
open Go.RowKit
variable {P : Program} {nG base : Nat} {w0 : World}
theorem VR.one_slice {J : Inj} {base2 : Option Addr} {c2 : Nat} {v' : Value} (h : VR J (.slice base2 1 c2) v') : ∃ b' c', v' = .slice b' 1 c' := by
  cases h with
  | slice b o _ _ o' c' x h1 h2 h3 h4 => exact ⟨_, _, rfl⟩
theorem VR.int_inv {J : Inj} {k : IntKind} {n : Int} {v' : Value} (h : VR J (.int k n) v') : v' = .int k n := by cases h; rfl
theorem VRs.three {J : Inj} {a b c : Value} {l : List Value} (h : VRs J [a, b, c] l) : ∃ a' b' c', l = [a', b', c'] ∧ VR J a a' ∧ VR J b b' ∧ VR J c c' := by
  cases h with
  | cons _ a' _ l1 h1 h => cases h with
    | cons _ b' _ l2 h2 h => cases h with
      | cons _ c' _ l3 h3 h => cases h with
        | nil => exact ⟨a', b', c', rfl, h1, h2, h3⟩
theorem below_rows {a : World} {n B : Nat} (hn : n ≤ B) : ∀ (vs : List Value) (o : Nat) (w : World), Below n a w → Below n a (w.setCells B o vs)
  | [], _, _, h => h
  | v :: vs, o, _w, h => below_rows hn vs (o + 1) _ (h.setCell (p := ⟨B, o, none⟩) hn v)
theorem below_drewN {a w : World} {n : Nat} (h : Below n a w) : ∀ k, Below n a (w.drewN k)
  | 0 => h
  | k + 1 => (below_drewN h k).drew
theorem append_ty {A : Array TypeId} {ty ty' : TypeId} {x : Array Value} {w : World} : (Builtin.append_ A ty x).run P w = (Builtin.append_ A ty' x).run P w := rfl
theorem insertOk_all {nG e size i n c b b2 m : Nat} {old new : List Value} {H : AH} (h : insertOk nG e size i n c b b2 m old new H = true) :
    m = 1 ∧ i + 1 ≤ n ∧ n ≤ 900000 ∧ big ≤ c ∧ stride c = size ∧ nG ≤ b ∧ b ≠ b2 ∧ H.next + 1 ≤ 262144 ∧ 1 ≤ size ∧ allOne old = true ∧ allOne new = true ∧ aoCells (H.get b) (fun _ e' => Nat.beq e e') false = true := by
  unfold insertOk AH.room at h
  simp only [Bool.and_eq_true, Nat.beq_eq, Nat.ble_eq, Bool.not_eq_true'] at h
  obtain ⟨h1, h2, h3, h4, h5, h6, h7, h8, h9, h10, h11, h12⟩ := h
  refine ⟨h1, h2, h3, h4, h5, h6, fun he => ?_, h8, h9, h10, h11, h12⟩
  rw [he, Nat.beq_refl] at h7; cases h7
theorem known_insert {f t e size : Nat} (hT : elemT P (some t) = some (e, size)) (hs1 : size ≠ 1) (hent : ∀ (args : Array Value) (w : World), (callFunc f args).run P w = .ok (.enter f args) w)
    (hplace : InsPlace P f size) (hgrow : InsGrow P f e size) (hend : InsEnd P f t) (hnil : InsNil P f t) : KnownOk P nG f (insertV nG e size) := by
  intro args H v H' hv base w0 J w args' hargs hw
  refine .inl ⟨_, hent _ _, callsIn_wide.2 ?_⟩
  obtain ⟨t', j, z, e0, ht, hj, hz, hjs, hzs, hby⟩ := elemT_some hT
  injection e0 with e0; subst e0
  unfold insertV at hv
  split at hv <;> first | (cases hv; done) | skip
  rename_i bs n c i bs2 m c2
  obtain ⟨s', i', x', rfl, hs, hi', hx⟩ := hargs.three
  obtain rfl := hi'.int_inv
  split at hv <;> first | (cases hv; done) | skip
  · -- at the end
    rename_i hin
    split at hv <;> first | (cases hv; done) | skip
    rename_i hcond
    rw [Nat.beq_eq] at hin
    rw [Bool.and_eq_true, Nat.ble_eq, Nat.beq_eq] at hcond
    obtain ⟨hn9, rfl⟩ := hcond
    subst hin
    obtain ⟨b2', c2', rfl⟩ := hx.one_slice
    obtain ⟨J', v', w', r1, r2, r3, r4⟩ := appV_sound (ts := [t, t]) (ty := 0) hw hT (by show srcOk P (some t) size _ = true; simp [srcOk, ht]) hv hs hx
    have hap : ∀ ty, (Builtin.append_ #[t, t] ty #[s', .slice b2' 1 c2']).run P w = .ok v' w' := fun ty => by rw [append_ty (ty' := 0)]; exact r2 #[t, t] rfl rfl
    cases hs with
    | snil => exact (hnil b2' c2' w v' w' hap).mono fun r w'' ⟨h1, h2⟩ => by subst h2; exact ⟨v', h1, J', r1, r3, r4⟩
    | slice b o _ _ o' c' x h1 h2 h3 h4 =>
      exact (hend x.B o' i c' b2' c2' w h2 (by omega) v' w' hap).mono fun r w'' ⟨h1, h2⟩ => by subst h2; exact ⟨v', h1, J', r1, r3, r4⟩
  · split at hv <;> first | (cases hv; done) | skip
    rename_i b p b2 p2
    split at hv <;> first | (cases hv; done) | skip
    rename_i old new ho hnw
    split at hv <;> first | (cases hv; done) | skip
    rename_i hok
    obtain ⟨rfl, hi, hn9, hbig, hstr, hnb, hbb, hroom, hsz1, hone, hone2, hel⟩ := insertOk_all hok
    obtain ⟨rfl, rfl⟩ : _ ∧ _ := by injection hv with h1 h2; exact ⟨h1, h2⟩
    have ho : cellsAt H b p (n * size) = some old := ho
    obtain ⟨o', c', x, hJ, rfl, hnc, ho', hcc⟩ := hs.slice_inv
    obtain ⟨o2', c2', x2, hJ2, rfl, hnc2, ho2', -⟩ := hx.slice_inv
    obtain rfl : o' = x.d + p := ho'.resolve_right (by omega)
    obtain rfl : o2' = x2.d + p2 := ho2'.resolve_right (by omega)
    obtain ⟨cs0, e1, hb, -, -, -⟩ := cellsAt_some ho
    obtain ⟨cs02, e12, hb2, -, -, -⟩ := cellsAt_some hnw
    obtain rfl : e = e1 := by
      rw [hb] at hel
      have hel : Nat.beq e e1 = true := hel
      rw [Nat.beq_eq] at hel; exact hel
    obtain ⟨olds, k1, k2, k3⟩ := hw.read ho hJ
    obtain ⟨news, l1, l2, l3⟩ := hw.read hnw hJ2
    simp only [addr_at] at k3 l3
    rcases hcc with ⟨hc, rfl⟩ | ⟨m0, k, rfl, hm0, hxs, hmc, hpk, hC⟩
    · omega
    rw [stride_unk hm0] at hstr
    subst hstr
    obtain ⟨cs', fz, a1, a2, a3, a4⟩ := hw.obj b _ x hb hJ
    obtain ⟨a6, a5⟩ := a4.1 (by omega)
    have hne : x2.B ≠ x.B := fun he => hbb (hw.inj b b2 x x2 (by rw [hb]; rfl) (by rw [hb2]; rfl) hJ hJ2 he.symm)
    have hfz : fz.2 ≤ fz.1 := a2.resolve_right (fun h => hs1 h.2)
    have hones := k1.ones (allOne_all hone)
    have hones2 := l1.ones (allOne_all hone2)
    have hrel : VRs J (old.take (i * x.s) ++ (new ++ old.drop (i * x.s))) (olds.take (i * x.s) ++ (news ++ olds.drop (i * x.s))) := (k1.take _).append (l1.append (k1.drop _))
    have hlt := hw.lt b x hJ
    have hlt2 := hw.lt b2 x2 hJ2
    have hB := hw.own b x hJ hnb
    have hbigl : n + 1 < big := Nat.lt_of_le_of_lt (show n + 1 ≤ 1000000 by omega) (by decide)
    have htk : ∀ (t : Nat) (v : Value), (olds.take (i * x.s))[t]? = some v → olds[t]? = some v := fun t v h => by
      rw [List.getElem?_take] at h
      split at h
      · exact h
      · cases h
    rw [appL_eq, appL_eq, takeL_eq, dropL_eq]
    rcases Nat.lt_or_ge c' (n + 1) with hlt1 | hge
    · -- a new row
      refine (hgrow x.B (x.d + p) x2.B (x2.d + p2) n i c' c2' olds news w (by omega) hnc hlt1 (by omega) k2 l2 hlt hlt2 k3 l3 hones hones2).mono ?_
      rintro r w' ⟨g, hg, -, cs, hcs, rfl, htake, rfl⟩
      obtain ⟨c3, q1, q2, q3, q4, q5⟩ := two_rows (w := w.drew.alloc (.cells cs e)) (B := w.heap.size) (q := 0) (i := i) (n := n) (size := x.s) (fz := (0, 0)) (olds := olds) (news := news) (heap_alloc_new w.drew _) k2 l2 (by omega)
        (by rw [hcs, Nat.zero_add]; exact Nat.mul_le_mul_right _ hg) (l1 := news) (l2 := olds.drop (i * x.s)) (d := i * x.s) (d1 := (i + 1) * x.s) (w1 := ((w.drew.alloc (.cells cs e)).setCells w.heap.size (i * x.s) news).drew) (.inr ⟨rfl, rfl, rfl, rfl⟩) (by rw [Nat.zero_add]; rfl) rfl (fun t v h => by rw [Nat.zero_add]; exact htake t v h)
      simp only [Nat.zero_add] at q1 q3 q4 q5
      obtain ⟨J', r1, r2, r3⟩ := hw.anew hroom (e := e) (b := b) (c' := g) (m := n + 1) (s := x.s) (hw.small hJ) hxs q1 (fun B hBl => by rw [q4 B (by omega)]; exact Below.heap_alloc w.drew _ B hBl)
        (by rw [q5]; simp) (below_rows hw.room _ _ _ (below_rows hw.room _ _ _ (hw.below.drew.alloc hw.room _)).drew) a6 (by rw [q2, hcs]; exact Nat.le_refl _) hrel q3 hg hbigl
      exact ⟨_, rfl, J', r1, r2, r3⟩
    · -- in place
      have hroomc : (k + (n + 1)) * x.s ≤ x.C * x.s := Nat.mul_le_mul_right _ (by omega)
      rw [Nat.add_mul] at hroomc
      have hcell : ∀ t, t < (n + 1) * x.s → (w.cell? ⟨x.B, x.d + p + t, none⟩).isSome = true ∧ w.frozen? ⟨x.B, x.d + p + t, none⟩ = false := fun t ht => by
        refine ⟨by rw [World.cell_of a1, Array.getElem?_eq_getElem (by omega)]; rfl, ?_⟩
        obtain ⟨lo, hi'⟩ := fz
        simp only [World.frozen?, a1]
        simp only at hfz
        simp; omega
      refine (hplace x.B (x.d + p) x2.B (x2.d + p2) n i c' c2' olds news w (by omega) hge (by omega) hne k2 l2 k3 l3 hones hones2 a1 hfz hcell).mono ?_
      rintro r w' ⟨rfl, kk, rfl⟩
      obtain ⟨c3, q1, q2, q3, q4, q5⟩ := two_rows (w := w.drewN kk) (B := x.B) (q := x.d + p) (i := i) (n := n) (size := x.s) (fz := fz) (olds := olds) (news := news) (e := e) (c := cs') a1 k2 l2 (by omega)
        (by omega) (l1 := olds.drop (i * x.s)) (l2 := news) (d := (i + 1) * x.s) (d1 := i * x.s) (w1 := (w.drewN kk).setCells x.B (x.d + p + (i + 1) * x.s) (olds.drop (i * x.s))) (.inl ⟨rfl, rfl, rfl, rfl⟩) rfl rfl (fun t v h => by
          have := k3 t v (htk t v h)
          rw [World.cell_of a1] at this; exact this)
      obtain ⟨J', r1, r2, r3⟩ := hw.again hroom (e := e) (b := b) (p := p) (k := k) (c' := c') (m := n + 1) (x := x) hb hJ hnb hxs hpk hC q1 (by rw [q2]; exact a2) q4 q5 (below_rows hB _ _ _ (below_rows hB _ _ _ (below_drewN hw.below kk))) a6 (by rw [q2]; exact a5) a4.2 hrel q3 hge hbigl
      exact ⟨_, rfl, J', r1, r2, r3⟩
end Go.Proofs.YthlfhfliidhelaaGreatDoor.Eng

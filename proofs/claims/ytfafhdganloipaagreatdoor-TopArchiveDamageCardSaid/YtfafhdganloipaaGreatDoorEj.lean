/- A function's body: entered, left. -/
import Derived.Test.YtfafhdganloipaaGreatDoorEi
namespace Go.Proofs.YtfafhdganloipaaGreatDoor.Eng
open Go.RowKit
variable {P : Program} {nG : Nat} {K : Known}
theorem WR.unnamed {base : Nat} {w0 : World} {J : Inj} {H : AH} {w : World} (h : WR P nG base w0 J H w) {B : Nat} (hB : base ≤ B) (hn : ∀ b x, (H.get b).isSome = true → J b = some x → x.B ≠ B) (o : Obj) : WR P nG base w0 J H (w.putObj B o) :=
  ⟨h.glob, h.ids, by rw [World.putObj_size]; exact h.lt, h.inj, fun b o' x hg hj => (h.obj b o' x hg hj).of_heap (.refl J) (World.putObj_heap_other (hn b x (by rw [hg]; rfl) hj)), h.own, h.sep, h.nx, h.top, by rw [World.putObj_size]; exact h.room, h.clean,
   ⟨h.below.os, h.below.tape, h.below.output, by rw [World.putObj_size]; exact h.below.size, fun k hk => by rw [World.putObj_heap_other (by omega)]; exact h.below.block k hk⟩⟩
theorem Ev.unnamed {N : Nat} {J J' : Inj} {H H' : AH} {w w' : World} (h : Ev N J H w J' H' w') {B : Nat} (hB : w.heap.size ≤ B) (o : Obj) : Ev N J H w J' H' (w'.putObj B o) :=
  ⟨h.ext, h.fresh, h.next, fun k hk hn => by rw [World.putObj_heap_other (by omega)]; exact h.frame k hk hn, h.newB, by rw [World.putObj_size]; exact h.size, h.live⟩
theorem fget_argsF : ∀ (l : List Value) (k : Nat) (fr : Fr), k + l.length ≤ 256 → ∀ t, t < 256 → fget t (argsF k l fr) = if k ≤ t ∧ t < k + l.length then l.getD (t - k) undef else fget t fr
  | [], k, fr, _, t, _ => by rw [if_neg (by rintro ⟨h1, h2⟩; simp at h2; omega)]; rfl
  | v :: l, k, fr, h, t, ht => by
    simp only [List.length_cons] at h ⊢
    show fget t (argsF (k + 1) l (fset v k fr)) = _
    rw [fget_argsF l (k + 1) _ (by omega) t ht]
    by_cases h1 : k + 1 ≤ t ∧ t < k + 1 + l.length
    · rw [if_pos h1, if_pos (by omega)]
      rw [show t - k = (t - (k + 1)) + 1 from by omega]; simp [List.getD]
    · rw [if_neg h1, fget_fset _ _ (by omega) ht]
      by_cases h2 : t = k
      · subst h2; rw [if_pos rfl, if_pos (by omega), Nat.sub_self]; rfl
      · rw [if_neg h2, if_neg (by omega)]
theorem fget_frOf {l : List Value} (hl : l.length ≤ 256) {t : Nat} (ht : t < 256) : fget t (frOf l) = l.getD t undef := by
  unfold frOf
  rw [fget_argsF l 0 fr0 (by omega) t ht]
  by_cases h : t < l.length
  · rw [if_pos (by omega)]; rfl
  · rw [if_neg (by omega), fget_fr0]
    simp [List.getD, List.getElem?_eq_none (show l.length ≤ t from by omega)]
theorem VRs.getD {J : Inj} {l l' : List Value} (h : VRs J l l') (t : Nat) : VR J (l.getD t undef) (l'.getD t undef) := by
  have hlen := h.length
  by_cases ht : t < l.length
  · obtain ⟨v', h1, h2⟩ := h.get (List.getElem?_eq_getElem ht)
    simp only [List.getD, List.getElem?_eq_getElem ht, h1, Option.getD_some]
    exact h2
  · simp only [List.getD, List.getElem?_eq_none (show l.length ≤ t from by omega), List.getElem?_eq_none (show l'.length ≤ t from by omega), Option.getD_none]
    exact VR.undef J
theorem FR.of_args {J : Inj} {l l' : List Value} (h : VRs J l l') {sz : Nat} (hl : l.length ≤ sz) (hsz : sz ≤ 255) : FR J sz (frOf l) ((⟨l'⟩ : Array Value) ++ Array.replicate (sz - (⟨l'⟩ : Array Value).size) undef) := by
  have hlen := h.length
  refine ⟨by simp; omega, by omega, fun t ht => ?_⟩
  rw [fget_frOf (by omega) (by omega)]
  have e : ((⟨l'⟩ : Array Value) ++ Array.replicate (sz - (⟨l'⟩ : Array Value).size) undef).getD t undef = l'.getD t undef := by
    by_cases ht' : t < l'.length
    · have : t < (⟨l'⟩ : Array Value).size := ht'
      simp [Array.getElem?_append, ht', List.getD]
    · simp [Array.getElem?_append, ht', List.getD]
      rw [Array.getElem?_replicate]
      split <;> rfl
  rw [e]
  exact h.getD t
def okRes (sz : Nat) : ResultVar → Bool
  | .tmp t => Nat.ble (t + 1) sz
  | .cell a _ => Nat.ble (a + 1) sz
noncomputable def okFunc (nG : Nat) (fn : Func) : Bool := match fn.body with
  | some c => (Nat.ble fn.ntmps 255 && fn.results.toList.all (okRes fn.ntmps)) && (!(fn.name == "runtime.NumGoroutine") && okCode fn.ntmps nG c)
  | none => true
theorem asAddr_run {a : Addr} {w : World} : (asAddr (.pointer (some a))).run P w = .ok a w := rfl
theorem res_sound {base sz : Nat} {w0 : World} {J : Inj} {fr : Fr} {H : AH} {tmps : Array Value} {w : World} (hf : FR J sz fr tmps) (hw : WR P nG base w0 J H w) {g : ResultVar → Sem Value} (hg : ∀ t, g (.tmp t) = pure (tmps.getD t undef)) (hc : ∀ a t, g (.cell a t) = do loadVar t (← asAddr (tmps.getD a undef))) :
    ∀ {l : List ResultVar} {vs : List Value}, l.all (okRes sz) = true → resV P fr H l = some vs → ∃ vs', (l.mapM g).run P w = .ok vs' w ∧ VRs J vs vs'
  | [], vs, _, h => by
    obtain rfl := Option.some.inj h
    exact ⟨[], rfl, .nil⟩
  | .tmp t :: l, vs, hok, h => by
    simp only [List.all_cons, Bool.and_eq_true, okRes, Nat.ble_eq] at hok
    unfold resV at h
    split at h
    · rename_i r hr
      obtain rfl := Option.some.inj h
      obtain ⟨vs', h1, h2⟩ := res_sound hf hw hg hc hok.2 hr
      refine ⟨tmps.getD t undef :: vs', ?_, .cons _ _ _ _ (hf.rel t hok.1) h2⟩
      simp only [List.mapM_cons, hg, Sem.run_bind, Sem.run_pure, Result.andThen, h1]
    · cases h
  | .cell a t :: l, vs, hok, h => by
    simp only [List.all_cons, Bool.and_eq_true, okRes, Nat.ble_eq] at hok
    unfold resV at h
    split at h
    · rename_i v r hv hr
      obtain rfl := Option.some.inj h
      obtain ⟨vs', h1, h2⟩ := res_sound hf hw hg hc hok.2 hr
      obtain ⟨v', h3, h4⟩ := ldV_sound hw hv (hf.rel a hok.1)
      refine ⟨v' :: vs', ?_, .cons _ _ _ _ h4 h2⟩
      have h5 : (do loadVar t (← asAddr (tmps.getD a undef)) : Sem Value).run P w = .ok v' w := by
        obtain ⟨b, o, hx, _⟩ := vPtr_some hv
        have hr := hf.rel a hok.1
        rw [hx] at hr
        obtain ⟨y, _, hy⟩ := hr.ptr_inv
        rw [hy] at h3 ⊢
        exact h3
      rw [← hc] at h5
      simp only [List.mapM_cons, Sem.run_bind, Sem.run_pure, h5, Result.andThen, h1]
    · cases h
def resOf : List Value → Value
  | [v] => v
  | l => .tuple ⟨l⟩
theorem results_sound {base sz : Nat} {w0 : World} {J : Inj} {fr : Fr} {H : AH} {tmps : Array Value} {w : World} (hf : FR J sz fr tmps) (hw : WR P nG base w0 J H w) {fn : Func} {vs : List Value} (hok : fn.results.toList.all (okRes sz) = true) (hr : resV P fr H fn.results.toList = some vs) :
    ∃ v', (results fn tmps).run P w = .ok v' w ∧ VR J (resOf vs) v' := by
  have key : ∀ (g : ResultVar → Sem Value), (∀ t, g (.tmp t) = pure (tmps.getD t undef)) → (∀ a t, g (.cell a t) = do loadVar t (← asAddr (tmps.getD a undef))) →
      ∃ v', (do let vs ← fn.results.mapM g; pure (if h : vs.size = 1 then vs[0] else .tuple vs) : Sem Value).run P w = .ok v' w ∧ VR J (resOf vs) v' := fun g hg hc => by
    obtain ⟨vs', h1, h2⟩ := res_sound hf hw hg hc hok hr
    refine ⟨if h : (⟨vs'⟩ : Array Value).size = 1 then (⟨vs'⟩ : Array Value)[0] else .tuple ⟨vs'⟩, ?_, ?_⟩
    · rw [Sem.run_bind, Array.mapM_eq_mapM_toList, Sem.run_map, h1]; rfl
    · cases h2 with
      | nil => exact .tuple _ _ .nil
      | cons v v' l l' h hl =>
        cases hl with
        | nil => exact h
        | cons u u' l l' h' hl => exact .tuple _ _ (.cons _ _ _ _ h (.cons _ _ _ _ h' hl))
  exact key _ (fun _ => rfl) (fun _ _ => rfl)
end Go.Proofs.YtfafhdganloipaaGreatDoor.Eng
namespace Go.Proofs.YtfafhdganloipaaGreatDoor.Eng
open Go.RowKit
variable {P : Program} {nG : Nat} {K : Known}
def BodySem (P : Program) (nG : Nat) (f : Nat) (args : List Value) (H : AH) (v : Value) (H' : AH) : Prop :=
  (∃ fn c, P.funcs[f]? = some fn ∧ fn.body = some c ∧ (fn.name == "runtime.NumGoroutine") = false) ∧
  ∀ (base : Nat) (w0 : World) (J : Inj) (w : World) (args' : List Value), VRs J args args' → WR P nG base w0 J H w →
    CallsIn Fence.wide 0 P f ⟨args'⟩ w fun e w' => ∃ v', e = .returned v' ∧ ∃ J', VR J' v v' ∧ WR P nG base w0 J' H' w' ∧ Ev H.next J H w J' H' w'
def CodesOk (P : Program) (nG : Nat) (K : Known) (n : Nat) : Prop :=
  ∀ (c : Code) (fr : Fr) (H : AH) (e : Ex) (fr' : Fr) (H' : AH), exec P nG K n (.code c) fr H = .ok e fr' H' → CodeSem P nG c fr H e fr' H'
theorem leaves_sem {fn : Func} {a : Act} {fr : Fr} {base S sz : Nat} {w0 : World} {J0 : Inj} {H0 : AH} {wb : World} {J : Inj} {H : AH} {vs : List Value} {v : Value} (hf : FR J sz fr a.tmps) (hok : fn.results.toList.all (okRes sz) = true) (hr : resV P fr H fn.results.toList = some vs) (hv : v = resOf vs) (hS : base ≤ S) (hSw : wb.heap.size ≤ S) : ∀ (rs : List Nat) (w : World),
      WR P nG base w0 J H w → Ev H0.next J0 H0 wb J H w → rs.Nodup → (∀ r ∈ rs, S ≤ r ∧ w.heap[r]? = some (.deferred (some [])) ∧ ∀ b x, (H.get b).isSome = true → J b = some x → x.B ≠ r) →
      LeavesInM Fence.wide 0 P fn a.tmps (fun e w' => ∃ v', e = .returned v' ∧ ∃ J', VR J' v v' ∧ WR P nG base w0 J' H w' ∧ Ev H0.next J0 H0 wb J' H w') (rs.map markD) .returning w
  | [], w, hw, he, _, _ => by
    obtain ⟨v', h1, h2⟩ := results_sound hf hw hok hr
    exact ⟨v', h1, v', rfl, J, by rw [hv]; exact h2, hw, he⟩
  | r :: rs, w, hw, he, hnd, hp => by
    obtain ⟨h1, h2, h3⟩ := hp r (by simp)
    rw [List.nodup_cons] at hnd
    simp only [List.map_cons, LeavesInM]
    refine ⟨(fun h => by cases h), .inl ⟨r, _, rfl, run_takeDeferred h2, ?_⟩⟩
    refine leaves_sem hf hok hr hv hS hSw rs _ (hw.unnamed (by omega) h3 _) (he.unnamed (by omega) _) hnd.2 fun k hk => ?_
    obtain ⟨k1, k2, k3⟩ := hp k (by simp [hk])
    exact ⟨k1, by rw [World.putObj_heap_other (by rintro rfl; exact hnd.1 hk)]; exact k2, k3⟩
theorem body_sem (hfun : ∀ (f : Nat) (fn : Func), K f = none → P.funcs[f]? = some fn → okFunc nG fn = true) {n : Nat} (hcode : CodesOk P nG K n) {f : Nat} {first cap : Array Value} {args : List Value} {fr : Fr} {H : AH} {v : Value} {H' : AH} (hK : K f = none)
    (h : exec P nG K (n + 1) (.call (.func (.func f) first cap) args) fr H = .val v H') : BodySem P nG f (first.toList ++ (args ++ cap.toList)) H v H' := by
  rw [exec_call] at h
  unfold callF at h
  simp only [hK] at h
  split at h
  · rename_i fn hfn
    split at h
    · rename_i b hb
      split at h
      · rename_i hle
        rw [Nat.ble_eq, lenL_eq, appL_eq, appL_eq] at hle
        rw [appL_eq, appL_eq] at h
        have hok := hfun f fn hK hfn
        unfold okFunc at hok
        rw [hb] at hok
        simp only [Bool.and_eq_true, Nat.ble_eq, Bool.not_eq_true'] at hok
        obtain ⟨⟨ok1, ok2⟩, ok3, ok4⟩ := hok
        refine ⟨⟨fn, b, hfn, hb, ok3⟩, fun base w0 J w args' hargs hw => ?_⟩
        have key : ∀ (e : Ex) (fr1 : Fr) (H1 : AH) (vs : List Value), (e = .normal ∨ e = .ret) → exec P nG K n (.code b) (frOf (first.toList ++ (args ++ cap.toList))) H = .ok e fr1 H1 → resV P fr1 H1 fn.results.toList = some vs → v = resOf vs → H1 = H' →
            CallsIn Fence.wide 0 P f ⟨args'⟩ w fun e w' => ∃ v', e = .returned v' ∧ ∃ J', VR J' v v' ∧ WR P nG base w0 J' H' w' ∧ Ev H.next J H w J' H' w' := by
          rintro e fr1 H1 vs he hex hres hv rfl
          refine callsIn_of_wp_marks hfn hb trivial ?_
          have hS : base ≤ w.heap.size := hw.room
          refine hcode _ _ _ _ _ _ hex (base := base) (w0 := w0) (S := w.heap.size) (r := none) (J := J) ok4 ⟨⟨hw.glob, FR.of_args hargs hle ok1⟩, ok1, hw, .inl ⟨rfl, ?_⟩, ⟨[], rfl, by simp, by simp⟩⟩ (Nat.le_refl _) fun a' w' ha => ?_
          · rw [fget_frOf (by omega) (by decide)]
            simp [List.getD, slotR, List.getElem?_eq_none (show (first.toList ++ (args ++ cap.toList)).length ≤ 255 from by omega)]
          · obtain ⟨J', hst, hev⟩ := ha
            obtain ⟨rs, p1, p2, p3⟩ := hst.pins
            have hl := leaves_sem (fn := fn) hst.at_.fr ok2 hres hv hS (Nat.le_refl _) rs w' hst.wr hev p2 p3
            rw [← p1] at hl
            rcases he with rfl | rfl <;> exact hl
        unfold retV at h
        split at h
        · rename_i fr1 H1 hex
          split at h
          · rename_i u hres
            injection h with h1 h2; subst h1
            exact key _ _ _ _ (.inl rfl) hex hres rfl h2
          · rename_i l hne hres
            injection h with h1 h2; subst h1
            exact key _ _ _ _ (.inl rfl) hex hres (by cases l with | nil => rfl | cons u l => cases l with | nil => exact absurd rfl (hne u) | cons _ _ => rfl) h2
          · cases h
        · rename_i fr1 H1 hex
          split at h
          · rename_i u hres
            injection h with h1 h2; subst h1
            exact key _ _ _ _ (.inr rfl) hex hres rfl h2
          · rename_i l hne hres
            injection h with h1 h2; subst h1
            exact key _ _ _ _ (.inr rfl) hex hres (by cases l with | nil => rfl | cons u l => cases l with | nil => exact absurd rfl (hne u) | cons _ _ => rfl) h2
          · cases h
        · cases h
        · cases h
      · cases h
    · cases h
  · cases h
end Go.Proofs.YtfafhdganloipaaGreatDoor.Eng
namespace Go.Proofs.YtfafhdganloipaaGreatDoor.Eng
open Go.RowKit
variable {P : Program} {nG : Nat} {K : Known}
theorem WR.extra {base : Nat} {w0 : World} {J : Inj} {H : AH} {w : World} (h : WR P nG base w0 J H w) (o : Obj) : WR P nG base w0 J H (w.alloc o) :=
  ⟨h.glob, h.ids, fun b x hj => by have := h.lt b x hj; simp; omega, h.inj, fun b o' x hg hj => (h.obj b o' x hg hj).of_heap (.refl J) (Below.heap_alloc w o _ (h.lt b x hj)), h.own, h.sep, h.nx, h.top, by have := h.room; simp; omega, h.clean, h.below.alloc h.room o⟩
theorem Ev.extra (N : Nat) (J : Inj) (H : AH) (w : World) (o : Obj) : Ev N J H w J H (w.alloc o) :=
  ⟨.refl J, fun b x h h' => (by rw [h] at h'; cases h'), Nat.le_refl _, fun B hB _ => Below.heap_alloc w o B hB, fun b x h h' => (by rw [h] at h'; cases h'), by simp, fun _ _ h => h⟩
theorem enter_sem {base sz S : Nat} {w0 : World} {r : Option Nat} {J : Inj} {fr : Fr} {H : AH} {ac : Act} {w : World} (hst : St P nG base w0 sz S r J fr H ac w) (hS : S ≤ w.heap.size) (hao : aroundOk fr H = true) (hroom : H.room = true) {ps : Array Tmp} {a b : Code} (hok : ps.toList.all (fun t => Nat.ble (t + 1) sz) = true ∧ okCode sz nG a = true ∧ okCode sz nG b = true) (fn : FuncId) :
    ∃ (l : Nat) (mark : List Deferred) (w1 : World), (Instr.enterLoop fn ac.tmps ps a b (FF r).round).run P w = .ok (l, mark) w1 ∧ w.heap.size ≤ l ∧ WR P nG base w0 (J.add H.next ⟨l, 0, 0, 0⟩) (H.new (.loop fr ps.toList a b (some none))) w1 ∧
      Ev H.next J H w (J.add H.next ⟨l, 0, 0, 0⟩) (H.new (.loop fr ps.toList a b (some none))) w1 ∧ Pins S (J.add H.next ⟨l, 0, 0, 0⟩) (H.new (.loop fr ps.toList a b (some none))) w1 (mark ++ ac.defers) := by
  have hr : H.next + 1 ≤ 65536 := by unfold AH.room at hroom; rw [Nat.ble_eq] at hroom; exact hroom
  have hor : ∀ (w' : World) (d : Nat), OR P nG (J.add H.next ⟨w'.heap.size, 0, 0, 0⟩) (w'.alloc (.loop { state := .ready, pending := none, fn, tmps := ac.tmps, params := ps, assign := a, body := b, defers := d })) ⟨w'.heap.size, 0, 0, 0⟩ (.loop fr ps.toList a b (some none)) := fun w' d =>
    ⟨_, sz, World.alloc_heap_new w' _, hst.at_.fr.mono (Inj.le_add hst.wr.fresh), rfl, rfl, rfl, ⟨hst.sz, hok.1, hok.2.1, hok.2.2⟩, rfl, rfl⟩
  rcases hst.ar with ⟨rfl, h2⟩ | ⟨l0, x0, h1, h2, rfl⟩
  · refine ⟨w.heap.size + 1, [markD w.heap.size], _, run_enterLoop_outer fn ac.tmps ps a b, by omega, ?_⟩
    have hw' := hst.wr.extra (.deferred (some []))
    have he' := Ev.extra H.next J H w (.deferred (some []))
    have e : (w.alloc (.deferred (some []))).heap.size = w.heap.size + 1 := by simp
    obtain ⟨k1, k2⟩ := hw'.alloc hr _ _ 0 0 (hor (w.alloc (.deferred (some []))) w.heap.size)
    rw [e] at k1 k2
    refine ⟨k1, he'.trans hst.wr.ids k2, ?_⟩
    refine Pins.ev ?_ k2 hst.wr.ids
    obtain ⟨rs, p1, p2, p3⟩ := hst.pins
    have hlt : ∀ k ∈ rs, k < w.heap.size := fun k hk => (Array.getElem?_eq_some_iff.1 (p3 k hk).2.1).1
    refine ⟨w.heap.size :: rs, by rw [p1]; rfl, List.nodup_cons.2 ⟨fun h => by have := hlt _ h; omega, p2⟩, fun k hk => ?_⟩
    rcases List.mem_cons.1 hk with rfl | hk
    · exact ⟨hS, World.alloc_heap_new w _, fun b x _ hj => by have := hst.wr.lt b x hj; omega⟩
    · obtain ⟨q1, q2, q3⟩ := p3 k hk
      exact ⟨q1, (Below.heap_alloc w _ k (hlt k hk)).trans q2, q3⟩
  · have hloop : ∃ L, w.heap[x0.B]? = some (.loop L) := by
      unfold aroundOk at hao
      rw [h1] at hao
      dsimp only at hao
      cases hg : H.get l0 with
      | none => rw [hg] at hao; cases hao
      | some o =>
        rw [hg] at hao
        cases o with
        | cells cs e => cases hao
        | map es => cases hao
        | loop fr' ps' a' b' st => obtain ⟨L, sz', h3, _⟩ := hst.wr.obj l0 _ x0 hg h2; exact ⟨L, h3⟩
    obtain ⟨L, hL⟩ := hloop
    refine ⟨w.heap.size, [], _, run_enterLoop_inner hL fn ac.tmps ps a b, Nat.le_refl _, ?_⟩
    obtain ⟨k1, k2⟩ := hst.wr.alloc hr _ _ 0 0 (hor w L.defers)
    exact ⟨k1, k2, hst.pins.ev k2 hst.wr.ids⟩
theorem isBody_some {v : Value} (h : isBody K v = true) : ∃ f first cap, v = .func (.func f) first cap ∧ K f = none := by
  unfold isBody at h
  split at h
  · rename_i f first cap
    refine ⟨f, first, cap, rfl, ?_⟩
    cases hk : K f with
    | none => rfl
    | some x => rw [hk] at h; cases h
  · cases h
theorem call_enter {f : Nat} {fn : Func} {c : Code} (hf : P.funcs[f]? = some fn) (hb : fn.body = some c) (hn : (fn.name == "runtime.NumGoroutine") = false) (args : Array Value) (w : World) : (callFunc f args).run P w = .ok (.enter f args) w := by
  unfold callFunc
  simp only [Sem.run_bind]
  have : (program).run P w = .ok P w := rfl
  rw [this]
  simp only [Result.andThen, hf, hn, hb]
  rfl
def BodiesOk (P : Program) (nG : Nat) (K : Known) (n : Nat) : Prop :=
  ∀ (f : Nat) (first cap : Array Value) (args : List Value) (fr : Fr) (H : AH) (v : Value) (H' : AH), K f = none → exec P nG K n (.call (.func (.func f) first cap) args) fr H = .val v H' → BodySem P nG f (first.toList ++ (args ++ cap.toList)) H v H'
theorem range_sem {n : Nat} (hbod : BodiesOk P nG K n) {g : Operand} {ps : Array Tmp} {a b : Code} {x y : Ih → Fr → AH → Rs} {fr : Fr} {H : AH} {e : Ex} {fr' : Fr} {H' : AH} (h : cRange K g ps a b x y (exec P nG K n) fr H = .ok e fr' H') : CodeSem P nG (.rangeFunc g ps a b) fr H e fr' H' := by
  unfold cRange at h
  split at h
  · rename_i hcond
    rw [Bool.and_eq_true, Bool.and_eq_true] at hcond
    obtain ⟨hao, hisb, hroom⟩ := hcond
    obtain ⟨f, first, cap, hev, hK⟩ := isBody_some hisb
    rw [hev] at h
    split at h
    · rename_i v H2 hx
      obtain ⟨⟨fnn, cc, b1, b2, b3⟩, hbs⟩ := hbod f first cap _ _ _ v H2 hK hx
      -- how the loop ended
      have key : ∃ (fr1 : Fr) (ps1 : List Tmp) (a1 b1 : Code) (j : Option Code), H2.get H.next = some (.loop fr1 ps1 a1 b1 (some j)) ∧ fr' = fr ∧ H' = H2.put H.next none ∧ ((j = none ∧ e = .normal) ∨ (∃ i, j = some (.exit i) ∧ e = .exit i) ∨ (j = some .ret ∧ e = .ret)) := by
        split at h
        · rename_i hg; injection h with h1 h2 h3; exact ⟨_, _, _, _, _, hg, h2.symm, h3.symm, .inl ⟨rfl, h1.symm⟩⟩
        · rename_i i hg; injection h with h1 h2 h3; exact ⟨_, _, _, _, _, hg, h2.symm, h3.symm, .inr (.inl ⟨i, rfl, h1.symm⟩)⟩
        · rename_i hg; injection h with h1 h2 h3; exact ⟨_, _, _, _, _, hg, h2.symm, h3.symm, .inr (.inr ⟨rfl, h1.symm⟩)⟩
        · cases h
      clear h
      obtain ⟨fr1, ps1, a1, b1', j, hg, rfl, rfl, hj⟩ := key
      intro base sz S w0 r J ac w Q hok hst hS hQ
      simp only [okCode, Bool.and_eq_true] at hok
      have hv := hst.at_.ev hok.1
      rw [hev] at hv
      refine wpIn_rangeFunc fun fn hfn => ?_
      obtain ⟨l, mark, w1, hent, hl, hwr1, hev1, hpin1⟩ := enter_sem hst hS hao hroom ⟨hok.2.1, hok.2.2.1, hok.2.2.2⟩ fn
      generalize hgv : ac.eval g = gv at hv
      cases hv with
      | func _ fs fs' cs cs' k1 k2 =>
        have hy : VR (J.add H.next ⟨l, 0, 0, 0⟩) (.func (.yield H.next) #[] #[]) (.func (.yield l) #[] #[]) := .yield H.next ⟨l, 0, 0, 0⟩ (Inj.add_same _ _ _)
        have hle := Inj.le_add (x := (⟨l, 0, 0, 0⟩ : Tg)) hst.wr.fresh
        have hcall := hbs base w0 _ w1 (fs' ++ ([.func (.yield l) #[] #[]] ++ cs')) ((k1.mono hle).append ((VRs.cons _ _ _ _ hy .nil).append (k2.mono hle))) hwr1
        refine ⟨l, mark, w1, { target := .fn (.func f) ⟨cs'⟩, args := ⟨fs'⟩ ++ #[.func (.yield l) #[] #[]] }, w1, f, ⟨fs' ++ ([.func (.yield l) #[] #[]] ++ cs')⟩, w1, hent, ?_, fun _ _ => trivial, ?_, fun h => absurd h (by intro h; cases h), ?_⟩
        · have hm : (#[Operand.const (.func (.yield l) #[] #[])] : Array Operand).map ac.eval = #[.func (.yield l) #[] #[]] := by simp [Act.eval]
          simp only [resolve, hgv, hm]
          rfl
        · show (callFunc f ((⟨fs'⟩ ++ #[.func (.yield l) #[] #[]]) ++ ⟨cs'⟩)).run P w1 = _
          rw [call_enter b1 b2 b3]
          simp
        · refine CallsIn.mono (F := FF r) hcall fun e3 w3 ⟨v', he3, J3, r1, r2, r3⟩ => ?_
          subst he3
          have hJ3 : J3 H.next = some ⟨l, 0, 0, 0⟩ := r3.ext _ _ (Inj.add_same _ _ _)
          obtain ⟨L, sz', l1, l2, l3, l4, l5, l6, l7⟩ := r2.obj _ _ _ hg hJ3
          have hb6 := r2.small hJ3
          have hpend : L.state ≠ .busy ∧ L.pending = j := by
            cases j with
            | none => exact ⟨(by rw [l7.1]; intro h; cases h), l7.2⟩
            | some c => exact ⟨(by rw [l7.1]; intro h; cases h), l7.2⟩
          refine ⟨j, _, by rw [← hpend.2]; exact run_endLoop l1 hpend.1, ?_⟩
          have hlive : ∀ k, k < 65536 → ((H2.put H.next none).get k).isSome = true → k ≠ H.next ∧ (H2.get k).isSome = true := fun k hk hs => by
            rw [AH.get_put H2 _ hb6 hk] at hs
            split at hs
            · cases hs
            · rename_i hne; exact ⟨hne, hs⟩
          have hnd : ∀ k z, ((H2.put H.next none).get k).isSome = true → J3 k = some z → z.B ≠ l := fun k z hs hz he => by
            obtain ⟨n1, n2⟩ := hlive k (r2.small hz) hs
            exact n1 (r2.inj k H.next z ⟨l, 0, 0, 0⟩ n2 (by rw [hg]; rfl) hz hJ3 he)
          have hwr4 := (r2.drop hb6).unnamed (B := l) (by have := hst.wr.room; omega) hnd (.loop { L with state := .exhausted })
          have hev3 : Ev H.next J H w J3 H2 w3 := hev1.trans hst.wr.ids (r3.weak (by simp))
          have hev4 : Ev H.next J H w J3 (H2.put H.next none) (w3.putObj l (.loop { L with state := .exhausted })) := (hev3.trans hst.wr.ids (Ev.drop r2 (by have := hst.wr.top; omega) hb6)).unnamed hl _
          have hpin4 : Pins S J3 (H2.put H.next none) (w3.putObj l (.loop { L with state := .exhausted })) (mark ++ ac.defers) := by
            obtain ⟨rs, p1, p2, p3⟩ := hpin1.ev r3 hwr1.ids
            refine ⟨rs, p1, p2, fun k hk => ?_⟩
            obtain ⟨q1, q2, q3⟩ := p3 k hk
            have : l ≠ k := q3 H.next ⟨l, 0, 0, 0⟩ (by rw [hg]; rfl) hJ3
            exact ⟨q1, by rw [World.putObj_heap_other (Ne.symm this)]; exact q2, fun b z hs hz => q3 b z (hlive b (r2.small hz) hs).2 hz⟩
          have haft : After P nG base w0 sz S r H.next J H w fr' (H2.put H.next none) { ac with defers := mark ++ ac.defers } (w3.putObj l (.loop { L with state := .exhausted })) :=
            ⟨J3, ⟨⟨hwr4.glob, hst.at_.fr.mono hev4.ext⟩, hst.sz, hwr4, hst.ar.mono hev4.ext, hpin4⟩, hev4⟩
          rcases hj with ⟨rfl, rfl⟩ | ⟨i, rfl, rfl⟩ | ⟨rfl, rfl⟩
          · exact hQ _ _ haft
          · exact wpIn_exit (hQ _ _ haft)
          · exact wpIn_ret (hQ _ _ haft)
    · cases h
    · cases h
  · cases h
end Go.Proofs.YtfafhdganloipaaGreatDoor.Eng
namespace Go.Proofs.YtfafhdganloipaaGreatDoor.Eng
open Go.RowKit
variable {P : Program} {nG : Nat} {K : Known}
theorem FR.setPs {J : Inj} {sz : Nat} : ∀ {ps : List Tmp} {args args' : List Value} {fr : Fr} {tmps : Array Value}, VRs J args args' → ps.all (fun t => Nat.ble (t + 1) sz) = true → FR J sz fr tmps → FR J sz (setPs ps args fr) ((ps.zip args').foldl (fun t (p, v) => t.setIfInBounds p v) tmps)
  | [], args, args', fr, tmps, _, _, h => by
    cases args <;> simpa [Eng.setPs] using h
  | p :: ps, [], args', fr, tmps, ha, _, h => by
    cases ha; simpa [Eng.setPs] using h
  | p :: ps, v :: args, args', fr, tmps, ha, hp, h => by
    cases ha with
    | cons _ v' _ l' hv hl =>
      simp only [List.all_cons, Bool.and_eq_true, Nat.ble_eq] at hp
      show FR J sz (Eng.setPs ps args (fset v p fr)) ((ps.zip l').foldl _ (tmps.setIfInBounds p v'))
      exact FR.setPs hl hp.2 (h.put hp.1 hv)
theorem FR.setR {J : Inj} {sz : Nat} {fr : Fr} {tmps : Array Value} (h : FR J sz fr tmps) (hsz : sz ≤ 255) (v : Value) : FR J sz (fset v slotR fr) tmps :=
  ⟨h.size, h.le, fun t ht => by rw [fget_fset v fr (by decide) (by omega), if_neg (by unfold slotR; omega)]; exact h.rel t ht⟩
theorem zip_foldl (ps : Array Tmp) (args : List Value) (tmps : Array Value) : ((ps.zip (⟨args⟩ : Array Value)).foldl (fun tmps (t, a) => tmps.setIfInBounds t a) tmps) = (ps.toList.zip args).foldl (fun t (p, v) => t.setIfInBounds p v) tmps := by
  rw [← Array.foldl_toList]
  simp
theorem loop_get {base : Nat} {w0 : World} {J : Inj} {H : AH} {w : World} (h : WR P nG base w0 J H w) {l : Nat} {x : Tg} (hJ : J l = some x) {fr : Fr} {ps : List Tmp} {a b : Code} {st : Option (Option Code)} (hg : H.get l = some (.loop fr ps a b st)) :
    ∃ (L : Loop) (sz : Nat), w.heap[x.B]? = some (.loop L) ∧ FR J sz fr L.tmps ∧ L.params.toList = ps ∧ L.assign = a ∧ L.body = b ∧
      (sz ≤ 255 ∧ ps.all (fun t => Nat.ble (t + 1) sz) = true ∧ okCode sz nG a = true ∧ okCode sz nG b = true) ∧
      (match (generalizing := false) st with
       | none => L.state = .busy
       | some none => L.state = .ready ∧ L.pending = none
       | some (some c) => L.state = .done ∧ L.pending = some c) := h.obj _ _ _ hg hJ
theorem begR_some {l : Nat} {H : AH} {k : AH → Rs} {r : Rs} (h : begR l H k = r) (hr : ∀ tr, r ≠ .bad tr) : ∃ fr ps a b, H.get l = some (.loop fr ps a b (some none)) ∧ k (H.put l (some (.loop fr ps a b none))) = r := by
  unfold begR at h
  split at h
  · rename_i hg; exact ⟨_, _, _, _, hg, h⟩
  · exact absurd h.symm (hr _)
theorem endJ_some {l : Nat} {v : Bool} {j : Option Code} {H : AH} {u : Value} {H' : AH} (h : endJ l v j H = .val u H') : ∃ fr ps a b, H.get l = some (.loop fr ps a b none) ∧ u = .bool v ∧ H' = H.put l (some (.loop fr ps a b (some j))) := by
  unfold endJ at h
  split at h
  · rename_i hg; injection h with h1 h2; exact ⟨_, _, _, _, hg, h1.symm, h2.symm⟩
  · cases h
theorem end_sem {base : Nat} {w0 : World} {J : Inj} {H : AH} {w : World} (h : WR P nG base w0 J H w) {l : Nat} {x : Tg} (hJ : J l = some x) (hl : nG ≤ l) {v : Bool} {j : Option Code} {u : Value} {H' : AH} (he : endJ l v j H = .val u H') (hv : v = j.isNone) :
    ∃ w', (Instr.endRound x.B j).run P w = .ok (.bool v) w' ∧ u = .bool v ∧ WR P nG base w0 J H' w' ∧ Ev H.next J H w J H' w' := by
  obtain ⟨fr, ps, a, b, hg, rfl, rfl⟩ := endJ_some he
  obtain ⟨L, sz, l1, l2, l3, l4, l5, l6, l7⟩ := loop_get h hJ hg
  have := run_endRound (P := P) j l1
  rw [← hv] at this
  refine ⟨_, this, rfl, ?_⟩
  exact h.object (by have := h.top; omega) hg hJ hl fun w' hw' => ⟨_, sz, hw', l2, l3, l4, l5, l6, by
    subst hv
    cases j with
    | none => exact ⟨rfl, rfl⟩
    | some c => exact ⟨rfl, rfl⟩⟩
theorem yield_sem {n : Nat} (hcode : CodesOk P nG K n) {l : Nat} {fs cs : Array Value} {args : List Value} {fr0 : Fr} {H : AH} {v : Value} {H' : AH} (h : exec P nG K (n + 1) (.call (.func (.yield l) fs cs) args) fr0 H = .val v H') : CallSem P nG (.func (.yield l) fs cs) args H v H' := by
  rw [exec_call] at h
  unfold callF at h
  dsimp only at h
  split at h
  · rename_i fr ps a b hg
    split at h
    · rename_i hlen
      rw [Bool.and_eq_true, Nat.beq_eq, Nat.ble_eq, lenL_eq, lenL_eq] at hlen
      obtain ⟨hlen, hnl⟩ := hlen
      intro base w0 J w f' args' hf hargs hw
      cases hf with
      | yield _ x hJ =>
      obtain ⟨L, sz, l1, l2, l3, l4, l5, ⟨o1, o2, o3, o4⟩, l7⟩ := loop_get hw hJ hg
      have hal := hargs.length
      have hy := run_yield (P := P) (args := (⟨args'⟩ : Array Value)) l1 (by show args'.length = _; rw [← Array.length_toList, l3]; omega)
      have hcal : Callee (.func (.yield x.B) #[] #[]) ⟨args'⟩ = Instr.yield x.B ⟨args'⟩ := by
        unfold Callee Deferred.ofValue
        show Instr.yield x.B (#[] ++ ⟨args'⟩) = _
        simp
      refine .inr (.inl ⟨x.B, L.fn, _, L.assign, L.body, by rw [hcal]; exact hy, ?_⟩)
      rw [zip_foldl, l3, l4, l5]
      refine roundIn_of_wpIn (F := Fence.wide) trivial ?_
      have hfr := (FR.setPs hargs o2 l2).setR o1 (.func (.yield l) #[] #[])
      have hst0 : St P nG base w0 sz w.heap.size (some x.B) J (fset (.func (.yield l) #[] #[]) slotR (setPs ps args fr)) H { tmps := (ps.zip args').foldl (fun t (p, v) => t.setIfInBounds p v) L.tmps, defers := [] } w :=
        ⟨⟨hw.glob, hfr⟩, o1, hw, .inr ⟨l, x, (fget_fset _ _ (by decide) (by decide)).trans (if_pos rfl), hJ, rfl⟩, ⟨[], rfl, by simp, by simp⟩⟩
      cases hx : exec P nG K n (.code a) (fset (.func (.yield l) #[] #[]) slotR (setPs ps args fr)) H with
      | bad tr => rw [hx] at h; cases h
      | val u H1 => rw [hx] at h; cases h
      | ok e1 fr2 H2 =>
        rw [hx] at h
        cases e1 with
        | exit i => cases h
        | ret => cases h
        | normal =>
          dsimp only at h
          refine (hcode _ _ _ _ _ _ hx).then_ (base := base) (w0 := w0) (r := some x.B) (S := w.heap.size) o3 hst0 (Nat.le_refl _) fun J1 a1 w1 k1 k2 k3 => ?_
          have hx1 : J1 l = some x := k2.ext _ _ hJ
          -- the round begins
          have hbeg : ∃ r, begR l H2 (fun H3 => exec P nG K n (.code b) fr2 H3) = r ∧ endR l r = .val v H' := ⟨_, rfl, h⟩
          obtain ⟨r0, hb1, hb2⟩ := hbeg
          obtain ⟨fr3, ps3, a3, b3, hg3, hex⟩ := begR_some hb1 (fun tr he => by subst he; cases hb2)
          obtain ⟨L2, sz2, m1, m2, m3, m4, m5, m6, m7⟩ := loop_get k1.wr hx1 hg3
          have hbr := run_beginRound (P := P) m1 m7.1
          obtain ⟨hwr2, hev2⟩ := k1.wr.object (N := H2.next) (o2 := .loop fr3 ps3 a3 b3 none) (obj := .loop { L2 with state := .busy }) k1.wr.top hg3 hx1 hnl (fun w' hw' => ⟨_, sz2, hw', m2, m3, m4, m5, m6, rfl⟩)
          refine ⟨_, hbr, ?_⟩
          have hst2 := k1.ev hwr2 hev2
          have hS2 : w.heap.size ≤ (w1.putObj x.B (.loop { L2 with state := .busy })).heap.size := by rw [World.putObj_size]; exact k3
          have fin : ∀ (e : Ex) (fr4 : Fr) (H4 : AH), r0 = .ok e fr4 H4 → ∀ (vb : Bool) (j : Option Code), endJ l vb j H4 = .val v H' → vb = j.isNone → ∀ a' w', After P nG base w0 sz w.heap.size (some x.B) (H2.put l (some (.loop fr3 ps3 a3 b3 none))).next J1 (H2.put l (some (.loop fr3 ps3 a3 b3 none))) (w1.putObj x.B (.loop { L2 with state := .busy })) fr4 H4 a' w' →
              ∃ v' w'', (Instr.endRound x.B j).run P w' = .ok v' w'' ∧ (∃ v1, Ending.returned v' = .returned v1 ∧ ∃ J', VR J' v v1 ∧ WR P nG base w0 J' H' w'' ∧ Ev H.next J H w J' H' w'') := fun e fr4 H4 _ vb j hend hvb a' w' ⟨J4, q1, q2⟩ => by
            obtain ⟨w'', e1, rfl, e3, e4⟩ := end_sem q1.wr (q2.ext _ _ hx1) hnl hend hvb
            refine ⟨_, w'', e1, _, rfl, J4, .bool vb, e3, ?_⟩
            have h12 := k2.trans hw.ids (hev2.weak k2.next)
            have h14 := h12.trans hw.ids (q2.weak (by rw [AH.next_put]; exact k2.next))
            exact h14.trans hw.ids (e4.weak h14.next)
          cases hr0 : r0 with
          | bad tr => rw [hr0] at hb2; cases hb2
          | val u H4 => rw [hr0] at hb2; cases hb2
          | ok e4 fr4 H4 =>
            rw [hr0] at hb2 hex
            refine hcode _ _ _ _ _ _ hex (base := base) (w0 := w0) (r := some x.B) (S := w.heap.size) o4 hst2 hS2 fun a' w' ha => ?_
            cases e4 with
            | normal => exact fin _ _ _ hr0 true none hb2 rfl a' w' ha
            | exit i => exact fin _ _ _ hr0 false (some (.exit i)) hb2 rfl a' w' ha
            | ret => exact fin _ _ _ hr0 false (some .ret) hb2 rfl a' w' ha
    · cases h
  · cases h
def KnownOk (P : Program) (nG : Nat) (f : Nat) (h : List Value → AH → RO) : Prop :=
  ∀ (args : List Value) (H : AH) (v : Value) (H' : AH), h args H = .ok v H' → ∀ (base : Nat) (w0 : World) (J : Inj) (w : World) (args' : List Value), VRs J args args' → WR P nG base w0 J H w →
    (∃ as, (callFunc f ⟨args'⟩).run P w = .ok (.enter f as) w ∧ CallsIn Fence.wide 0 P f as w (fun e w' => ∃ v', e = .returned v' ∧ ∃ J', VR J' v v' ∧ WR P nG base w0 J' H' w' ∧ Ev H.next J H w J' H' w')) ∨
    ∃ v' w', (callFunc f ⟨args'⟩).run P w = .ok (.value v') w' ∧ ∃ J', VR J' v v' ∧ WR P nG base w0 J' H' w' ∧ Ev H.next J H w J' H' w'
structure Hyp (P : Program) (nG : Nat) (K : Known) : Prop where
  mixed : P.follows .mixedOrders = true
  funcs : ∀ (f : Nat) (fn : Func), K f = none → P.funcs[f]? = some fn → okFunc nG fn = true
  known : ∀ (f : Nat) (h : List Value → AH → RO), K f = some h → KnownOk P nG f h
theorem callee_func {f : Nat} {fs cs args : List Value} : Callee (.func (.func f) ⟨fs⟩ ⟨cs⟩) ⟨args⟩ = callFunc f ⟨fs ++ (args ++ cs)⟩ := by
  unfold Callee Deferred.ofValue
  show callFunc f (((⟨fs⟩ : Array Value) ++ ⟨args⟩) ++ ⟨cs⟩) = _
  simp
theorem call_sem (hyp : Hyp P nG K) {n : Nat} (hcode : CodesOk P nG K n) {f : Value} {args : List Value} {fr : Fr} {H : AH} {v : Value} {H' : AH} (h : exec P nG K (n + 1) (.call f args) fr H = .val v H') : CallSem P nG f args H v H' := by
  have h0 := h
  rw [exec_call] at h
  unfold callF at h
  split at h
  · rename_i g first cap
    intro base w0 J w f' args' hf hargs hw
    cases hf with
    | func _ fs fs' cs cs' k1 k2 =>
      have hall := k1.append (hargs.append k2)
      unfold CallV
      rw [callee_func]
      cases hK : K g with
      | none =>
        obtain ⟨⟨fn, c, b1, b2, b3⟩, hb⟩ := body_sem hyp.funcs hcode hK h0
        exact .inl ⟨g, _, call_enter b1 b2 b3 _ w, hb base w0 J w _ hall hw⟩
      | some hk =>
        simp only [hK] at h
        rw [appL_eq, appL_eq] at h
        cases hr : hk (fs ++ (args ++ cs)) H with
        | bad => rw [hr] at h; cases h
        | ok v1 H1 =>
          rw [hr] at h
          injection h with h1 h2; subst h1 h2
          rcases hyp.known g hk hK _ _ _ _ hr base w0 J w _ hall hw with ⟨as, q1, q2⟩ | ⟨v', w', q1, q2⟩
          · exact .inl ⟨g, as, q1, q2⟩
          · exact .inr (.inr ⟨v', w', q1, q2⟩)
  · exact yield_sem hcode h0
  · cases h
theorem code_sem (hyp : Hyp P nG K) {n : Nat} (hc : CallsOk P nG K (n + 1)) (hcodes : ∀ m, m ≤ n → CodesOk P nG K m) (hbod : BodiesOk P nG K n) : CodesOk P nG K (n + 1) := by
  intro c fr H e fr' H' h
  have h0 := h
  rw [exec_code] at h
  have hcn : CallsOk P nG K n := hc.mono (by omega)
  cases c with
  | skip =>
    injection h with h1 h2 h3; subst h1 h2 h3
    intro base sz S w0 r J ac w Q hok hst hS hQ
    exact wpIn_skip (hQ ac w ⟨J, hst, Ev.refl _ _ _ _⟩)
  | label l =>
    injection h with h1 h2 h3; subst h1 h2 h3
    intro base sz S w0 r J ac w Q hok hst hS hQ
    exact wpIn_label (hQ ac w ⟨J, hst, Ev.refl _ _ _ _⟩)
  | exit i =>
    injection h with h1 h2 h3; subst h1 h2 h3
    intro base sz S w0 r J ac w Q hok hst hS hQ
    exact wpIn_exit (hQ ac w ⟨J, hst, Ev.refl _ _ _ _⟩)
  | ret =>
    injection h with h1 h2 h3; subst h1 h2 h3
    intro base sz S w0 r J ac w Q hok hst hS hQ
    exact wpIn_ret (hQ ac w ⟨J, hst, Ev.refl _ _ _ _⟩)
  | goto l => cases h
  | refuse s => cases h
  | scope b => cases h
  | region id ops draw =>
    cases draw with
    | false => exact region_sem hcn h
    | true => exact draw_sem hyp.mixed hcn h
  | seq a b =>
    replace h : Rs.seq (exec P nG K n (.code a) fr H) (exec P nG K n (.code b)) = _ := h
    cases h1 : exec P nG K n (.code a) fr H with
    | bad tr => rw [h1] at h; cases h
    | val v H1 => rw [h1] at h; cases h
    | ok e1 fr1 H1 =>
      rw [h1] at h
      have hs := hcodes n (Nat.le_refl _) _ _ _ _ _ _ h1
      cases e1 with
      | normal => exact seq_sem hs (hcodes n (Nat.le_refl _) _ _ _ _ _ _ h)
      | exit i => injection h with g1 g2 g3; subst g1 g2 g3; exact seq_sem_out (by intro h; cases h) hs
      | ret => injection h with g1 g2 g3; subst g1 g2 g3; exact seq_sem_out (by intro h; cases h) hs
  | cond c a b =>
    replace h : vBool (ev c fr) (exec P nG K n (.code a) fr H) (exec P nG K n (.code b) fr H) (.bad [7]) = _ := h
    generalize hv : ev c fr = u at h
    cases u <;> first | cases h | skip
    rename_i t
    cases t with
    | true => exact cond_sem hv (hcodes n (Nat.le_refl _) _ _ _ _ _ _ h)
    | false => exact cond_sem hv (hcodes n (Nat.le_refl _) _ _ _ _ _ _ h)
  | block id b =>
    replace h : Rs.blk (exec P nG K n (.code b) fr H) id = _ := h
    cases h1 : exec P nG K n (.code b) fr H with
    | bad tr => rw [h1] at h; cases h
    | val v H1 => rw [h1] at h; cases h
    | ok e1 fr1 H1 =>
      rw [h1] at h
      exact block_sem (hcodes n (Nat.le_refl _) _ _ _ _ _ _ h1) h
  | loop b =>
    intro base sz S w0 r J ac w Q hok hst hS hQ
    exact wpIn_loop_rounds (n + 1) (rounds_sem (n + 1) (fun m hm => hcodes m (by omega) b) fr H e fr' H' h0 hok hst hS hQ)
  | rangeFunc g ps a b =>
    replace h : cRange K g ps a b (codeF P nG K a) (codeF P nG K b) (exec P nG K n) fr H = _ := h
    exact range_sem hbod h
theorem all_sem (hyp : Hyp P nG K) : ∀ n, (∀ m, m ≤ n → CodesOk P nG K m) ∧ CallsOk P nG K (n + 1) ∧ BodiesOk P nG K n
  | 0 => by
    refine ⟨fun m hm => ?_, fun k hk => ?_, fun f first cap args fr H v H' _ h => ?_⟩
    · obtain rfl : m = 0 := by omega
      exact fun c fr H e fr' H' h => by cases h
    · obtain rfl : k = 0 := by omega
      exact fun f args fr H v H' h => by cases h
    · cases h
  | n + 1 => by
    obtain ⟨h1, h2, h3⟩ := all_sem hyp n
    have h4 := code_sem hyp h2 h1 h3
    refine ⟨fun m hm => ?_, fun k hk => ?_, fun f first cap args fr H v H' hK h => body_sem hyp.funcs (h1 n (Nat.le_refl _)) hK h⟩
    · rcases Nat.lt_or_ge n m with h | h
      · obtain rfl : m = n + 1 := by omega
        exact h4
      · exact h1 m h
    · rcases Nat.lt_or_ge n k with h | h
      · obtain rfl : k = n + 1 := by omega
        exact fun f args fr H v H' h => call_sem hyp (h1 n (Nat.le_refl _)) h
      · exact h2 k (by omega)
theorem run_call (hyp : Hyp P nG K) {n : Nat} {f : Value} {args : List Value} {fr : Fr} {H : AH} {v : Value} {H' : AH} (h : exec P nG K n (.call f args) fr H = .val v H') : CallSem P nG f args H v H' :=
  (all_sem hyp n).2.1 n (by omega) f args fr H v H' h
end Go.Proofs.YtfafhdganloipaaGreatDoor.Eng

/- What the table says of an operation is so. -/
import Derived.Test.YthlfhfliidhelaaGreatDoorEc
import Derived.CallsIn
import Derived.OrdersIn
set_option linter.unusedSimpArgs false
set_option linter.unusedVariables false
set_option linter.all false
namespace Go.Proofs.YthlfhfliidhelaaGreatDoor.Eng
open Go.RowKit
variable {P : Program} {nG sz base : Nat} {w0 : World} {o : Oper}
def Sound (P : Program) (nG sz : Nat) (o : Oper) : OpK → Prop
  | .bad => True
  | .q f => Quiet P nG sz o f
  | .r f => Reader P nG sz o f
  | .n f g => Maker P nG sz o f g
  | .a f => Actor P nG sz o f
  | .call f args => ∃ c, o.op = .call c ∧ c.callee = .value f ∧ args = c.args.toList
theorem bin_sound {op : BinOp} {t u : TypeId} {x y : Operand} (ho : o.op = .binOp op t x y u) (hx : okO sz nG x = true) (hy : okO sz nG y = true) : Sound P nG sz o (kBin P op t x y u) := by
  cases h : kBin P op t x y u <;> first | exact q_bin h ho hx hy | skip
  all_goals (unfold kBin kBinO at h; cases hf : fastOp op <;> rw [hf] at h <;> cases h)
theorem conv_sound {src dst : TypeId} {x : Operand} (ho : o.op = .convert src dst x) (hx : okO sz nG x = true) : Sound P nG sz o (kConv P src dst x) := by
  unfold kConv
  split
  · rename_i hs hd; exact q_conv ho hs hd hx
  · rename_i hs hd
    split
    · rename_i he; exact r_b2s ho hs hd he hx
    · trivial
  · rename_i hs hd
    split
    · rename_i he hj
      split
      · rename_i h1; rw [Nat.beq_eq] at h1; exact a_s2b ho hs hd he hj h1 hx
      · trivial
    · trivial
  · rename_i hs hd
    split
    · rename_i hi
      split
      · rename_i h0; exact r_toU ho hs hd hi (fun h => by rw [h] at h0; cases h0) hx
      · trivial
    · trivial
  · rename_i hs hd
    split
    · rename_i hi
      split
      · rename_i h0; exact r_fromU ho hs hd hi (fun h => by rw [h] at h0; cases h0) hx
      · trivial
    · trivial
  · exact q_convS ho hx
theorem iface_sound {t : TypeId} {x : Operand} (ho : o.op = .makeInterface t x) (hx : okO sz nG x = true) : Sound P nG sz o (kIface P t x) := by
  cases h : kIface P t x <;> first | exact q_iface h ho hx | skip
  all_goals first | trivial | (unfold kIface at h; split at h <;> cases h)
theorem assert_sound {x : Operand} {s t : TypeId} {ok : Bool} (ho : o.op = .typeAssert x s t ok) (hx : okO sz nG x = true) : Sound P nG sz o (kAssert P x s t ok) := by
  cases h : kAssert P x s t ok <;> first | exact q_assert h ho hx | skip
  all_goals first | trivial | (unfold kAssert at h; split at h <;> cases h)
theorem field_sound {s : TypeId} {x : Operand} {i : Nat} (ho : o.op = .fieldAddr s x i) (hx : okO sz nG x = true) : Sound P nG sz o (kField P s x i) := by
  cases h : kField P s x i <;> first | exact q_field h ho hx | skip
  all_goals first | trivial | (unfold kField kFieldO at h; cases hf : fieldV P s i <;> rw [hf] at h <;> cases h)
theorem ix_sound {t : TypeId} {x i : Operand} (ho : o.op = .indexAddr t x i) (hx : okO sz nG x = true) (hi : okO sz nG i = true) : Sound P nG sz o (kIndexAddr P t x i) := by
  cases h : kIndexAddr P t x i <;> first | exact q_ix h ho hx hi | skip
  all_goals first | trivial | (unfold kIndexAddr kIx at h; cases hf : ixT P t <;> rw [hf] at h <;> cases h)
theorem map_sound {t : TypeId} {r : Option Operand} (ho : o.op = .makeMap t r) : Sound P nG sz o (kMap P t r) := by
  cases h : kMap P t r <;> first | exact a_map h ho | skip
  all_goals first | trivial | (unfold kMap at h; split at h <;> first | (cases h; done) | (split at h <;> cases h))
theorem func_sound {fn : Fn} {first captured : Array Operand} (ho : o.op = .makeFunc fn first captured) (h1 : first.toList.all (okO sz nG) = true) (h2 : captured.toList.all (okO sz nG) = true) : Sound P nG sz o (kFunc fn first captured) := by
  unfold kFunc
  split
  · exact q_func ho h1 h2
  · trivial
theorem builtin_sound {c : Call} {b : Builtin} (ho : o.op = .call c) (hb : c.callee = .builtin b) (hargs : c.args.toList.all (okO sz nG) = true) : Sound P nG sz o (kBuiltin P nG b c.argTypes.toList c.args.toList) := by
  cases ha : c.args.toList with
  | nil => cases b <;> trivial
  | cons x l =>
    rw [ha] at hargs
    simp only [List.all_cons, Bool.and_eq_true] at hargs
    cases l with
    | nil =>
      cases b <;> first | exact q_len ho hb ha hargs.1 | exact a_clear ho hb ha hargs.1 | exact q_sd ho hb ha hargs.1 | trivial
    | cons y l =>
      simp only [List.all_cons, Bool.and_eq_true] at hargs
      cases l with
      | nil =>
        cases b <;> first | exact q_max ho hb ha hargs.1 hargs.2.1 | exact q_min ho hb ha hargs.1 hargs.2.1 | trivial | skip
        · show Sound P nG sz o (match elemT P (nth c.argTypes.toList 0) with | some (e, size) => _ | none => _)
          split
          · rename_i hT; exact a_append hT ho hb ha hargs.1 hargs.2.1
          · trivial
        · show Sound P nG sz o (match elemT P (nth c.argTypes.toList 0) with | some (_, size) => _ | _ => _)
          split
          · rename_i hT; exact a_copy hT ho hb ha hargs.1 hargs.2.1
          · trivial
        · show Sound P nG sz o (match byteT P (nth c.argTypes.toList 0), Nat.beq (lenL c.argTypes.toList) 2 with | some e, true => _ | _, _ => _)
          split
          · rename_i hT h2; rw [Nat.beq_eq, lenL_eq] at h2; exact a_us hT (by simpa using h2) ho hb ha hargs.1 hargs.2.1
          · trivial
      | cons z l => cases b <;> trivial
theorem call_sound {c : Call} (ho : o.op = .call c) (hok : c.operands.toList.all (okO sz nG) = true) : Sound P nG sz o (kCall P nG c) := by
  unfold kCall
  split
  · rename_i f hf; exact ⟨c, ho, hf, rfl⟩
  · rename_i b hb
    refine builtin_sound ho hb ?_
    simpa [Call.operands, hb] using hok
  · trivial
theorem okOp_some {r : Option Operand} (h : r.toArray.toList.all (okO sz nG) = true) : okOp sz nG r = true := by
  cases r with
  | none => rfl
  | some x => simpa [okOp] using h
theorem parts_ok {ps : Array (Nat × Operand)} (h : ((ps.toList.map (·.2)).toArray).toList.all (okO sz nG) = true) : ps.toList.all (fun p => okO sz nG p.2) = true := by
  simpa [List.all_map] using h
theorem op_sound (hok : o.op.operands.toList.all (okO sz nG) = true) : Sound P nG sz o (opT P nG o.op) := by
  cases ho : o.op <;> rw [ho] at hok <;> first | trivial | skip
  case move x => exact q_move ho (by simpa [Op.operands] using hok)
  case assign x => exact q_assign ho (by simpa [Op.operands] using hok)
  case pick c x y => have h : okO sz nG c = true ∧ okO sz nG x = true ∧ okO sz nG y = true := (by simpa [Op.operands] using hok); exact q_pick ho h.1 h.2.1 h.2.2
  case alloc t => exact n_alloc ho
  case box t x => exact n_box ho (by simpa [Op.operands] using hok)
  case build t ps => exact q_build ho (parts_ok hok)
  case buildSlice t len ps => exact n_buildSlice ho (parts_ok hok)
  case insert t m k x => have h : okO sz nG m = true ∧ okO sz nG k = true ∧ okO sz nG x = true := (by simpa [Op.operands] using hok); exact a_insert (.inl ho) h.1 h.2.1 h.2.2
  case load t x => exact r_loadO ho (by simpa [Op.operands] using hok)
  case store t x y => have h : okO sz nG x = true ∧ okO sz nG y = true := (by simpa [Op.operands] using hok); exact a_store ho h.1 h.2
  case nilCheck x => exact q_nil ho (by simpa [Op.operands] using hok)
  case binOp op t x y u => have h : okO sz nG x = true ∧ okO sz nG y = true := (by simpa [Op.operands] using hok); exact bin_sound ho h.1 h.2
  case unOp op t x => exact q_un ho (by simpa [Op.operands] using hok)
  case convert src dst x => exact conv_sound ho (by simpa [Op.operands] using hok)
  case makeInterface t x => exact iface_sound ho (by simpa [Op.operands] using hok)
  case makeFunc fn first captured =>
    have h : first.toList.all (okO sz nG) = true ∧ captured.toList.all (okO sz nG) = true := by
      rw [show (Op.makeFunc fn first captured).operands = first ++ captured from rfl, Array.toList_append, List.all_append, Bool.and_eq_true] at hok
      exact hok
    exact func_sound ho h.1 h.2
  case makeMap t r => exact map_sound ho
  case makeSlice t l c =>
    have h : okO sz nG l = true ∧ okO sz nG c = true := (by simpa [Op.operands] using hok)
    show Sound P nG sz o (kMakeSlice P t l c)
    unfold kMakeSlice
    split
    · rename_i s h1 h2
      exact n_make ho h1 h2 h.1
    · exact a_make ho h.1 h.2
  case slice t x lo hi mx =>
    rw [show (Op.slice t x lo hi mx).operands = #[x] ++ lo.toArray ++ hi.toArray ++ mx.toArray from rfl] at hok
    simp only [Array.toList_append, List.all_append, Bool.and_eq_true] at hok
    exact q_slice ho (by simpa using hok.1.1.1) (okOp_some hok.1.1.2) (okOp_some hok.1.2) (okOp_some hok.2)
  case fieldAddr s x i => exact field_sound ho (by simpa [Op.operands] using hok)
  case field s x i => exact q_fieldV ho (by simpa [Op.operands] using hok)
  case indexAddr t x i => have h : okO sz nG x = true ∧ okO sz nG i = true := (by simpa [Op.operands] using hok); exact ix_sound ho h.1 h.2
  case index t x i => have h : okO sz nG x = true ∧ okO sz nG i = true := (by simpa [Op.operands] using hok); exact q_index ho h.1 h.2
  case lookup t m k ok => have h : okO sz nG m = true ∧ okO sz nG k = true := (by simpa [Op.operands] using hok); exact r_look ho h.1 h.2
  case mapUpdate t m k x => have h : okO sz nG m = true ∧ okO sz nG k = true ∧ okO sz nG x = true := (by simpa [Op.operands] using hok); exact a_insert (.inr ho) h.1 h.2.1 h.2.2
  case typeAssert x s t ok => exact assert_sound ho (by simpa [Op.operands] using hok)
  case extract x i => exact q_extract ho (by simpa [Op.operands] using hok)
  case call c => exact call_sound ho hok
end Go.Proofs.YthlfhfliidhelaaGreatDoor.Eng
namespace Go.Proofs.YthlfhfliidhelaaGreatDoor.Eng
open Go.RowKit
variable {P : Program} {nG sz base : Nat} {w0 : World}
def FF (r : Option Nat) : Fence := { Fence.wide with round := r }
theorem fenced_FF (P : Program) (r : Option Nat) (m : Machine) : m.fenced P (FF r) := fenced_wide P m
theorem room_FF (r : Option Nat) (n : Nat) : (FF r).room n := room_wide n
theorem depth_FF {r : Option Nat} (h : (FF r).depth.isSome = true) : 1 ≤ 0 := by cases h
def Ar (J : Inj) (fr : Fr) (r : Option Nat) : Prop := (r = none ∧ fget slotR fr = undef) ∨ ∃ l x, fget slotR fr = .func (.yield l) #[] #[] ∧ J l = some x ∧ r = some x.B
theorem Ar.mono {J J' : Inj} (hJ : J.le J') {fr : Fr} {r : Option Nat} (h : Ar J fr r) : Ar J' fr r := by
  rcases h with h | ⟨l, x, h1, h2, h3⟩
  · exact .inl h
  · exact .inr ⟨l, x, h1, hJ _ _ h2, h3⟩
theorem Ar.put {J : Inj} {fr : Fr} {r : Option Nat} (h : Ar J fr r) {t : Nat} (ht : t < 255) (v : Value) : Ar J (fset v t fr) r := by
  have e : fget slotR (fset v t fr) = fget slotR fr := by
    rw [fget_fset v fr (by omega) (by decide), if_neg (by unfold slotR; omega)]
  rcases h with ⟨h1, h2⟩ | ⟨l, x, h1, h2, h3⟩
  · exact .inl ⟨h1, by rw [e]; exact h2⟩
  · exact .inr ⟨l, x, by rw [e]; exact h1, h2, h3⟩
def markD (r : Nat) : Deferred := { target := .collected r, args := #[] }
def Pins (S : Nat) (J : Inj) (H : AH) (w : World) (ds : List Deferred) : Prop :=
  ∃ rs : List Nat, ds = rs.map markD ∧ rs.Nodup ∧ ∀ r ∈ rs, S ≤ r ∧ w.heap[r]? = some (.deferred (some [])) ∧ ∀ b x, (H.get b).isSome = true → J b = some x → x.B ≠ r
theorem Ev.apart {N : Nat} {J J' : Inj} {H H' : AH} {w w' : World} (e : Ev N J H w J' H' w') (ids : ∀ b x, J b = some x → b < N) {B : Nat} (hB : B < w.heap.size) (h : ∀ b x, (H.get b).isSome = true → J b = some x → x.B ≠ B) :
    w'.heap[B]? = w.heap[B]? ∧ ∀ b x, (H'.get b).isSome = true → J' b = some x → x.B ≠ B := by
  refine ⟨e.frame B hB h, fun b x hl hj he => ?_⟩
  cases hb : J b with
  | some y =>
    have := e.ext b y hb
    rw [hj] at this; obtain rfl := Option.some.inj this
    exact h b x (e.live b (ids b x hb) hl) hb he
  | none =>
    rcases e.newB b x hb hj with h1 | ⟨b0, x0, h1, h2, h3⟩
    · omega
    · exact h b0 x0 h1 h2 (h3.trans he)
theorem Pins.ev {S N : Nat} {J J' : Inj} {H H' : AH} {w w' : World} {ds : List Deferred} (h : Pins S J H w ds) (e : Ev N J H w J' H' w') (ids : ∀ b x, J b = some x → b < N) : Pins S J' H' w' ds := by
  obtain ⟨rs, h1, h2, h3⟩ := h
  refine ⟨rs, h1, h2, fun r hr => ?_⟩
  obtain ⟨a1, a2, a3⟩ := h3 r hr
  have hlt := (Array.getElem?_eq_some_iff.1 a2).1
  obtain ⟨b1, b2⟩ := e.apart ids hlt a3
  exact ⟨a1, b1.trans a2, b2⟩
structure St (P : Program) (nG base : Nat) (w0 : World) (sz S : Nat) (r : Option Nat) (J : Inj) (fr : Fr) (H : AH) (a : Act) (w : World) : Prop where
  at_ : At nG sz J fr a
  sz : sz ≤ 255
  wr : WR P nG base w0 J H w
  ar : Ar J fr r
  pins : Pins S J H w a.defers
theorem At.mono {J J' : Inj} (hJ : J.le J') {fr : Fr} {a : Act} (h : At nG sz J fr a) : At nG sz J' fr a := ⟨fun g hg => hJ _ _ (h.glob g hg), h.fr.mono hJ⟩
def Callee (f : Value) (args : Array Value) : Sem Next := do let d ← Deferred.ofValue f args; invoke d.target d.args
def CallV (P : Program) (f' : Value) (args' : Array Value) (w : World) (R : Value → World → Prop) : Prop :=
  (∃ g as, (Callee f' args').run P w = .ok (.enter g as) w ∧ CallsIn Fence.wide 0 P g as w (fun e w' => ∃ v, e = .returned v ∧ R v w')) ∨
  (∃ l g tm c1 c2, (Callee f' args').run P w = .ok (.round l g tm c1 c2) w ∧ RoundIn Fence.wide 0 P l g tm c1 c2 w (fun e w' => ∃ v, e = .returned v ∧ R v w')) ∨
  ∃ v w', (Callee f' args').run P w = .ok (.value v) w' ∧ R v w'
def CallSem (P : Program) (nG : Nat) (f : Value) (args : List Value) (H : AH) (v : Value) (H' : AH) : Prop :=
  ∀ (base : Nat) (w0 : World) (J : Inj) (w : World) (f' : Value) (args' : List Value), VR J f f' → VRs J args args' → WR P nG base w0 J H w →
    CallV P f' ⟨args'⟩ w fun v' w' => ∃ J', VR J' v v' ∧ WR P nG base w0 J' H' w' ∧ Ev H.next J H w J' H' w'
def AStep (P : Program) (nG : Nat) (fr : Fr) (H : AH) (v : Value) (H' : AH) : OpK → Prop
  | .bad => False
  | .q f => f fr = some v ∧ H' = H
  | .r f => f fr H = some v ∧ H' = H
  | .n f g => ∃ cs e, f fr = some (cs, e) ∧ H.room = true ∧ v = g H.next cs ∧ H' = H.new (.cells cs e)
  | .a f => f fr H = .ok v H'
  | .call f args => CallSem P nG (ev f fr) (args.map fun x => ev x fr) H v H'
theorem sem_call {o : Oper} {c : Call} {f : Operand} (ho : o.op = .call c) (hc : c.callee = .value f) (ρ : Operand → Value) : execOp ρ o = Callee (ρ f) (c.args.map ρ) := by
  simp only [execOp, ho, resolve, hc]; rfl
theorem uponIn_gives {r : Option Nat} {o : Oper} {a : Act} {w w' : World} {v' : Value} {next : Act → World → Prop} {Q : Exit → Act → World → Prop} (hd : ∀ c, o.op ≠ .defer c) (hg : Gives P o a w v' w') (hn : next (a.put o.dst v') w') : o.wpIn (FF r) 0 P a w next Q := by
  refine ⟨fun _ _ => trivial, ?_⟩
  rw [Oper.semAt_eq _ _ _ hd]
  rcases hg with h | ⟨h, rfl⟩ <;> rw [h] <;> exact hn
theorem notDefer {o : Oper} (h : opT P nG o.op ≠ .bad) : ∀ c, o.op ≠ .defer c := by
  rintro c hc
  rw [hc] at h
  exact h rfl
theorem op_wp {r : Option Nat} {o : Oper} (hok : o.op.operands.toList.all (okO sz nG) = true) {J : Inj} {fr : Fr} {H H' : AH} {a : Act} {w : World} {v : Value} (ha : At nG sz J fr a) (hw : WR P nG base w0 J H w) (hs : AStep P nG fr H v H' (opT P nG o.op))
    {next : Act → World → Prop} {Q : Exit → Act → World → Prop} (hn : ∀ (J' : Inj) (v' : Value) (w' : World), VR J' v v' → WR P nG base w0 J' H' w' → Ev H.next J H w J' H' w' → next (a.put o.dst v') w') : o.wpIn (FF r) 0 P a w next Q := by
  have hS := op_sound (P := P) hok
  have hnd : ∀ c, o.op ≠ .defer c := notDefer (P := P) (nG := nG) (fun hb => by rw [hb] at hs; exact hs)
  cases hk : opT P nG o.op with
  | bad => rw [hk] at hs; exact hs.elim
  | q f =>
    rw [hk] at hs hS
    obtain ⟨hf, rfl⟩ := hs
    obtain ⟨v', h1, h2⟩ := hS J fr a v ha hf
    exact uponIn_gives hnd (.inl (h2 w)) (hn J v' w h1 hw (Ev.refl _ J _ w))
  | r f =>
    rw [hk] at hs hS
    obtain ⟨hf, rfl⟩ := hs
    obtain ⟨v', h1, h2⟩ := hS base w0 J fr a _ w v ha hw hf
    exact uponIn_gives hnd (.inl h2) (hn J v' w h1 hw (Ev.refl _ J _ w))
  | n f g =>
    rw [hk] at hs hS
    obtain ⟨cs, e, hf, hroom, rfl, rfl⟩ := hs
    obtain ⟨cs', v', h1, h2, h3⟩ := hS J fr a cs e ha hf
    unfold AH.room at hroom
    rw [Nat.ble_eq] at hroom
    have hor := OR.row (P := P) (nG := nG) (w := w) (h1.mono (Inj.le_add (x := ⟨w.heap.size, 0, 0, 0⟩) hw.fresh)) e
    obtain ⟨r1, r2⟩ := hw.alloc hroom (.cells cs e) (.cells ⟨cs'⟩ e) 0 0 hor
    exact uponIn_gives hnd (.inl (h2 w)) (hn _ _ _ (h3 _ H.next _ (Inj.add_same _ _ _)) r1 r2)
  | a f =>
    rw [hk] at hs hS
    obtain ⟨J', v', w', h1, h2, h3, h4⟩ := hS base w0 J fr a H w v H' ha hw hs
    exact uponIn_gives hnd h2 (hn J' v' w' h1 h3 h4)
  | call f args =>
    rw [hk] at hs hS
    obtain ⟨c, hc, hcal, rfl⟩ := hS
    have hall : okO sz nG f = true ∧ c.args.toList.all (okO sz nG) = true := by
      rw [hc] at hok
      simpa [Op.operands, Call.operands, hcal] using hok
    have hargs := ha.evs hall.2
    rw [mapL_eq] at hargs
    have e1 : c.args.map a.eval = ⟨c.args.toList.map a.eval⟩ := map_arr rfl _
    have hcall := hs base w0 J w (a.eval f) _ (ha.ev hall.1) hargs hw
    refine ⟨fun _ _ => trivial, ?_⟩
    rw [Oper.semAt_eq _ _ _ hnd, sem_call hc hcal, e1]
    rcases hcall with ⟨g, as, h1, h2⟩ | ⟨l, g, tm, c1, c2, h1, h2⟩ | ⟨v', w', h1, J', h2, h3, h4⟩
    · rw [h1]
      refine ⟨fun h => absurd (depth_FF h) (by omega), ?_⟩
      exact CallsIn.mono (F := FF r) h2 (fun e w' ⟨v', he, J', p1, p2, p3⟩ => by subst he; exact hn J' v' w' p1 p2 p3)
    · rw [h1]
      refine ⟨fun h => absurd (depth_FF h) (by omega), ?_⟩
      exact RoundIn.mono (F := FF r) h2 (fun e w' ⟨v', he, J', p1, p2, p3⟩ => by subst he; exact hn J' v' w' p1 p2 p3)
    · rw [h1]
      exact hn J' v' w' h2 h3 h4
end Go.Proofs.YthlfhfliidhelaaGreatDoor.Eng
namespace Go.Proofs.YthlfhfliidhelaaGreatDoor.Eng
open Go.RowKit
variable {P : Program} {nG sz base S : Nat} {w0 : World} {r : Option Nat}
theorem okOper_some {ops : List Oper} {o : Oper} (h : okOper sz nG ops o = true) : o.op.operands.toList.all (okO sz nG) = true ∧ okDst sz o.dst = true ∧ okGuard sz ops o.guard = true := by
  unfold okOper at h
  rw [Bool.and_eq_true, Bool.and_eq_true] at h
  exact h
theorem St.put {J : Inj} {fr : Fr} {H : AH} {a : Act} {w : World} (h : St P nG base w0 sz S r J fr H a w) {d : Option Tmp} (hd : okDst sz d = true) {v v' : Value} (hv : VR J v v') : St P nG base w0 sz S r J (putD d v fr) H (a.put d v') w := by
  cases d with
  | none => exact h
  | some d =>
    simp only [okDst, Nat.ble_eq] at hd
    have := h.sz
    exact ⟨⟨h.at_.glob, h.at_.fr.put hd hv⟩, h.sz, h.wr, h.ar.put (by omega) v, h.pins⟩
theorem St.ev {J J' : Inj} {fr : Fr} {H H' : AH} {a : Act} {w w' : World} (h : St P nG base w0 sz S r J fr H a w) (hw : WR P nG base w0 J' H' w') (e : Ev H.next J H w J' H' w') : St P nG base w0 sz S r J' fr H' a w' :=
  ⟨h.at_.mono e.ext, h.sz, hw, h.ar.mono e.ext, h.pins.ev e h.wr.ids⟩
theorem bEq_eq (a b : Bool) : bEq a b = (a == b) := by cases a <;> cases b <;> rfl
noncomputable def wants (g : Option (Tmp × Bool)) (fr : Fr) : Bool := match g with
  | none => true
  | some (t, w) => vBool (fget t fr) (bEq w true) (bEq w false) false
theorem wanted_eq {ops : Array Oper} {o : Oper} (hok : okGuard sz ops.toList o.guard = true) {J : Inj} {fr : Fr} {a : Act} (ha : At nG sz J fr a) : Region.wanted o (yielded ops a.tmps) = wants (guardOf ops.toList o.guard) fr := by
  unfold Region.wanted guardOf
  cases hg : o.guard with
  | none => rfl
  | some p =>
    obtain ⟨j, w⟩ := p
    rw [hg] at hok
    simp only [okGuard] at hok
    dsimp only
    rw [nth_eq]
    split at hok <;> first | (cases hok; done) | skip
    rename_i q hq
    split at hok <;> first | (cases hok; done) | skip
    rename_i d hd
    rw [Nat.ble_eq] at hok
    have hq' : ops[j]? = some q := by simpa using hq
    try rw [hq]
    try simp only [hd]
    have hv := ha.fr.rel d hok
    have hsz : d < a.tmps.size := by rw [ha.fr.size]; exact hok
    have hget : a.tmps[d]? = some (a.tmps.getD d undef) := by simp [hsz]
    unfold yielded wants
    simp only [hq', Option.bind_some, hd, hget]
    generalize fget d fr = v at hv
    generalize a.tmps.getD d undef = v' at hv
    cases hv <;> first | rfl | skip
    rename_i b
    show (some b == some w) = Bool.rec (bEq w false) (bEq w true) b
    cases b <;> cases w <;> rfl
inductive ARun (P : Program) (nG : Nat) (L : List Oper) : List Oper → Fr → AH → Fr → AH → Prop
  | nil (fr : Fr) (H : AH) : ARun P nG L [] fr H fr H
  | skip (o : Oper) (l : List Oper) (fr : Fr) (H : AH) (fr' : Fr) (H' : AH) (hw : wants (guardOf L o.guard) fr = false) (h : ARun P nG L l (putD o.dst undef fr) H fr' H') : ARun P nG L (o :: l) fr H fr' H'
  | step (o : Oper) (l : List Oper) (fr : Fr) (H : AH) (v : Value) (H1 : AH) (fr' : Fr) (H' : AH) (hw : wants (guardOf L o.guard) fr = true) (hs : AStep P nG fr H v H1 (opT P nG o.op)) (h : ARun P nG L l (putD o.dst v fr) H1 fr' H') : ARun P nG L (o :: l) fr H fr' H'
def After (P : Program) (nG base : Nat) (w0 : World) (sz S : Nat) (r : Option Nat) (N : Nat) (J : Inj) (H : AH) (w : World) (fr' : Fr) (H' : AH) (a' : Act) (w' : World) : Prop :=
  ∃ J', St P nG base w0 sz S r J' fr' H' a' w' ∧ Ev N J H w J' H' w'
theorem ops_wp {ops : Array Oper} {Q : Exit → Act → World → Prop} : ∀ {l : List Oper} {fr : Fr} {H : AH} {fr' : Fr} {H' : AH}, ARun P nG ops.toList l fr H fr' H' → l.all (okOper sz nG ops.toList) = true → ∀ {is : List Nat}, (is.map fun i => ops[i]?) = l.map some →
    ∀ {J : Inj} {a : Act} {w : World}, St P nG base w0 sz S r J fr H a w → (∀ a' w', After P nG base w0 sz S r H.next J H w fr' H' a' w' → Q .normal a' w') → wpOpsIn (FF r) 0 P ops Q is a w := by
  intro l fr H fr' H' hr
  induction hr with
  | nil fr H =>
    intro _ is his J a w hst hQ
    cases is with
    | nil => exact hQ a w ⟨J, hst, Ev.refl _ J H w⟩
    | cons i is => cases his
  | skip o l fr H fr' H' hw h ih =>
    intro hok is his J a w hst hQ
    simp only [List.all_cons, Bool.and_eq_true] at hok
    obtain ⟨h1, h2, h3⟩ := okOper_some hok.1
    cases is with
    | nil => cases his
    | cons i is =>
      simp only [List.map_cons, List.cons.injEq] at his
      simp only [wpOpsIn, his.1]
      rw [wanted_eq h3 hst.at_, hw]
      refine ⟨fun _ _ => trivial, ?_⟩
      exact ih hok.2 his.2 (hst.put h2 (VR.undef J)) hQ
  | step o l fr H v H1 fr' H' hw hs h ih =>
    intro hok is his J a w hst hQ
    simp only [List.all_cons, Bool.and_eq_true] at hok
    obtain ⟨h1, h2, h3⟩ := okOper_some hok.1
    cases is with
    | nil => cases his
    | cons i is =>
      simp only [List.map_cons, List.cons.injEq] at his
      simp only [wpOpsIn, his.1]
      rw [wanted_eq h3 hst.at_, hw, if_pos rfl]
      refine op_wp h1 hst.at_ hst.wr hs fun J' v' w' hv hw' he => ?_
      refine ih hok.2 his.2 ((hst.ev hw' he).put h2 hv) fun a2 w2 ⟨J2, k1, k2⟩ => hQ a2 w2 ⟨J2, k1, he.trans hst.wr.ids (k2.weak he.next)⟩
theorem region_wp {id : Nat} {ops : Array Oper} {Q : Exit → Act → World → Prop} {fr : Fr} {H : AH} {fr' : Fr} {H' : AH} (hr : ARun P nG ops.toList ops.toList fr H fr' H') (hok : ops.toList.all (okOper sz nG ops.toList) = true) {J : Inj} {a : Act} {w : World}
    (hst : St P nG base w0 sz S r J fr H a w) (hQ : ∀ a' w', After P nG base w0 sz S r H.next J H w fr' H' a' w' → Q .normal a' w') : (Code.region id ops false).wpIn (FF r) 0 P Q a w := by
  refine wpIn_region (ops_wp hr hok ?_ hst hQ)
  apply List.ext_getElem?
  intro i
  simp only [List.getElem?_map]
  by_cases hi : i < ops.size
  · rw [List.getElem?_range hi]; simp [hi]
  · rw [List.getElem?_eq_none (by simp; omega), List.getElem?_eq_none (by simp; omega)]; rfl
end Go.Proofs.YthlfhfliidhelaaGreatDoor.Eng
namespace Go.Proofs.YthlfhfliidhelaaGreatDoor.Eng
open Go.RowKit
variable {P : Program} {nG sz base S : Nat} {w0 : World} {r : Option Nat}
inductive Bf (ops : Array Oper) : Nat → Nat → Prop
  | edge (j : Nat) (o : Oper) (e : Edge) (ho : ops[j]? = some o) (he : e ∈ o.after) (hb : Region.binds .any e = true) : Bf ops e.on j
  | trans (i j : Nat) (o : Oper) (e : Edge) (ho : ops[j]? = some o) (he : e ∈ o.after) (hb : Region.binds .any e = true) (h : Bf ops i e.on) : Bf ops i j
def DStep (P : Program) (nG : Nat) (b : Nat) (fr : Fr) (H : AH) (v : Value) (H' : AH) (rd : (AH → Option Value) → Prop) : OpK → Prop
  | .bad => False
  | .q f => f fr = some v ∧ H' = H
  | .r f => f fr H = some v ∧ H' = H ∧ rd (f fr)
  | .n f g => ∃ cs e, f fr = some (cs, e) ∧ v = g b cs ∧ H' = H.put b (some (.cells cs e))
  | .a f => f fr H = .ok v H'
  | .call f args => CallSem P nG (ev f fr) (args.map fun x => ev x fr) H v H'
def isNK : OpK → Bool
  | .n _ _ => true
  | _ => false
structure DR (P : Program) (nG sz N m : Nat) (ops : Array Oper) (π pos lo idn : Nat → Nat) (fr : Nat → Fr) (Hh : Nat → AH) (vv : Nat → Value) : Prop where
  pi : ∀ p : Nat, p < ops.size → π p < ops.size ∧ pos (π p) = p
  po : ∀ i : Nat, i < ops.size → pos i < ops.size ∧ π (pos i) = i
  ok : ∀ (i : Nat) (o : Oper), ops[i]? = some o → okOper sz nG ops.toList o = true
  frS : ∀ (p : Nat) (o : Oper), p < ops.size → ops[π p]? = some o → fr (p + 1) = putD o.dst (vv p) (fr p)
  step : ∀ (p : Nat) (o : Oper), p < ops.size → ops[π p]? = some o → (wants (guardOf ops.toList o.guard) (fr p) = false ∧ vv p = undef ∧ Hh (p + 1) = Hh p) ∨
    (wants (guardOf ops.toList o.guard) (fr p) = true ∧ DStep P nG (N + idn p) (fr p) (Hh p) (vv p) (Hh (p + 1)) (fun f => ∀ k, lo p ≤ k → k ≤ p → f (Hh k) = some (vv p)) (opT P nG o.op))
  edge : ∀ (i : Nat) (o : Oper) (e : Edge), ops[i]? = some o → e ∈ o.after → Region.binds .any e = true → e.on < ops.size ∧ pos e.on < pos i
  slots : ∀ (i j : Nat) (oi oj : Oper) (t : Tmp), ops[i]? = some oi → ops[j]? = some oj → oi.dst = some t → t ∈ slotsOf ops.toList oj → i = j ∨ Bf ops i j ∨ Bf ops j i
  dsts : ∀ (i j : Nat) (oi oj : Oper) (t : Tmp), ops[i]? = some oi → ops[j]? = some oj → oi.dst = some t → oj.dst = some t → i = j
  late : ∀ (i : Nat) (o : Oper), ops[i]? = some o → isFloat (opT P nG o.op) = false → ∀ q : Nat, q < pos i → Bf ops (π q) i
  lo_ : ∀ p : Nat, p < ops.size → lo p = 0 ∨ (lo p - 1 < p ∧ (∃ o : Oper, ops[π (lo p - 1)]? = some o ∧ isFloat (opT P nG o.op) = false) ∧ Bf ops (π (lo p - 1)) (π p))
  idm : ∀ (p : Nat) (o : Oper), p < ops.size → ops[π p]? = some o → isNK (opT P nG o.op) = true → idn p < m
  idj : ∀ (p q : Nat) (o o' : Oper), p < ops.size → q < ops.size → ops[π p]? = some o → ops[π q]? = some o' → isNK (opT P nG o.op) = true → isNK (opT P nG o'.op) = true → idn p = idn q → p = q
  next : ∀ p : Nat, p ≤ ops.size → N + m ≤ (Hh p).next
section
variable {N m : Nat} {ops : Array Oper} {π pos lo idn : Nat → Nat} {fr : Nat → Fr} {Hh : Nat → AH} {vv : Nat → Value} (D : DR P nG sz N m ops π pos lo idn fr Hh vv)
include D
theorem DR.bf_pos {i j : Nat} (h : Bf ops i j) : i < ops.size ∧ pos i < pos j := by
  induction h with
  | edge j o e ho he hb => exact D.edge j o e ho he hb
  | trans i j o e ho he hb h ih => exact ⟨ih.1, Nat.lt_trans ih.2 (D.edge j o e ho he hb).2⟩
omit D in
def Cl (ops : Array Oper) (ls : Array Bool) : Prop := ∀ (j : Nat) (o : Oper) (e : Edge), ops[j]? = some o → ls.getD j true = true → e ∈ o.after → Region.binds .any e = true → ls.getD e.on false = true
omit D in
theorem DR.size_some {i : Nat} {o : Oper} (h : ops[i]? = some o) : i < ops.size := (Array.getElem?_eq_some_iff.1 h).1
omit D in
theorem getD_tf {ls : Array Bool} {i : Nat} (hi : i < ls.size) : ls.getD i true = ls.getD i false := by simp [hi]
theorem DR.cl_bf {ls : Array Bool} (hsz : ls.size = ops.size) (hc : Cl ops ls) {i j : Nat} (h : Bf ops i j) (hj : ls.getD j true = true) : ls.getD i false = true := by
  induction h with
  | edge j o e ho he hb => exact hc j o e ho hj he hb
  | trans i j o e ho he hb h ih =>
    have h1 := hc j o e ho hj he hb
    have := (D.edge j o e ho he hb).1
    exact ih (by rw [getD_tf (by omega)]; exact h1)
theorem DR.ready_bf {ls : Array Bool} (hsz : ls.size = ops.size) (hc : Cl ops ls) {i j : Nat} (h : Bf ops i j) {o : Oper} (ho : ops[j]? = some o) (hr : ∀ e ∈ o.after, Region.binds .any e = true → ls.getD e.on false = true) : ls.getD i false = true := by
  cases h with
  | edge j o' e ho' he hb => rw [ho] at ho'; obtain rfl := Option.some.inj ho'; exact hr e he hb
  | trans i j o' e ho' he hb h =>
    rw [ho] at ho'; obtain rfl := Option.some.inj ho'
    have h1 := hr e he hb
    have := (D.edge j _ e ho he hb).1
    exact D.cl_bf hsz hc h (by rw [getD_tf (by omega)]; exact h1)
theorem DR.fr_char (hsz : sz ≤ 255) : ∀ p : Nat, p ≤ ops.size → ∀ t : Nat, t < 256 → (∀ (q : Nat) (o : Oper), q < p → ops[π q]? = some o → o.dst = some t → fget t (fr p) = vv q) ∧ ((∀ (q : Nat) (o : Oper), q < p → ops[π q]? = some o → o.dst ≠ some t) → fget t (fr p) = fget t (fr 0)) := by
  intro p
  induction p with
  | zero => intro _ t _; exact ⟨fun q o hq => absurd hq (by omega), fun _ => rfl⟩
  | succ p ih =>
    intro hp t ht
    obtain ⟨i1, i2⟩ := ih (by omega) t ht
    have hpn : π p < ops.size := (D.pi p (by omega)).1
    have hop : ops[π p]? = some ops[π p] := Array.getElem?_eq_getElem hpn
    have hfr := D.frS p _ (by omega) hop
    rw [hfr]
    have hokd := (okOper_some (D.ok _ _ hop)).2.1
    cases hd : (ops[π p]).dst with
    | none =>
      refine ⟨fun q o hq ho hdo => ?_, fun h => i2 fun q o hq ho => h q o (by omega) ho⟩
      rcases Nat.lt_or_ge q p with h1 | h1
      · exact i1 q o h1 ho hdo
      · obtain rfl : q = p := by omega
        rw [hop] at ho; obtain rfl := Option.some.inj ho
        rw [hd] at hdo; cases hdo
    | some d =>
      rw [hd] at hokd
      simp only [okDst, Nat.ble_eq] at hokd
      show _ ∧ _
      have e1 : fget t (putD (some d) (vv p) (fr p)) = if t = d then vv p else fget t (fr p) := fget_fset _ _ (by omega) ht
      rw [e1]
      refine ⟨fun q o hq ho hdo => ?_, fun h => ?_⟩
      · rcases Nat.lt_or_ge q p with h1 | h1
        · rw [if_neg, i1 q o h1 ho hdo]
          rintro rfl
          have := D.dsts _ _ _ _ _ ho hop hdo hd
          have h2 := (D.pi q (by omega)).2
          have h3 := (D.pi p (by omega)).2
          rw [this] at h2; omega
        · obtain rfl : q = p := by omega
          rw [hop] at ho; obtain rfl := Option.some.inj ho
          rw [hd] at hdo; injection hdo with hdo
          rw [if_pos hdo.symm]
      · rw [if_neg (fun e => h p _ (by omega) hop (by rw [hd, e])), i2 fun q o hq ho => h q o (by omega) ho]
end
structure Cur (ops : Array Oper) (π pos : Nat → Nat) (fr0 : Fr) (vv : Nat → Value) (ls : Array Bool) (f : Fr) : Prop where
  got : ∀ (i : Nat) (o : Oper) (t : Tmp), ops[i]? = some o → o.dst = some t → ls.getD i false = true → fget t f = vv (pos i)
  old : ∀ t : Nat, t < 256 → (∀ (i : Nat) (o : Oper), ops[i]? = some o → o.dst = some t → ls.getD i false = false) → fget t f = fget t fr0
section
variable {N m : Nat} {ops : Array Oper} {π pos lo idn : Nat → Nat} {fr : Nat → Fr} {Hh : Nat → AH} {vv : Nat → Value} (D : DR P nG sz N m ops π pos lo idn fr Hh vv)
include D
theorem DR.slots_agree (hsz : sz ≤ 255) {ls : Array Bool} (hls : ls.size = ops.size) (hc : Cl ops ls) {f : Fr} (hf : Cur ops π pos (fr 0) vv ls f) {i : Nat} {o : Oper} (ho : ops[i]? = some o) (hun : ls.getD i false = false)
    (hr : ∀ e ∈ o.after, Region.binds .any e = true → ls.getD e.on false = true) {t : Nat} (ht : t < 256) (hslot : t ∈ slotsOf ops.toList o) : fget t f = fget t (fr (pos i)) := by
  have hi := DR.size_some ho
  obtain ⟨hpos, hpi⟩ := D.po i hi
  obtain ⟨c1, c2⟩ := D.fr_char hsz (pos i) (by omega) t ht
  by_cases hw : ∃ (j : Nat) (oj : Oper), ops[j]? = some oj ∧ oj.dst = some t
  · obtain ⟨j, oj, hj, hd⟩ := hw
    have hjn := DR.size_some hj
    have hnone : (ls.getD j false = false) → (∀ (i' : Nat) (o' : Oper), ops[i']? = some o' → o'.dst = some t → ls.getD i' false = false) := fun h i' o' ho' hd' => by
      have := D.dsts _ _ _ _ _ ho' hj hd' hd
      rw [this]; exact h
    have hfr0 : ¬ pos j < pos i → fget t (fr (pos i)) = fget t (fr 0) := fun hlt => c2 fun q o' hq ho' hd' => by
      have := D.dsts _ _ _ _ _ ho' hj hd' hd
      have h2 := (D.pi q (by omega)).2
      rw [this] at h2; exact hlt (by omega)
    rcases D.slots j i oj o t hj ho hd hslot with rfl | hb | hb
    · rw [hf.old t ht (hnone hun), hfr0 (by omega)]
    · have hl := D.ready_bf hls hc hb ho hr
      have hp := (D.bf_pos hb).2
      obtain ⟨hjp, hjpi⟩ := D.po j hjn
      rw [hf.got j oj t hj hd hl, c1 (pos j) oj hp (by rw [hjpi]; exact hj) hd]
    · have hp := (D.bf_pos hb).2
      have hl : ls.getD j false = false := by
        cases h : ls.getD j false with
        | false => rfl
        | true =>
          have := D.cl_bf hls hc hb (by rw [getD_tf (by omega)]; exact h)
          rw [this] at hun; cases hun
      rw [hf.old t ht (hnone hl), hfr0 (by omega)]
  · have hno : ∀ (i' : Nat) (o' : Oper), ops[i']? = some o' → o'.dst ≠ some t := fun i' o' h1 h2 => hw ⟨i', o', h1, h2⟩
    rw [hf.old t ht (fun i' o' h1 h2 => absurd h2 (hno i' o' h1)), c2 (fun q o' _ h1 => hno _ o' h1)]
end
end Go.Proofs.YthlfhfliidhelaaGreatDoor.Eng

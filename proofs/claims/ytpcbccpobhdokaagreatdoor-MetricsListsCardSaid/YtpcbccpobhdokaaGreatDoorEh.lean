/- A loop over a map: whatever the order, each round's body does its part. -/
import Derived.Test.YtpcbccpobhdokaaGreatDoorEg
import Derived.Shelf.GgSortFunc.InsertionK
set_option linter.unusedSimpArgs false
set_option linter.unusedVariables false
set_option linter.all false
namespace Go.Proofs.YtpcbccpobhdokaaGreatDoor.Eng
open Go.RowKit
variable {P : Program} {nG : Nat} {K : Known}
theorem gives_next {o : Oper} {x : Operand} {s : Bool} (ho : o.op = .next x s) {a : Act} {w w' : World} {v : Value} (h : (Instr.next (a.eval x) s o.type).run P w = .ok v w') : Gives P o a w v w' :=
  .inl (by simp only [execOp, ho, Sem.run_bind, h, Result.andThen]; rfl)
theorem gives_entry {o : Oper} {x : Operand} (ho : o.op = .entry x) {a : Act} {w w' : World} {v : Value} (h : (Instr.entry (a.eval x)).run P w = .ok v w') : Gives P o a w v w' :=
  .inl (by simp only [execOp, ho, Sem.run_bind, h, Result.andThen]; rfl)
theorem gives_range {o : Oper} {t : TypeId} {x : Operand} (ho : o.op = .range t x) {a : Act} {w w' : World} {v : Value} (h : (Instr.range t (a.eval x)).run P w = .ok v w') : Gives P o a w v w' :=
  .inl (by simp only [execOp, ho, Sem.run_bind, h, Result.andThen]; rfl)
theorem ops_hand {r : Option Nat} {ops : Array Oper} {o : Oper} {i : Nat} {is : List Nat} (hi : ops[i]? = some o) (hg : o.guard = none) (hd : ∀ c, o.op ≠ .defer c) {Q : Exit → Act → World → Prop} {a : Act} {w w' : World} {v' : Value}
    (h : Gives P o a w v' w') (hn : wpOpsIn (FF r) 0 P ops Q is (a.put o.dst v') w') : wpOpsIn (FF r) 0 P ops Q (i :: is) a w := by
  simp only [wpOpsIn, hi]
  rw [show Region.wanted o (yielded ops a.tmps) = true by unfold Region.wanted; rw [hg], if_pos rfl]
  exact uponIn_gives hd h hn
def headX (id1 id2 r12 r13 tc : Nat) (o12 o13 : Array Oper) (body : Code) : Code :=
  .seq (.region r12 o12 false) (.seq (.cond (.tmp tc) .skip (.exit id1)) (.block id2 (.seq (.region r13 o13 false) body)))
structure AtHead (P : Program) (nG base sz S : Nat) (w0 : World) (r : Option Nat) (J0 : Inj) (H0 : AH) (ws : World) (n B I : Nat) (ES : Array MapEntry) (clock : Nat) (seen : Array Nat) (fr : Fr) (H : AH) (J : Inj) (a : Act) (w : World) : Prop where
  st : St P nG base w0 sz S r J fr H a w
  ev : Ev H0.next J0 H0 ws J H w
  map : w.heap[B]? = some (.map ES clock)
  iter : ∃ c0, clock ≤ c0 ∧ w.heap[I]? = some (.mapIter (some B) clock seen c0)
  name : J n = some ⟨I, 0, 0, 0⟩
  apB : ∀ b x, (H.get b).isSome = true → J b = some x → x.B ≠ B
  apI : ∀ b x, (H.get b).isSome = true → J b = some x → x.B ≠ I
  low : base ≤ I
  new : ws.heap.size ≤ I
  room : S ≤ w.heap.size
theorem AtHead.turn {base sz S : Nat} {w0 : World} {r : Option Nat} {J0 : Inj} {H0 : AH} {ws : World} {n B I : Nat} {ES : Array MapEntry} {clock : Nat} {seen seen' : Array Nat} {fr : Fr} {H : AH} {J : Inj} {a : Act} {w w1 : World} {c1 : Nat}
    (h : AtHead P nG base sz S w0 r J0 H0 ws n B I ES clock seen fr H J a w) (hw : w1 = w ∨ w1 = w.drew) (hc : clock ≤ c1) :
    AtHead P nG base sz S w0 r J0 H0 ws n B I ES clock seen' fr H J a (w1.putObj I (.mapIter (some B) clock seen' c1)) ∧ (w1.putObj I (.mapIter (some B) clock seen' c1)).heap[I]? = some (.mapIter (some B) clock seen' c1) := by
  obtain ⟨c0, hc0, hit⟩ := h.iter
  have hI := (Array.getElem?_eq_some_iff.1 hit).1
  have hh : w1.heap = w.heap := by rcases hw with rfl | rfl <;> rfl
  have hBI : B ≠ I := by
    rintro rfl
    have := h.map.symm.trans hit
    cases this
  have hwr : WR P nG base w0 J H w1 := by
    rcases hw with rfl | rfl
    · exact h.st.wr
    · exact h.st.wr.drew
  have hev : Ev H0.next J0 H0 ws J H w1 := by
    rcases hw with rfl | rfl
    · exact h.ev
    · exact ⟨h.ev.ext, h.ev.fresh, h.ev.next, h.ev.frame, h.ev.newB, h.ev.size, h.ev.live⟩
  have hn := World.putObj_heap_same (w := w1) (r := I) (o := .mapIter (some B) clock seen' c1) (by rw [hh]; exact hI)
  refine ⟨⟨⟨h.st.at_, h.st.sz, hwr.unnamed h.low h.apI _, h.st.ar, ?_⟩, hev.unnamed h.new _, ?_, ⟨c1, hc, hn⟩, h.name, h.apB, h.apI, h.low, h.new, ?_⟩, hn⟩
  · obtain ⟨rs, p1, p2, p3⟩ := h.st.pins
    refine ⟨rs, p1, p2, fun q hq => ⟨(p3 q hq).1, ?_, (p3 q hq).2.2⟩⟩
    have hq2 := (p3 q hq).2.1
    rw [World.putObj_heap_other (by rintro rfl; have := hq2.symm.trans hit; cases this), hh]
    exact hq2
  · rw [World.putObj_heap_other hBI, hh]; exact h.map
  · rw [World.putObj_size, hh]; exact h.room
theorem AtHead.put {base sz S : Nat} {w0 : World} {r : Option Nat} {J0 : Inj} {H0 : AH} {ws : World} {n B I : Nat} {ES : Array MapEntry} {clock : Nat} {seen : Array Nat} {fr : Fr} {H : AH} {J : Inj} {a : Act} {w : World}
    (h : AtHead P nG base sz S w0 r J0 H0 ws n B I ES clock seen fr H J a w) {d : Option Tmp} (hd : okDst sz d = true) {v v' : Value} (hv : VR J v v') : AtHead P nG base sz S w0 r J0 H0 ws n B I ES clock seen (putD d v fr) H J (a.put d v') w :=
  ⟨h.st.put hd hv, h.ev, h.map, h.iter, h.name, h.apB, h.apI, h.low, h.new, h.room⟩
theorem AtHead.after {base sz S : Nat} {w0 : World} {r : Option Nat} {J0 : Inj} {H0 : AH} {ws : World} {n B I : Nat} {ES : Array MapEntry} {clock : Nat} {seen : Array Nat} {fr : Fr} {H : AH} {J : Inj} {a : Act} {w : World}
    (h : AtHead P nG base sz S w0 r J0 H0 ws n B I ES clock seen fr H J a w) (ids0 : ∀ b x, J0 b = some x → b < H0.next) {fr' : Fr} {H' : AH} {a' : Act} {w' : World} (ha : After P nG base w0 sz S r H.next J H w fr' H' a' w') :
    ∃ J', AtHead P nG base sz S w0 r J0 H0 ws n B I ES clock seen fr' H' J' a' w' := by
  obtain ⟨J', hst, hev⟩ := ha
  have ids := h.st.wr.ids
  obtain ⟨c0, hc0, hit⟩ := h.iter
  have hI := (Array.getElem?_eq_some_iff.1 hit).1
  have hB := (Array.getElem?_eq_some_iff.1 h.map).1
  obtain ⟨b1, b2⟩ := hev.apart ids hB h.apB
  obtain ⟨i1, i2⟩ := hev.apart ids hI h.apI
  exact ⟨J', hst, h.ev.trans ids0 (hev.weak h.ev.next), b1.trans h.map, ⟨c0, hc0, i1.trans hit⟩, hev.ext _ _ h.name, b2, i2, h.low, h.new, Nat.le_trans h.room hev.size⟩
theorem map_rounds {id1 id2 r12 r13 ti tc : Nat} {o12 o13 : Array Oper} {oN oX oE : Oper} {l13 : List Oper} {body : Code} {n clock : Nat} {ES : Array MapEntry} {Inv : Array Nat → Fr → AH → Prop} {Fin : Fr → AH → Prop}
    (e12 : o12 = #[oN, oX]) (e13 : o13 = ⟨oE :: l13⟩) (nop : oN.op = .next (.tmp ti) false) (ng : oN.guard = none) (eop : oE.op = .entry (.tmp ti)) (eg : oE.guard = none)
    (hold : ∀ x ∈ ES.toList, x.born < clock) (hnd : (ES.toList.map (·.born)).Nodup) (hlit : ∀ e ∈ ES.toList, ∀ J, VR J e.key e.key ∧ VR J e.val e.val)
    (hti : ∀ seen fr H, Inv seen fr H → ev (.tmp ti) fr = .pointer (some ⟨n, 0, none⟩))
    (hno : ∀ seen fr H, Inv seen fr H → (leftOf ES seen).size = 0 → ∃ fr1, ARun P nG o12.toList [oX] (putD oN.dst (.tuple ⟨[.bool false]⟩) fr) H fr1 H ∧ ev (.tmp tc) fr1 = .bool false ∧ Fin fr1 H)
    (hyes : ∀ seen fr H, Inv seen fr H → ∀ e ∈ (leftOf ES seen).toList, ∃ fr1 fr2, ARun P nG o12.toList [oX] (putD oN.dst (.tuple ⟨[.bool true, e.key, e.val]⟩) fr) H fr1 H ∧ ev (.tmp tc) fr1 = .bool true ∧ ev (.tmp ti) fr1 = .pointer (some ⟨n, 0, none⟩) ∧
      ARun P nG o13.toList l13 (putD oE.dst (.tuple ⟨[e.key, e.val]⟩) fr1) H fr2 H ∧ CodeRel P nG body fr2 H (fun ex f g => ex = .normal ∧ Inv (seen.push e.born) f g)) :
    ∀ (m : Nat) (seen : Array Nat) (fr : Fr) (H : AH), (leftOf ES seen).size < m → Inv seen fr H → ∀ {base sz S : Nat} {w0 : World} {r : Option Nat} {J0 : Inj} {H0 : AH} {ws : World} {B I : Nat} {J : Inj} {a : Act} {w : World} {Q : Exit → Act → World → Prop},
      okCode sz nG (headX id1 id2 r12 r13 tc o12 o13 body) = true → (∀ b x, J0 b = some x → b < H0.next) → AtHead P nG base sz S w0 r J0 H0 ws n B I ES clock seen fr H J a w →
      (∀ fr' H' a' w', Fin fr' H' → After P nG base w0 sz S r H0.next J0 H0 ws fr' H' a' w' → Q (.exit id1) a' w') → Code.roundsIn (FF r) 0 P (headX id1 id2 r12 r13 tc o12 o13 body) Q m a w := by
  intro m
  induction m with
  | zero => intro seen fr H hm; omega
  | succ m ih =>
    intro seen fr H hm hinv base sz S w0 r J0 H0 ws B I J a w Q hok ids0 hat hQ
    rw [roundsIn_succ]
    have hok0 := hok
    unfold headX at hok
    simp only [okCode, Bool.and_eq_true] at hok
    obtain ⟨ok12, ⟨okc, _, okx⟩, ok13, okb⟩ := hok
    subst e12 e13
    have ok12' := ok12
    simp only [List.all_cons, List.all_nil, Bool.and_eq_true, Bool.and_true] at ok12'
    obtain ⟨okN, okX⟩ := ok12'
    obtain ⟨opN, dN, _⟩ := okOper_some okN
    have ok13' := ok13
    simp only [List.all_cons, Bool.and_eq_true] at ok13'
    obtain ⟨okE, okL⟩ := ok13'
    obtain ⟨_, dE, _⟩ := okOper_some okE
    have okti : okO sz nG (.tmp ti) = true := by
      rw [nop] at opN
      simpa [Op.operands] using opN
    have hptr : ∀ {fr : Fr} {H : AH} {J : Inj} {a : Act} {w : World}, St P nG base w0 sz S r J fr H a w → ev (.tmp ti) fr = .pointer (some ⟨n, 0, none⟩) → J n = some ⟨I, 0, 0, 0⟩ → a.eval (.tmp ti) = .pointer (some ⟨I, 0, none⟩) := by
      intro fr H J a w hst he hJ
      have h := hst.at_.ev okti
      rw [he] at h
      obtain ⟨x, h1, h2⟩ := h.ptr_inv
      rw [hJ] at h1; obtain rfl := Option.some.inj h1
      exact h2
    have hnd' : ∀ c, oN.op ≠ .defer c := fun c hc => by rw [nop] at hc; cases hc
    have hed' : ∀ c, oE.op ≠ .defer c := fun c hc => by rw [eop] at hc; cases hc
    obtain ⟨c0, hc0, hit⟩ := hat.iter
    have hI := (Array.getElem?_eq_some_iff.1 hit).1
    have hev_ti := hptr hat.st (hti seen fr H hinv) hat.name
    unfold headX
    refine wpIn_seq (wpIn_region ?_)
    show wpOpsIn (FF r) 0 P #[oN, oX] _ [0, 1] a w
    rcases run_next_at (P := P) w oN.type hit hat.map hold hc0 with ⟨h0, hrun⟩ | ⟨e, he, w1, hw1, hrun⟩
    · obtain ⟨fr1, hA, hcond, hfin⟩ := hno seen fr H hinv h0
      refine ops_hand (o := oN) rfl ng hnd' (gives_next nop (by rw [hev_ti]; exact hrun)) ?_
      have hst1 := hat.st.put dN (v := .tuple ⟨[.bool false]⟩) (v' := .tuple #[.bool false]) (.tuple _ _ (.cons _ _ _ _ (.bool false) .nil))
      refine ops_wp hA (by simpa using okX) rfl hst1 fun a' w' ha => ?_
      obtain ⟨J1, hs1, he1⟩ := ha
      have hce : a'.eval (.tmp tc) = .bool false := by
        have h := hs1.at_.ev okc
        rw [hcond] at h; exact h.bool_inv
      refine wpIn_seq (wpIn_cond_false hce (wpIn_exit ?_))
      exact hQ fr1 H a' w' hfin ⟨J1, hs1, hat.ev.trans ids0 (he1.weak hat.ev.next)⟩
    · obtain ⟨fr1, fr2, hA, hcond, hti1, hA2, hbody⟩ := hyes seen fr H hinv e he
      have hmem := mem_left he
      obtain ⟨k1, k2⟩ := hlit e hmem.1 J
      refine ops_hand (o := oN) rfl ng hnd' (gives_next nop (by rw [hev_ti]; exact hrun)) ?_
      obtain ⟨hat1, hit1⟩ := hat.turn (seen' := seen.push e.born) hw1 (Nat.le_refl clock)
      have hat2 := hat1.put dN (v := .tuple ⟨[.bool true, e.key, e.val]⟩) (v' := .tuple #[.bool true, e.key, e.val]) (.tuple _ _ (.cons _ _ _ _ (.bool true) (.cons _ _ _ _ k1 (.cons _ _ _ _ k2 .nil))))
      refine ops_wp hA (by simpa using okX) rfl hat2.st fun a' w' ha => ?_
      have hI2 := (Array.getElem?_eq_some_iff.1 hit1).1
      have hit3 : w'.heap[I]? = some (.mapIter (some B) clock (seen.push e.born) clock) := by
        obtain ⟨J1, hs1, he1⟩ := ha
        exact (he1.apart hat2.st.wr.ids hI2 hat2.apI).1.trans hit1
      obtain ⟨J1, hat3⟩ := hat2.after ids0 ha
      have hce : a'.eval (.tmp tc) = .bool true := by
        have h := hat3.st.at_.ev okc
        rw [hcond] at h; exact h.bool_inv
      refine wpIn_seq (wpIn_cond_true hce (wpIn_skip ?_))
      refine wpIn_block (wpIn_seq (wpIn_region ?_))
      rw [show List.range (⟨oE :: l13⟩ : Array Oper).size = 0 :: (List.range l13.length).map Nat.succ from List.range_succ_eq_map]
      obtain ⟨k3, k4⟩ := hlit e hmem.1 J1
      refine ops_hand (o := oE) rfl eg hed' (gives_entry eop (by rw [hptr hat3.st hti1 hat3.name]; exact run_entry_at w' hit3 hat3.map hmem.1 hnd)) ?_
      have hat4 := hat3.put dE (v := .tuple ⟨[e.key, e.val]⟩) (v' := .tuple #[e.key, e.val]) (.tuple _ _ (.cons _ _ _ _ k3 (.cons _ _ _ _ k4 .nil)))
      refine ops_wp hA2 okL ?_ hat4.st fun a2 w2 ha2 => ?_
      · apply List.ext_getElem?
        intro i
        simp only [List.map_map, List.getElem?_map]
        by_cases hi : i < l13.length
        · rw [List.getElem?_range hi]; simp [hi]
        · have h1 : (List.range l13.length)[i]? = none := List.getElem?_eq_none (by rw [List.length_range]; omega)
          have h2 : l13[i]? = none := List.getElem?_eq_none (by omega)
          rw [h1, h2]; rfl
      obtain ⟨J2, hat5⟩ := hat4.after ids0 ha2
      refine hbody okb hat5.st hat5.room fun ex f g a3 w3 hp ha3 => ?_
      obtain ⟨rfl, hinv'⟩ := hp
      obtain ⟨J3, hat6⟩ := hat5.after ids0 ha3
      exact ih (seen.push e.born) f g (by have := left_shrinks ES seen e he; omega) hinv' hok0 ids0 hat6 hQ
end Go.Proofs.YtpcbccpobhdokaaGreatDoor.Eng
namespace Go.Proofs.YtpcbccpobhdokaaGreatDoor.Eng
open Go.RowKit
variable {P : Program} {nG : Nat} {K : Known}
theorem ops_hand_call {r : Option Nat} {ops : Array Oper} {o : Oper} {i : Nat} {is : List Nat} {c : Call} {f : Nat} {fn : Func} {b : Code} (hi : ops[i]? = some o) (hg : o.guard = none) (hc : o.op = .call c) (hcal : c.callee = .value (.func f)) (hargs : c.args = #[])
    (hfn : P.funcs[f]? = some fn) (hb : fn.body = some b) (hnm : (fn.name == "runtime.NumGoroutine") = false) {Q : Exit → Act → World → Prop} {a : Act} {w : World} {R : Value → World → Prop} (hcall : Calls P f #[] w fun e w' => ∃ v, e = .returned v ∧ R v w')
    (hn : ∀ v' w', R v' w' → wpOpsIn (FF r) 0 P ops Q is (a.put o.dst v') w') : wpOpsIn (FF r) 0 P ops Q (i :: is) a w := by
  simp only [wpOpsIn, hi]
  rw [show Region.wanted o (yielded ops a.tmps) = true by unfold Region.wanted; rw [hg], if_pos rfl]
  have hnd : ∀ d, o.op ≠ .defer d := fun d hd => by rw [hc] at hd; cases hd
  refine ⟨fun _ _ => trivial, ?_⟩
  rw [Oper.semAt_eq _ _ _ hnd, sem_call hc hcal, hargs]
  have hent : (Callee (a.eval (.func f)) (#[].map a.eval)).run P w = .ok (.enter f #[]) w := by
    rw [show a.eval (.func f) = .func (.func f) ⟨[]⟩ ⟨[]⟩ from rfl, show ((#[] : Array Operand).map a.eval) = (⟨[]⟩ : Array Value) from by simp, callee_func]
    exact call_enter hfn hb hnm _ w
  rw [hent]
  refine ⟨fun h => absurd (depth_FF h) (by omega), ?_⟩
  exact CallsIn.mono (F := FF r) (callsIn_wide.2 hcall) (fun e w' ⟨v', he, hv⟩ => by subst he; exact hn v' w' hv)
theorem VR.map_inv {J : Inj} {b : Nat} {v' : Value} (h : VR J (.map (some b)) v') : ∃ x, J b = some x ∧ v' = .map (some x.B) := by
  cases h with
  | map _ x h => exact ⟨x, h, rfl⟩
theorem map_range {id1 id2 r11 r12 r13 tm ti tc t f : Nat} {fn : Func} {b : Code} {kt et : TypeId} {o11 o12 o13 : Array Oper} {oC oR oN oX oE : Oper} {c : Call} {l13 : List Oper} {body : Code} {clock : Nat} {ES : Array MapEntry} {fr : Fr} {H : AH} {Inv : Array Nat → Fr → AH → Prop} {Φ : Ex → Fr → AH → Prop}
    (e11 : o11 = #[oC, oR]) (cop : oC.op = .call c) (ccal : c.callee = .value (.func f)) (cargs : c.args = #[]) (cg : oC.guard = none) (cd : oC.dst = some tm) (rop : oR.op = .range t (.tmp tm)) (rg : oR.guard = none) (rd : oR.dst = some ti)
    (hfn : P.funcs[f]? = some fn) (hb : fn.body = some b) (hnm : (fn.name == "runtime.NumGoroutine") = false) (hcall : ∀ w, Calls P f #[] w fun e w' => e = .returned (.map (some w.heap.size)) ∧ w' = w.alloc (.map ES clock)) (ht : P.underlying t = some (.map kt et)) (hroom : H.next + 2 ≤ 65536)
    (e12 : o12 = #[oN, oX]) (e13 : o13 = ⟨oE :: l13⟩) (nop : oN.op = .next (.tmp ti) false) (ng : oN.guard = none) (eop : oE.op = .entry (.tmp ti)) (eg : oE.guard = none)
    (hold : ∀ x ∈ ES.toList, x.born < clock) (hnd : (ES.toList.map (·.born)).Nodup) (hlit : ∀ e ∈ ES.toList, ∀ J, VR J e.key e.key ∧ VR J e.val e.val)
    (hstart : Inv #[] (putD (some ti) (.pointer (some ⟨H.next + 1, 0, none⟩)) (putD (some tm) (.map (some H.next)) fr)) (H.skip 2))
    (hti : ∀ seen fr' H', Inv seen fr' H' → ev (.tmp ti) fr' = .pointer (some ⟨H.next + 1, 0, none⟩))
    (hno : ∀ seen fr' H', Inv seen fr' H' → (leftOf ES seen).size = 0 → ∃ fr1, ARun P nG o12.toList [oX] (putD oN.dst (.tuple ⟨[.bool false]⟩) fr') H' fr1 H' ∧ ev (.tmp tc) fr1 = .bool false ∧ Φ .normal fr1 H')
    (hyes : ∀ seen fr' H', Inv seen fr' H' → ∀ e ∈ (leftOf ES seen).toList, ∃ fr1 fr2, ARun P nG o12.toList [oX] (putD oN.dst (.tuple ⟨[.bool true, e.key, e.val]⟩) fr') H' fr1 H' ∧ ev (.tmp tc) fr1 = .bool true ∧ ev (.tmp ti) fr1 = .pointer (some ⟨H.next + 1, 0, none⟩) ∧
      ARun P nG o13.toList l13 (putD oE.dst (.tuple ⟨[e.key, e.val]⟩) fr1) H' fr2 H' ∧ CodeRel P nG body fr2 H' (fun ex f g => ex = .normal ∧ Inv (seen.push e.born) f g)) :
    CodeRel P nG (.seq (.region r11 o11 false) (.block id1 (.loop (headX id1 id2 r12 r13 tc o12 o13 body)))) fr H Φ := by
  intro base sz S w0 r J a w Q hok hst hS hQ
  simp only [okCode, Bool.and_eq_true] at hok
  obtain ⟨ok11, okL⟩ := hok
  subst e11
  have ok11' := ok11
  simp only [List.all_cons, List.all_nil, Bool.and_eq_true, Bool.and_true] at ok11'
  obtain ⟨okC, okR⟩ := ok11'
  obtain ⟨_, dC, _⟩ := okOper_some okC
  obtain ⟨opR, dR, _⟩ := okOper_some okR
  have oktm : okO sz nG (.tmp tm) = true := by
    rw [rop] at opR
    simpa [Op.operands] using opR
  have ids := hst.wr.ids
  refine wpIn_seq (wpIn_region ?_)
  show wpOpsIn (FF r) 0 P #[oC, oR] _ [0, 1] a w
  refine ops_hand_call (o := oC) rfl cg cop ccal cargs hfn hb hnm ((hcall w).mono fun e w' ⟨he, hw⟩ => (⟨_, he, rfl, hw⟩ : ∃ v, e = .returned v ∧ v = .map (some w.heap.size) ∧ w' = w.alloc (.map ES clock))) ?_
  rintro v' w' ⟨rfl, rfl⟩
  have hfree : ∀ b, H.next ≤ b → J b = none := fun b hb => by
    cases h : J b with
    | none => rfl
    | some x => exact absurd (ids b x h) (by omega)
  have hclean : ∀ b, H.next ≤ b → b < 65536 → (H.skip 2).get b = none := fun b h1 h2 => by rw [AH.get_skip]; exact hst.wr.clean b h1 h2
  have hw1 := hst.wr.skip hroom
  have hw2 := hw1.named (hfree H.next (Nat.le_refl _)) (hclean _ (Nat.le_refl _) (by omega)) (by rw [AH.next_skip]; omega) (.map ES clock)
  have he2 := (Ev.skip H.next J H w 2).trans ids (Ev.named (H := H.skip 2) (w := w) (hfree H.next (Nat.le_refl _)) (.map ES clock) (Nat.le_refl H.next))
  have hst2 := (hst.ev hw2 he2).put dC (v := .map (some H.next)) (v' := .map (some w.heap.size)) (.map H.next ⟨w.heap.size, 0, 0, 0⟩ (Inj.add_same _ _ _))
  rw [cd] at hst2
  have hm : (w.alloc (.map ES clock)).heap[w.heap.size]? = some (.map ES clock) := heap_alloc_new _ _
  have hav : (a.put oC.dst (.map (some w.heap.size))).eval (.tmp tm) = .map (some w.heap.size) := by
    rw [cd]
    have h := hst2.at_.ev oktm
    have hx : ev (.tmp tm) (putD (some tm) (.map (some H.next)) fr) = .map (some H.next) := by
      have hsz : tm < 256 := by
        have h1 := hst2.at_.fr.le
        rw [cd] at dC
        have h2 : tm + 1 ≤ sz := by simpa [okDst] using dC
        omega
      show fget tm (fset (.map (some H.next)) tm fr) = _
      rw [fget_fset _ _ hsz hsz, if_pos rfl]
    rw [hx] at h
    obtain ⟨x, h1, h2⟩ := h.map_inv
    rw [Inj.add_same] at h1
    obtain rfl := Option.some.inj h1
    exact h2
  have hrn : ∀ d, oR.op ≠ .defer d := fun d hd => by rw [rop] at hd; cases hd
  refine ops_hand (o := oR) rfl rg hrn (gives_range rop (by rw [hav]; exact run_range_map (w.alloc (.map ES clock)) t kt et w.heap.size ES clock ht hm)) ?_
  have hf3 : (J.add H.next ⟨w.heap.size, 0, 0, 0⟩) (H.next + 1) = none := by
    cases h : (J.add H.next ⟨w.heap.size, 0, 0, 0⟩) (H.next + 1) with
    | none => rfl
    | some y =>
      rcases Inj.add_inv h with ⟨h1, _⟩ | ⟨_, h1⟩
      · omega
      · rw [hfree _ (by omega)] at h1; cases h1
  have hw3 := hw2.named hf3 (hclean _ (by omega) (by omega)) (by rw [AH.next_skip]; omega) (.mapIter (some w.heap.size) clock #[] clock)
  have he3 := he2.trans ids (Ev.named (H := H.skip 2) (w := w.alloc (.map ES clock)) hf3 (.mapIter (some w.heap.size) clock #[] clock) (show H.next ≤ H.next + 1 by omega))
  have hst3 := ((hst.ev hw3 he3).put dC (v := .map (some H.next)) (v' := .map (some w.heap.size)) (.map H.next ⟨w.heap.size, 0, 0, 0⟩ (Inj.le_add hf3 _ _ (Inj.add_same _ _ _)))).put dR (v := .pointer (some ⟨H.next + 1, 0, none⟩)) (v' := .pointer (some ⟨(w.alloc (.map ES clock)).heap.size, 0, none⟩)) (.ptr (H.next + 1) 0 ⟨(w.alloc (.map ES clock)).heap.size, 0, 0, 0⟩ (Inj.add_same _ _ _))
  rw [cd, rd] at hst3
  rw [cd, rd]
  refine wpIn_block (wpIn_loop_rounds ((leftOf ES #[]).size + 1) ?_)
  refine map_rounds (P := P) (nG := nG) (n := H.next + 1) (ES := ES) (clock := clock) (Inv := Inv) (Fin := Φ .normal) e12 e13 nop ng eop eg hold hnd hlit hti hno hyes _ #[] _ _ (Nat.lt_succ_self _) hstart (base := base) (S := S) (w0 := w0) (J := (J.add H.next ⟨w.heap.size, 0, 0, 0⟩).add (H.next + 1) ⟨(w.alloc (.map ES clock)).heap.size, 0, 0, 0⟩) (J0 := J) (H0 := H) (ws := w) (B := w.heap.size) (I := (w.alloc (.map ES clock)).heap.size) (by simpa [okCode] using okL) ids ?_ ?_
  · have hsz : (w.alloc (.map ES clock)).heap.size = w.heap.size + 1 := by simp
    have hlive : ∀ b x, ((H.skip 2).get b).isSome = true → ((J.add H.next ⟨w.heap.size, 0, 0, 0⟩).add (H.next + 1) ⟨(w.alloc (.map ES clock)).heap.size, 0, 0, 0⟩) b = some x → J b = some x := by
      intro b x hs hx
      rcases Inj.add_inv hx with ⟨rfl, _⟩ | ⟨_, hx⟩
      · rw [hclean _ (by omega) (by omega)] at hs; cases hs
      · rcases Inj.add_inv hx with ⟨rfl, _⟩ | ⟨_, hx⟩
        · rw [hclean _ (by omega) (by omega)] at hs; cases hs
        · exact hx
    refine ⟨hst3, he3, ?_, ⟨clock, Nat.le_refl _, heap_alloc_new _ _⟩, Inj.add_same _ _ _, fun b x hs hx => ?_, fun b x hs hx => ?_, ?_, ?_, ?_⟩
    · exact (Below.heap_alloc _ _ _ (by omega)).trans hm
    · have := hst.wr.lt b x (hlive b x hs hx); omega
    · have := hst.wr.lt b x (hlive b x hs hx); omega
    · have := hst.wr.room; omega
    · omega
    · simp; omega
  · intro fr' H' a' w' hΦ ha
    show if id1 = id1 then Q .normal a' w' else Q (.exit id1) a' w'
    rw [if_pos rfl]
    exact hQ .normal fr' H' a' w' hΦ ha
end Go.Proofs.YtpcbccpobhdokaaGreatDoor.Eng
namespace Go.Proofs.YtpcbccpobhdokaaGreatDoor.Eng
open Go.RowKit Go.Sort Go.Shelf
variable {P : Program} {nG : Nat} {K : Known}
theorem mapBlock_put (w : World) (B : Nat) (f : Array Value → Array Value) {c : Array Value} {e : TypeId} {fz : Nat × Nat} (h : w.heap[B]? = some (.cells c e fz)) : mapBlock w B f = { w with heap := w.heap.setIfInBounds B (.cells (f c) e fz) } := by
  have hlt := (Array.getElem?_eq_some_iff.1 h).1
  unfold mapBlock
  congr 1
  apply Array.ext_getElem?
  intro i
  rw [Array.getElem?_modify, Array.getElem?_setIfInBounds]
  by_cases hi : B = i
  · subst hi
    rw [if_pos rfl, if_pos rfl, if_pos hlt, h]
    rfl
  · rw [if_neg hi, if_neg hi]
theorem below_grow2 (w : World) (os : Array Obj) : Below w.heap.size w (grow w os) :=
  ⟨rfl, rfl, rfl, by simp [grow], fun k hk => by simp [grow, Array.getElem?_append, hk]⟩
theorem sort_wr {α : Type} [Inhabited α] (enc : α → List Value) (k : Nat) {base N : Nat} {w0 w : World} {J : Inj} {H : AH} {b : Nat} {x : Tg} {cs : List Value} {e : TypeId} (h : WR P nG base w0 J H w) (hN : N ≤ 65536) (hb : H.get b = some (.cells cs e)) (hJ : J b = some x) (hn : nG ≤ b)
    (d : Array α) (n : Nat) (os : Array Obj) (hcs : (flatK enc k d).size = cs.length) (hvr : ∀ v ∈ (flatK enc k d).toList, VR J v v) :
    WR P nG base w0 J (H.put b (some (.cells (flatK enc k d).toList e))) (sortWorldK enc k w x.B x.d n d os) ∧ Ev N J H w J (H.put b (some (.cells (flatK enc k d).toList e))) (sortWorldK enc k w x.B x.d n d os) := by
  obtain ⟨cs', fz, hh, hz, hrel, hsz, hmod⟩ := h.obj b _ x hb hJ
  have hw1 : WR P nG base w0 J H (Sort.ahead w n) := h.heap_eq rfl ⟨h.below.os, h.below.tape, h.below.output, h.below.size, h.below.block⟩
  have hh1 : (Sort.ahead w n).heap[x.B]? = some (.cells cs' e fz) := hh
  have hrow : ∀ i, i < cs.length → x.d + i < cs'.size := fun i hi => by
    obtain ⟨v', h1, _⟩ := hrel i _ (List.getElem?_eq_getElem hi)
    exact (Array.getElem?_eq_some_iff.1 h1).1
  have hps : (putCells id x.d (flatK enc k d) cs').size = cs'.size := by simp [putCells]
  obtain ⟨k1, k2⟩ := hw1.object hN (o2 := .cells (flatK enc k d).toList e) (obj := .cells (putCells id x.d (flatK enc k d) cs') e fz) hb hJ hn (fun w' hw' => by
    refine ⟨_, fz, hw', by rw [hps]; exact hz, fun i v hv => ?_, fun hs => by rw [hps]; exact hsz hs, hmod⟩
    have hi : i < (flatK enc k d).size := by
      have := (List.getElem?_eq_some_iff.1 hv).1
      simpa using this
    have hi2 := hrow i (by rw [← hcs]; exact hi)
    refine ⟨v, ?_, hvr v (List.mem_of_getElem? hv)⟩
    have hv2 : (flatK enc k d)[i]! = v := by
      rw [getElem!_pos _ i hi]
      have := (List.getElem?_eq_some_iff.1 hv)
      obtain ⟨h1, h2⟩ := this
      simpa using h2
    rw [putCells, Array.getElem?_mapIdx, Array.getElem?_eq_getElem hi2]
    simp only [Option.map_some]
    rw [if_pos ⟨by omega, by omega⟩, show x.d + i - x.d = i by omega, hv2]
    rfl)
  have e1 : putRowK enc k (Sort.ahead w n) x.B x.d d = { (Sort.ahead w n) with heap := (Sort.ahead w n).heap.setIfInBounds x.B (.cells (putCells id x.d (flatK enc k d) cs') e fz) } := mapBlock_put _ _ _ hh1
  have hb2 := below_grow2 (putRowK enc k (Sort.ahead w n) x.B x.d d) os
  rw [← e1] at k1 k2
  have e2 : Ev N J H w J (H.put b (some (.cells (flatK enc k d).toList e))) (putRowK enc k (Sort.ahead w n) x.B x.d d) := ⟨k2.ext, k2.fresh, k2.next, k2.frame, k2.newB, k2.size, k2.live⟩
  have hm := Ev.more (N := N) (J := J) (H := H.put b (some (.cells (flatK enc k d).toList e))) hb2
  refine ⟨k1.more hb2, ⟨e2.ext, e2.fresh, e2.next, fun B hB hnl => ?_, e2.newB, Nat.le_trans e2.size hb2.size, e2.live⟩⟩
  show (grow (putRowK enc k (Sort.ahead w n) x.B x.d d) os).heap[B]? = _
  rw [hb2.block B (Nat.lt_of_lt_of_le hB e2.size)]
  exact e2.frame B hB hnl
end Go.Proofs.YtpcbccpobhdokaaGreatDoor.Eng
namespace Go.Proofs.YtpcbccpobhdokaaGreatDoor.Eng
open Go.RowKit
variable {P : Program} {nG : Nat} {K : Known}
structure Memo.Sem (P : Program) (nG : Nat) (f : Nat) (m : Memo) : Prop where
  sem : ∃ Hx, CallSem P nG (.func (.func f) #[] #[]) m.args (mkH m.nx m.li) m.v Hx ∧ Hx.next = m.nx' ∧ getsL Hx (namesL m.lo) = objsL m.lo
  names : ((okNames m.nx m.li && okNames m.nx' m.lo) && (Nat.ble m.nx m.nx' && Nat.ble m.nx' 65536)) = true
theorem Memo.Ok.toSem (hyp : Hyp P nG K) {f : Nat} {m : Memo} (ok : m.Ok P nG K f) : m.Sem P nG f := by
  obtain ⟨⟨n, hn⟩, hnm⟩ := ok
  unfold view at hn
  split at hn <;> first | (cases hn; done) | skip
  rename_i v Hx hx
  injection hn with hn; injection hn with hv hn; injection hn with hnx hg
  subst hv
  exact ⟨⟨Hx, run_call hyp hx, hnx, hg⟩, hnm⟩
theorem Memo.Sem.sound {f : Nat} {m : Memo} (ok : m.Sem P nG f) {args : List Value} {H : AH} (hf : m.fits args H = true) : CallSem P nG (.func (.func f) #[] #[]) args H m.v (m.out H) := by
  obtain ⟨⟨Hx, hcs, hnx, hg⟩, hnm⟩ := ok
  rw [Bool.and_eq_true, Bool.and_eq_true, Bool.and_eq_true, Nat.ble_eq, Nat.ble_eq] at hnm
  obtain ⟨⟨a1, a2⟩, a3, a4⟩ := hnm
  have hli := okNames_lt a1
  have hlo := okNames_lt a2
  unfold Memo.fits at hf
  cases e1 : Nat.beq H.next m.nx with
  | false => rw [e1] at hf; cases hf
  | true =>
  rw [e1] at hf
  dsimp only at hf
  cases e2 : sameA2 m.args args with
  | false => rw [e2] at hf; cases hf
  | true =>
  rw [e2] at hf
  rw [Nat.beq_eq] at e1
  have e3 := sameA2_eq e2
  subst e3
  have hsh := shows_get hf
  have hgo := gets_mem hg
  intro base w0 J w f' args' hf' hargs hw
  have hmk : ∀ b, b < 65536 → (∃ o, (b, o) ∈ m.li ∧ (mkH m.nx m.li).get b = some o) ∨ ((∀ o, (b, o) ∉ m.li) ∧ (mkH m.nx m.li).get b = none) := fun b hb => by
    rcases putAll_get ⟨m.nx, m8⟩ (fun p hp => by have := hli p hp; omega) b hb with h | ⟨h1, h2⟩
    · exact .inl h
    · exact .inr ⟨h1, by rw [m8_none] at h2; exact h2⟩
  have hmn : (mkH m.nx m.li).next = m.nx := putAll_next _ _
  have hsub : ∀ b, b < 65536 → (mkH m.nx m.li).get b = none ∨ (mkH m.nx m.li).get b = H.get b := fun b hb => by
    rcases hmk b hb with ⟨o, h1, h2⟩ | ⟨_, h2⟩
    · exact .inr (by rw [h2]; exact (hsh _ h1).symm)
    · exact .inl h2
  have hw1 := hw.sub (by rw [hmn, e1]) hsub
  have ho6 : ∀ p ∈ m.lo, p.1 < 65536 := fun p hp => by have := hlo p hp; omega
  have hout : ∀ b, b < 65536 → (∃ o, (b, o) ∈ m.lo ∧ (m.out H).get b = some o ∧ Hx.get b = some o) ∨ ((m.out H).get b = none) ∨ ((∀ o, (b, o) ∉ m.li) ∧ (m.out H).get b = H.get b) := fun b hb => by
    have e : (m.out H).get b = (putAll m.lo (dropAll m.li H)).get b := rfl
    rcases putAll_get (dropAll m.li H) ho6 b hb with ⟨o, h1, h2⟩ | ⟨_, h2⟩
    · exact .inl ⟨o, h1, by rw [e]; exact h2, hgo _ h1⟩
    · rcases dropAll_get H (fun p hp => by have := hli p hp; omega) b hb with ⟨_, h4⟩ | ⟨h3, h4⟩
      · exact .inr (.inl (by rw [e, h2, h4]))
      · exact .inr (.inr ⟨h3, by rw [e, h2, h4]⟩)
  have fin : ∀ (J' : Inj) (w' : World), WR P nG base w0 J' Hx w' → Ev (mkH m.nx m.li).next J (mkH m.nx m.li) w J' Hx w' → WR P nG base w0 J' (m.out H) w' ∧ Ev H.next J H w J' (m.out H) w' := fun J' w' k1 k2 => by
    rw [hmn.trans e1.symm] at k2
    have hlive1 : ∀ b x, J b = some x → ((mkH m.nx m.li).get b).isSome = true → (H.get b).isSome = true := fun b x hx hl => by
      rcases hsub b (hw.small hx) with h | h
      · rw [h] at hl; cases hl
      · rw [← h]; exact hl
    have hold : ∀ b x, J' b = some x → (∀ o, (b, o) ∉ m.li) → (H.get b).isSome = true → b < 65536 → J b = some x ∧ w'.heap[x.B]? = w.heap[x.B]? ∧ ∀ b1 x1, (Hx.get b1).isSome = true → J' b1 = some x1 → x1.B ≠ x.B := fun b x hx hni hl hb => by
      have hlt := hw.bigger hl hb
      have hJ : J b = some x := by
        cases hj : J b with
        | some y => rw [← hx]; exact (k2.ext _ _ hj).symm
        | none => have := k2.fresh b x hj hx; omega
      have hap : ∀ b1 x1, ((mkH m.nx m.li).get b1).isSome = true → J b1 = some x1 → x1.B ≠ x.B := fun b1 x1 hl1 hj1 he => by
        have := hw.inj b1 b x1 x (hlive1 b1 x1 hj1 hl1) hl hj1 hJ he
        subst this
        rcases hmk b1 hb with ⟨o, h1, _⟩ | ⟨_, h2⟩
        · exact hni o h1
        · rw [h2] at hl1; cases hl1
      obtain ⟨q1, q2⟩ := k2.apart hw.ids (hw.lt b x hJ) hap
      exact ⟨hJ, q1, q2⟩
    have hcase : ∀ b x, J' b = some x → ((m.out H).get b).isSome = true → ((Hx.get b).isSome = true ∧ (m.out H).get b = Hx.get b) ∨ ((∀ o, (b, o) ∉ m.li) ∧ (m.out H).get b = H.get b ∧ (H.get b).isSome = true) := fun b x hx hl => by
      rcases hout b (k1.small hx) with ⟨o, _, h2, h3⟩ | h2 | ⟨h2, h3⟩
      · exact .inl ⟨by rw [h3]; rfl, by rw [h2, h3]⟩
      · rw [h2] at hl; cases hl
      · exact .inr ⟨h2, h3, by rw [← h3]; exact hl⟩
    refine ⟨⟨k1.glob, fun b x hx => ?_, k1.lt, ?_, ?_, k1.own, k1.sep, ?_, a4, k1.room, ?_, k1.below⟩, ⟨k2.ext, k2.fresh, ?_, ?_, ?_, k2.size, ?_⟩⟩
    · have := k1.ids b x hx; rw [hnx] at this; exact this
    · intro b b' x x' l l' j j' he
      rcases hcase b x j l with ⟨h1, _⟩ | ⟨h1, _, h2⟩ <;> rcases hcase b' x' j' l' with ⟨h1', _⟩ | ⟨h1', _, h2'⟩
      · exact k1.inj b b' x x' h1 h1' j j' he
      · obtain ⟨_, _, q⟩ := hold b' x' j' h1' h2' (k1.small j')
        exact absurd he (q b x h1 j)
      · obtain ⟨_, _, q⟩ := hold b x j h1 h2 (k1.small j)
        exact absurd he.symm (q b' x' h1' j')
      · obtain ⟨q, _⟩ := hold b x j h1 h2 (k1.small j)
        obtain ⟨q', _⟩ := hold b' x' j' h1' h2' (k1.small j')
        exact hw.inj b b' x x' h2 h2' q q' he
    · intro b o x hg hj
      rcases hcase b x hj (by rw [hg]; rfl) with ⟨_, h2⟩ | ⟨h1, h2, h3⟩
      · exact k1.obj b o x (by rw [← h2]; exact hg) hj
      · obtain ⟨q1, q2, _⟩ := hold b x hj h1 h3 (k1.small hj)
        exact (hw.obj b o x (by rw [← h2]; exact hg) q1).of_heap k2.ext q2
    · have := hw.nx
      show nG ≤ m.nx'
      omega
    · intro b h1 h2
      have h1 : m.nx' ≤ b := h1
      rcases hout b h2 with ⟨o, h3, _, _⟩ | h3 | ⟨_, h3⟩
      · have := hlo _ h3; simp only at this; omega
      · exact h3
      · rw [h3]; exact hw.clean b (by omega) h2
    · show H.next ≤ m.nx'
      omega
    · intro B hB hnt
      exact k2.frame B hB fun b x hl hx => hnt b x (hlive1 b x hx hl) hx
    · intro b x h1 h2
      rcases k2.newB b x h1 h2 with h | ⟨b0, x0, q1, q2, q3⟩
      · exact .inl h
      · exact .inr ⟨b0, x0, hlive1 b0 x0 q2 q1, q2, q3⟩
    · intro b hb hl
      have hb6 : b < 65536 := by omega
      rcases hout b hb6 with ⟨o, _, h2, h3⟩ | h2 | ⟨_, h3⟩
      · have := k2.live b hb (by rw [h3]; rfl)
        rcases hsub b hb6 with h | h
        · rw [h] at this; cases this
        · rw [← h]; exact this
      · rw [h2] at hl; cases hl
      · rw [← h3]; exact hl
  have hc := hcs base w0 J w f' args' hf' hargs hw1
  rcases hc with ⟨g, ar, h1, h2⟩ | ⟨l, g, tm, c1, c2, h1, h2⟩ | ⟨v', w', h1, J', h2, h3, h4⟩
  · exact .inl ⟨g, ar, h1, CallsIn.mono h2 fun e w' ⟨v', he, J', p1, p2, p3⟩ => by
      obtain ⟨q1, q2⟩ := fin J' w' p2 p3
      exact ⟨v', he, J', p1, q1, q2⟩⟩
  · exact .inr (.inl ⟨l, g, tm, c1, c2, h1, RoundIn.mono h2 fun e w' ⟨v', he, J', p1, p2, p3⟩ => by
      obtain ⟨q1, q2⟩ := fin J' w' p2 p3
      exact ⟨v', he, J', p1, q1, q2⟩⟩)
  · obtain ⟨q1, q2⟩ := fin J' w' h3 h4
    exact .inr (.inr ⟨v', w', h1, J', h2, q1, q2⟩)
theorem Hyp.withS {K' : Known} (hyp' : Hyp P nG K') {f : Nat} {ms : List Memo} (ok : ∀ m ∈ ms, m.Sem P nG f) (hf : ∃ fn c, P.funcs[f]? = some fn ∧ fn.body = some c ∧ (fn.name == "runtime.NumGoroutine") = false) : Hyp P nG (Eng.withM K' f ms) where
  mixed := hyp'.mixed
  funcs := fun g fn hg => by
    unfold Eng.withM at hg
    cases h : Nat.beq g f with
    | true => rw [h] at hg; cases hg
    | false => rw [h] at hg; exact hyp'.funcs g fn hg
  known := fun g h hg => by
    unfold Eng.withM at hg
    cases hb : Nat.beq g f with
    | false => rw [hb] at hg; exact hyp'.known g h hg
    | true =>
      rw [hb] at hg
      rw [Nat.beq_eq] at hb
      subst hb
      obtain rfl := Option.some.inj hg
      intro args H v H' hr base w0 J w args' hargs hw
      obtain ⟨m, h1, h2, rfl, rfl⟩ := askM_some hr
      have hc := (ok m h1).sound h2 base w0 J w (.func (.func g) #[] #[]) args' (.func g [] [] [] [] .nil .nil) hargs hw
      obtain ⟨fn, c, b1, b2, b3⟩ := hf
      have e : Callee (.func (.func g) #[] #[]) ⟨args'⟩ = callFunc g ⟨args'⟩ := by
        have := callee_func (f := g) (fs := []) (cs := []) (args := args')
        simpa using this
      unfold CallV at hc
      rw [e] at hc
      have hen := call_enter b1 b2 b3 (⟨args'⟩ : Array Value) w
      rcases hc with ⟨g', ar, q1, q2⟩ | ⟨l, g', tm, c1, c2, q1, q2⟩ | ⟨v', w', q1, q2⟩
      · rw [hen] at q1
        injection q1 with q1 _
        injection q1 with q1 q3
        subst q1 q3
        exact .inl ⟨_, hen, q2⟩
      · rw [hen] at q1
        injection q1 with q1 _
        cases q1
      · rw [hen] at q1
        injection q1 with q1 _
        cases q1
end Go.Proofs.YtpcbccpobhdokaaGreatDoor.Eng

/- More quiet operations: addresses, parts, functions. -/
import Derived.Test.YthlfhfliidhelaaGreatDoorEa
import Derived.Laws.Tables
import Derived.Great.BuildSlice
import Derived.Laws.BytesString
set_option linter.unusedSimpArgs false
set_option linter.unusedVariables false
set_option linter.all false
namespace Go.Proofs.YthlfhfliidhelaaGreatDoor.Eng
open Go.RowKit
variable {P : Program} {nG sz : Nat} {o : Oper}
theorem VR.ptr_inv {J : Inj} {b i : Nat} {v' : Value} (h : VR J (.pointer (some ⟨b, i, none⟩)) v') : ∃ x, J b = some x ∧ v' = .pointer (some ⟨x.B, x.d + i, none⟩) := by
  cases h with
  | ptr _ _ x h => exact ⟨x, h, rfl⟩
theorem VR.slice_inv {J : Inj} {b i n c : Nat} {v' : Value} (h : VR J (.slice (some ⟨b, i, none⟩) n c) v') : ∃ (o' c' : Nat) (x : Tg), J b = some x ∧ v' = .slice (some ⟨x.B, o', none⟩) n c' ∧ n ≤ c' ∧ (o' = x.d + i ∨ c' = 0) ∧
    ((c < big ∧ c' = c) ∨ ∃ m k, c = big * x.s + m ∧ m < big ∧ 0 < x.s ∧ m ≤ c' ∧ i = k * x.s ∧ c' + k = x.C) := by
  cases h with
  | slice _ _ _ _ o' c' x h hn ho hc => exact ⟨o', c', x, h, rfl, hn, ho, hc⟩
theorem nilV_sound {J : Inj} {v u v' : Value} (h : nilV v = some u) (hv : VR J v v') : VR J u v' ∧ ∀ (P : Program) (o : Oper) (x : Operand) (a : Act), o.op = .nilCheck x → a.eval x = v' → ∀ w, (execOp a.eval o).run P w = .ok (.value v') w := by
  unfold nilV at h
  split at h <;> first | (cases h; done) | skip
  obtain rfl := Option.some.inj h
  refine ⟨hv, fun P o x a ho hx w => ?_⟩
  simp only [execOp, ho, hx]
  rename_i h1 h2 h3 h4
  cases hv <;> first | rfl | (exact absurd rfl h1) | (exact absurd rfl h2) | (exact absurd rfl h3)
theorem q_nil {x : Operand} (ho : o.op = .nilCheck x) (hx : okO sz nG x = true) : Quiet P nG sz o (nilF x) := by
  intro J fr a v h hf
  have e := h.ev hx
  have hf' : nilV (ev x fr) = some v := by
    unfold nilF at hf
    cases hv : ev x fr with
    | pointer p =>
      rw [hv] at hf
      have hf : aPtr p (fun _ _ => some (Value.pointer p)) (nilV (.pointer p)) = some v := hf
      rw [aPtr_eq] at hf
      split at hf
      · exact hf
      · exact hf
    | _ => rw [hv] at hf; exact hf
  obtain ⟨h1, h2⟩ := nilV_sound hf' e
  exact ⟨_, h1, h2 P o x a ho rfl⟩
theorem q_extract {x : Operand} {i : Nat} (ho : o.op = .extract x i) (hx : okO sz nG x = true) : Quiet P nG sz o (extF x i) := by
  refine Quiet.of_run (s := fun a => Instr.extract (a.eval x) i) (fun a => by simp only [execOp, ho]) ?_
  intro J fr a v h hf
  obtain ⟨l, hl, hf⟩ := vTup_some hf
  have e := h.ev hx
  rw [hl] at e
  rw [nth_eq] at hf
  generalize a.eval x = u at e
  cases e with
  | tuple _ l' hr =>
    obtain ⟨v', h1, h2⟩ := hr.get hf
    exact ⟨v', h2, fun w => by simp only [Instr.extract, List.getElem?_toArray, h1]; rfl⟩
theorem q_func {f : Nat} {first captured : Array Operand} (ho : o.op = .makeFunc (.func f) first captured) (h1 : first.toList.all (okO sz nG) = true) (h2 : captured.toList.all (okO sz nG) = true) :
    Quiet P nG sz o (funF f first.toList captured.toList) := by
  intro J fr a v h hf
  obtain rfl := Option.some.inj hf
  have e1 := h.evs h1
  have e2 := h.evs h2
  refine ⟨_, .func f _ _ _ _ e1 e2, fun w => ?_⟩
  simp only [execOp, ho]
  have i1 : first.map a.eval = ⟨first.toList.map a.eval⟩ := (Array.toList_map ▸ rfl)
  have i2 : captured.map a.eval = ⟨captured.toList.map a.eval⟩ := (Array.toList_map ▸ rfl)
  rw [i1, i2]; rfl
theorem q_iface {t : TypeId} {x : Operand} {f : Fr → Option Value} (hk : kIface P t x = .q f) (ho : o.op = .makeInterface t x) (hx : okO sz nG x = true) : Quiet P nG sz o f := by
  unfold kIface at hk
  split at hk <;> first | (cases hk; done) | skip
  rename_i d hn hd
  injection hk with hk; subst hk
  refine Quiet.of_run (s := fun a => Instr.makeInterface t (a.eval x)) (fun a => by simp only [execOp, ho]) ?_
  intro J fr a v h hf
  obtain rfl := Option.some.inj hf
  refine ⟨_, .iface t _ _ (h.ev hx), fun w => ?_⟩
  simp only [Instr.makeInterface, Sem.run_bind, r_under hd, Result.andThen]
  rfl
theorem q_field {s : TypeId} {x : Operand} {i : Nat} {f : Fr → Option Value} (hk : kField P s x i = .q f) (ho : o.op = .fieldAddr s x i) (hx : okO sz nG x = true) : Quiet P nG sz o f := by
  unfold kField kFieldO at hk
  cases hd : fieldV P s i with
  | none => rw [hd] at hk; cases hk
  | some d =>
    rw [hd] at hk; injection hk with hk; subst hk
    unfold fieldV at hd
    split at hd <;> first | (cases hd; done) | skip
    rename_i fs hs
    rw [nth_eq] at hd
    split at hd <;> first | (cases hd; done) | skip
    rename_i g hg
    split at hd <;> first | (cases hd; done) | skip
    rename_i j hj
    split at hd <;> first | (cases hd; done) | skip
    rename_i hz
    obtain rfl := Option.some.inj hd
    refine Quiet.of_run (s := fun a => Instr.fieldAt s (a.eval x) i) (fun a => by simp only [execOp, ho]) ?_
    intro J fr a v h hf
    obtain ⟨b, p, hb, hf⟩ := vPtr_some hf
    obtain rfl := Option.some.inj hf
    have e := h.ev hx
    rw [hb] at e
    obtain ⟨y, hJ, hy⟩ := e.ptr_inv
    refine ⟨_, .ptr b _ y hJ, fun w => ?_⟩
    have hne : ¬ j.size = 0 := fun h0 => by rw [h0] at hz; cases hz
    have hg' : (⟨fs⟩ : Array Field)[i]? = some g := by simpa using hg
    simp only [Instr.fieldAt, Sem.run_bind, r_under hs, Result.andThen, hg', hy, Instr.sureAddr]
    simp only [Sem.run_pure, fieldPlace, Sem.run_bind, r_size hj, Result.andThen, hne, if_false, addr_add, Nat.add_assoc]
    rfl
theorem ixP_some {n s i b p : Nat} {v : Value} (h : ixP n s i b p = some v) : i < n ∧ v = .pointer (some ⟨b, p + i * s, none⟩) := by
  unfold ixP at h
  cases hb : Nat.ble (Nat.succ i) n with
  | false => rw [hb] at h; cases h
  | true =>
    rw [hb] at h
    rw [Nat.ble_eq] at hb
    exact ⟨hb, (Option.some.inj h).symm⟩
theorem q_ix {t : TypeId} {x i : Operand} {f : Fr → Option Value} (hk : kIndexAddr P t x i = .q f) (ho : o.op = .indexAddr t x i) (hx : okO sz nG x = true) (hi : okO sz nG i = true) : Quiet P nG sz o f := by
  unfold kIndexAddr kIx at hk
  unfold ixT at hk
  split at hk
  · rename_i n e hd
    split at hk
    · rename_i j hj
      injection hk with hk; subst hk
      refine Quiet.of_run (s := fun a => Instr.indexAt t (a.eval x) (a.eval i)) (fun a => by simp only [execOp, ho]) ?_
      intro J fr a v h hf
      obtain ⟨k, m, hm, hf⟩ := vNat_some hf
      obtain ⟨b, p, hb, hf⟩ := vPtr_some hf
      obtain ⟨hlt, rfl⟩ := ixP_some hf
      have e1 := h.ev hx
      have e2 := h.ev hi
      rw [hb] at e1
      rw [hm] at e2
      have e2 := VR.plain e2 rfl
      obtain ⟨y, hJ, hy⟩ := e1.ptr_inv
      refine ⟨_, .ptr b _ y hJ, fun w => ?_⟩
      have hin : (0 : Int) ≤ Int.ofNat m ∧ Int.ofNat m < (n : Int) := by simp only [Int.ofNat_eq_natCast]; omega
      simp only [Instr.indexAt, Sem.run_bind, e2, asIntOf, Sem.run_pure, Result.andThen, r_under hd, hy, Instr.sureAddr, hin, and_self, if_true, r_size hj, addr_add, Nat.add_assoc]
      rfl
    · cases hk
  · rename_i e hd
    split at hk
    · rename_i j hj
      injection hk with hk; subst hk
      refine Quiet.of_run (s := fun a => Instr.indexAt t (a.eval x) (a.eval i)) (fun a => by simp only [execOp, ho]) ?_
      intro J fr a v h hf
      obtain ⟨k, m, hm, hf⟩ := vNat_some hf
      obtain ⟨q, n, c, hb, hf⟩ := vSl_some hf
      rw [aPtr_eq] at hf
      split at hf <;> first | (cases hf; done) | skip
      rename_i b p
      obtain ⟨hlt, rfl⟩ := ixP_some hf
      have e1 := h.ev hx
      have e2 := h.ev hi
      rw [hb] at e1
      rw [hm] at e2
      have e2 := VR.plain e2 rfl
      obtain ⟨o', c', y, hJ, hy, hn, ho', -⟩ := e1.slice_inv
      obtain rfl : o' = y.d + p := ho'.resolve_right (by omega)
      refine ⟨_, .ptr b _ y hJ, fun w => ?_⟩
      have hin : (0 : Int) ≤ Int.ofNat m ∧ Int.ofNat m < (n : Int) := by simp only [Int.ofNat_eq_natCast]; omega
      simp only [Instr.indexAt, Sem.run_bind, e2, asIntOf, Sem.run_pure, Result.andThen, r_under hd, hy, hin, and_self, if_true, r_size hj, addr_add, Nat.add_assoc]
      rfl
    · cases hk
  · cases hk
end Go.Proofs.YthlfhfliidhelaaGreatDoor.Eng
namespace Go.Proofs.YthlfhfliidhelaaGreatDoor.Eng
open Go.RowKit
variable {P : Program} {nG sz : Nat} {o : Oper}
theorem ba_get (l : List UInt8) (n : Nat) : (⟨⟨l⟩⟩ : ByteArray)[n]? = l[n]? := by
  by_cases h : n < l.length
  · rw [getElem?_pos (⟨⟨l⟩⟩ : ByteArray) n h, List.getElem?_eq_getElem h]; rfl
  · rw [getElem?_neg (⟨⟨l⟩⟩ : ByteArray) n h, List.getElem?_eq_none (by omega)]
theorem byteAt_some {l : List UInt8} {n : Nat} {v : Value} (h : byteAt l n = some v) : ∃ b, l[n]? = some b ∧ v = .int .u8 b.toNat := by
  induction l generalizing n with
  | nil => simp [byteAt] at h
  | cons b l ih => cases n with
    | zero => exact ⟨b, rfl, (Option.some.inj h).symm⟩
    | succ n => exact ih h
theorem extract_list (l : List Value) (a b : Nat) : (⟨l⟩ : Array Value).extract a b = ⟨(l.drop a).take (b - a)⟩ := by
  simp [List.extract_toArray, List.extract_eq_take_drop]
theorem r_part {e : TypeId} {j : TypeInfo} {d : TypeDesc} (hj : P.info? e = some j) (hd : P.underlying e = some d) (l : List Value) (off : Nat) (w : World) :
    (part e ⟨l⟩ off).run P w = (if aggD d then .ok (.agg ⟨(l.drop off).take j.size⟩) w else match l[off]? with | some v => .ok v w | none => .halt (.stuck "part: no such cell") w) := by
  simp only [part, Sem.run_bind, r_agg hd, Result.andThen]
  cases aggD d with
  | true =>
    simp only [if_true, Sem.run_bind, r_size hj, Result.andThen, extract_list, Nat.add_sub_cancel_left]; rfl
  | false =>
    simp only [Bool.false_eq_true, if_false, List.getElem?_toArray]
    cases l[off]? <;> rfl
theorem q_index {t : TypeId} {x i : Operand} (ho : o.op = .index t x i) (hx : okO sz nG x = true) (hi : okO sz nG i = true) : Quiet P nG sz o (fun fr => indexV P t (ev x fr) (ev i fr)) := by
  refine Quiet.of_run (s := fun a => Instr.index t (a.eval x) (a.eval i)) (fun a => by simp only [execOp, ho]) ?_
  intro J fr a v h hf
  have e1 := h.ev hx
  have e2 := h.ev hi
  generalize ev x fr = X at *
  generalize ev i fr = I at *
  generalize a.eval x = X' at *
  unfold indexV at hf
  split at hf <;> first | (cases hf; done) | skip
  rename_i k n
  have e2 := VR.plain e2 rfl
  split at hf <;> first | (cases hf; done) | skip
  · rename_i l hd
    obtain ⟨b, hb, rfl⟩ := byteAt_some hf
    have e1 := VR.plain e1 rfl
    refine ⟨_, .int .u8 _, fun w => ?_⟩
    simp only [Instr.index, e2, e1, Sem.run_bind, asIntOf, Sem.run_pure, Result.andThen, r_under hd]
    have h0 : (0 : Int) ≤ Int.ofNat n := by simp only [Int.ofNat_eq_natCast]; omega
    have h1 : (Int.ofNat n).toNat = n := rfl
    simp only [h0, if_true, h1, ba_get, hb]
    rfl
  · rename_i len e l hd
    have hex : ∃ j d, P.info? e = some j ∧ P.underlying e = some d ∧ n < len ∧ (if aggD d then some (Value.agg ⟨(l.drop (n * j.size)).take j.size⟩) else l[n * j.size]?) = some v := by
      split at hf <;> first | (cases hf; done) | skip
      · rename_i j fs hb hj hu
        rw [Nat.ble_eq] at hb
        rw [takeL_eq, dropL_eq] at hf
        exact ⟨j, _, hj, hu, hb, hf⟩
      · rename_i j n' e' hb hj hu
        rw [Nat.ble_eq] at hb
        rw [takeL_eq, dropL_eq] at hf
        exact ⟨j, _, hj, hu, hb, hf⟩
      · rename_i j d hn1 hn2 hb hj hu
        rw [Nat.ble_eq] at hb
        rw [nth_eq] at hf
        refine ⟨j, d, hj, hu, hb, ?_⟩
        have : aggD d = false := by cases d <;> first | rfl | (exact absurd rfl (hn1 _)) | (exact absurd rfl (hn2 _ _))
        rw [this]; exact hf
    obtain ⟨j, d, hj, hu, hlt, hv⟩ := hex
    cases e1 with
    | agg _ l' hr =>
      have run : ∀ w, (Instr.index t (.agg ⟨l'⟩) (a.eval i)).run P w = (part e ⟨l'⟩ (n * j.size)).run P w := fun w => by
        have hin : (0 : Int) ≤ Int.ofNat n ∧ Int.ofNat n < (len : Int) := by simp only [Int.ofNat_eq_natCast]; omega
        simp only [Instr.index, e2, Sem.run_bind, asIntOf, Sem.run_pure, Result.andThen, r_under hd, hin, and_self, if_true, r_size hj]
        rfl
      cases hag : aggD d with
      | true =>
        rw [hag] at hv
        obtain rfl := Option.some.inj hv
        exact ⟨_, .agg _ _ ((hr.drop _).take _), fun w => by rw [run, r_part hj hu, hag]; rfl⟩
      | false =>
        rw [hag] at hv
        obtain ⟨v', h1, h2⟩ := hr.get (show l[n * j.size]? = some v from hv)
        exact ⟨v', h2, fun w => by rw [run, r_part hj hu, hag, h1]; rfl⟩
theorem q_fieldV {s : TypeId} {x : Operand} {i : Nat} (ho : o.op = .field s x i) (hx : okO sz nG x = true) : Quiet P nG sz o (fun fr => fldV P s (ev x fr) i) := by
  refine Quiet.of_run (s := fun a => Instr.field s (a.eval x) i) (fun a => by simp only [execOp, ho]) ?_
  intro J fr a v h hf
  have e1 := h.ev hx
  generalize ev x fr = X at *
  generalize a.eval x = X' at *
  unfold fldV at hf
  split at hf <;> first | (cases hf; done) | skip
  rename_i fs l hd
  split at hf <;> first | (cases hf; done) | skip
  rename_i f hnf
  rw [nth_eq] at hnf
  have hex : ∃ j d, P.info? f.type = some j ∧ P.underlying f.type = some d ∧ (if aggD d then some (Value.agg ⟨(l.drop f.offset).take j.size⟩) else l[f.offset]?) = some v := by
    split at hf <;> first | (cases hf; done) | skip
    · rename_i j fs' hj hu
      rw [takeL_eq, dropL_eq] at hf
      exact ⟨j, _, hj, hu, hf⟩
    · rename_i j n' e' hj hu
      rw [takeL_eq, dropL_eq] at hf
      exact ⟨j, _, hj, hu, hf⟩
    · rename_i j d hn1 hn2 hj hu
      rw [nth_eq] at hf
      refine ⟨j, d, hj, hu, ?_⟩
      have : aggD d = false := by cases d <;> first | rfl | (exact absurd rfl (hn1 _)) | (exact absurd rfl (hn2 _ _))
      rw [this]; exact hf
  obtain ⟨j, d, hj, hu, hv⟩ := hex
  cases e1 with
  | agg _ l' hr =>
    have run : ∀ w, (Instr.field s (.agg ⟨l'⟩) i).run P w = (part f.type ⟨l'⟩ f.offset).run P w := fun w => by
      have hin : (⟨fs⟩ : Array Field)[i]? = some f := by simpa using hnf
      simp only [Instr.field, Sem.run_bind, r_under hd, Result.andThen, hin, asAgg, Sem.run_pure]
    cases hag : aggD d with
    | true =>
      rw [hag] at hv
      obtain rfl := Option.some.inj hv
      exact ⟨_, .agg _ _ ((hr.drop _).take _), fun w => by rw [run, r_part hj hu, hag]; rfl⟩
    | false =>
      rw [hag] at hv
      obtain ⟨v', h1, h2⟩ := hr.get (show l[f.offset]? = some v from hv)
      exact ⟨v', h2, fun w => by rw [run, r_part hj hu, hag, h1]; rfl⟩
theorem bnd_some {d n : Nat} {x : Option Value} (h : bnd d x = some n) : (x = none ∧ n = d) ∨ ∃ k, x = some (.int k (.ofNat n)) := by
  unfold bnd at h
  split at h
  · exact .inl ⟨rfl, (Option.some.inj h).symm⟩
  · obtain rfl := Option.some.inj h; exact .inr ⟨_, rfl⟩
  · cases h
theorem r_bound {k : IntKind} {n y : Nat} (h : n ≤ y) (c : BoundsCode) (w : World) : (Instr.sliceBound (.int k (.ofNat n)) y c).run P w = .ok n w := by
  have hin : (0 : Int) ≤ Int.ofNat n ∧ Int.ofNat n ≤ (y : Int) := by simp only [Int.ofNat_eq_natCast]; omega
  simp only [Instr.sliceBound, Sem.run_bind, asIntOf, Sem.run_pure, Result.andThen, hin, and_self, if_true]
  rfl
theorem r_bounds {len cap l h m : Nat} {lo hi mx : Option Value} (h1 : bnd 0 lo = some l) (h2 : bnd len hi = some h) (h3 : bnd cap mx = some m) (hl : l ≤ h) (hh : h ≤ m) (hm : m ≤ cap) (hmx : (mx.isSome && hi.isNone) = false) (isS : Bool) (w : World) :
    (Instr.sliceBounds isS len cap lo hi mx).run P w = .ok (l, h, m) w := by
  rcases bnd_some h1 with ⟨rfl, rfl⟩ | ⟨k1, rfl⟩ <;> rcases bnd_some h2 with ⟨rfl, rfl⟩ | ⟨k2, rfl⟩ <;> rcases bnd_some h3 with ⟨rfl, rfl⟩ | ⟨k3, rfl⟩ <;>
    first
    | (cases hmx; done)
    | (simp only [Instr.sliceBounds, Sem.run_bind, Sem.run_pure, Result.andThen, r_bound hl, r_bound hh, r_bound hm]; done)
    | (simp only [Instr.sliceBounds, Sem.run_bind, Sem.run_pure, Result.andThen, r_bound hl, r_bound hh, r_bound hm]; rfl)
theorem ba_extract (l : List UInt8) (a b : Nat) : (⟨⟨l⟩⟩ : ByteArray).extract a b = ⟨⟨(l.drop a).take (b - a)⟩⟩ := by
  have : ((⟨⟨l⟩⟩ : ByteArray).extract a b).data = (⟨⟨(l.drop a).take (b - a)⟩⟩ : ByteArray).data := by
    rw [ByteArray.data_extract]
    simp [List.extract_toArray, List.extract_eq_take_drop]
  cases h : (⟨⟨l⟩⟩ : ByteArray).extract a b
  rw [h] at this
  simpa using this
end Go.Proofs.YthlfhfliidhelaaGreatDoor.Eng
namespace Go.Proofs.YthlfhfliidhelaaGreatDoor.Eng
open Go.RowKit
variable {P : Program} {nG sz : Nat} {o : Oper}
def okOp (sz nG : Nat) : Option Operand → Bool
  | some x => okO sz nG x
  | none => true
theorem bnd_plain {J : Inj} {fr : Fr} {a : Act} (h : At nG sz J fr a) {d n : Nat} {x : Option Operand} (hx : okOp sz nG x = true) (hb : bnd d (x.map fun x => ev x fr) = some n) : x.map a.eval = x.map fun x => ev x fr := by
  cases x with
  | none => rfl
  | some x =>
    rcases bnd_some hb with ⟨h1, -⟩ | ⟨k, h1⟩
    · cases h1
    · have h1 : ev x fr = .int k (.ofNat n) := Option.some.inj h1
      have e := h.ev (x := x) hx
      rw [h1] at e
      show some (a.eval x) = some (ev x fr)
      rw [h1, VR.plain e rfl]
theorem low_small {c : Nat} (h : c < big) : low c = c := by
  unfold low
  split
  · rename_i hb; rw [Nat.ble_eq] at hb; omega
  · rfl
theorem big_pos : 0 < big := by decide
theorem low_lt (c : Nat) : low c < big := by
  unfold low
  split
  · exact Nat.mod_lt _ big_pos
  · rename_i hb
    rcases Nat.lt_or_ge c big with h | h
    · exact h
    · have h : Nat.ble big c = true := by rw [Nat.ble_eq]; exact h
      rw [h] at hb; cases hb
theorem unk_ge {s m : Nat} (hs : 0 < s) : big ≤ big * s + m := by
  have : big * 1 ≤ big * s := Nat.mul_le_mul_left _ hs
  omega
theorem low_unk {s m : Nat} (hs : 0 < s) (hm : m < big) : low (big * s + m) = m := by
  unfold low
  have h : Nat.ble big (big * s + m) = true := by rw [Nat.ble_eq]; exact unk_ge hs
  rw [h]
  show (big * s + m) % big = m
  rw [Nat.mul_add_mod]; exact Nat.mod_eq_of_lt hm
theorem stride_unk {s m : Nat} (hm : m < big) : stride (big * s + m) = s := by
  show (big * s + m) / big = s
  rw [Nat.mul_add_div big_pos, Nat.div_eq_of_lt hm]; rfl
theorem VR.slice_low {J : Inj} {b i n c : Nat} {v' : Value} (h : VR J (.slice (some ⟨b, i, none⟩) n c) v') : ∃ (o' c' : Nat) (x : Tg), J b = some x ∧ v' = .slice (some ⟨x.B, o', none⟩) n c' ∧ n ≤ c' ∧ low c ≤ c' ∧ (o' = x.d + i ∨ c' = 0) := by
  obtain ⟨o', c', x, h1, h2, h3, h4, h5⟩ := h.slice_inv
  refine ⟨o', c', x, h1, h2, h3, ?_, h4⟩
  rcases h5 with ⟨h6, rfl⟩ | ⟨m, k, rfl, hm, hs, hle, -, -⟩
  · rw [low_small h6]; exact Nat.le_refl _
  · rw [low_unk hs hm]; exact hle
theorem ble_false {a b : Nat} (h : Nat.ble a b = false) : b < a := by
  rcases Nat.lt_or_ge b a with h1 | h1
  · exact h1
  · have h1 : Nat.ble a b = true := by rw [Nat.ble_eq]; exact h1
    rw [h1] at h; cases h
theorem sliceB_sound {J : Inj} {e : TypeId} {j : TypeInfo} {t : TypeId} (ht : P.underlying t = some (.slice e)) (hj : P.info? e = some j) {a : Option Addr} {n c : Nat} {x' v : Value} {lo hi mx : Option Value} {l h m : Nat}
    (h1 : bnd 0 lo = some l) (h2 : bnd n hi = some h) (h3 : bnd (low c) mx = some m) (hl : l ≤ h) (hh : h ≤ m) (hm : m ≤ low c) (hmx : (mx.isSome && hi.isNone) = false)
    (hv : sliceB j.size a l h m mx.isNone (match Nat.ble big c with | true => some (stride c) | false => none) = some v) (hx : VR J (.slice a n c) x') :
    ∃ v', VR J v v' ∧ ∀ w, (Instr.slice t x' lo hi mx).run P w = .ok v' w := by
  unfold sliceB at hv
  split at hv
  · obtain rfl := Option.some.inj hv
    cases hx with
    | snil =>
      have e0 : low 0 = 0 := by decide
      rw [e0] at hm
      obtain rfl : m = 0 := by omega
      obtain rfl : h = 0 := by omega
      obtain rfl : l = 0 := by omega
      refine ⟨_, .snil, fun w => ?_⟩
      rw [e0] at h3
      simp only [Instr.slice, Sem.run_bind, r_under ht, Result.andThen, r_bounds h1 h2 h3 hl hh hm hmx, r_size hj]
      rfl
  · rename_i b i
    obtain ⟨o', c', x, hJ, rfl, hn, ho, hc⟩ := hx.slice_inv
    have run : ∀ m', bnd c' mx = some m' → h ≤ m' → m' ≤ c' → ∀ w, (Instr.slice t (.slice (some ⟨x.B, o', none⟩) n c') lo hi mx).run P w = .ok (.slice (if m' = l then some ⟨x.B, o', none⟩ else some ⟨x.B, o' + l * j.size, none⟩) (h - l) (m' - l)) w := fun m' hb h4 h5 w => by
      simp only [Instr.slice, Sem.run_bind, r_under ht, Result.andThen, r_bounds h1 h2 hb hl h4 h5 hmx, r_size hj]
      split
      · rfl
      · simp only [Option.map_some, addr_add]; rfl
    have known : ∀ m', m' ≤ c' → m' < big → l ≤ h → h ≤ m' → bnd c' mx = some m' → v = .slice (some (if m' = l then ⟨b, i, none⟩ else ⟨b, i + l * j.size, none⟩)) (h - l) (m' - l) →
        ∃ v', VR J v v' ∧ ∀ w, (Instr.slice t (.slice (some ⟨x.B, o', none⟩) n c') lo hi mx).run P w = .ok v' w := by
      rintro m' h6 h7 h8 h9 hb rfl
      refine ⟨_, ?_, run m' hb h9 h6⟩
      by_cases hml : m' = l
      · rw [if_pos hml, if_pos hml]
        exact .slice b i _ _ _ _ x hJ (by omega) (.inr (by omega)) (.inl ⟨by omega, rfl⟩)
      · rw [if_neg hml, if_neg hml]
        exact .slice b _ _ _ _ _ x hJ (by omega) (.inl (by rcases ho with ho | ho <;> omega)) (.inl ⟨by omega, rfl⟩)
    have hlt := low_lt c
    have hfin : ∀ k, (match Nat.beq m l with | true => some (Value.slice (some ⟨b, i, none⟩) (h - l) (m - l)) | false => some (.slice (some ⟨b, Nat.add i (Nat.mul l j.size), none⟩) (h - l) (m - l))) = some k → k = .slice (some (if m = l then ⟨b, i, none⟩ else ⟨b, i + l * j.size, none⟩)) (h - l) (m - l) := by
      intro k hk
      split at hk
      · rename_i hb; rw [Nat.beq_eq] at hb; rw [if_pos hb, ← Option.some.inj hk]
      · rename_i hb
        have : ¬ m = l := fun e => by subst e; rw [Nat.beq_refl] at hb; cases hb
        rw [if_neg this, ← Option.some.inj hk]; rfl
    rcases hc with ⟨hc, rfl⟩ | ⟨m0, k, rfl, hm0, hs, hle, hik, hC⟩
    · rw [low_small hc] at h3 hm
      have hbig : Nat.ble big c' = false := by
        cases hbb : Nat.ble big c' with
        | false => rfl
        | true => rw [Nat.ble_eq] at hbb; omega
      rw [hbig] at hv
      have hv' := hfin v (by cases mx <;> exact hv)
      exact known m hm (by omega) hl hh h3 hv'
    · rw [low_unk hs hm0] at h3 hm
      have hbig : Nat.ble big (big * x.s + m0) = true := by rw [Nat.ble_eq]; exact unk_ge hs
      rw [hbig, stride_unk hm0] at hv
      cases mx with
      | some u =>
        have hv' := hfin v hv
        have hb : bnd c' (some u) = some m := by
          rcases bnd_some h3 with ⟨e, -⟩ | ⟨k', e⟩
          · cases e
          · injection e with e; subst e; rfl
        exact known m (by omega) (by omega) hl hh hb hv'
      | none =>
        have hm' : m0 = m := Option.some.inj h3
        subst hm'
        dsimp only [Option.isNone_none] at hv
        split at hv
        · rename_i hb
          rw [Nat.beq_eq] at hb
          obtain rfl := Option.some.inj hv
          refine ⟨_, ?_, run c' rfl (by omega) (Nat.le_refl _)⟩
          have hsz : Nat.add i (Nat.mul l j.size) = i + l * j.size := rfl
          rw [hsz]
          have hrel : ∀ o2, (o2 = x.d + (i + l * j.size) ∨ c' - l = 0) → VR J (.slice (some ⟨b, i + l * j.size, none⟩) (h - l) (unk j.size (m0 - l))) (.slice (some ⟨x.B, o2, none⟩) (h - l) (c' - l)) := by
            intro o2 ho2
            refine .slice b _ _ _ _ _ x hJ (by omega) ho2 (.inr ⟨m0 - l, k + l, ?_, by omega, hs, by omega, ?_, by omega⟩)
            · rw [hb]; rfl
            · rw [hik, hb, Nat.add_mul]
          by_cases hml : c' = l
          · rw [if_pos hml]; exact hrel _ (.inr (by omega))
          · rw [if_neg hml]; exact hrel _ (.inl (by rcases ho with ho | ho <;> omega))
        · cases hv
  · cases hv
theorem q_slice {t : TypeId} {x : Operand} {lo hi mx : Option Operand} (ho : o.op = .slice t x lo hi mx) (hx : okO sz nG x = true) (h1 : okOp sz nG lo = true) (h2 : okOp sz nG hi = true) (h3 : okOp sz nG mx = true) :
    Quiet P nG sz o (fun fr => sliceV P t (ev x fr) (lo.map fun x => ev x fr) (hi.map fun x => ev x fr) (mx.map fun x => ev x fr)) := by
  refine Quiet.of_run (s := fun a => Instr.sliceAt t (a.eval x) (lo.map a.eval) (hi.map a.eval) (mx.map a.eval)) (fun a => by simp only [execOp, ho]) ?_
  intro J fr a v h hf
  have e1 := h.ev hx
  unfold sliceV at hf
  split at hf <;> first | (cases hf; done) | skip
  · rename_i l ht hX
    rw [hX] at e1
    have e1 := VR.plain e1 rfl
    split at hf <;> first | (cases hf; done) | skip
    rename_i q r b1 b2 b3
    split at hf <;> first | (cases hf; done) | skip
    rename_i c1 c2
    rw [Nat.ble_eq] at c1 c2
    obtain rfl := Option.some.inj hf
    have p1 := bnd_plain h h1 b1
    have p2 := bnd_plain h h2 b2
    have p3 : mx.map a.eval = none := by
      cases mx with
      | none => rfl
      | some _ => cases b3
    refine ⟨_, .string _, fun w => ?_⟩
    rw [lenL_eq] at b2 c2
    have hsz : (⟨⟨l⟩⟩ : ByteArray).size = l.length := rfl
    have hr := r_bounds (P := P) (cap := l.length) (m := l.length) b1 b2 (show bnd l.length none = some l.length from rfl) c1 c2 (Nat.le_refl _) rfl false w
    simp only [Instr.sliceAt, Sem.run_bind, r_under ht, Result.andThen, e1, p1, p2, p3, Instr.slice, hsz, Option.isSome_none, Bool.false_eq_true, if_false, Sem.run_pure, hr]
    rw [takeL_eq, dropL_eq, ba_extract]
  · rename_i e b n c ht hX
    rw [hX] at e1
    split at hf <;> first | (cases hf; done) | skip
    rename_i j q r m hj b1 b2 b3
    split at hf <;> first | (cases hf; done) | skip
    rename_i c1 c2 c3
    rw [Nat.ble_eq] at c1 c2 c3
    split at hf
    · cases hf
    rename_i hmx
    have hmx : ((mx.map fun x => ev x fr).isSome && (hi.map fun x => ev x fr).isNone) = false := by
      simpa using hmx
    obtain ⟨v', r1, r2⟩ := sliceB_sound (P := P) ht hj b1 b2 b3 c1 c2 c3 hmx hf e1
    refine ⟨v', r1, fun w => ?_⟩
    rw [bnd_plain h h1 b1, bnd_plain h h2 b2, bnd_plain h h3 b3]
    simp only [Instr.sliceAt, Sem.run_bind, r_under ht, Result.andThen, r2]
  · rename_i n e b q ht hX
    rw [hX] at e1
    revert e1
    generalize a.eval x = x'
    intro e1
    cases e1 with
    | ptr _ _ x hb =>
      split at hf <;> first | (cases hf; done) | skip
      rename_i b1 b2 b3
      split at hf <;> first | (cases hf; done) | skip
      rename_i j hj hn
      rw [Nat.ble_eq] at hn
      obtain rfl := Option.some.inj hf
      have none_of : ∀ {m : Option Operand}, (m.map fun x => ev x fr) = none → m.map a.eval = none := fun {m} h => by
        cases m with
        | none => rfl
        | some _ => cases h
      refine ⟨.slice (some ⟨x.B, x.d + q, none⟩) n n, .slice b q n n (x.d + q) n x hb (Nat.le_refl _) (.inl rfl) (.inl ⟨Nat.lt_of_le_of_lt hn (by decide), rfl⟩), fun w => ?_⟩
      have hs : (Instr.sliceBounds false n n none none none).run P w = .ok (0, n, n) w := rfl
      rw [none_of b1, none_of b2, none_of b3]
      simp only [Instr.sliceAt, Sem.run_bind, r_under ht, Result.andThen, Instr.sureAddr, Sem.run_pure, hs, r_size hj]
      simp [Addr.add]
end Go.Proofs.YthlfhfliidhelaaGreatDoor.Eng
namespace Go.Proofs.YthlfhfliidhelaaGreatDoor.Eng
open Go.RowKit
variable {P : Program} {nG sz : Nat} {o : Oper}
theorem exec_builtin {c : Call} {b : Builtin} (ho : o.op = .call c) (hb : c.callee = .builtin b) (a : Act) :
    execOp a.eval o = builtin b c.argTypes o.type (c.args.map fun | .const _ => true | _ => false) (c.args.map a.eval) := by
  simp only [execOp, ho, resolve, hb]; rfl
theorem arr_of {α : Type} {x : Array α} {l : List α} (h : x.toList = l) : x = ⟨l⟩ := by
  cases x; exact congrArg _ h
theorem map_arr {α β : Type} {x : Array α} {l : List α} (h : x.toList = l) (f : α → β) : x.map f = ⟨l.map f⟩ := by
  subst h; cases x; simp
theorem q_len {c : Call} {x : Operand} (ho : o.op = .call c) (hb : c.callee = .builtin .len) (ha : c.args.toList = [x]) (hx : okO sz nG x = true) : Quiet P nG sz o (fun fr => lenBV P (nth c.argTypes.toList 0) (ev x fr)) := by
  refine Quiet.of_run (s := fun a => Builtin.len_ c.argTypes o.type (c.args.map a.eval)) (fun a => exec_builtin ho hb a) ?_
  intro J fr a v h hf
  have e1 := h.ev hx
  rw [nth_eq] at hf
  unfold lenBV at hf
  have hargs : (c.args.map a.eval)[0]? = some (a.eval x) := by rw [map_arr ha]; rfl
  split at hf <;> first | (cases hf; done) | skip
  rename_i t ht
  have ht : c.argTypes[0]? = some t := by rw [← ht]; simp
  generalize ev x fr = X at *
  generalize a.eval x = X' at *
  split at hf <;> first | (cases hf; done) | skip
  · rename_i l hd
    obtain rfl := Option.some.inj hf
    have e1 := VR.plain e1 rfl
    refine ⟨_, .int .i64 _, fun w => ?_⟩
    simp only [Builtin.len_, ht, hargs, Sem.run_bind, r_under hd, Result.andThen, e1, lenL_eq]; rfl
  · rename_i e q n cc hd
    obtain rfl := Option.some.inj hf
    refine ⟨_, .int .i64 _, fun w => ?_⟩
    cases e1 <;> (simp only [Builtin.len_, ht, hargs, Sem.run_bind, r_under hd, Result.andThen]; rfl)
  · rename_i n e hd
    obtain rfl := Option.some.inj hf
    refine ⟨_, .int .i64 _, fun w => ?_⟩
    simp only [Builtin.len_, ht, hargs, Sem.run_bind, r_under hd, Result.andThen]; rfl
theorem q_max {c : Call} {x y : Operand} (ho : o.op = .call c) (hb : c.callee = .builtin .max) (ha : c.args.toList = [x, y]) (hx : okO sz nG x = true) (hy : okO sz nG y = true) : Quiet P nG sz o (maxF x y) := by
  refine Quiet.of_run (s := fun a => Builtin.max_ c.argTypes o.type (c.args.map a.eval)) (fun a => exec_builtin ho hb a) ?_
  intro J fr a v h hf
  obtain ⟨k, m, hm, hf⟩ := vInt_some hf
  obtain ⟨k', n, hn, hf⟩ := vInt_some hf
  obtain rfl := Option.some.inj hf
  have e1 := h.ev hx
  have e2 := h.ev hy
  rw [hm] at e1; rw [hn] at e2
  refine ⟨_, .int k _, fun w => ?_⟩
  have : c.args.map a.eval = ⟨[.int k m, .int k' n]⟩ := by rw [map_arr ha]; simp only [List.map_cons, List.map_nil, VR.plain e1 rfl, VR.plain e2 rfl]
  rw [this]; rfl
theorem q_min {c : Call} {x y : Operand} (ho : o.op = .call c) (hb : c.callee = .builtin .min) (ha : c.args.toList = [x, y]) (hx : okO sz nG x = true) (hy : okO sz nG y = true) : Quiet P nG sz o (minF x y) := by
  refine Quiet.of_run (s := fun a => Builtin.min_ c.argTypes o.type (c.args.map a.eval)) (fun a => exec_builtin ho hb a) ?_
  intro J fr a v h hf
  obtain ⟨k, m, hm, hf⟩ := vInt_some hf
  obtain ⟨k', n, hn, hf⟩ := vInt_some hf
  obtain rfl := Option.some.inj hf
  have e1 := h.ev hx
  have e2 := h.ev hy
  rw [hm] at e1; rw [hn] at e2
  refine ⟨_, .int k _, fun w => ?_⟩
  have : c.args.map a.eval = ⟨[.int k m, .int k' n]⟩ := by rw [map_arr ha]; simp only [List.map_cons, List.map_nil, VR.plain e1 rfl, VR.plain e2 rfl]
  rw [this]; rfl
theorem q_conv {src dst : TypeId} {x : Operand} {d : TypeDesc} {k : IntKind} (ho : o.op = .convert src dst x) (hs : P.underlying src = some d) (hd : P.underlying dst = some (.int k)) (hx : okO sz nG x = true) : Quiet P nG sz o (convF k x) := by
  refine Quiet.of_run (s := fun a => convert src dst (a.eval x)) (fun a => by simp only [execOp, ho]) ?_
  intro J fr a v h hf
  obtain ⟨k', m, hm, hf⟩ := vInt_some hf
  obtain rfl := Option.some.inj hf
  have e1 := h.ev hx
  rw [hm] at e1
  refine ⟨_, .int k _, fun w => ?_⟩
  rw [VR.plain e1 rfl]
  simp only [convert, Sem.run_bind, r_under hs, r_under hd, Result.andThen]; rfl
theorem q_convS {src dst : TypeId} {x : Operand} (ho : o.op = .convert src dst x) (hx : okO sz nG x = true) :
    Quiet P nG sz o (fun fr => match plainV (ev x fr) with | true => runS P (convert src dst (ev x fr)) | false => none) := by
  refine Quiet.of_run (s := fun a => convert src dst (a.eval x)) (fun a => by simp only [execOp, ho]) ?_
  intro J fr a v h hf
  have e1 := h.ev hx
  split at hf
  · rename_i hp
    obtain ⟨h1, h2⟩ := runS_some hf
    rw [VR.plain e1 hp]
    exact ⟨v, VR.of_plain h2, runP_run h1⟩
  · cases hf
/-! aggregates -/
theorem foldl_set (l : List Value) : ∀ (cs : List Value) (off k : Nat), off + k + l.length ≤ cs.length →
    (l.zipIdx k).foldl (fun (cs : Array Value) (p : Value × Nat) => cs.setIfInBounds (off + p.2) p.1) ⟨cs⟩ = ⟨cs.take (off + k) ++ (l ++ cs.drop (off + k + l.length))⟩ := by
  induction l with
  | nil => intro cs off k _; simp
  | cons v l ih =>
    intro cs off k h
    simp only [List.length_cons] at h
    rw [List.zipIdx_cons, List.foldl_cons]
    have e1 : (⟨cs⟩ : Array Value).setIfInBounds (off + k) v = ⟨cs.set (off + k) v⟩ := by simp
    rw [e1, ih _ off (k + 1) (by rw [List.length_set]; omega)]
    congr 1
    have h1 : (cs.set (off + k) v).take (off + (k + 1)) = cs.take (off + k) ++ [v] := by
      rw [← Nat.add_assoc, List.take_set, List.take_succ_eq_append_getElem (by omega), List.set_append_right _ _ (by simp; omega)]
      simp [List.length_take]
      have : off + k - min (off + k) cs.length = 0 := by omega
      rw [this]; rfl
    have h2 : (cs.set (off + k) v).drop (off + (k + 1) + l.length) = cs.drop (off + k + (l.length + 1)) := by
      rw [List.drop_set_of_lt (by omega)]; congr 1; omega
    rw [h1, h2]; simp
theorem fill_step (place : Nat → Option (Nat × Nat)) {cs : List Value} {i off size : Nat} {v : Value} {rest : List (Nat × Value)} (hp : place i = some (off, size)) (hs : v.cells.size = size) (hl : off + size ≤ cs.length) :
    Instr.fill place ⟨cs⟩ ((i, v) :: rest) = Instr.fill place ⟨cs.take off ++ (v.cells.toList ++ cs.drop (off + size))⟩ rest := by
  subst hs
  simp only [Instr.fill, hp]
  rw [if_neg (by simp; omega)]
  congr 1
  have := foldl_set v.cells.toList cs off 0 (by simpa using hl)
  simp only [Nat.add_zero, Array.length_toList] at this
  rw [← this, ← Array.foldl_toList, Array.toList_zipIdx]
inductive PR (J : Inj) : List (Nat × List Value) → List (Nat × Value) → Prop
  | nil : PR J [] []
  | cons (i : Nat) (l : List Value) (v : Value) (p : List (Nat × List Value)) (p' : List (Nat × Value)) (h : VRs J l v.cells.toList) (hp : PR J p p') : PR J ((i, l) :: p) ((i, v) :: p')
theorem fillL_sound {J : Inj} {size : Nat} : ∀ {p : List (Nat × List Value)} {p' : List (Nat × Value)}, PR J p p' → ∀ {cs cs' r : List Value}, VRs J cs cs' → fillL size cs p = some r →
    ∃ r', Instr.fill (fun i => some (i * size, size)) ⟨cs'⟩ p' = some ⟨r'⟩ ∧ VRs J r r' := by
  intro p p' hp
  induction hp with
  | nil => intro cs cs' r hc h; obtain rfl := Option.some.inj h; exact ⟨cs', rfl, hc⟩
  | cons i l v p p' hl hp ih =>
    intro cs cs' r hc h
    simp only [fillL] at h
    split at h <;> first | (cases h; done) | skip
    rename_i h1 h2
    rw [Nat.beq_eq, lenL_eq] at h1
    rw [Nat.ble_eq, lenL_eq, lenL_eq] at h2
    have h2 : i * size + l.length ≤ cs.length := h2
    have hlen := hl.length
    have hclen := hc.length
    have hs : v.cells.size = size := by rw [← h1, hlen]; simp
    rw [fill_step _ rfl hs (by omega)]
    rw [takeL_eq, dropL_eq, appL_eq, appL_eq] at h
    refine ih ?_ h
    have e1 : Nat.add (Nat.mul i size) (lenL l) = i * size + size := by rw [lenL_eq, h1]; rfl
    have e2 : Nat.mul i size = i * size := rfl
    rw [e1, e2]
    exact (hc.take _).append (hl.append (hc.drop _))
end Go.Proofs.YthlfhfliidhelaaGreatDoor.Eng
namespace Go.Proofs.YthlfhfliidhelaaGreatDoor.Eng
open Go.RowKit
variable {P : Program} {nG sz : Nat} {o : Oper}
theorem fillS_sound {J : Inj} {fs : List Field} (place : Nat → Option (Nat × Nat)) (hpl : ∀ (i : Nat) (f : Field) (j : TypeInfo), fs[i]? = some f → P.info? f.type = some j → place i = some (f.offset, j.size)) :
    ∀ {p : List (Nat × List Value)} {p' : List (Nat × Value)}, PR J p p' → ∀ {cs cs' r : List Value}, VRs J cs cs' → fillS P fs cs p = some r →
    ∃ r', Instr.fill place ⟨cs'⟩ p' = some ⟨r'⟩ ∧ VRs J r r' := by
  intro p p' hp
  induction hp with
  | nil => intro cs cs' r hc h; obtain rfl := Option.some.inj h; exact ⟨cs', rfl, hc⟩
  | cons i l v p p' hl hp ih =>
    intro cs cs' r hc h
    simp only [fillS] at h
    split at h <;> first | (cases h; done) | skip
    rename_i f hf
    rw [nth_eq] at hf
    split at h <;> first | (cases h; done) | skip
    rename_i j hj
    split at h <;> first | (cases h; done) | skip
    rename_i h1 h2
    rw [Nat.beq_eq, lenL_eq] at h1
    rw [Nat.ble_eq, lenL_eq, lenL_eq] at h2
    have h2 : f.offset + l.length ≤ cs.length := h2
    have hlen := hl.length
    have hclen := hc.length
    have hs : v.cells.size = j.size := by rw [← h1, hlen]; simp
    rw [fill_step _ (hpl i f j hf hj) hs (by omega)]
    rw [takeL_eq, dropL_eq, appL_eq, appL_eq] at h
    refine ih ?_ h
    have e1 : Nat.add f.offset (lenL l) = f.offset + j.size := by rw [lenL_eq, h1]; rfl
    rw [e1]
    exact (hc.take _).append (hl.append (hc.drop _))
theorem VR.cellsR {J : Inj} {v v' : Value} (h : VR J v v') : VRs J v.cells.toList v'.cells.toList := by
  have one : ∀ {a a' : Value}, VR J a a' → VRs J #[a].toList #[a'].toList := fun h => .cons _ _ _ _ h .nil
  cases h with
  | agg cs cs' h => exact h
  | bool b => exact one (.bool b)
  | int k n => exact one (.int k n)
  | string s => exact one (.string s)
  | pnil => exact one .pnil
  | ptr b o x h => exact one (.ptr b o x h)
  | snil => exact one .snil
  | slice b o n c o' c' x h hn ho hc => exact one (.slice b o n c o' c' x h hn ho hc)
  | mnil => exact one .mnil
  | map b x h => exact one (.map b x h)
  | func f fs fs' cs cs' h1 h2 => exact one (.func f fs fs' cs cs' h1 h2)
  | yield l x h => exact one (.yield l x h)
  | nilFunc => exact one .nilFunc
  | nilIface => exact one .nilIface
  | iface t v v' h => exact one (.iface t v v' h)
  | tuple cs cs' h => exact one (.tuple cs cs' h)
theorem PR.of {J : Inj} {fr : Fr} {a : Act} (h : At nG sz J fr a) : ∀ (l : List (Nat × Operand)), l.all (fun p => okO sz nG p.2) = true → PR J (mapL (fun p => (p.1, (ev p.2 fr).cells.toList)) l) (l.map fun p => (p.1, a.eval p.2))
  | [], _ => .nil
  | p :: l, hl => by
    simp only [List.all_cons, Bool.and_eq_true] at hl
    exact .cons _ _ _ _ _ (h.ev hl.1).cellsR (PR.of h l hl.2)
theorem zeroC_some {t : TypeId} {l : List Value} (h : zeroC P t = some l) : ∃ i z, P.info? t = some i ∧ i.zero = some z ∧ l = z.cells.toList ∧ ∀ J, VRs J l l := by
  unfold zeroC at h
  split at h <;> first | (cases h; done) | skip
  rename_i i hi
  split at h <;> first | (cases h; done) | skip
  rename_i z hz
  split at h <;> first | (cases h; done) | skip
  rename_i hp
  obtain rfl := Option.some.inj h
  exact ⟨i, z, hi, hz, rfl, fun J => VRs.of_plain hp⟩
theorem mapM_places {fs : List Field} (h : fs.all (fun f => (P.info? f.type).isSome) = true) : ∃ places : List (Nat × Nat), fs.mapM (fun f => (P.info? f.type).map fun i => (f.offset, i.size)) = some places ∧
    ∀ (i : Nat) (f : Field) (j : TypeInfo), fs[i]? = some f → P.info? f.type = some j → places[i]? = some (f.offset, j.size) := by
  induction fs with
  | nil => exact ⟨[], rfl, fun i f j h => by simp at h⟩
  | cons g fs ih =>
    simp only [List.all_cons, Bool.and_eq_true] at h
    obtain ⟨pl, h1, h2⟩ := ih h.2
    obtain ⟨k, hk⟩ := Option.isSome_iff_exists.1 h.1
    refine ⟨(g.offset, k.size) :: pl, by simp [List.mapM_cons, hk, h1], fun i f j hf hj => ?_⟩
    cases i with
    | zero =>
      simp at hf; subst hf
      rw [hk] at hj; obtain rfl := Option.some.inj hj; rfl
    | succ i => simpa using h2 i f j (by simpa using hf) hj
theorem q_build {t : TypeId} {parts : Array (Nat × Operand)} (ho : o.op = .build t parts) (hx : parts.toList.all (fun p => okO sz nG p.2) = true) : Quiet P nG sz o (fun fr => buildV P t (partsV parts fr)) := by
  refine Quiet.of_run (s := fun a => Instr.build t (parts.map fun p => (p.1, a.eval p.2))) (fun a => by simp only [execOp, ho]) ?_
  intro J fr a v h hf
  have hp := PR.of h parts.toList hx
  have e1 : (parts.map fun p => (p.1, a.eval p.2)).toList = parts.toList.map fun p => (p.1, a.eval p.2) := by simp
  rw [← e1] at hp
  unfold buildV at hf
  split at hf <;> first | (cases hf; done) | skip
  · rename_i z fs hz hu
    obtain ⟨i, zz, hi, hzz, rfl, hzr⟩ := zeroC_some hz
    split at hf <;> first | (cases hf; done) | skip
    rename_i l hall hfill
    obtain rfl := Option.some.inj hf
    obtain ⟨pl, hpl, hpl2⟩ := mapM_places hall
    obtain ⟨r', h1, h2⟩ := fillS_sound (P := P) (fun i => (pl.toArray)[i]?) (fun i f j hf hj => by simpa using hpl2 i f j hf hj) hp (hzr J) hfill
    refine ⟨_, .agg _ _ h2, fun w => run_build w t _ ⟨r'⟩ ?_⟩
    unfold Program.built
    simp only [hi, hu, hzz, hpl]
    exact h1
  · rename_i z n e hz hu
    obtain ⟨i, zz, hi, hzz, rfl, hzr⟩ := zeroC_some hz
    split at hf <;> first | (cases hf; done) | skip
    rename_i j hj
    split at hf <;> first | (cases hf; done) | skip
    rename_i l hfill
    obtain rfl := Option.some.inj hf
    obtain ⟨r', h1, h2⟩ := fillL_sound hp (hzr J) hfill
    refine ⟨_, .agg _ _ h2, fun w => run_build w t _ ⟨r'⟩ ?_⟩
    unfold Program.built
    simp only [hi, hu, hzz, hj]
    exact h1
def Maker (P : Program) (nG sz : Nat) (o : Oper) (f : Fr → Option (List Value × TypeId)) (g : Nat → List Value → Value) : Prop :=
  ∀ (J : Inj) (fr : Fr) (a : Act) (cs : List Value) (e : TypeId), At nG sz J fr a → f fr = some (cs, e) → ∃ (cs' : List Value) (v' : Nat → Value), VRs J cs cs' ∧
    (∀ w, (execOp a.eval o).run P w = .ok (.value (v' w.heap.size)) (w.alloc (.cells ⟨cs'⟩ e))) ∧ ∀ (J' : Inj) (b B : Nat), J' b = some ⟨B, 0, 0, 0⟩ → VR J' (g b cs) (v' B)
theorem n_alloc {t : TypeId} (ho : o.op = .alloc t) : Maker P nG sz o (fun _ => match zeroC P t with | some z => some (z, t) | none => none) ptrG := by
  intro J fr a cs e h hf
  dsimp only at hf
  split at hf <;> first | (cases hf; done) | skip
  rename_i z hz
  obtain ⟨i, zz, hi, hzz, rfl, hzr⟩ := zeroC_some hz
  obtain ⟨rfl, rfl⟩ := Prod.mk.inj (Option.some.inj hf)
  refine ⟨_, fun B => .pointer (some ⟨B, 0, none⟩), hzr J, fun w => ?_, fun J' b B hb => .ptr b 0 ⟨B, 0, 0, 0⟩ hb⟩
  simp only [execOp, ho, Instr.alloc, Sem.run_bind, r_zero hi hzz, Result.andThen]; rfl
theorem n_box {t : TypeId} {x : Operand} (ho : o.op = .box t x) (hx : okO sz nG x = true) : Maker P nG sz o (fun fr => some ((ev x fr).cells.toList, t)) ptrG := by
  intro J fr a cs e h hf
  obtain ⟨rfl, rfl⟩ := Prod.mk.inj (Option.some.inj hf)
  refine ⟨_, fun B => .pointer (some ⟨B, 0, none⟩), (h.ev hx).cellsR, fun w => ?_, fun J' b B hb => .ptr b 0 ⟨B, 0, 0, 0⟩ hb⟩
  simp only [execOp, ho]; rfl
theorem repL_len (n : Nat) (l : List Value) : (repL n l).length = n * l.length := by
  induction n with
  | zero => simp [repL]
  | succ n ih => simp only [repL, List.length_append, ih]; rw [Nat.add_mul]; omega
theorem repL_get (n : Nat) (l : List Value) (_hl : 0 < l.length) : ∀ i, i < n * l.length → (repL n l)[i]? = l[i % l.length]? := by
  induction n with
  | zero => intro i h; omega
  | succ n ih =>
    intro i h
    rw [repL, List.getElem?_append]
    split
    · rename_i h1; rw [Nat.mod_eq_of_lt h1]
    · rename_i h1
      rw [Nat.add_mul] at h
      rw [ih (i - l.length) (by omega), Nat.mod_eq_sub_mod (show l.length ≤ i by omega)]
theorem rangeCells (n : Nat) (l : List Value) (hl : 0 < l.length) : (Array.range (n * l.length)).map (fun i => (⟨l⟩ : Array Value)[i % (⟨l⟩ : Array Value).size]!) = ⟨repL n l⟩ := by
  apply Array.ext'
  apply List.ext_getElem?
  intro i
  simp only [Array.toList_map, Array.toList_range, List.getElem?_map]
  by_cases h : i < n * l.length
  · rw [repL_get n l hl i h, List.getElem?_range h]
    have hm := Nat.mod_lt i hl
    simp [hm]
  · rw [List.getElem?_eq_none (by simp; omega), List.getElem?_eq_none (by rw [repL_len]; omega)]; rfl
theorem VRs.rep {J : Inj} {l l' : List Value} (h : VRs J l l') (n : Nat) : VRs J (repL n l) (repL n l') := by
  induction n with
  | zero => exact .nil
  | succ n ih => exact h.append ih
end Go.Proofs.YthlfhfliidhelaaGreatDoor.Eng
namespace Go.Proofs.YthlfhfliidhelaaGreatDoor.Eng
open Go.RowKit
variable {P : Program} {nG sz base : Nat} {w0 : World} {o : Oper}
theorem n_buildSlice {t : TypeId} {len : Nat} {parts : Array (Nat × Operand)} (ho : o.op = .buildSlice t len parts) (hx : parts.toList.all (fun p => okO sz nG p.2) = true) :
    Maker P nG sz o (fun fr => rowCells P t len (partsV parts fr)) (rowG len len) := by
  intro J fr a cs e h hf
  have hp := PR.of h parts.toList hx
  have e1 : (parts.map fun p => (p.1, a.eval p.2)).toList = parts.toList.map fun p => (p.1, a.eval p.2) := by simp
  rw [← e1] at hp
  unfold rowCells at hf
  split at hf <;> first | (cases hf; done) | skip
  rename_i e' hu
  split at hf <;> first | (cases hf; done) | skip
  rename_i j z hj hz
  dsimp only at hf
  split at hf <;> first | (cases hf; done) | skip
  rename_i l h1 h2 hfill
  obtain ⟨rfl, rfl⟩ := Prod.mk.inj (Option.some.inj hf)
  obtain ⟨i, zz, hi, hzz, rfl, hzr⟩ := zeroC_some hz
  rw [hj] at hi; obtain rfl := Option.some.inj hi
  rw [Nat.beq_eq, lenL_eq] at h1
  rw [Bool.and_eq_true, Nat.ble_eq, Nat.ble_eq] at h2
  obtain ⟨h2, h2b⟩ := h2
  have h2 : len * j.size ≤ 262144 := h2
  obtain ⟨r', h3, h4⟩ := fillL_sound hp ((hzr J).rep len) hfill
  refine ⟨r', fun B => .slice (some ⟨B, 0, none⟩) len len, h4, fun w => ?_, fun J' b B hb => ?_⟩
  · simp only [execOp, ho]
    refine r_v ?_
    by_cases hpos : len * j.size = 0
    · have hnil : repL len zz.cells.toList = [] := by
        apply List.eq_nil_of_length_eq_zero
        rw [repL_len, h1, hpos]
      rw [hnil] at h3
      have hr : (Array.range 0).map (fun i => (#[] : Array Value)[i % (#[] : Array Value).size]!) = ⟨[]⟩ := by
        apply Array.ext'; simp
      simp only [Instr.buildSlice, Sem.run_bind, r_under hu, r_size hj, Result.andThen, hpos]
      have hno : ¬ 0 > 2 ^ 24 := by decide
      simp only [hno, if_false, if_true, Sem.run_bind, Sem.run_pure]
      simp only [Result.andThen, hr, h3]
      rfl
    · refine run_buildSlice w t e' len _ ⟨r'⟩ j zz hu hj hzz (by omega) hpos ?_
      have hzl : 0 < zz.cells.toList.length := by
        rw [h1]
        rcases Nat.eq_zero_or_pos j.size with h0 | h0
        · rw [h0] at hpos; simp at hpos
        · exact h0
      have hrange := rangeCells len zz.cells.toList hzl
      rw [h1] at hrange
      rw [show (⟨zz.cells.toList⟩ : Array Value) = zz.cells from rfl] at hrange
      rw [hrange]
      exact h3
  · exact .slice b 0 len len _ len ⟨B, 0, 0, 0⟩ hb (Nat.le_refl _) (.inl rfl) (.inl ⟨Nat.lt_of_le_of_lt h2b (by decide), rfl⟩)
def Reader (P : Program) (nG sz : Nat) (o : Oper) (f : Fr → AH → Option Value) : Prop :=
  ∀ (base : Nat) (w0 : World) (J : Inj) (fr : Fr) (a : Act) (H : AH) (w : World) (v : Value), At nG sz J fr a → WR P nG base w0 J H w → f fr H = some v → ∃ v', VR J v v' ∧ (execOp a.eval o).run P w = .ok (.value v') w
theorem Reader.of_run {f : Fr → AH → Option Value} {s : Act → Sem Value} (he : ∀ a, execOp a.eval o = (do pure (Next.value (← s a)) : Sem Next))
    (h : ∀ (base : Nat) (w0 : World) (J : Inj) (fr : Fr) (a : Act) (H : AH) (w : World) (v : Value), At nG sz J fr a → WR P nG base w0 J H w → f fr H = some v → ∃ v', VR J v v' ∧ (s a).run P w = .ok v' w) : Reader P nG sz o f := by
  intro base w0 J fr a H w v ha hw hf
  obtain ⟨v', h1, h2⟩ := h base w0 J fr a H w v ha hw hf
  exact ⟨v', h1, by rw [he]; exact r_v h2⟩
theorem aoCells_some {R : Type} {o : Option AO} {f : List Value → TypeId → Option R} {r : R} (h : aoCells o f none = some r) : ∃ cs e, o = some (.cells cs e) ∧ f cs e = some r := by
  cases o with
  | none => cases h
  | some o => cases o <;> first | (exact ⟨_, _, rfl, h⟩) | cases h
theorem WR.cellsN {J : Inj} {H : AH} {w : World} (h : WR P nG base w0 J H w) {b p n : Nat} {x : Tg} {cs : List Value} {e : TypeId} (hb : H.get b = some (.cells cs e)) (hJ : J b = some x) (hn : p + n ≤ cs.length) :
    ∃ l', VRs J ((cs.drop p).take n) l' ∧ l'.length = n ∧ ∀ (j : Nat) (v' : Value), l'[j]? = some v' → w.cell? ((⟨x.B, x.d + p, none⟩ : Addr).add j) = some v' ∧ w.frozen? ((⟨x.B, x.d + p, none⟩ : Addr).add j) = false := by
  obtain ⟨cs', fz, h1, h2, h3, -⟩ := h.obj b _ x hb hJ
  have hlen' : x.d + p + n ≤ cs'.size ∨ n = 0 := by
    rcases Nat.eq_zero_or_pos n with h0 | h0
    · exact .inr h0
    · obtain ⟨v', hv, -⟩ := h3 (p + n - 1) _ (List.getElem?_eq_getElem (show p + n - 1 < cs.length by omega))
      have := (Array.getElem?_eq_some_iff.1 hv).1
      exact .inl (by omega)
  have hl' : ((cs'.toList.drop (x.d + p)).take n).length = n := by
    rw [List.length_take, List.length_drop, Array.length_toList]; omega
  refine ⟨(cs'.toList.drop (x.d + p)).take n, ?_, hl', ?_⟩
  · refine VRs.of_get ?_ ?_
    · rw [hl', List.length_take, List.length_drop]; omega
    · intro i v v' hv hv'
      rw [List.getElem?_take] at hv hv'
      split at hv
      · rename_i hi
        rw [if_pos hi] at hv'
        rw [List.getElem?_drop] at hv hv'
        obtain ⟨u, hu, hr⟩ := h3 (p + i) v hv
        rw [show x.d + (p + i) = x.d + p + i by omega] at hu
        rw [Array.getElem?_toList, hu] at hv'
        obtain rfl := Option.some.inj hv'
        exact hr
      · cases hv
  · intro j v' hv
    rw [List.getElem?_take] at hv
    split at hv
    · rename_i hj
      rw [List.getElem?_drop, Array.getElem?_toList] at hv
      rw [addr_add]
      obtain ⟨v, hcs⟩ : ∃ v, cs[p + j]? = some v := ⟨_, List.getElem?_eq_getElem (by omega)⟩
      obtain ⟨u, c1, -, c3⟩ := h.cell hb hJ hcs
      rw [show x.d + (p + j) = x.d + p + j by omega] at c1 c3
      exact ⟨by rw [World.cell_of h1]; exact hv, c3⟩
    · cases hv
theorem run_loadList {w : World} (a : Addr) (cs : List Value) (n : Nat) (hn : cs.length = n) (h : ∀ (j : Nat) (v : Value), cs[j]? = some v → w.cell? (a.add j) = some v) : (loadCells a n).run P w = .ok ⟨cs⟩ w := by
  subst hn
  exact run_loadCells_list w a cs h
theorem ldV_sound {J : Inj} {H : AH} {w : World} (h : WR P nG base w0 J H w) {t : TypeId} {x x' v : Value} (ha : ldV (ldT P t) x H = some v) (hx : VR J x x') :
    ∃ v', (Instr.loadAt t x').run P w = .ok v' w ∧ VR J v v' := by
  obtain ⟨b, p, rfl, ha⟩ := vPtr_some ha
  obtain ⟨y, hJ, rfl⟩ := hx.ptr_inv
  have hload : ∀ d, P.underlying t = some d → ∀ r, (if aggD d then (match P.info? t with | some i => (loadCells ⟨y.B, y.d + p, none⟩ i.size).run P w | none => .halt (.stuck "no such type") w) = .ok r w else (load ⟨y.B, y.d + p, none⟩).run P w = .ok (.agg r) w) → True := fun _ _ _ _ => trivial
  clear hload
  unfold ldT at ha
  have agg : ∀ d : TypeDesc, P.underlying t = some d → aggD d = true → ∀ k, (match P.info? t with | some i => LK.agg i.size | none => .bad) = k → ldK H b p k = some v → ∃ v', (Instr.loadAt t (.pointer (some ⟨y.B, y.d + p, none⟩))).run P w = .ok v' w ∧ VR J v v' := by
    intro d hd hm k hk ha
    cases hi : P.info? t with
    | none => rw [hi] at hk; subst hk; cases ha
    | some i =>
      rw [hi] at hk; subst hk
      obtain ⟨cs, e, hb, ha⟩ := aoCells_some (show aoCells (H.get b) _ none = some v from ha)
      cases htk : takeN i.size (dropL p cs) with
      | none => rw [htk] at ha; cases ha
      | some l =>
        rw [htk] at ha
        obtain rfl := Option.some.inj (show some (Value.agg ⟨l⟩) = some v from ha)
        obtain ⟨hlen, rfl⟩ := takeN_some htk
        rw [dropL_eq] at hlen ⊢
        rcases Nat.lt_or_ge cs.length p with hp | hp
        · have : (cs.drop p).length = 0 := by rw [List.length_drop]; omega
          have h0 : i.size = 0 := by omega
          refine ⟨.agg ⟨[]⟩, ?_, ?_⟩
          · show ((loadVar t _).run P w) = _
            simp only [loadVar, Sem.run_bind, r_agg hd, Result.andThen, hm, if_true, r_size hi, h0]; rfl
          · rw [h0]; exact .agg _ _ .nil
        · rw [List.length_drop] at hlen
          obtain ⟨l', h1, h2, h3⟩ := h.cellsN hb hJ (show p + i.size ≤ cs.length by omega)
          have hr := run_loadList (P := P) _ l' _ h2 (fun j v' hv => (h3 j v' hv).1)
          refine ⟨.agg ⟨l'⟩, ?_, .agg _ _ h1⟩
          show ((loadVar t _).run P w) = _
          simp only [loadVar, Sem.run_bind, r_agg hd, Result.andThen, hm, if_true, r_size hi, hr]
          rfl
  split at ha
  · rename_i hu; exact agg _ hu rfl _ rfl ha
  · rename_i hu; exact agg _ hu rfl _ rfl ha
  · rename_i d hn1 hn2 hu
    obtain ⟨cs, e, hb, ha⟩ := aoCells_some (show aoCells (H.get b) _ none = some v from ha)
    rw [nth_eq] at ha
    obtain ⟨u', c1, c2, -⟩ := h.cell hb hJ ha
    refine ⟨u', ?_, c2⟩
    have hm' : aggD d = false := by cases d <;> first | rfl | exact absurd rfl (hn1 _) | exact absurd rfl (hn2 _ _)
    show ((loadVar t _).run P w) = _
    simp only [loadVar, Sem.run_bind, r_agg hu, Result.andThen, hm', Bool.false_eq_true, if_false]
    exact r_load c1
  · cases ha
theorem r_loadO {t : TypeId} {x : Operand} (ho : o.op = .load t x) (hx : okO sz nG x = true) : Reader P nG sz o (ldF (ldT P t) x) := by
  refine Reader.of_run (s := fun a => Instr.loadAt t (a.eval x)) (fun a => by simp only [execOp, ho]) ?_
  intro base w0 J fr a H w v ha hw hf
  obtain ⟨v', h1, h2⟩ := ldV_sound hw hf (ha.ev hx)
  exact ⟨v', h2, h1⟩
end Go.Proofs.YthlfhfliidhelaaGreatDoor.Eng
namespace Go.Proofs.YthlfhfliidhelaaGreatDoor.Eng
open Go.RowKit
variable {P : Program} {nG sz base : Nat} {w0 : World} {o : Oper}
theorem ba_beq {s s' : ByteArray} : (s == s') = true ↔ s = s' := by
  cases s; rename_i d; cases s'; rename_i d'
  show (d == d') = true ↔ _
  rw [beq_iff_eq]
  exact ⟨fun h => by rw [h], fun h => by injection h⟩
def findS (s : Value → Option Bool) : List MapEntry → Nat → Option (Option (Nat × Value))
  | [], _ => some none
  | e :: es, i => match s e.key with
    | some true => some (some (i, e.val))
    | some false => findS s es (i + 1)
    | none => none
theorem findS_now {d : TypeDesc} {k : Value} : ∀ (es : List MapEntry) (i : Nat), findS (Instr.sameNow d k) es i = Instr.findNow d k es i
  | [], _ => rfl
  | e :: es, i => by
    simp only [findS, Instr.findNow, findS_now es (i + 1)]
    cases Instr.sameNow d k e.key with
    | none => rfl
    | some b => cases b <;> rfl
theorem findS_asking {kt : TypeId} {k : Value} (w : World) : ∀ (es : List MapEntry) (i : Nat) {r : Option (Nat × Value)}, findS (fun a => runP P (Op.equal kt k a)) es i = some r → (Instr.findAsking kt k es i).run P w = .ok r w
  | [], _, r, h => by obtain rfl := Option.some.inj h; rfl
  | e :: es, i, r, h => by
    simp only [findS] at h
    cases hs : runP P (Op.equal kt k e.key) with
    | none => rw [hs] at h; cases h
    | some b =>
      rw [hs] at h
      cases b with
      | true =>
        obtain rfl := Option.some.inj h
        simp only [Instr.findAsking, Sem.run_bind, runP_run hs w, Result.andThen, if_true, Sem.run_pure]
      | false =>
        have := findS_asking w es (i + 1) h
        simp only [Instr.findAsking, Sem.run_bind, runP_run hs w, Result.andThen, Bool.false_eq_true, if_false, this]
theorem checkKey_int {kt : TypeId} {j q : IntKind} {n : Int} (hd : P.underlying kt = some (.int j)) (e : Bool) (m : Nat) (w : World) : (Instr.checkKey e (m + 1) kt (.int q n)).run P w = .ok () w := by
  simp only [Instr.checkKey, Sem.run_bind, r_under hd, Result.andThen]; rfl
theorem checkKey_str {kt : TypeId} {x : ByteArray} (hd : P.underlying kt = some .string) (e : Bool) (m : Nat) (w : World) : (Instr.checkKey e (m + 1) kt (.string x)).run P w = .ok () w := by
  simp only [Instr.checkKey, Sem.run_bind, r_under hd, Result.andThen]; rfl
theorem kEq_iff {a b : IntKind} (h : kEq a b = true) : a = b := by
  unfold kEq at h
  split at h
  · rfl
  · exact of_decide_eq_true h
theorem part_int {t : TypeId} {k : IntKind} (hd : P.underlying t = some (.int k)) {xs : List Value} {o : Nat} {v : Value} (hv : xs[o]? = some v) (w : World) : (part t ⟨xs⟩ o).run P w = .ok v w := by
  have hv' : (Array.mk xs)[o]? = some v := by rw [List.getElem?_toArray]; exact hv
  unfold part isAgg
  simp only [Sem.run_bind, r_under hd, Result.andThen, Sem.run_pure, hv', Bool.false_eq_true, if_false]
theorem equal_int {d : Nat} {t : TypeId} {k j : IntKind} {a b : Int} (hd : P.underlying t = some (.int k)) (w : World) : (Op.equalIn (d + 1) t (.int j a) (.int j b)).run P w = .ok (a == b) w := by
  rw [Op.equalIn]
  simp only [Sem.run_bind, r_under hd, Result.andThen, if_true, Sem.run_pure]
def stepE (xs ys : List Value) (f : Field) : Sem (ForInStep (Option Bool × Unit)) := if f.name ≠ "_" then do
    let a ← part f.type ⟨xs⟩ f.offset
    let b ← part f.type ⟨ys⟩ f.offset
    let c ← Op.equalIn 9999 f.type a b
    if (!c) = true then pure (ForInStep.done (some false, ())) else pure (ForInStep.yield (none, ()))
  else pure (ForInStep.yield (none, ()))
theorem eq_loop {xs ys : List Value} (w : World) : ∀ {fs : List Field} {os : List Nat} {b : Bool}, intFields P fs = some os → fastEq os xs ys = some b →
    (forIn (m := Sem) fs ((none : Option Bool), ()) fun f _ => stepE xs ys f).run P w = .ok (if b = true then (none, ()) else (some false, ())) w
  | [], os, b, hf, h => by
    obtain rfl := Option.some.inj hf
    obtain rfl := Option.some.inj h
    rfl
  | f :: fs, os, b, hf, h => by
    unfold intFields at hf
    split at hf <;> first | (cases hf; done) | skip
    rename_i u1 u2 u3 k r hn hd hr
    obtain rfl := Option.some.inj hf
    unfold fastEq at h
    rw [nth_eq, nth_eq] at h
    split at h <;> first | (cases h; done) | skip
    rename_i j a j' c hx hy
    split at h <;> first | (cases h; done) | skip
    rename_i hk
    obtain rfl := kEq_iff hk
    have hne : f.name ≠ "_" := by simpa using hn
    rw [List.forIn_cons]
    have hs : (stepE xs ys f).run P w = (if (!(a == c)) = true then .ok (ForInStep.done (some false, ())) w else .ok (ForInStep.yield (none, ())) w) := by
      unfold stepE
      rw [if_pos hne]
      simp only [Sem.run_bind, part_int hd hx, part_int hd hy, Result.andThen, equal_int (d := 9998) hd w]
      split <;> rfl
    rw [Sem.run_bind, hs]
    split at h
    · rename_i he
      rw [eqlV_eq] at he
      rw [he]
      simp only [Bool.not_true, Bool.false_eq_true, if_false, Result.andThen]
      exact eq_loop w hr h
    · rename_i he
      rw [eqlV_eq] at he
      obtain rfl := Option.some.inj h
      have he2 : (a == c) = false := by simpa using he
      rw [he2]
      rfl
theorem equal_ints {t : TypeId} {fs : List Field} {os : List Nat} {xs ys : List Value} {b : Bool} (hd : P.underlying t = some (.struct ⟨fs⟩)) (hs : P.stoodInHeld t = false) (hf : intFields P fs = some os) (h : fastEq os xs ys = some b) (w : World) : (Op.equal t (.agg ⟨xs⟩) (.agg ⟨ys⟩)).run P w = .ok b w := by
  show (Op.equalIn (9999 + 1) t _ _).run P w = _
  rw [Op.equalIn]
  simp only [Sem.run_bind, r_under hd, Result.andThen]
  have hp : Sem.run P program w = .ok P w := rfl
  simp only [hp, hs, Bool.false_eq_true, if_false, Sem.run_bind]
  have e := eq_loop w hf h
  rw [show (Array.mk fs) = fs.toArray from rfl, List.forIn_toArray]
  have e2 := e
  unfold stepE at e2
  rw [e2]
  cases b <;> rfl
theorem check_int {e : Bool} {d : Nat} {t : TypeId} {k j : IntKind} {a : Int} (hd : P.underlying t = some (.int k)) (w : World) : (Instr.checkKey e (d + 1) t (.int j a)).run P w = .ok () w := by
  rw [Instr.checkKey]
  simp only [Sem.run_bind, r_under hd, Result.andThen]
  rfl
def stepC (e : Bool) (xs : List Value) (f : Field) : Sem (ForInStep PUnit) := if f.name ≠ "_" then do
    let a ← part f.type ⟨xs⟩ f.offset
    Instr.checkKey e 9999 f.type a
    pure (ForInStep.yield PUnit.unit)
  else pure (ForInStep.yield PUnit.unit)
theorem check_loop {e : Bool} {xs : List Value} (w : World) : ∀ {fs : List Field} {os : List Nat}, intFields P fs = some os → intsAt xs os = true →
    (forIn (m := Sem) fs PUnit.unit fun f _ => stepC e xs f).run P w = .ok PUnit.unit w
  | [], os, hf, h => rfl
  | f :: fs, os, hf, h => by
    unfold intFields at hf
    split at hf <;> first | (cases hf; done) | skip
    rename_i u1 u2 u3 k r hn hd hr
    obtain rfl := Option.some.inj hf
    unfold intsAt at h
    rw [nth_eq] at h
    split at h <;> first | (cases h; done) | skip
    rename_i j a hx
    have hne : f.name ≠ "_" := by simpa using hn
    rw [List.forIn_cons]
    have hs : (stepC e xs f).run P w = .ok (ForInStep.yield PUnit.unit) w := by
      unfold stepC
      rw [if_pos hne]
      simp only [Sem.run_bind, part_int hd hx, Result.andThen, check_int (d := 9998) hd w]
      rfl
    rw [Sem.run_bind, hs]
    exact check_loop w hr h
theorem check_ints {e : Bool} {t : TypeId} {fs : List Field} {os : List Nat} {xs : List Value} (hd : P.underlying t = some (.struct ⟨fs⟩)) (hf : intFields P fs = some os) (h : intsAt xs os = true) (w : World) : (Instr.checkKey e 10000 t (.agg ⟨xs⟩)).run P w = .ok () w := by
  show (Instr.checkKey e (9999 + 1) t _).run P w = _
  rw [Instr.checkKey]
  simp only [Sem.run_bind, r_under hd, Result.andThen]
  have c := check_loop (e := e) w hf h
  rw [show (Array.mk fs) = fs.toArray from rfl, List.forIn_toArray]
  unfold stepC at c
  first | exact c | (simp only [c]; done) | (rw [c]; rfl)
theorem findS_asks {kt : TypeId} {k : Value} {s : Value → Option Bool} (hs : ∀ a b (w : World), s a = some b → (Op.equal kt k a).run P w = .ok b w) (w : World) : ∀ (es : List MapEntry) (i : Nat) {r : Option (Nat × Value)}, findS s es i = some r → (Instr.findAsking kt k es i).run P w = .ok r w
  | [], _, r, h => by obtain rfl := Option.some.inj h; rfl
  | e :: es, i, r, h => by
    simp only [findS] at h
    cases hq : s e.key with
    | none => rw [hq] at h; cases h
    | some b =>
      rw [hq] at h
      cases b with
      | true =>
        obtain rfl := Option.some.inj h
        simp only [Instr.findAsking, Sem.run_bind, hs _ _ w hq, Result.andThen, if_true, Sem.run_pure]
      | false =>
        have := findS_asks hs w es (i + 1) h
        simp only [Instr.findAsking, Sem.run_bind, hs _ _ w hq, Result.andThen, Bool.false_eq_true, if_false, this]
theorem keyS_some {t : TypeId} {fs : List Field} {cs : List Value} {s : Value → Option Bool} (hd : P.underlying t = some (.struct ⟨fs⟩)) (h : keyS P t fs cs = some s) : plainV (.agg ⟨cs⟩) = true ∧ (∀ (e : Bool) (w : World), (Instr.checkKey e 10000 t (.agg ⟨cs⟩)).run P w = .ok () w) ∧ ∀ a b (w : World), s a = some b → (Op.equal t (.agg ⟨cs⟩) a).run P w = .ok b w := by
  unfold keyS at h
  split at h <;> first | (cases h; done) | skip
  rename_i os hst hf
  split at h <;> first | (cases h; done) | skip
  rename_i hp hi
  obtain rfl := Option.some.inj h
  refine ⟨hp, fun e w => check_ints hd hf hi w, fun a b w hq => ?_⟩
  dsimp only at hq
  split at hq
  · exact equal_ints hd hst hf hq w
  · cases hq
theorem keyKind_some {kt : TypeId} {k : Value} {s : Value → Option Bool} (h : keyKind P kt k = some s) : plainV k = true ∧ (∀ (e : Bool) (w : World), (Instr.checkKey e 10000 kt k).run P w = .ok () w) ∧
    (∀ (es : List MapEntry) (r : Option (Nat × Value)) (w : World), findS s es 0 = some r → (Instr.findKey kt k es).run P w = .ok r w) := by
  unfold keyKind at h
  split at h <;> first | (cases h; done) | skip
  · rename_i j q n hd
    obtain rfl := Option.some.inj h
    refine ⟨rfl, fun e w => checkKey_int hd e 9999 w, fun es r w hf => ?_⟩
    · rw [findS_now] at hf
      simp only [Instr.findKey, Sem.run_bind, r_under hd, Result.andThen, hf, Sem.run_pure]
  · rename_i s hd
    obtain rfl := Option.some.inj h
    refine ⟨rfl, fun e w => checkKey_str hd e 9999 w, fun es r w hf => ?_⟩
    · rw [findS_now] at hf
      simp only [Instr.findKey, Sem.run_bind, r_under hd, Result.andThen, hf, Sem.run_pure]
  · rename_i fs cs hd
    split at h
    · rename_i s' hk
      obtain rfl := Option.some.inj h
      obtain ⟨h1, h2, h3⟩ := keyS_some hd hk
      refine ⟨h1, h2, fun es r w hf => ?_⟩
      cases es with
      | nil =>
        obtain rfl := Option.some.inj hf
        simp only [Instr.findKey, Sem.run_bind, r_under hd, Result.andThen, Instr.findNow, Sem.run_pure]
      | cons e es =>
        have := findS_asks h3 w _ 0 hf
        simp only [Instr.findKey, Sem.run_bind, r_under hd, Result.andThen, Instr.findNow, Instr.sameNow, this]
    split at h <;> first | (cases h; done) | skip
    rename_i u1 u2 h1 h2 h3
    obtain rfl := Option.some.inj h
    refine ⟨h1, fun e w => ?_, fun es r w hf => ?_⟩
    · cases e with
      | true => exact runP_run h2 w
      | false => exact runP_run h3 w
    · cases es with
      | nil =>
        obtain rfl := Option.some.inj hf
        simp only [Instr.findKey, Sem.run_bind, r_under hd, Result.andThen, Instr.findNow, Sem.run_pure]
      | cons e es =>
        have := findS_asking w _ 0 hf
        simp only [Instr.findKey, Sem.run_bind, r_under hd, Result.andThen, Instr.findNow, Instr.sameNow, this]
theorem findE_sound {J : Inj} {s : Value → Option Bool} : ∀ {es : List (Value × Value)} {es' : List MapEntry}, ME J es es' → ∀ {r : Option Value} (i : Nat), findE s es = some r →
    (match r with
     | none => findS s es' i = some none
     | some v => ∃ n v', findS s es' i = some (some (n, v')) ∧ VR J v v') := by
  intro es es' h
  induction h with
  | nil => intro r i hf; obtain rfl := Option.some.inj hf; rfl
  | cons a v v' n l l' hv hl ih =>
    intro r i hf
    simp only [findE] at hf
    split at hf
    · rename_i hs
      obtain rfl := Option.some.inj hf
      exact ⟨i, v', by simp only [findS, hs], hv⟩
    · rename_i hs
      have := ih (i + 1) hf
      cases r with
      | none => simp only [findS, hs]; exact this
      | some u => obtain ⟨m, u', h1, h2⟩ := this; exact ⟨m, u', by simp only [findS, hs]; exact h1, h2⟩
    · cases hf
theorem zeroV_some {t : TypeId} {z : Value} (h : zeroV P t = some z) : (∀ w, (zeroValue t).run P w = .ok z w) ∧ ∀ J, VR J z z := by
  unfold zeroV at h
  split at h <;> first | (cases h; done) | skip
  rename_i i hi
  split at h <;> first | (cases h; done) | skip
  rename_i u hu
  split at h <;> first | (cases h; done) | skip
  rename_i hp
  obtain rfl := Option.some.inj h
  exact ⟨r_zero hi hu, fun J => VR.of_plain hp⟩
theorem zeroP_some {t : TypeId} {ok b : Bool} {v : Value} (h : (zeroV P t).map (okV ok b) = some v) : ∃ z, zeroV P t = some z ∧ v = okV ok b z := by
  cases hz : zeroV P t with
  | none => rw [hz] at h; cases h
  | some z => rw [hz] at h; exact ⟨z, rfl, (Option.some.inj h).symm⟩
theorem q_assert {x : Operand} {s t : TypeId} {ok : Bool} {f : Fr → Option Value} (hk : kAssert P x s t ok = .q f) (ho : o.op = .typeAssert x s t ok) (hx : okO sz nG x = true) : Quiet P nG sz o f := by
  unfold kAssert at hk
  split at hk <;> first | (cases hk; done) | skip
  rename_i d hn hd
  injection hk with hk; subst hk
  refine Quiet.of_run (s := fun a => Instr.typeAssert (a.eval x) s t ok) (fun a => by simp only [execOp, ho]) ?_
  intro J fr a v h hf
  have hv := h.ev hx
  have hi : ∀ a, d ≠ .interface a := fun a e => hn a e
  unfold asV at hf
  split at hf <;> first | (cases hf; done) | skip
  · rename_i r u he
    rw [he] at hv
    generalize a.eval x = y at hv ⊢
    cases hv with
    | iface _ _ u' hu =>
      split at hf
      · rename_i hb
        obtain rfl := Option.some.inj hf
        obtain rfl : r = t := Nat.eq_of_beq_eq_true hb
        refine ⟨okV ok true u', ?_, fun w => ?_⟩
        · cases ok with
          | true => exact .tuple _ _ (.cons _ _ _ _ hu (.cons _ _ _ _ (.bool true) .nil))
          | false => exact hu
        · simp only [Instr.typeAssert, Sem.run_bind, r_under hd, Result.andThen]
          cases d <;> first | exact absurd rfl (hi _) | (simp only [if_true]; cases ok <;> rfl)
      · rename_i hb
        split at hf
        · obtain ⟨z, hz, rfl⟩ := zeroP_some hf
          obtain ⟨z1, z2⟩ := zeroV_some hz
          refine ⟨okV true false z, .tuple _ _ (.cons _ _ _ _ (z2 J) (.cons _ _ _ _ (.bool false) .nil)), fun w => ?_⟩
          have hne : ¬ r = t := fun e => by rw [e] at hb; exact absurd (Nat.beq_refl t) (by rw [hb]; decide)
          simp only [Instr.typeAssert, Sem.run_bind, r_under hd, Result.andThen]
          cases d <;> first | exact absurd rfl (hi _) | (simp only [if_neg hne, if_true, Sem.run_bind, z1, Result.andThen]; rfl)
        · cases hf
  · rename_i he
    rw [he] at hv
    generalize a.eval x = y at hv ⊢
    cases hv
    split at hf
    · obtain ⟨z, hz, rfl⟩ := zeroP_some hf
      obtain ⟨z1, z2⟩ := zeroV_some hz
      refine ⟨okV true false z, .tuple _ _ (.cons _ _ _ _ (z2 J) (.cons _ _ _ _ (.bool false) .nil)), fun w => ?_⟩
      simp only [Instr.typeAssert, Sem.run_bind, r_under hd, Result.andThen]
      cases d <;> first | exact absurd rfl (hi _) | (simp only [if_true, Sem.run_bind, z1, Result.andThen]; rfl)
    · cases hf
theorem entries_some {J : Inj} {H : AH} {w : World} (h : WR P nG base w0 J H w) {m m' : Value} {es : List (Value × Value)} (he : entries m H = some es) (hm : VR J m m') :
    (m = .map none ∧ m' = .map none ∧ es = []) ∨ ∃ b x es' c, m = .map (some b) ∧ J b = some x ∧ m' = .map (some x.B) ∧ w.heap[x.B]? = some (.map es' c) ∧ ME J es es'.toList ∧ H.get b = some (.map es) := by
  unfold entries at he
  split at he <;> first | (cases he; done) | skip
  · obtain rfl := Option.some.inj he
    cases hm
    exact .inl ⟨rfl, rfl, rfl⟩
  · rename_i b
    split at he <;> first | (cases he; done) | skip
    rename_i es' hb
    obtain rfl := Option.some.inj he
    cases hm with
    | map _ x hJ =>
      obtain ⟨e2, c, h1, h2⟩ := h.obj b _ x hb hJ
      exact .inr ⟨b, x, e2, c, rfl, hJ, rfl, h1, h2, hb⟩
theorem r_getObj {w : World} {r : Nat} {o : Obj} (h : w.heap[r]? = some o) (hc : ∀ c e f, o ≠ .cells c e f) : (getObj r).run P w = .ok o w := by
  unfold getObj
  simp only [Sem.run, h]
theorem lookV_sound {J : Inj} {H : AH} {w : World} (h : WR P nG base w0 J H w) {t : TypeId} {m m' k k' v : Value} {ok : Bool} (hv : lookV P t m k ok H = some v) (hm : VR J m m') (hk : VR J k k') :
    ∃ v', VR J v v' ∧ (Instr.lookup t m' k' ok).run P w = .ok v' w := by
  unfold lookV at hv
  split at hv <;> first | (cases hv; done) | skip
  rename_i kt e ht
  split at hv <;> first | (cases hv; done) | skip
  rename_i kind es hkind hes
  obtain ⟨hkp, hck, hfd⟩ := keyKind_some hkind
  rw [VR.plain hk hkp]
  have hfind : ∀ (es' : Array MapEntry), (m' = .map none ∧ es' = #[] ∨ ∃ B c, m' = .map (some B) ∧ w.heap[B]? = some (.map es' c)) → ME J es es'.toList →
      ∃ v', VR J v v' ∧ (Instr.lookup t m' k ok).run P w = .ok v' w := by
    intro es' hcase hme
    split at hv <;> first | (cases hv; done) | skip
    · rename_i u hf
      obtain rfl := Option.some.inj hv
      obtain ⟨n, u', h1, h2⟩ := findE_sound hme 0 hf
      refine ⟨okV ok true u', ?_, ?_⟩
      · cases ok with
        | true => exact .tuple _ _ (.cons _ _ _ _ h2 (.cons _ _ _ _ (.bool true) .nil))
        | false => exact h2
      · rcases hcase with ⟨rfl, rfl⟩ | ⟨B, c, rfl, hB⟩
        · simp only [Instr.lookup, Sem.run_bind, r_under ht, Result.andThen, Sem.run_pure, hck _, hfd _ _ _ h1]
          cases ok <;> rfl
        · simp only [Instr.lookup, Sem.run_bind, r_under ht, Result.andThen, Sem.run_pure, r_getObj hB (fun _ _ _ h => by cases h), hck _, hfd _ _ _ h1]
          cases ok <;> rfl
    · rename_i z hf hz
      obtain rfl := Option.some.inj hv
      have h1 := findE_sound hme 0 hf
      obtain ⟨z1, z2⟩ := zeroV_some hz
      refine ⟨okV ok false z, ?_, ?_⟩
      · cases ok with
        | true => exact .tuple _ _ (.cons _ _ _ _ (z2 J) (.cons _ _ _ _ (.bool false) .nil))
        | false => exact z2 J
      · rcases hcase with ⟨rfl, rfl⟩ | ⟨B, c, rfl, hB⟩
        · simp only [Instr.lookup, Sem.run_bind, r_under ht, Result.andThen, Sem.run_pure, hck _, hfd _ _ _ h1, z1]
          cases ok <;> rfl
        · simp only [Instr.lookup, Sem.run_bind, r_under ht, Result.andThen, Sem.run_pure, r_getObj hB (fun _ _ _ h => by cases h), hck _, hfd _ _ _ h1, z1]
          cases ok <;> rfl
  rcases entries_some h hes hm with ⟨rfl, rfl, rfl⟩ | ⟨b, x, es', c, rfl, hJ, rfl, hB, hme, -⟩
  · exact hfind #[] (.inl ⟨rfl, rfl⟩) .nil
  · exact hfind es' (.inr ⟨x.B, c, rfl, hB⟩) hme
theorem r_look {t : TypeId} {m k : Operand} {ok : Bool} (ho : o.op = .lookup t m k ok) (hm : okO sz nG m = true) (hk : okO sz nG k = true) : Reader P nG sz o (fun fr H => lookV P t (ev m fr) (ev k fr) ok H) := by
  refine Reader.of_run (s := fun a => Instr.lookup t (a.eval m) (a.eval k) ok) (fun a => by simp only [execOp, ho]) ?_
  intro base w0 J fr a H w v ha hw hf
  exact lookV_sound hw hf (ha.ev hm) (ha.ev hk)
theorem cellsAt_some {H : AH} {b p n : Nat} {l : List Value} (h : cellsAt H b p n = some l) : ∃ cs e, H.get b = some (.cells cs e) ∧ l = (cs.drop p).take n ∧ l.length = n ∧ (p + n ≤ cs.length ∨ n = 0) := by
  unfold cellsAt at h
  split at h <;> first | (cases h; done) | skip
  rename_i cs e hb
  obtain ⟨h1, rfl⟩ := takeN_some h
  rw [dropL_eq] at h1 ⊢
  refine ⟨cs, e, hb, rfl, by rw [List.length_take]; omega, ?_⟩
  rw [List.length_drop] at h1; omega
theorem WR.read {J : Inj} {H : AH} {w : World} (h : WR P nG base w0 J H w) {b p n : Nat} {x : Tg} {l : List Value} (hl : cellsAt H b p n = some l) (hJ : J b = some x) :
    ∃ l', VRs J l l' ∧ l'.length = n ∧ ∀ (j : Nat) (v' : Value), l'[j]? = some v' → w.cell? ((⟨x.B, x.d + p, none⟩ : Addr).add j) = some v' := by
  obtain ⟨cs, e, hb, rfl, hlen, hor⟩ := cellsAt_some hl
  rcases hor with hor | rfl
  · obtain ⟨l', h1, h2, h3⟩ := h.cellsN hb hJ hor
    exact ⟨l', h1, h2, fun j v' hj => (h3 j v' hj).1⟩
  · exact ⟨[], by rw [List.take_zero]; exact .nil, rfl, fun j v' hj => by simp at hj⟩
theorem bytesOf_some {l : List Value} {r : List UInt8} (h : bytesOf l = some r) : ∃ ns : List Int, l = ns.map (Value.int .u8) ∧ r = ns.map fun n => UInt8.ofNat n.toNat := by
  induction l generalizing r with
  | nil => obtain rfl := Option.some.inj h; exact ⟨[], rfl, rfl⟩
  | cons v l ih =>
    unfold bytesOf at h
    split at h <;> first | (cases h; done) | skip
    · rename_i hc; cases hc
    · rename_i n l' hc
      injection hc with h1 h2
      subst h1 h2
      split at h <;> first | (cases h; done) | skip
      rename_i r' hr
      obtain rfl := Option.some.inj h
      obtain ⟨ns, e1, e2⟩ := ih hr
      exact ⟨n :: ns, by rw [e1]; rfl, by rw [e2]; rfl⟩
theorem plain_bytes (ns : List Int) : plainL (ns.map (Value.int .u8)) = true := by
  induction ns with
  | nil => rfl
  | cons n ns ih => simp only [List.map_cons, plainL, plainV, ih, Bool.and_self]
end Go.Proofs.YthlfhfliidhelaaGreatDoor.Eng
namespace Go.Proofs.YthlfhfliidhelaaGreatDoor.Eng
open Go.RowKit
variable {P : Program} {nG sz base : Nat} {w0 : World} {o : Oper}
theorem push_bytes (ns : List Int) : ∀ (l : List UInt8), ns.foldl (fun (r : ByteArray) (n : Int) => r.push (UInt8.ofNat n.toNat)) ⟨⟨l⟩⟩ = ⟨⟨l ++ ns.map fun n => UInt8.ofNat n.toNat⟩⟩ := by
  induction ns with
  | nil => intro l; simp
  | cons n ns ih =>
    intro l
    rw [List.foldl_cons]
    have : (⟨⟨l⟩⟩ : ByteArray).push (UInt8.ofNat n.toNat) = ⟨⟨l ++ [UInt8.ofNat n.toNat]⟩⟩ := by simp [ByteArray.push]
    rw [this, ih]; simp
theorem r_b2s {src dst e : TypeId} {x : Operand} (ho : o.op = .convert src dst x) (hs : P.underlying src = some (.slice e)) (hd : P.underlying dst = some .string) (he : P.underlying e = some (.int .u8)) (hx : okO sz nG x = true) :
    Reader P nG sz o (fun fr H => b2s (ev x fr) H) := by
  refine Reader.of_run (s := fun a => convert src dst (a.eval x)) (fun a => by simp only [execOp, ho]) ?_
  intro base w0 J fr a H w v ha hw hf
  have e1 := ha.ev hx
  have hconv : ∀ x', (∃ p n c, x' = .slice p n c) → (convert src dst x').run P w = (Conv.bytesToString x').run P w := by
    rintro x' ⟨p, n, c, rfl⟩
    cases p <;> (simp only [convert, Sem.run_bind, r_under hs, r_under hd, r_under he, Result.andThen])
  generalize ev x fr = X at *
  generalize a.eval x = X' at *
  unfold b2s at hf
  split at hf <;> first | (cases hf; done) | skip
  · obtain rfl := Option.some.inj hf
    cases e1
    exact ⟨_, .string _, by rw [hconv _ ⟨_, _, _, rfl⟩]; rfl⟩
  · rename_i b p n c
    split at hf <;> first | (cases hf; done) | skip
    rename_i l hl
    split at hf <;> first | (cases hf; done) | skip
    rename_i r hr
    obtain rfl := Option.some.inj hf
    obtain ⟨o', c', y, hJ, rfl, hn, ho', -⟩ := e1.slice_inv
    obtain ⟨ns, rfl, rfl⟩ := bytesOf_some hr
    refine ⟨_, .string _, ?_⟩
    rw [hconv _ ⟨_, _, _, rfl⟩]
    obtain ⟨l', h1, h2, h3⟩ := hw.read hl hJ
    have hp := VRs.plain h1 (plain_bytes ns)
    subst hp
    have hload : (loadCells ⟨y.B, o', none⟩ n).run P w = .ok (ns.map (Value.int .u8)).toArray w := by
      rcases Nat.eq_zero_or_pos n with h0 | h0
      · subst h0
        have : ns.map (Value.int .u8) = [] := List.eq_nil_of_length_eq_zero h2
        rw [this]; rfl
      · obtain rfl : o' = y.d + p := ho'.resolve_right (by omega)
        exact run_loadList _ _ _ h2 h3
    rw [run_bytesToString w _ _ _ ns hload]
    have := push_bytes ns []
    rw [List.nil_append] at this
    rw [← this]; rfl
def Gives (P : Program) (o : Oper) (a : Act) (w : World) (v' : Value) (w' : World) : Prop :=
  (execOp a.eval o).run P w = .ok (.value v') w' ∨ ((execOp a.eval o).run P w = .ok .skip w' ∧ v' = undef)
def Actor (P : Program) (nG sz : Nat) (o : Oper) (f : Fr → AH → RO) : Prop :=
  ∀ (base : Nat) (w0 : World) (J : Inj) (fr : Fr) (a : Act) (H : AH) (w : World) (v : Value) (H' : AH), At nG sz J fr a → WR P nG base w0 J H w → f fr H = .ok v H' →
    ∃ J' v' w', VR J' v v' ∧ Gives P o a w v' w' ∧ WR P nG base w0 J' H' w' ∧ Ev H.next J H w J' H' w'
theorem vPtr_ok {v : Value} {f : Nat → Nat → RO} {u : Value} {H : AH} (h : vPtr v f .bad = .ok u H) : ∃ b p, v = .pointer (some ⟨b, p, none⟩) ∧ f b p = .ok u H := by
  cases v <;> first | (cases h; done) | skip
  rename_i a
  have h' : aPtr a f .bad = .ok u H := h
  rw [aPtr_eq] at h'
  split at h'
  · exact ⟨_, _, rfl, h'⟩
  · cases h'
theorem WR.congr {J : Inj} {H H' : AH} {w : World} (h : WR P nG base w0 J H w) (hg : ∀ k, k < 262144 → H'.get k = H.get k) (hn : H'.next = H.next) : WR P nG base w0 J H' w :=
  ⟨h.glob, by rw [hn]; exact h.ids, h.lt, fun b b' x x' l l' j j' => h.inj b b' x x' (by rw [← hg b (h.small j)]; exact l) (by rw [← hg b' (h.small j')]; exact l') j j', fun b o x l j => h.obj b o x (by rw [← hg b (h.small j)]; exact l) j, h.own, h.sep, by rw [hn]; exact h.nx, by rw [hn]; exact h.top, h.room, fun b h1 h2 => by rw [hg b h2]; exact h.clean b (by rw [← hn]; exact h1) h2, h.below⟩
theorem Ev.congr {N : Nat} {J J' : Inj} {H H1 H2 : AH} {w w' : World} (h : Ev N J H w J' H1 w') (hN : N ≤ 262144) (hg : ∀ k, k < 262144 → H2.get k = H1.get k) (hn : H2.next = H1.next) : Ev N J H w J' H2 w' :=
  ⟨h.ext, h.fresh, by rw [hn]; exact h.next, h.frame, h.newB, h.size, fun b hb hl => h.live b hb (by rw [← hg b (by omega)]; exact hl)⟩
theorem VR.one {J : Inj} {v v' : Value} (h : VR J v v') (h1 : oneC v = true) : v'.oneCell' = true := by
  cases h <;> first | rfl | (cases h1; done)
theorem allOne_all {l : List Value} (h : allOne l = true) : ∀ v ∈ l, oneC v = true := by
  induction l with
  | nil => intro v hv; cases hv
  | cons a l ih =>
    have h : Bool.rec false (allOne l) (oneC a) = true := h
    cases ha : oneC a with
    | false => rw [ha] at h; cases h
    | true =>
      rw [ha] at h
      intro v hv
      rcases List.mem_cons.1 hv with rfl | hv
      · exact ha
      · exact ih h v hv
theorem run_store1 {w : World} {a : Addr} {v u : Value} (h1 : v.oneCell' = true) (hc : w.cell? a = some u) (hf : w.frozen? a = false) : (Go.store a v).run P w = .ok () (w.setCell a v) := by
  cases v <;> first | (cases h1; done) | simp [Go.store, Sem.run, hc, hf]
def setAll (cs : List Value) : Nat → List Value → List Value
  | _, [] => cs
  | o, v :: l => setAll (cs.set o v) (o + 1) l
theorem length_setAll (l : List Value) : ∀ (cs : List Value) (o : Nat), (setAll cs o l).length = cs.length := by
  induction l with
  | nil => intro cs o; rfl
  | cons v l ih => intro cs o; rw [setAll, ih, List.length_set]
theorem setAll_eq (l : List Value) : ∀ (cs : List Value) (o : Nat), o + l.length ≤ cs.length → setAll cs o l = cs.take o ++ (l ++ cs.drop (o + l.length)) := by
  induction l with
  | nil => intro cs o _; simp [setAll]
  | cons v l ih =>
    intro cs o h
    simp only [List.length_cons] at h
    rw [setAll, ih _ _ (by rw [List.length_set]; omega)]
    have h1 : (cs.set o v).take (o + 1) = cs.take o ++ [v] := by
      rw [List.take_set, List.take_succ_eq_append_getElem (by omega), List.set_append_right _ _ (by simp; omega)]
      simp [List.length_take]
      have : o - min o cs.length = 0 := by omega
      rw [this]; rfl
    have h2 : (cs.set o v).drop (o + 1 + l.length) = cs.drop (o + (l.length + 1)) := by
      rw [List.drop_set_of_lt (by omega)]; congr 1; omega
    rw [h1, h2]; simp
theorem ovL_some : ∀ {l cs r : List Value}, ovL l cs = some r → l.length ≤ cs.length ∧ r = l ++ cs.drop l.length
  | [], cs, r, h => by
    obtain rfl : cs = r := Option.some.inj h
    exact ⟨Nat.zero_le _, rfl⟩
  | v :: l, [], r, h => by cases h
  | v :: l, c :: cs, r, h => by
    replace h : optC v (ovL l cs) = some r := h
    obtain ⟨l', h1, rfl⟩ := optC_some h
    obtain ⟨h2, rfl⟩ := ovL_some h1
    exact ⟨by simp only [List.length_cons]; omega, rfl⟩
theorem setL_get : ∀ {o : Nat} {l cs r : List Value}, setL o l cs = some r → o + l.length ≤ cs.length ∧ r = cs.take o ++ (l ++ cs.drop (o + l.length))
  | 0, l, cs, r, h => by
    obtain ⟨h1, h2⟩ := ovL_some (show ovL l cs = some r from h)
    rw [Nat.zero_add]
    exact ⟨h1, h2⟩
  | o + 1, l, [], r, h => by cases h
  | o + 1, l, c :: cs, r, h => by
    replace h : optC c (setL o l cs) = some r := h
    obtain ⟨l', h1, rfl⟩ := optC_some h
    obtain ⟨h2, rfl⟩ := setL_get h1
    refine ⟨by simp only [List.length_cons]; omega, ?_⟩
    rw [show o + 1 + l.length = (o + l.length) + 1 by omega]
    rfl
theorem setL_some {o : Nat} {l cs r : List Value} (h : setL o l cs = some r) : o + l.length ≤ cs.length ∧ r = setAll cs o l := by
  obtain ⟨hb, h2⟩ := setL_get h
  refine ⟨hb, ?_⟩
  have := setAll_eq l cs o hb
  rw [h2, this]
theorem WR.stores {J : Inj} {x : Tg} {b N : Nat} (hN : N ≤ 262144) (hJ : J b = some x) (hnb : nG ≤ b) {e : TypeId} : ∀ {l l' : List Value}, VRs J l l' → (∀ v ∈ l, oneC v = true) → ∀ {H : AH} {w : World} {cs : List Value} {o : Nat} (i : Nat), WR P nG base w0 J H w → H.get b = some (.cells cs e) → o + i + l.length ≤ cs.length →
    ∃ w', (storeCells ⟨x.B, x.d + o, none⟩ l' i).run P w = .ok () w' ∧ WR P nG base w0 J (H.put b (some (.cells (setAll cs (o + i) l) e))) w' ∧ Ev N J H w J (H.put b (some (.cells (setAll cs (o + i) l) e))) w' := by
  intro l l' hl
  induction l generalizing l' with
  | nil =>
    intro _ H w cs o i h hb _
    cases hl
    have hg : ∀ k, k < 262144 → (H.put b (some (.cells (setAll cs (o + i) []) e))).get k = H.get k := fun k hk => by
      rw [AH.get_put H _ (h.small hJ) hk]; split
      · rename_i hk; rw [hk, hb]; rfl
      · rfl
    exact ⟨w, rfl, h.congr hg rfl, (Ev.refl N J H w).congr hN hg rfl⟩
  | cons v l ih =>
    intro hall H w cs o i h hb hlen
    cases hl with
    | cons _ v' _ l' hv hl =>
    simp only [List.length_cons] at hlen
    have hb6 := h.small hJ
    obtain ⟨u', hu, -, hz⟩ := h.cell hb hJ (List.getElem?_eq_getElem (show o + i < cs.length by omega))
    have hst := run_store1 (P := P) (hv.one (hall v (by simp))) hu hz
    obtain ⟨h1, e1⟩ := h.store (N := N) hN hb hJ hnb (i := o + i) hv
    obtain ⟨w2, r2, h2, e2⟩ := ih hl (fun v hv => hall v (by simp [hv])) (o := o) (i + 1) h1 (by rw [AH.get_put H _ hb6 hb6, if_pos rfl]) (by rw [List.length_set]; omega)
    have hg : ∀ k, k < 262144 → (H.put b (some (.cells (setAll cs (o + i) (v :: l)) e))).get k = ((H.put b (some (.cells (cs.set (o + i) v) e))).put b (some (.cells (setAll (cs.set (o + i) v) (o + (i + 1)) l) e))).get k := fun k hk => by
      rw [AH.get_put _ _ hb6 hk, AH.get_put _ _ hb6 hk, AH.get_put _ _ hb6 hk]; split <;> rfl
    refine ⟨w2, ?_, h2.congr hg rfl, ?_⟩
    · simp only [storeCells]
      rw [addr_add, show x.d + o + i = x.d + (o + i) by omega]
      rw [Sem.run_bind, hst]
      exact r2
    · have htr : Ev N J H w J ((H.put b (some (.cells (cs.set (o + i) v) e))).put b (some (.cells (setAll (cs.set (o + i) v) (o + (i + 1)) l) e))) w2 :=
        ⟨.refl J, fun b x h h' => (by rw [h] at h'; cases h'), Nat.le_refl _, fun B hB hn => by
          rw [e2.frame B (Nat.lt_of_lt_of_le hB e1.size) (fun b1 x1 hl1 hj1 => hn b1 x1 ?_ hj1), e1.frame B hB hn]
          rw [AH.get_put H _ hb6 (h.small hj1)] at hl1
          split at hl1
          · rename_i hk; rw [hk, hb]; rfl
          · exact hl1, fun b x h h' => (by rw [h] at h'; cases h'), Nat.le_trans e1.size e2.size, fun k hk hl => e1.live k hk (e2.live k hk hl)⟩
      exact htr.congr hN hg rfl
theorem storeL_some {H H' : AH} {b p : Nat} {l : List Value} (h : storeL nG H b p l = some H') : ∃ cs e, H.get b = some (.cells cs e) ∧ nG ≤ b ∧ (∀ v ∈ l, oneC v = true) ∧ p + l.length ≤ cs.length ∧ H' = H.put b (some (.cells (setAll cs p l) e)) := by
  unfold storeL at h
  split at h <;> first | (cases h; done) | skip
  rename_i cs e hb hc
  rw [Bool.and_eq_true, Nat.ble_eq] at hc
  split at h <;> first | (cases h; done) | skip
  rename_i r hr
  obtain ⟨h1, rfl⟩ := setL_some hr
  exact ⟨cs, e, hb, hc.1, allOne_all hc.2, h1, (Option.some.inj h).symm⟩
theorem storeL_sound {J : Inj} {H H' : AH} {w : World} (h : WR P nG base w0 J H w) {b p : Nat} {x : Tg} {l l' : List Value} (hs : storeL nG H b p l = some H') (hJ : J b = some x) (hl : VRs J l l') :
    ∃ w', (storeCells ⟨x.B, x.d + p, none⟩ l').run P w = .ok () w' ∧ WR P nG base w0 J H' w' ∧ Ev H.next J H w J H' w' := by
  obtain ⟨cs, e, hb, hn, hall, hlen, rfl⟩ := storeL_some hs
  have := h.top
  exact WR.stores (by omega) hJ hn hl hall (o := p) 0 h hb hlen
theorem a_store {t : TypeId} {x y : Operand} (ho : o.op = .store t x y) (hx : okO sz nG x = true) (hy : okO sz nG y = true) : Actor P nG sz o (stF P nG t x y) := by
  intro base w0 J fr a H w v H' ha hw hf
  unfold stF stV at hf
  obtain ⟨b, p, hb, hf⟩ := vPtr_ok hf
  have e1 := ha.ev hx
  have e2 := (ha.ev hy).cellsR
  rw [hb] at e1
  obtain ⟨q, hJ, hq⟩ := e1.ptr_inv
  unfold stA at hf
  cases hlen : lenIs (ev y fr).cells.toList (sizeT P t) with
  | false => rw [hlen] at hf; cases hf
  | true =>
    rw [hlen] at hf
    cases hst : storeL nG H b p (ev y fr).cells.toList with
    | none => rw [hst] at hf; cases hf
    | some H2 =>
      rw [hst] at hf
      obtain ⟨rfl, rfl⟩ : undef = v ∧ H2 = H' := by injection (show RO.ok undef H2 = .ok v H' from hf) with h1 h2; exact ⟨h1, h2⟩
      obtain ⟨w', hr, h1, h2⟩ := storeL_sound hw hst hJ e2
      refine ⟨J, undef, w', VR.undef J, .inr ⟨?_, rfl⟩, h1, h2⟩
      unfold lenIs sizeT at hlen
      cases hi : P.info? t with
      | none => rw [hi] at hlen; cases hlen
      | some i =>
        rw [hi] at hlen
        have hlen : Nat.beq (lenL (ev y fr).cells.toList) i.size = true := hlen
        rw [Nat.beq_eq, lenL_eq, e2.length, Array.length_toList] at hlen
        have hst' : (Instr.storeAt t (a.eval x) (a.eval y)).run P w = .ok () w' := by
          rw [hq]
          show ((storeVar t _ _).run P w) = _
          simp only [storeVar, Sem.run_bind, r_size hi, Result.andThen, hlen, ne_eq, not_true_eq_false, if_false]
          exact hr
        simp only [execOp, ho, Sem.run_bind, hst', Result.andThen]; rfl
end Go.Proofs.YthlfhfliidhelaaGreatDoor.Eng

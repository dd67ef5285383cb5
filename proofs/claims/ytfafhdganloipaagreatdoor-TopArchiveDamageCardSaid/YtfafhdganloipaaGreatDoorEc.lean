/- More quiet operations: addresses, parts, functions. -/
import Derived.Test.YtfafhdganloipaaGreatDoorEb
namespace Go.Proofs.YtfafhdganloipaaGreatDoor.Eng
open Go.RowKit
variable {P : Program} {nG sz : Nat} {o : Oper}
theorem VR.ptr_inv {J : Inj} {b i : Nat} {v' : Value} (h : VR J (.pointer (some ⟨b, i, none⟩)) v') : ∃ x, J b = some x ∧ v' = .pointer (some ⟨x.B, x.d + i, none⟩) := by
  cases h with
  | ptr _ _ x h => exact ⟨x, h, rfl⟩
theorem VR.slice_inv {J : Inj} {b i n c : Nat} {v' : Value} (h : VR J (.slice (some ⟨b, i, none⟩) n c) v') : ∃ (o' c' : Nat) (x : Tg), J b = some x ∧ v' = .slice (some ⟨x.B, o', none⟩) n c' ∧ n ≤ c' ∧ (o' = x.d + i ∨ c' = 0) ∧
    ((c < big ∧ c' = c) ∨ ∃ m k, c = big * x.s + m ∧ m < big ∧ 0 < x.s ∧ m ≤ c' ∧ i = k * x.s ∧ c' + k = x.C) := by
  cases h with
  | slice _ _ _ _ o' c' x h hn ho hc => exact ⟨o', c', x, h, rfl, hn, ho, hc⟩
theorem nilV_sound {J : Inj} {v u v' : Value} (h : nilV v = some u) (hv : VR J v v') : VR J u v' ∧ ∀ (P : Program) (o : Oper) (x : Operand) (a : Act), o.op = .nilCheck x → a.eval x = v' → ∀ w, (execOp a.eval o).run P w = .ok (.value v') w := by
  unfold nilV at h
  split at h <;> first | (cases h; done) | skip
  obtain rfl := Option.some.inj h
  refine ⟨hv, fun P o x a ho hx w => ?_⟩
  simp only [execOp, ho, hx]
  rename_i h1 h2 h3 h4
  cases hv <;> first | rfl | (exact absurd rfl h1) | (exact absurd rfl h2) | (exact absurd rfl h3)
theorem q_nil {x : Operand} (ho : o.op = .nilCheck x) (hx : okO sz nG x = true) : Quiet P nG sz o (nilF x) := by
  intro J fr a v h hf
  have e := h.ev hx
  have hf' : nilV (ev x fr) = some v := by
    unfold nilF at hf
    cases hv : ev x fr with
    | pointer p =>
      rw [hv] at hf
      have hf : aPtr p (fun _ _ => some (Value.pointer p)) (nilV (.pointer p)) = some v := hf
      rw [aPtr_eq] at hf
      split at hf
      · exact hf
      · exact hf
    | _ => rw [hv] at hf; exact hf
  obtain ⟨h1, h2⟩ := nilV_sound hf' e
  exact ⟨_, h1, h2 P o x a ho rfl⟩
theorem q_extract {x : Operand} {i : Nat} (ho : o.op = .extract x i) (hx : okO sz nG x = true) : Quiet P nG sz o (extF x i) := by
  refine Quiet.of_run (s := fun a => Instr.extract (a.eval x) i) (fun a => by simp only [execOp, ho]) ?_
  intro J fr a v h hf
  obtain ⟨l, hl, hf⟩ := vTup_some hf
  have e := h.ev hx
  rw [hl] at e
  rw [nth_eq] at hf
  generalize a.eval x = u at e
  cases e with
  | tuple _ l' hr =>
    obtain ⟨v', h1, h2⟩ := hr.get hf
    exact ⟨v', h2, fun w => by simp only [Instr.extract, List.getElem?_toArray, h1]; rfl⟩
theorem q_func {f : Nat} {first captured : Array Operand} (ho : o.op = .makeFunc (.func f) first captured) (h1 : first.toList.all (okO sz nG) = true) (h2 : captured.toList.all (okO sz nG) = true) :
    Quiet P nG sz o (funF f first.toList captured.toList) := by
  intro J fr a v h hf
  obtain rfl := Option.some.inj hf
  have e1 := h.evs h1
  have e2 := h.evs h2
  refine ⟨_, .func f _ _ _ _ e1 e2, fun w => ?_⟩
  simp only [execOp, ho]
  have i1 : first.map a.eval = ⟨first.toList.map a.eval⟩ := (Array.toList_map ▸ rfl)
  have i2 : captured.map a.eval = ⟨captured.toList.map a.eval⟩ := (Array.toList_map ▸ rfl)
  rw [i1, i2]; rfl
theorem q_iface {t : TypeId} {x : Operand} {f : Fr → Option Value} (hk : kIface P t x = .q f) (ho : o.op = .makeInterface t x) (hx : okO sz nG x = true) : Quiet P nG sz o f := by
  unfold kIface at hk
  split at hk <;> first | (cases hk; done) | skip
  rename_i d hn hd
  injection hk with hk; subst hk
  refine Quiet.of_run (s := fun a => Instr.makeInterface t (a.eval x)) (fun a => by simp only [execOp, ho]) ?_
  intro J fr a v h hf
  obtain rfl := Option.some.inj hf
  refine ⟨_, .iface t _ _ (h.ev hx), fun w => ?_⟩
  simp only [Instr.makeInterface, Sem.run_bind, r_under hd, Result.andThen]
  rfl
theorem q_field {s : TypeId} {x : Operand} {i : Nat} {f : Fr → Option Value} (hk : kField P s x i = .q f) (ho : o.op = .fieldAddr s x i) (hx : okO sz nG x = true) : Quiet P nG sz o f := by
  unfold kField kFieldO at hk
  cases hd : fieldV P s i with
  | none => rw [hd] at hk; cases hk
  | some d =>
    rw [hd] at hk; injection hk with hk; subst hk
    unfold fieldV at hd
    split at hd <;> first | (cases hd; done) | skip
    rename_i fs hs
    rw [nth_eq] at hd
    split at hd <;> first | (cases hd; done) | skip
    rename_i g hg
    split at hd <;> first | (cases hd; done) | skip
    rename_i j hj
    split at hd <;> first | (cases hd; done) | skip
    rename_i hz
    obtain rfl := Option.some.inj hd
    refine Quiet.of_run (s := fun a => Instr.fieldAt s (a.eval x) i) (fun a => by simp only [execOp, ho]) ?_
    intro J fr a v h hf
    obtain ⟨b, p, hb, hf⟩ := vPtr_some hf
    obtain rfl := Option.some.inj hf
    have e := h.ev hx
    rw [hb] at e
    obtain ⟨y, hJ, hy⟩ := e.ptr_inv
    refine ⟨_, .ptr b _ y hJ, fun w => ?_⟩
    have hne : ¬ j.size = 0 := fun h0 => by rw [h0] at hz; cases hz
    have hg' : (⟨fs⟩ : Array Field)[i]? = some g := by simpa using hg
    simp only [Instr.fieldAt, Sem.run_bind, r_under hs, Result.andThen, hg', hy, Instr.sureAddr]
    simp only [Sem.run_pure, fieldPlace, Sem.run_bind, r_size hj, Result.andThen, hne, if_false, addr_add, Nat.add_assoc]
    rfl
theorem ixP_some {n s i b p : Nat} {v : Value} (h : ixP n s i b p = some v) : i < n ∧ v = .pointer (some ⟨b, p + i * s, none⟩) := by
  unfold ixP at h
  cases hb : Nat.ble (Nat.succ i) n with
  | false => rw [hb] at h; cases h
  | true =>
    rw [hb] at h
    rw [Nat.ble_eq] at hb
    exact ⟨hb, (Option.some.inj h).symm⟩
theorem q_ix {t : TypeId} {x i : Operand} {f : Fr → Option Value} (hk : kIndexAddr P t x i = .q f) (ho : o.op = .indexAddr t x i) (hx : okO sz nG x = true) (hi : okO sz nG i = true) : Quiet P nG sz o f := by
  unfold kIndexAddr kIx at hk
  unfold ixT at hk
  split at hk
  · rename_i n e hd
    split at hk
    · rename_i j hj
      injection hk with hk; subst hk
      refine Quiet.of_run (s := fun a => Instr.indexAt t (a.eval x) (a.eval i)) (fun a => by simp only [execOp, ho]) ?_
      intro J fr a v h hf
      obtain ⟨k, m, hm, hf⟩ := vNat_some hf
      obtain ⟨b, p, hb, hf⟩ := vPtr_some hf
      obtain ⟨hlt, rfl⟩ := ixP_some hf
      have e1 := h.ev hx
      have e2 := h.ev hi
      rw [hb] at e1
      rw [hm] at e2
      have e2 := VR.plain e2 rfl
      obtain ⟨y, hJ, hy⟩ := e1.ptr_inv
      refine ⟨_, .ptr b _ y hJ, fun w => ?_⟩
      have hin : (0 : Int) ≤ Int.ofNat m ∧ Int.ofNat m < (n : Int) := by simp only [Int.ofNat_eq_natCast]; omega
      simp only [Instr.indexAt, Sem.run_bind, e2, asIntOf, Sem.run_pure, Result.andThen, r_under hd, hy, Instr.sureAddr, hin, and_self, if_true, r_size hj, addr_add, Nat.add_assoc]
      rfl
    · cases hk
  · rename_i e hd
    split at hk
    · rename_i j hj
      injection hk with hk; subst hk
      refine Quiet.of_run (s := fun a => Instr.indexAt t (a.eval x) (a.eval i)) (fun a => by simp only [execOp, ho]) ?_
      intro J fr a v h hf
      obtain ⟨k, m, hm, hf⟩ := vNat_some hf
      obtain ⟨q, n, c, hb, hf⟩ := vSl_some hf
      rw [aPtr_eq] at hf
      split at hf <;> first | (cases hf; done) | skip
      rename_i b p
      obtain ⟨hlt, rfl⟩ := ixP_some hf
      have e1 := h.ev hx
      have e2 := h.ev hi
      rw [hb] at e1
      rw [hm] at e2
      have e2 := VR.plain e2 rfl
      obtain ⟨o', c', y, hJ, hy, hn, ho', -⟩ := e1.slice_inv
      obtain rfl : o' = y.d + p := ho'.resolve_right (by omega)
      refine ⟨_, .ptr b _ y hJ, fun w => ?_⟩
      have hin : (0 : Int) ≤ Int.ofNat m ∧ Int.ofNat m < (n : Int) := by simp only [Int.ofNat_eq_natCast]; omega
      simp only [Instr.indexAt, Sem.run_bind, e2, asIntOf, Sem.run_pure, Result.andThen, r_under hd, hy, hin, and_self, if_true, r_size hj, addr_add, Nat.add_assoc]
      rfl
    · cases hk
  · cases hk
end Go.Proofs.YtfafhdganloipaaGreatDoor.Eng
namespace Go.Proofs.YtfafhdganloipaaGreatDoor.Eng
open Go.RowKit
variable {P : Program} {nG sz : Nat} {o : Oper}
theorem ba_get (l : List UInt8) (n : Nat) : (⟨⟨l⟩⟩ : ByteArray)[n]? = l[n]? := by
  by_cases h : n < l.length
  · rw [getElem?_pos (⟨⟨l⟩⟩ : ByteArray) n h, List.getElem?_eq_getElem h]; rfl
  · rw [getElem?_neg (⟨⟨l⟩⟩ : ByteArray) n h, List.getElem?_eq_none (by omega)]
theorem byteAt_some {l : List UInt8} {n : Nat} {v : Value} (h : byteAt l n = some v) : ∃ b, l[n]? = some b ∧ v = .int .u8 b.toNat := by
  induction l generalizing n with
  | nil => simp [byteAt] at h
  | cons b l ih => cases n with
    | zero => exact ⟨b, rfl, (Option.some.inj h).symm⟩
    | succ n => exact ih h
theorem extract_list (l : List Value) (a b : Nat) : (⟨l⟩ : Array Value).extract a b = ⟨(l.drop a).take (b - a)⟩ := by
  simp [List.extract_toArray, List.extract_eq_take_drop]
theorem r_part {e : TypeId} {j : TypeInfo} {d : TypeDesc} (hj : P.info? e = some j) (hd : P.underlying e = some d) (l : List Value) (off : Nat) (w : World) :
    (part e ⟨l⟩ off).run P w = (if aggD d then .ok (.agg ⟨(l.drop off).take j.size⟩) w else match l[off]? with | some v => .ok v w | none => .halt (.stuck "part: no such cell") w) := by
  simp only [part, Sem.run_bind, r_agg hd, Result.andThen]
  cases aggD d with
  | true =>
    simp only [if_true, Sem.run_bind, r_size hj, Result.andThen, extract_list, Nat.add_sub_cancel_left]; rfl
  | false =>
    simp only [Bool.false_eq_true, if_false, List.getElem?_toArray]
    cases l[off]? <;> rfl
theorem q_index {t : TypeId} {x i : Operand} (ho : o.op = .index t x i) (hx : okO sz nG x = true) (hi : okO sz nG i = true) : Quiet P nG sz o (fun fr => indexV P t (ev x fr) (ev i fr)) := by
  refine Quiet.of_run (s := fun a => Instr.index t (a.eval x) (a.eval i)) (fun a => by simp only [execOp, ho]) ?_
  intro J fr a v h hf
  have e1 := h.ev hx
  have e2 := h.ev hi
  generalize ev x fr = X at *
  generalize ev i fr = I at *
  generalize a.eval x = X' at *
  unfold indexV at hf
  split at hf <;> first | (cases hf; done) | skip
  rename_i k n
  have e2 := VR.plain e2 rfl
  split at hf <;> first | (cases hf; done) | skip
  · rename_i l hd
    obtain ⟨b, hb, rfl⟩ := byteAt_some hf
    have e1 := VR.plain e1 rfl
    refine ⟨_, .int .u8 _, fun w => ?_⟩
    simp only [Instr.index, e2, e1, Sem.run_bind, asIntOf, Sem.run_pure, Result.andThen, r_under hd]
    have h0 : (0 : Int) ≤ Int.ofNat n := by simp only [Int.ofNat_eq_natCast]; omega
    have h1 : (Int.ofNat n).toNat = n := rfl
    simp only [h0, if_true, h1, ba_get, hb]
    rfl
  · rename_i len e l hd
    have hex : ∃ j d, P.info? e = some j ∧ P.underlying e = some d ∧ n < len ∧ (if aggD d then some (Value.agg ⟨(l.drop (n * j.size)).take j.size⟩) else l[n * j.size]?) = some v := by
      split at hf <;> first | (cases hf; done) | skip
      · rename_i j fs hb hj hu
        rw [Nat.ble_eq] at hb
        rw [takeL_eq, dropL_eq] at hf
        exact ⟨j, _, hj, hu, hb, hf⟩
      · rename_i j n' e' hb hj hu
        rw [Nat.ble_eq] at hb
        rw [takeL_eq, dropL_eq] at hf
        exact ⟨j, _, hj, hu, hb, hf⟩
      · rename_i j d hn1 hn2 hb hj hu
        rw [Nat.ble_eq] at hb
        rw [nth_eq] at hf
        refine ⟨j, d, hj, hu, hb, ?_⟩
        have : aggD d = false := by cases d <;> first | rfl | (exact absurd rfl (hn1 _)) | (exact absurd rfl (hn2 _ _))
        rw [this]; exact hf
    obtain ⟨j, d, hj, hu, hlt, hv⟩ := hex
    cases e1 with
    | agg _ l' hr =>
      have run : ∀ w, (Instr.index t (.agg ⟨l'⟩) (a.eval i)).run P w = (part e ⟨l'⟩ (n * j.size)).run P w := fun w => by
        have hin : (0 : Int) ≤ Int.ofNat n ∧ Int.ofNat n < (len : Int) := by simp only [Int.ofNat_eq_natCast]; omega
        simp only [Instr.index, e2, Sem.run_bind, asIntOf, Sem.run_pure, Result.andThen, r_under hd, hin, and_self, if_true, r_size hj]
        rfl
      cases hag : aggD d with
      | true =>
        rw [hag] at hv
        obtain rfl := Option.some.inj hv
        exact ⟨_, .agg _ _ ((hr.drop _).take _), fun w => by rw [run, r_part hj hu, hag]; rfl⟩
      | false =>
        rw [hag] at hv
        obtain ⟨v', h1, h2⟩ := hr.get (show l[n * j.size]? = some v from hv)
        exact ⟨v', h2, fun w => by rw [run, r_part hj hu, hag, h1]; rfl⟩
theorem q_fieldV {s : TypeId} {x : Operand} {i : Nat} (ho : o.op = .field s x i) (hx : okO sz nG x = true) : Quiet P nG sz o (fun fr => fldV P s (ev x fr) i) := by
  refine Quiet.of_run (s := fun a => Instr.field s (a.eval x) i) (fun a => by simp only [execOp, ho]) ?_
  intro J fr a v h hf
  have e1 := h.ev hx
  generalize ev x fr = X at *
  generalize a.eval x = X' at *
  unfold fldV at hf
  split at hf <;> first | (cases hf; done) | skip
  rename_i fs l hd
  split at hf <;> first | (cases hf; done) | skip
  rename_i f hnf
  rw [nth_eq] at hnf
  have hex : ∃ j d, P.info? f.type = some j ∧ P.underlying f.type = some d ∧ (if aggD d then some (Value.agg ⟨(l.drop f.offset).take j.size⟩) else l[f.offset]?) = some v := by
    split at hf <;> first | (cases hf; done) | skip
    · rename_i j fs' hj hu
      rw [takeL_eq, dropL_eq] at hf
      exact ⟨j, _, hj, hu, hf⟩
    · rename_i j n' e' hj hu
      rw [takeL_eq, dropL_eq] at hf
      exact ⟨j, _, hj, hu, hf⟩
    · rename_i j d hn1 hn2 hj hu
      rw [nth_eq] at hf
      refine ⟨j, d, hj, hu, ?_⟩
      have : aggD d = false := by cases d <;> first | rfl | (exact absurd rfl (hn1 _)) | (exact absurd rfl (hn2 _ _))
      rw [this]; exact hf
  obtain ⟨j, d, hj, hu, hv⟩ := hex
  cases e1 with
  | agg _ l' hr =>
    have run : ∀ w, (Instr.field s (.agg ⟨l'⟩) i).run P w = (part f.type ⟨l'⟩ f.offset).run P w := fun w => by
      have hin : (⟨fs⟩ : Array Field)[i]? = some f := by simpa using hnf
      simp only [Instr.field, Sem.run_bind, r_under hd, Result.andThen, hin, asAgg, Sem.run_pure]
    cases hag : aggD d with
    | true =>
      rw [hag] at hv
      obtain rfl := Option.some.inj hv
      exact ⟨_, .agg _ _ ((hr.drop _).take _), fun w => by rw [run, r_part hj hu, hag]; rfl⟩
    | false =>
      rw [hag] at hv
      obtain ⟨v', h1, h2⟩ := hr.get (show l[f.offset]? = some v from hv)
      exact ⟨v', h2, fun w => by rw [run, r_part hj hu, hag, h1]; rfl⟩
theorem bnd_some {d n : Nat} {x : Option Value} (h : bnd d x = some n) : (x = none ∧ n = d) ∨ ∃ k, x = some (.int k (.ofNat n)) := by
  unfold bnd at h
  split at h
  · exact .inl ⟨rfl, (Option.some.inj h).symm⟩
  · obtain rfl := Option.some.inj h; exact .inr ⟨_, rfl⟩
  · cases h
theorem r_bound {k : IntKind} {n y : Nat} (h : n ≤ y) (c : BoundsCode) (w : World) : (Instr.sliceBound (.int k (.ofNat n)) y c).run P w = .ok n w := by
  have hin : (0 : Int) ≤ Int.ofNat n ∧ Int.ofNat n ≤ (y : Int) := by simp only [Int.ofNat_eq_natCast]; omega
  simp only [Instr.sliceBound, Sem.run_bind, asIntOf, Sem.run_pure, Result.andThen, hin, and_self, if_true]
  rfl
theorem r_bounds {len cap l h m : Nat} {lo hi mx : Option Value} (h1 : bnd 0 lo = some l) (h2 : bnd len hi = some h) (h3 : bnd cap mx = some m) (hl : l ≤ h) (hh : h ≤ m) (hm : m ≤ cap) (hmx : (mx.isSome && hi.isNone) = false) (isS : Bool) (w : World) :
    (Instr.sliceBounds isS len cap lo hi mx).run P w = .ok (l, h, m) w := by
  rcases bnd_some h1 with ⟨rfl, rfl⟩ | ⟨k1, rfl⟩ <;> rcases bnd_some h2 with ⟨rfl, rfl⟩ | ⟨k2, rfl⟩ <;> rcases bnd_some h3 with ⟨rfl, rfl⟩ | ⟨k3, rfl⟩ <;>
    first
    | (cases hmx; done)
    | (simp only [Instr.sliceBounds, Sem.run_bind, Sem.run_pure, Result.andThen, r_bound hl, r_bound hh, r_bound hm]; done)
    | (simp only [Instr.sliceBounds, Sem.run_bind, Sem.run_pure, Result.andThen, r_bound hl, r_bound hh, r_bound hm]; rfl)
theorem ba_extract (l : List UInt8) (a b : Nat) : (⟨⟨l⟩⟩ : ByteArray).extract a b = ⟨⟨(l.drop a).take (b - a)⟩⟩ := by
  have : ((⟨⟨l⟩⟩ : ByteArray).extract a b).data = (⟨⟨(l.drop a).take (b - a)⟩⟩ : ByteArray).data := by
    rw [ByteArray.data_extract]
    simp [List.extract_toArray, List.extract_eq_take_drop]
  cases h : (⟨⟨l⟩⟩ : ByteArray).extract a b
  rw [h] at this
  simpa using this
end Go.Proofs.YtfafhdganloipaaGreatDoor.Eng
namespace Go.Proofs.YtfafhdganloipaaGreatDoor.Eng
open Go.RowKit
variable {P : Program} {nG sz : Nat} {o : Oper}
def okOp (sz nG : Nat) : Option Operand → Bool
  | some x => okO sz nG x
  | none => true
theorem bnd_plain {J : Inj} {fr : Fr} {a : Act} (h : At nG sz J fr a) {d n : Nat} {x : Option Operand} (hx : okOp sz nG x = true) (hb : bnd d (x.map fun x => ev x fr) = some n) : x.map a.eval = x.map fun x => ev x fr := by
  cases x with
  | none => rfl
  | some x =>
    rcases bnd_some hb with ⟨h1, -⟩ | ⟨k, h1⟩
    · cases h1
    · have h1 : ev x fr = .int k (.ofNat n) := Option.some.inj h1
      have e := h.ev (x := x) hx
      rw [h1] at e
      show some (a.eval x) = some (ev x fr)
      rw [h1, VR.plain e rfl]
theorem low_small {c : Nat} (h : c < big) : low c = c := by
  unfold low
  split
  · rename_i hb; rw [Nat.ble_eq] at hb; omega
  · rfl
theorem big_pos : 0 < big := by decide
theorem low_lt (c : Nat) : low c < big := by
  unfold low
  split
  · exact Nat.mod_lt _ big_pos
  · rename_i hb
    rcases Nat.lt_or_ge c big with h | h
    · exact h
    · have h : Nat.ble big c = true := by rw [Nat.ble_eq]; exact h
      rw [h] at hb; cases hb
theorem unk_ge {s m : Nat} (hs : 0 < s) : big ≤ big * s + m := by
  have : big * 1 ≤ big * s := Nat.mul_le_mul_left _ hs
  omega
theorem low_unk {s m : Nat} (hs : 0 < s) (hm : m < big) : low (big * s + m) = m := by
  unfold low
  have h : Nat.ble big (big * s + m) = true := by rw [Nat.ble_eq]; exact unk_ge hs
  rw [h]
  show (big * s + m) % big = m
  rw [Nat.mul_add_mod]; exact Nat.mod_eq_of_lt hm
theorem stride_unk {s m : Nat} (hm : m < big) : stride (big * s + m) = s := by
  show (big * s + m) / big = s
  rw [Nat.mul_add_div big_pos, Nat.div_eq_of_lt hm]; rfl
theorem VR.slice_low {J : Inj} {b i n c : Nat} {v' : Value} (h : VR J (.slice (some ⟨b, i, none⟩) n c) v') : ∃ (o' c' : Nat) (x : Tg), J b = some x ∧ v' = .slice (some ⟨x.B, o', none⟩) n c' ∧ n ≤ c' ∧ low c ≤ c' ∧ (o' = x.d + i ∨ c' = 0) := by
  obtain ⟨o', c', x, h1, h2, h3, h4, h5⟩ := h.slice_inv
  refine ⟨o', c', x, h1, h2, h3, ?_, h4⟩
  rcases h5 with ⟨h6, rfl⟩ | ⟨m, k, rfl, hm, hs, hle, -, -⟩
  · rw [low_small h6]; exact Nat.le_refl _
  · rw [low_unk hs hm]; exact hle
theorem ble_false {a b : Nat} (h : Nat.ble a b = false) : b < a := by
  rcases Nat.lt_or_ge b a with h1 | h1
  · exact h1
  · have h1 : Nat.ble a b = true := by rw [Nat.ble_eq]; exact h1
    rw [h1] at h; cases h
theorem sliceB_sound {J : Inj} {e : TypeId} {j : TypeInfo} {t : TypeId} (ht : P.underlying t = some (.slice e)) (hj : P.info? e = some j) {a : Option Addr} {n c : Nat} {x' v : Value} {lo hi mx : Option Value} {l h m : Nat}
    (h1 : bnd 0 lo = some l) (h2 : bnd n hi = some h) (h3 : bnd (low c) mx = some m) (hl : l ≤ h) (hh : h ≤ m) (hm : m ≤ low c) (hmx : (mx.isSome && hi.isNone) = false)
    (hv : sliceB j.size a l h m mx.isNone (match Nat.ble big c with | true => some (stride c) | false => none) = some v) (hx : VR J (.slice a n c) x') :
    ∃ v', VR J v v' ∧ ∀ w, (Instr.slice t x' lo hi mx).run P w = .ok v' w := by
  unfold sliceB at hv
  split at hv
  · obtain rfl := Option.some.inj hv
    cases hx with
    | snil =>
      have e0 : low 0 = 0 := by decide
      rw [e0] at hm
      obtain rfl : m = 0 := by omega
      obtain rfl : h = 0 := by omega
      obtain rfl : l = 0 := by omega
      refine ⟨_, .snil, fun w => ?_⟩
      rw [e0] at h3
      simp only [Instr.slice, Sem.run_bind, r_under ht, Result.andThen, r_bounds h1 h2 h3 hl hh hm hmx, r_size hj]
      rfl
  · rename_i b i
    obtain ⟨o', c', x, hJ, rfl, hn, ho, hc⟩ := hx.slice_inv
    have run : ∀ m', bnd c' mx = some m' → h ≤ m' → m' ≤ c' → ∀ w, (Instr.slice t (.slice (some ⟨x.B, o', none⟩) n c') lo hi mx).run P w = .ok (.slice (if m' = l then some ⟨x.B, o', none⟩ else some ⟨x.B, o' + l * j.size, none⟩) (h - l) (m' - l)) w := fun m' hb h4 h5 w => by
      simp only [Instr.slice, Sem.run_bind, r_under ht, Result.andThen, r_bounds h1 h2 hb hl h4 h5 hmx, r_size hj]
      split
      · rfl
      · simp only [Option.map_some, addr_add]; rfl
    have known : ∀ m', m' ≤ c' → m' < big → l ≤ h → h ≤ m' → bnd c' mx = some m' → v = .slice (some (if m' = l then ⟨b, i, none⟩ else ⟨b, i + l * j.size, none⟩)) (h - l) (m' - l) →
        ∃ v', VR J v v' ∧ ∀ w, (Instr.slice t (.slice (some ⟨x.B, o', none⟩) n c') lo hi mx).run P w = .ok v' w := by
      rintro m' h6 h7 h8 h9 hb rfl
      refine ⟨_, ?_, run m' hb h9 h6⟩
      by_cases hml : m' = l
      · rw [if_pos hml, if_pos hml]
        exact .slice b i _ _ _ _ x hJ (by omega) (.inr (by omega)) (.inl ⟨by omega, rfl⟩)
      · rw [if_neg hml, if_neg hml]
        exact .slice b _ _ _ _ _ x hJ (by omega) (.inl (by rcases ho with ho | ho <;> omega)) (.inl ⟨by omega, rfl⟩)
    have hlt := low_lt c
    have hfin : ∀ k, (match Nat.beq m l with | true => some (Value.slice (some ⟨b, i, none⟩) (h - l) (m - l)) | false => some (.slice (some ⟨b, Nat.add i (Nat.mul l j.size), none⟩) (h - l) (m - l))) = some k → k = .slice (some (if m = l then ⟨b, i, none⟩ else ⟨b, i + l * j.size, none⟩)) (h - l) (m - l) := by
      intro k hk
      split at hk
      · rename_i hb; rw [Nat.beq_eq] at hb; rw [if_pos hb, ← Option.some.inj hk]
      · rename_i hb
        have : ¬ m = l := fun e => by subst e; rw [Nat.beq_refl] at hb; cases hb
        rw [if_neg this, ← Option.some.inj hk]; rfl
    rcases hc with ⟨hc, rfl⟩ | ⟨m0, k, rfl, hm0, hs, hle, hik, hC⟩
    · rw [low_small hc] at h3 hm
      have hbig : Nat.ble big c' = false := by
        cases hbb : Nat.ble big c' with
        | false => rfl
        | true => rw [Nat.ble_eq] at hbb; omega
      rw [hbig] at hv
      have hv' := hfin v (by cases mx <;> exact hv)
      exact known m hm (by omega) hl hh h3 hv'
    · rw [low_unk hs hm0] at h3 hm
      have hbig : Nat.ble big (big * x.s + m0) = true := by rw [Nat.ble_eq]; exact unk_ge hs
      rw [hbig, stride_unk hm0] at hv
      cases mx with
      | some u =>
        have hv' := hfin v hv
        have hb : bnd c' (some u) = some m := by
          rcases bnd_some h3 with ⟨e, -⟩ | ⟨k', e⟩
          · cases e
          · injection e with e; subst e; rfl
        exact known m (by omega) (by omega) hl hh hb hv'
      | none =>
        have hm' : m0 = m := Option.some.inj h3
        subst hm'
        dsimp only [Option.isNone_none] at hv
        split at hv
        · rename_i hb
          rw [Nat.beq_eq] at hb
          obtain rfl := Option.some.inj hv
          refine ⟨_, ?_, run c' rfl (by omega) (Nat.le_refl _)⟩
          have hsz : Nat.add i (Nat.mul l j.size) = i + l * j.size := rfl
          rw [hsz]
          have hrel : ∀ o2, (o2 = x.d + (i + l * j.size) ∨ c' - l = 0) → VR J (.slice (some ⟨b, i + l * j.size, none⟩) (h - l) (unk j.size (m0 - l))) (.slice (some ⟨x.B, o2, none⟩) (h - l) (c' - l)) := by
            intro o2 ho2
            refine .slice b _ _ _ _ _ x hJ (by omega) ho2 (.inr ⟨m0 - l, k + l, ?_, by omega, hs, by omega, ?_, by omega⟩)
            · rw [hb]; rfl
            · rw [hik, hb, Nat.add_mul]
          by_cases hml : c' = l
          · rw [if_pos hml]; exact hrel _ (.inr (by omega))
          · rw [if_neg hml]; exact hrel _ (.inl (by rcases ho with ho | ho <;> omega))
        · cases hv
  · cases hv
theorem q_slice {t : TypeId} {x : Operand} {lo hi mx : Option Operand} (ho : o.op = .slice t x lo hi mx) (hx : okO sz nG x = true) (h1 : okOp sz nG lo = true) (h2 : okOp sz nG hi = true) (h3 : okOp sz nG mx = true) :
    Quiet P nG sz o (fun fr => sliceV P t (ev x fr) (lo.map fun x => ev x fr) (hi.map fun x => ev x fr) (mx.map fun x => ev x fr)) := by
  refine Quiet.of_run (s := fun a => Instr.sliceAt t (a.eval x) (lo.map a.eval) (hi.map a.eval) (mx.map a.eval)) (fun a => by simp only [execOp, ho]) ?_
  intro J fr a v h hf
  have e1 := h.ev hx
  unfold sliceV at hf
  split at hf <;> first | (cases hf; done) | skip
  · rename_i l ht hX
    rw [hX] at e1
    have e1 := VR.plain e1 rfl
    split at hf <;> first | (cases hf; done) | skip
    rename_i q r b1 b2 b3
    split at hf <;> first | (cases hf; done) | skip
    rename_i c1 c2
    rw [Nat.ble_eq] at c1 c2
    obtain rfl := Option.some.inj hf
    have p1 := bnd_plain h h1 b1
    have p2 := bnd_plain h h2 b2
    have p3 : mx.map a.eval = none := by
      cases mx with
      | none => rfl
      | some _ => cases b3
    refine ⟨_, .string _, fun w => ?_⟩
    rw [lenL_eq] at b2 c2
    have hsz : (⟨⟨l⟩⟩ : ByteArray).size = l.length := rfl
    have hr := r_bounds (P := P) (cap := l.length) (m := l.length) b1 b2 (show bnd l.length none = some l.length from rfl) c1 c2 (Nat.le_refl _) rfl false w
    simp only [Instr.sliceAt, Sem.run_bind, r_under ht, Result.andThen, e1, p1, p2, p3, Instr.slice, hsz, Option.isSome_none, Bool.false_eq_true, if_false, Sem.run_pure, hr]
    rw [takeL_eq, dropL_eq, ba_extract]
  · rename_i e b n c ht hX
    rw [hX] at e1
    split at hf <;> first | (cases hf; done) | skip
    rename_i j q r m hj b1 b2 b3
    split at hf <;> first | (cases hf; done) | skip
    rename_i c1 c2 c3
    rw [Nat.ble_eq] at c1 c2 c3
    split at hf
    · cases hf
    rename_i hmx
    have hmx : ((mx.map fun x => ev x fr).isSome && (hi.map fun x => ev x fr).isNone) = false := by
      simpa using hmx
    obtain ⟨v', r1, r2⟩ := sliceB_sound (P := P) ht hj b1 b2 b3 c1 c2 c3 hmx hf e1
    refine ⟨v', r1, fun w => ?_⟩
    rw [bnd_plain h h1 b1, bnd_plain h h2 b2, bnd_plain h h3 b3]
    simp only [Instr.sliceAt, Sem.run_bind, r_under ht, Result.andThen, r2]
end Go.Proofs.YtfafhdganloipaaGreatDoor.Eng
namespace Go.Proofs.YtfafhdganloipaaGreatDoor.Eng
open Go.RowKit
variable {P : Program} {nG sz : Nat} {o : Oper}
theorem exec_builtin {c : Call} {b : Builtin} (ho : o.op = .call c) (hb : c.callee = .builtin b) (a : Act) :
    execOp a.eval o = builtin b c.argTypes o.type (c.args.map fun | .const _ => true | _ => false) (c.args.map a.eval) := by
  simp only [execOp, ho, resolve, hb]; rfl
theorem arr_of {α : Type} {x : Array α} {l : List α} (h : x.toList = l) : x = ⟨l⟩ := by
  cases x; exact congrArg _ h
theorem map_arr {α β : Type} {x : Array α} {l : List α} (h : x.toList = l) (f : α → β) : x.map f = ⟨l.map f⟩ := by
  subst h; cases x; simp
theorem q_len {c : Call} {x : Operand} (ho : o.op = .call c) (hb : c.callee = .builtin .len) (ha : c.args.toList = [x]) (hx : okO sz nG x = true) : Quiet P nG sz o (fun fr => lenBV P (nth c.argTypes.toList 0) (ev x fr)) := by
  refine Quiet.of_run (s := fun a => Builtin.len_ c.argTypes o.type (c.args.map a.eval)) (fun a => exec_builtin ho hb a) ?_
  intro J fr a v h hf
  have e1 := h.ev hx
  rw [nth_eq] at hf
  unfold lenBV at hf
  have hargs : (c.args.map a.eval)[0]? = some (a.eval x) := by rw [map_arr ha]; rfl
  split at hf <;> first | (cases hf; done) | skip
  rename_i t ht
  have ht : c.argTypes[0]? = some t := by rw [← ht]; simp
  generalize ev x fr = X at *
  generalize a.eval x = X' at *
  split at hf <;> first | (cases hf; done) | skip
  · rename_i l hd
    obtain rfl := Option.some.inj hf
    have e1 := VR.plain e1 rfl
    refine ⟨_, .int .i64 _, fun w => ?_⟩
    simp only [Builtin.len_, ht, hargs, Sem.run_bind, r_under hd, Result.andThen, e1, lenL_eq]; rfl
  · rename_i e q n cc hd
    obtain rfl := Option.some.inj hf
    refine ⟨_, .int .i64 _, fun w => ?_⟩
    cases e1 <;> (simp only [Builtin.len_, ht, hargs, Sem.run_bind, r_under hd, Result.andThen]; rfl)
  · rename_i n e hd
    obtain rfl := Option.some.inj hf
    refine ⟨_, .int .i64 _, fun w => ?_⟩
    simp only [Builtin.len_, ht, hargs, Sem.run_bind, r_under hd, Result.andThen]; rfl
theorem q_max {c : Call} {x y : Operand} (ho : o.op = .call c) (hb : c.callee = .builtin .max) (ha : c.args.toList = [x, y]) (hx : okO sz nG x = true) (hy : okO sz nG y = true) : Quiet P nG sz o (maxF x y) := by
  refine Quiet.of_run (s := fun a => Builtin.max_ c.argTypes o.type (c.args.map a.eval)) (fun a => exec_builtin ho hb a) ?_
  intro J fr a v h hf
  obtain ⟨k, m, hm, hf⟩ := vInt_some hf
  obtain ⟨k', n, hn, hf⟩ := vInt_some hf
  obtain rfl := Option.some.inj hf
  have e1 := h.ev hx
  have e2 := h.ev hy
  rw [hm] at e1; rw [hn] at e2
  refine ⟨_, .int k _, fun w => ?_⟩
  have : c.args.map a.eval = ⟨[.int k m, .int k' n]⟩ := by rw [map_arr ha]; simp only [List.map_cons, List.map_nil, VR.plain e1 rfl, VR.plain e2 rfl]
  rw [this]; rfl
theorem q_min {c : Call} {x y : Operand} (ho : o.op = .call c) (hb : c.callee = .builtin .min) (ha : c.args.toList = [x, y]) (hx : okO sz nG x = true) (hy : okO sz nG y = true) : Quiet P nG sz o (minF x y) := by
  refine Quiet.of_run (s := fun a => Builtin.min_ c.argTypes o.type (c.args.map a.eval)) (fun a => exec_builtin ho hb a) ?_
  intro J fr a v h hf
  obtain ⟨k, m, hm, hf⟩ := vInt_some hf
  obtain ⟨k', n, hn, hf⟩ := vInt_some hf
  obtain rfl := Option.some.inj hf
  have e1 := h.ev hx
  have e2 := h.ev hy
  rw [hm] at e1; rw [hn] at e2
  refine ⟨_, .int k _, fun w => ?_⟩
  have : c.args.map a.eval = ⟨[.int k m, .int k' n]⟩ := by rw [map_arr ha]; simp only [List.map_cons, List.map_nil, VR.plain e1 rfl, VR.plain e2 rfl]
  rw [this]; rfl
theorem q_conv {src dst : TypeId} {x : Operand} {d : TypeDesc} {k : IntKind} (ho : o.op = .convert src dst x) (hs : P.underlying src = some d) (hd : P.underlying dst = some (.int k)) (hx : okO sz nG x = true) : Quiet P nG sz o (convF k x) := by
  refine Quiet.of_run (s := fun a => convert src dst (a.eval x)) (fun a => by simp only [execOp, ho]) ?_
  intro J fr a v h hf
  obtain ⟨k', m, hm, hf⟩ := vInt_some hf
  obtain rfl := Option.some.inj hf
  have e1 := h.ev hx
  rw [hm] at e1
  refine ⟨_, .int k _, fun w => ?_⟩
  rw [VR.plain e1 rfl]
  simp only [convert, Sem.run_bind, r_under hs, r_under hd, Result.andThen]; rfl
theorem q_convS {src dst : TypeId} {x : Operand} (ho : o.op = .convert src dst x) (hx : okO sz nG x = true) :
    Quiet P nG sz o (fun fr => match plainV (ev x fr) with | true => runS P (convert src dst (ev x fr)) | false => none) := by
  refine Quiet.of_run (s := fun a => convert src dst (a.eval x)) (fun a => by simp only [execOp, ho]) ?_
  intro J fr a v h hf
  have e1 := h.ev hx
  split at hf
  · rename_i hp
    obtain ⟨h1, h2⟩ := runS_some hf
    rw [VR.plain e1 hp]
    exact ⟨v, VR.of_plain h2, runP_run h1⟩
  · cases hf
theorem foldl_set (l : List Value) : ∀ (cs : List Value) (off k : Nat), off + k + l.length ≤ cs.length →
    (l.zipIdx k).foldl (fun (cs : Array Value) (p : Value × Nat) => cs.setIfInBounds (off + p.2) p.1) ⟨cs⟩ = ⟨cs.take (off + k) ++ (l ++ cs.drop (off + k + l.length))⟩ := by
  induction l with
  | nil => intro cs off k _; simp
  | cons v l ih =>
    intro cs off k h
    simp only [List.length_cons] at h
    rw [List.zipIdx_cons, List.foldl_cons]
    have e1 : (⟨cs⟩ : Array Value).setIfInBounds (off + k) v = ⟨cs.set (off + k) v⟩ := by simp
    rw [e1, ih _ off (k + 1) (by rw [List.length_set]; omega)]
    congr 1
    have h1 : (cs.set (off + k) v).take (off + (k + 1)) = cs.take (off + k) ++ [v] := by
      rw [← Nat.add_assoc, List.take_set, List.take_succ_eq_append_getElem (by omega), List.set_append_right _ _ (by simp; omega)]
      simp [List.length_take]
      have : off + k - min (off + k) cs.length = 0 := by omega
      rw [this]; rfl
    have h2 : (cs.set (off + k) v).drop (off + (k + 1) + l.length) = cs.drop (off + k + (l.length + 1)) := by
      rw [List.drop_set_of_lt (by omega)]; congr 1; omega
    rw [h1, h2]; simp
theorem fill_step (place : Nat → Option (Nat × Nat)) {cs : List Value} {i off size : Nat} {v : Value} {rest : List (Nat × Value)} (hp : place i = some (off, size)) (hs : v.cells.size = size) (hl : off + size ≤ cs.length) :
    Instr.fill place ⟨cs⟩ ((i, v) :: rest) = Instr.fill place ⟨cs.take off ++ (v.cells.toList ++ cs.drop (off + size))⟩ rest := by
  subst hs
  simp only [Instr.fill, hp]
  rw [if_neg (by simp; omega)]
  congr 1
  have := foldl_set v.cells.toList cs off 0 (by simpa using hl)
  simp only [Nat.add_zero, Array.length_toList] at this
  rw [← this, ← Array.foldl_toList, Array.toList_zipIdx]
inductive PR (J : Inj) : List (Nat × List Value) → List (Nat × Value) → Prop
  | nil : PR J [] []
  | cons (i : Nat) (l : List Value) (v : Value) (p : List (Nat × List Value)) (p' : List (Nat × Value)) (h : VRs J l v.cells.toList) (hp : PR J p p') : PR J ((i, l) :: p) ((i, v) :: p')
theorem fillL_sound {J : Inj} {size : Nat} : ∀ {p : List (Nat × List Value)} {p' : List (Nat × Value)}, PR J p p' → ∀ {cs cs' r : List Value}, VRs J cs cs' → fillL size cs p = some r →
    ∃ r', Instr.fill (fun i => some (i * size, size)) ⟨cs'⟩ p' = some ⟨r'⟩ ∧ VRs J r r' := by
  intro p p' hp
  induction hp with
  | nil => intro cs cs' r hc h; obtain rfl := Option.some.inj h; exact ⟨cs', rfl, hc⟩
  | cons i l v p p' hl hp ih =>
    intro cs cs' r hc h
    simp only [fillL] at h
    split at h <;> first | (cases h; done) | skip
    rename_i h1 h2
    rw [Nat.beq_eq, lenL_eq] at h1
    rw [Nat.ble_eq, lenL_eq, lenL_eq] at h2
    have h2 : i * size + l.length ≤ cs.length := h2
    have hlen := hl.length
    have hclen := hc.length
    have hs : v.cells.size = size := by rw [← h1, hlen]; simp
    rw [fill_step _ rfl hs (by omega)]
    rw [takeL_eq, dropL_eq, appL_eq, appL_eq] at h
    refine ih ?_ h
    have e1 : Nat.add (Nat.mul i size) (lenL l) = i * size + size := by rw [lenL_eq, h1]; rfl
    have e2 : Nat.mul i size = i * size := rfl
    rw [e1, e2]
    exact (hc.take _).append (hl.append (hc.drop _))
end Go.Proofs.YtfafhdganloipaaGreatDoor.Eng

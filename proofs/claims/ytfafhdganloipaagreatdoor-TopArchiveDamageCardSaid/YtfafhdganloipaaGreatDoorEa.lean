/- The abstract values and the abstract heap: a concrete run that is followed whatever world it begins in, whatever order and whatever capacities the tape draws. -/
import Derived.RangeFuncLeaves
import Derived.RangeFuncNested
import Derived.Below
namespace Go.Proofs.YtfafhdganloipaaGreatDoor.Eng
open Go.RowKit
structure Tg where
  B : Nat
  d : Nat
  s : Nat
  C : Nat
abbrev Inj := Nat → Option Tg
def big : Nat := 1152921504606846976
mutual
inductive VR (J : Inj) : Value → Value → Prop
  | bool (b : Bool) : VR J (.bool b) (.bool b)
  | int (k : IntKind) (n : Int) : VR J (.int k n) (.int k n)
  | string (s : ByteArray) : VR J (.string s) (.string s)
  | pnil : VR J (.pointer none) (.pointer none)
  | ptr (b o : Nat) (x : Tg) (h : J b = some x) : VR J (.pointer (some ⟨b, o, none⟩)) (.pointer (some ⟨x.B, x.d + o, none⟩))
  | snil : VR J (.slice none 0 0) (.slice none 0 0)
  | slice (b o n c o' c' : Nat) (x : Tg) (h : J b = some x) (hn : n ≤ c') (ho : o' = x.d + o ∨ c' = 0) (hc : (c < big ∧ c' = c) ∨ ∃ m i, c = big * x.s + m ∧ m < big ∧ 0 < x.s ∧ m ≤ c' ∧ o = i * x.s ∧ c' + i = x.C) : VR J (.slice (some ⟨b, o, none⟩) n c) (.slice (some ⟨x.B, o', none⟩) n c')
  | mnil : VR J (.map none) (.map none)
  | map (b : Nat) (x : Tg) (h : J b = some x) : VR J (.map (some b)) (.map (some x.B))
  | func (f : Nat) (fs fs' cs cs' : List Value) (h1 : VRs J fs fs') (h2 : VRs J cs cs') : VR J (.func (.func f) ⟨fs⟩ ⟨cs⟩) (.func (.func f) ⟨fs'⟩ ⟨cs'⟩)
  | yield (l : Nat) (x : Tg) (h : J l = some x) : VR J (.func (.yield l) #[] #[]) (.func (.yield x.B) #[] #[])
  | nilFunc : VR J .nilFunc .nilFunc
  | nilIface : VR J .nilIface .nilIface
  | iface (t : Nat) (v v' : Value) (h : VR J v v') : VR J (.iface t v) (.iface t v')
  | agg (cs cs' : List Value) (h : VRs J cs cs') : VR J (.agg ⟨cs⟩) (.agg ⟨cs'⟩)
  | tuple (cs cs' : List Value) (h : VRs J cs cs') : VR J (.tuple ⟨cs⟩) (.tuple ⟨cs'⟩)
inductive VRs (J : Inj) : List Value → List Value → Prop
  | nil : VRs J [] []
  | cons (v v' : Value) (l l' : List Value) (h : VR J v v') (hl : VRs J l l') : VRs J (v :: l) (v' :: l')
end
def Inj.le (J J' : Inj) : Prop := ∀ b x, J b = some x → J' b = some x
theorem Inj.le.refl (J : Inj) : J.le J := fun _ _ h => h
theorem Inj.le.trans {J J' J'' : Inj} (h : J.le J') (h' : J'.le J'') : J.le J'' := fun b x hb => h' b x (h b x hb)
mutual
theorem VR.mono {J J' : Inj} (hJ : J.le J') {v v' : Value} (h : VR J v v') : VR J' v v' := by
  cases h with
  | bool b => exact .bool b
  | int k n => exact .int k n
  | string s => exact .string s
  | pnil => exact .pnil
  | ptr b o x h => exact .ptr b o x (hJ _ _ h)
  | snil => exact .snil
  | slice b o n c o' c' x h hn ho hc => exact .slice b o n c o' c' x (hJ _ _ h) hn ho hc
  | mnil => exact .mnil
  | map b x h => exact .map b x (hJ _ _ h)
  | func f fs fs' cs cs' h1 h2 => exact .func f fs fs' cs cs' (VRs.mono hJ h1) (VRs.mono hJ h2)
  | yield l x h => exact .yield l x (hJ _ _ h)
  | nilFunc => exact .nilFunc
  | nilIface => exact .nilIface
  | iface t v v' h => exact .iface t v v' (VR.mono hJ h)
  | agg cs cs' h => exact .agg cs cs' (VRs.mono hJ h)
  | tuple cs cs' h => exact .tuple cs cs' (VRs.mono hJ h)
theorem VRs.mono {J J' : Inj} (hJ : J.le J') {l l' : List Value} (h : VRs J l l') : VRs J' l l' := by
  cases h with
  | nil => exact .nil
  | cons v v' l l' h hl => exact .cons v v' l l' (VR.mono hJ h) (VRs.mono hJ hl)
end
theorem VRs.length {J : Inj} : ∀ {l l' : List Value}, VRs J l l' → l.length = l'.length
  | [], [], _ => rfl
  | _ :: _, _ :: _, .cons _ _ _ _ _ h => by simp [VRs.length h]
theorem VRs.get {J : Inj} : ∀ {l l' : List Value}, VRs J l l' → ∀ {i : Nat} {v : Value}, l[i]? = some v → ∃ v', l'[i]? = some v' ∧ VR J v v'
  | [], [], _, _, _, h => by simp at h
  | _ :: _, _ :: _, .cons _ _ _ _ h1 _, 0, v, h => by simp at h; subst h; exact ⟨_, rfl, h1⟩
  | _ :: _, _ :: _, .cons _ _ _ _ _ h2, i + 1, v, h => by simpa using VRs.get h2 (i := i) (by simpa using h)
theorem VRs.append {J : Inj} : ∀ {a a' b b' : List Value}, VRs J a a' → VRs J b b' → VRs J (a ++ b) (a' ++ b')
  | [], [], _, _, _, h => h
  | _ :: _, _ :: _, _, _, .cons _ _ _ _ h1 h2, h => .cons _ _ _ _ h1 (VRs.append h2 h)
theorem VRs.take {J : Inj} (n : Nat) {l l' : List Value} (h : VRs J l l') : VRs J (l.take n) (l'.take n) := by
  induction n generalizing l l' with
  | zero => exact .nil
  | succ n ih => cases h with
    | nil => exact .nil
    | cons v v' l l' h hl => exact .cons _ _ _ _ h (ih hl)
theorem VRs.drop {J : Inj} (n : Nat) {l l' : List Value} (h : VRs J l l') : VRs J (l.drop n) (l'.drop n) := by
  induction n generalizing l l' with
  | zero => exact h
  | succ n ih => cases h with
    | nil => exact .nil
    | cons v v' l l' h hl => exact ih hl
theorem VRs.set {J : Inj} {l l' : List Value} (h : VRs J l l') (i : Nat) {v v' : Value} (hv : VR J v v') : VRs J (l.set i v) (l'.set i v') := by
  induction i generalizing l l' with
  | zero => cases h with
    | nil => exact .nil
    | cons _ _ _ _ _ hl => exact .cons _ _ _ _ hv hl
  | succ i ih => cases h with
    | nil => exact .nil
    | cons _ _ _ _ h hl => exact .cons _ _ _ _ h (ih hl)
theorem VRs.of_get {J : Inj} : ∀ {l l' : List Value}, l.length = l'.length → (∀ (i : Nat) (v v' : Value), l[i]? = some v → l'[i]? = some v' → VR J v v') → VRs J l l'
  | [], [], _, _ => .nil
  | v :: l, v' :: l', hl, h => .cons _ _ _ _ (h 0 v v' rfl rfl) (VRs.of_get (by simpa using hl) fun i a a' ha ha' => h (i + 1) a a' (by simpa using ha) (by simpa using ha'))
theorem VRs.zeros {J : Inj} {v v' : Value} (h : VR J v v') (n : Nat) : VRs J (List.replicate n v) (List.replicate n v') := by
  induction n with
  | zero => exact .nil
  | succ n ih => exact .cons _ _ _ _ h ih
mutual
def plainV : Value → Bool
  | .bool _ | .int _ _ | .string _ | .pointer none | .slice none 0 0 | .map none | .nilFunc | .nilIface => true
  | .iface _ v => plainV v
  | .agg ⟨cs⟩ => plainL cs
  | .tuple ⟨cs⟩ => plainL cs
  | _ => false
def plainL : List Value → Bool
  | [] => true
  | v :: l => plainV v && plainL l
end
mutual
theorem VR.plain {J : Inj} {v v' : Value} (h : VR J v v') (hp : plainV v = true) : v' = v := by
  cases h with
  | ptr | slice | map | func | yield => simp [plainV] at hp
  | iface t v v' h => rw [VR.plain h (by simpa [plainV] using hp)]
  | agg cs cs' h => rw [VRs.plain h (by simpa [plainV] using hp)]
  | tuple cs cs' h => rw [VRs.plain h (by simpa [plainV] using hp)]
  | _ => rfl
theorem VRs.plain {J : Inj} {l l' : List Value} (h : VRs J l l') (hp : plainL l = true) : l' = l := by
  cases h with
  | nil => rfl
  | cons v v' l l' h hl =>
    simp only [plainL, Bool.and_eq_true] at hp
    rw [VR.plain h hp.1, VRs.plain hl hp.2]
end
mutual
theorem VR.of_plain {J : Inj} {v : Value} (hp : plainV v = true) : VR J v v := by
  match v, hp with
  | .bool b, _ => exact .bool b
  | .int k n, _ => exact .int k n
  | .string s, _ => exact .string s
  | .pointer none, _ => exact .pnil
  | .slice none 0 0, _ => exact .snil
  | .map none, _ => exact .mnil
  | .nilFunc, _ => exact .nilFunc
  | .nilIface, _ => exact .nilIface
  | .iface t v, hp => exact .iface t v v (VR.of_plain (by simpa [plainV] using hp))
  | .agg ⟨cs⟩, hp => exact .agg cs cs (VRs.of_plain (by simpa [plainV] using hp))
  | .tuple ⟨cs⟩, hp => exact .tuple cs cs (VRs.of_plain (by simpa [plainV] using hp))
theorem VRs.of_plain {J : Inj} {l : List Value} (hp : plainL l = true) : VRs J l l := by
  match l, hp with
  | [], _ => exact .nil
  | v :: l, hp =>
    simp only [plainL, Bool.and_eq_true] at hp
    exact .cons _ _ _ _ (VR.of_plain hp.1) (VRs.of_plain hp.2)
end
end Go.Proofs.YtfafhdganloipaaGreatDoor.Eng
namespace Go.Proofs.YtfafhdganloipaaGreatDoor.Eng
inductive D4 | a | b | c | d
  deriving DecidableEq
structure T4 (α : Type) where
  (a b c d : α)
noncomputable def T4.get {α : Type} : D4 → T4 α → α := D4.rec T4.a T4.b T4.c T4.d
noncomputable def T4.set {α : Type} : D4 → (α → α) → T4 α → T4 α := D4.rec (fun f => T4.rec fun a b c d => ⟨f a, b, c, d⟩) (fun f => T4.rec fun a b c d => ⟨a, f b, c, d⟩) (fun f => T4.rec fun a b c d => ⟨a, b, f c, d⟩) (fun f => T4.rec fun a b c d => ⟨a, b, c, f d⟩)
noncomputable def digM (n : Nat) : D4 := Nat.rec D4.a (fun n _ => Nat.rec D4.b (fun n _ => Nat.rec D4.c (fun _ _ => D4.d) n) n) n
noncomputable def dig (n : Nat) : D4 := digM (Nat.mod n 4)
def T4.all {α : Type} (a : α) : T4 α := ⟨a, a, a, a⟩
structure P4 where
  (x y z u : D4)
  deriving DecidableEq
noncomputable def pth (n : Nat) : P4 := ⟨dig n, dig (Nat.div n 4), dig (Nat.div n 16), dig (Nat.div n 64)⟩
abbrev Fr := T4 (T4 (T4 (T4 Value)))
noncomputable def fgetP (p : P4) (f : Fr) : Value := T4.get p.x (T4.get p.y (T4.get p.z (T4.get p.u f)))
noncomputable def fsetP (p : P4) (v : Value) (f : Fr) : Fr := T4.set p.u (T4.set p.z (T4.set p.y (T4.set p.x (fun _ => v)))) f
noncomputable def fget (t : Nat) (fr : Fr) : Value := fgetP (pth t) fr
noncomputable def fset (v : Value) (t : Nat) (fr : Fr) : Fr := fsetP (pth t) v fr
def fr0 : Fr := T4.all (T4.all (T4.all (T4.all undef)))
inductive AO where
  | cells (cs : List Value) (e : TypeId)
  | map (es : List (Value × Value))
  | loop (fr : Fr) (params : List Tmp) (assign body : Code) (st : Option (Option Code))
abbrev M8 := T4 (T4 (T4 (T4 (T4 (T4 (T4 (T4 (Option AO))))))))
def m8 : M8 := T4.all (T4.all (T4.all (T4.all (T4.all (T4.all (T4.all (T4.all none)))))))
structure P8 where
  (p q : P4)
  deriving DecidableEq
noncomputable def pth8 (n : Nat) : P8 := ⟨pth n, pth (Nat.div n 256)⟩
noncomputable def mgetP (p : P8) (f : M8) : Option AO := T4.get p.p.x (T4.get p.p.y (T4.get p.p.z (T4.get p.p.u (T4.get p.q.x (T4.get p.q.y (T4.get p.q.z (T4.get p.q.u f)))))))
noncomputable def msetP (p : P8) (o : Option AO) (f : M8) : M8 := T4.set p.q.u (T4.set p.q.z (T4.set p.q.y (T4.set p.q.x (T4.set p.p.u (T4.set p.p.z (T4.set p.p.y (T4.set p.p.x (fun _ => o)))))))) f
structure AH where
  next : Nat
  objs : M8
noncomputable def AH.get (H : AH) (b : Nat) : Option AO := mgetP (pth8 b) H.objs
noncomputable def AH.put (H : AH) (b : Nat) (o : Option AO) : AH := ⟨H.next, msetP (pth8 b) o H.objs⟩
noncomputable def AH.new (H : AH) (o : AO) : AH := ⟨Nat.succ H.next, msetP (pth8 H.next) (some o) H.objs⟩
noncomputable def AH.room (H : AH) : Bool := Nat.ble (Nat.succ H.next) 65536
noncomputable def nth {α : Type} (l : List α) : Nat → Option α := List.rec (fun _ => none) (fun v _ ih n => Nat.rec (some v) (fun n _ => ih n) n) l
noncomputable def mapL {α β : Type} (f : α → β) (l : List α) : List β := List.rec [] (fun v _ ih => f v :: ih) l
noncomputable def lenL {α : Type} (l : List α) : Nat := List.rec 0 (fun _ _ ih => Nat.succ ih) l
noncomputable def appL {α : Type} (a b : List α) : List α := List.rec b (fun v _ ih => v :: ih) a
noncomputable def dropL {α : Type} (n : Nat) : List α → List α := Nat.rec (fun l => l) (fun _ ih l => List.rec [] (fun _ l _ => ih l) l) n
noncomputable def takeL {α : Type} (n : Nat) : List α → List α := Nat.rec (fun _ => []) (fun _ ih l => List.rec [] (fun v l _ => v :: ih l) l) n
noncomputable def ev : Operand → Fr → Value := Operand.rec (fun t fr => fget t fr) (fun v _ => v) (fun g _ => .pointer (some ⟨g, 0, none⟩)) (fun f _ => .func (.func f) #[] #[])
inductive RO where
  | bad
  | ok (v : Value) (H : AH)
inductive OpK where
  | bad
  | q (f : Fr → Option Value)
  | r (f : Fr → AH → Option Value)
  | n (f : Fr → Option (List Value × TypeId)) (g : Nat → List Value → Value)
  | a (f : Fr → AH → RO)
  | call (f : Operand) (args : List Operand)
noncomputable def vInt {R : Type} : Value → (IntKind → Int → R) → R → R := @Value.rec (fun _ => (IntKind → Int → R) → R → R) (fun _ => PUnit.{1}) (fun _ => PUnit.{1})
    (fun _ => fun _ d => d)
    (fun k n f _ => f k n)
    (fun _ _ => fun _ d => d)
    (fun _ _ _ => fun _ d => d)
    (fun _ => fun _ d => d)
    (fun _ => fun _ d => d)
    (fun _ _ _ => fun _ d => d)
    (fun _ => fun _ d => d)
    (fun _ => fun _ d => d)
    (fun _ _ _ _ _ => fun _ d => d)
    (fun _ d => d)
    (fun _ _ _ => fun _ d => d)
    (fun _ d => d)
    (fun _ _ => fun _ d => d)
    (fun _ _ => fun _ d => d)
    (fun _ _ => PUnit.unit)
    PUnit.unit
    (fun _ _ _ _ => PUnit.unit)
noncomputable def vBool {R : Type} : Value → R → R → R → R := @Value.rec (fun _ => R → R → R → R) (fun _ => PUnit.{1}) (fun _ => PUnit.{1})
    (fun b t e _ => Bool.rec e t b)
    (fun _ _ => fun _ _ d => d)
    (fun _ _ => fun _ _ d => d)
    (fun _ _ _ => fun _ _ d => d)
    (fun _ => fun _ _ d => d)
    (fun _ => fun _ _ d => d)
    (fun _ _ _ => fun _ _ d => d)
    (fun _ => fun _ _ d => d)
    (fun _ => fun _ _ d => d)
    (fun _ _ _ _ _ => fun _ _ d => d)
    (fun _ _ d => d)
    (fun _ _ _ => fun _ _ d => d)
    (fun _ _ d => d)
    (fun _ _ => fun _ _ d => d)
    (fun _ _ => fun _ _ d => d)
    (fun _ _ => PUnit.unit)
    PUnit.unit
    (fun _ _ _ _ => PUnit.unit)
noncomputable def aPtr {R : Type} : Option Addr → (Nat → Nat → R) → R → R := Option.rec (fun _ d => d) (Addr.rec fun b o s f d => Option.rec (f b o) (fun _ => d) s)
noncomputable def vPtr {R : Type} : Value → (Nat → Nat → R) → R → R := @Value.rec (fun _ => (Nat → Nat → R) → R → R) (fun _ => PUnit.{1}) (fun _ => PUnit.{1})
    (fun _ => fun _ d => d)
    (fun _ _ => fun _ d => d)
    (fun _ _ => fun _ d => d)
    (fun _ _ _ => fun _ d => d)
    (fun _ => fun _ d => d)
    aPtr
    (fun _ _ _ => fun _ d => d)
    (fun _ => fun _ d => d)
    (fun _ => fun _ d => d)
    (fun _ _ _ _ _ => fun _ d => d)
    (fun _ d => d)
    (fun _ _ _ => fun _ d => d)
    (fun _ d => d)
    (fun _ _ => fun _ d => d)
    (fun _ _ => fun _ d => d)
    (fun _ _ => PUnit.unit)
    PUnit.unit
    (fun _ _ _ _ => PUnit.unit)
noncomputable def vSl {R : Type} : Value → (Option Addr → Nat → Nat → R) → R → R := @Value.rec (fun _ => (Option Addr → Nat → Nat → R) → R → R) (fun _ => PUnit.{1}) (fun _ => PUnit.{1})
    (fun _ => fun _ d => d)
    (fun _ _ => fun _ d => d)
    (fun _ _ => fun _ d => d)
    (fun _ _ _ => fun _ d => d)
    (fun _ => fun _ d => d)
    (fun _ => fun _ d => d)
    (fun a n c f _ => f a n c)
    (fun _ => fun _ d => d)
    (fun _ => fun _ d => d)
    (fun _ _ _ _ _ => fun _ d => d)
    (fun _ d => d)
    (fun _ _ _ => fun _ d => d)
    (fun _ d => d)
    (fun _ _ => fun _ d => d)
    (fun _ _ => fun _ d => d)
    (fun _ _ => PUnit.unit)
    PUnit.unit
    (fun _ _ _ _ => PUnit.unit)
noncomputable def vTup {R : Type} : Value → (List Value → R) → R → R := @Value.rec (fun _ => (List Value → R) → R → R) (fun _ => PUnit.{1}) (fun _ => PUnit.{1})
    (fun _ => fun _ d => d)
    (fun _ _ => fun _ d => d)
    (fun _ _ => fun _ d => d)
    (fun _ _ _ => fun _ d => d)
    (fun _ => fun _ d => d)
    (fun _ => fun _ d => d)
    (fun _ _ _ => fun _ d => d)
    (fun _ => fun _ d => d)
    (fun _ => fun _ d => d)
    (fun _ _ _ _ _ => fun _ d => d)
    (fun _ d => d)
    (fun _ _ _ => fun _ d => d)
    (fun _ d => d)
    (fun _ _ => fun _ d => d)
    (fun l _ f _ => f l.toList)
    (fun _ _ => PUnit.unit)
    PUnit.unit
    (fun _ _ _ _ => PUnit.unit)
noncomputable def scal : Value → Bool := @Value.rec (fun _ => Bool) (fun _ => PUnit.{1}) (fun _ => PUnit.{1})
    (fun _ => true)
    (fun _ _ => true)
    (fun _ _ => false)
    (fun _ _ _ => false)
    (fun _ => true)
    (fun _ => false)
    (fun _ _ _ => false)
    (fun _ => false)
    (fun _ => false)
    (fun _ _ _ _ _ => false)
    false
    (fun _ _ _ => false)
    false
    (fun _ _ => false)
    (fun _ _ => false)
    (fun _ _ => PUnit.unit)
    PUnit.unit
    (fun _ _ _ _ => PUnit.unit)
noncomputable def mvF (x : Operand) (fr : Fr) : Option Value := some (ev x fr)
noncomputable def kMove (x : Operand) : OpK := .q (mvF x)
noncomputable def pickF (c a b : Operand) (fr : Fr) : Option Value := vBool (ev c fr) (some (ev a fr)) (some (ev b fr)) none
noncomputable def kPick (c a b : Operand) : OpK := .q (pickF c a b)
def runP {α : Type} (p : Program) : Sem α → Option α
  | .pure a => some a
  | .program k => runP p (k p)
  | .mark _ k => runP p k
  | _ => none
def kEq (k k' : IntKind) : Bool := match k, k' with
  | .i64, .i64 => true
  | a, b => decide (a = b)
noncomputable def addS (k : IntKind) (x y : Nat) : Int := Bool.rec (k.wrap (.ofNat (Nat.add x y))) (.ofNat (Nat.add x y)) (Nat.ble (Nat.add x y) 9223372036854775807)
noncomputable def addP (k : IntKind) (x : Nat) : Int → Int := Int.rec (fun y => addS k x y) (fun y => k.wrap (Int.add (.ofNat x) (.negSucc y)))
noncomputable def addM (k : IntKind) (x : Nat) : Int → Int := Int.rec (fun y => k.wrap (Int.add (.negSucc x) (.ofNat y))) (fun y => k.wrap (Int.add (.negSucc x) (.negSucc y)))
noncomputable def addI : Int → Int → Int := Int.rec (addP .i64) (addM .i64)
noncomputable def addV (k : IntKind) (a b : Int) : Int := match k with
  | .i64 => addI a b
  | k => k.wrap (a + b)
noncomputable def lssP (x : Nat) : Int → Bool := Int.rec (fun y => Nat.ble (Nat.succ x) y) (fun _ => false)
noncomputable def lssM (x : Nat) : Int → Bool := Int.rec (fun _ => true) (fun y => Nat.ble (Nat.succ y) x)
noncomputable def lssV : Int → Int → Bool := Int.rec lssP lssM
noncomputable def leqV (a b : Int) : Bool := not (lssV b a)
noncomputable def eqlP (x : Nat) : Int → Bool := Int.rec (fun y => Nat.beq x y) (fun _ => false)
noncomputable def eqlM (x : Nat) : Int → Bool := Int.rec (fun _ => false) (fun y => Nat.beq x y)
noncomputable def eqlV : Int → Int → Bool := Int.rec eqlP eqlM
noncomputable def int2b (f : IntKind → Int → Int → Value) (fb : Fr → Option Value) (fr : Fr) (k : IntKind) (a : Int) (k' : IntKind) (b : Int) : Option Value := Bool.rec (fb fr) (some (f k a b)) (kEq k k')
noncomputable def int2a (f : IntKind → Int → Int → Value) (fb : Fr → Option Value) (y : Operand) (fr : Fr) (k : IntKind) (a : Int) : Option Value := vInt (ev y fr) (int2b f fb fr k a) (fb fr)
noncomputable def int2 (f : IntKind → Int → Int → Value) (fb : Fr → Option Value) (x y : Operand) (fr : Fr) : Option Value := vInt (ev x fr) (int2a f fb y fr) (fb fr)
noncomputable def fAdd (k : IntKind) (a b : Int) : Value := .int k (addV k a b)
noncomputable def fLss (_ : IntKind) (a b : Int) : Value := .bool (lssV a b)
noncomputable def fLeq (_ : IntKind) (a b : Int) : Value := .bool (leqV a b)
noncomputable def fGtr (_ : IntKind) (a b : Int) : Value := .bool (lssV b a)
noncomputable def fGeq (_ : IntKind) (a b : Int) : Value := .bool (leqV b a)
noncomputable def fEql (_ : IntKind) (a b : Int) : Value := .bool (eqlV a b)
noncomputable def fNeq (_ : IntKind) (a b : Int) : Value := .bool (not (eqlV a b))
noncomputable def fastOp (op : BinOp) : Option (IntKind → Int → Int → Value) := match op with
  | .add => some fAdd
  | .lss => some fLss
  | .leq => some fLeq
  | .gtr => some fGtr
  | .geq => some fGeq
  | .eql => some fEql
  | .neq => some fNeq
  | _ => none
noncomputable def runS (P : Program) (s : Sem Value) : Option Value := match runP P s with
  | some v => match scal v with
    | true => some v
    | false => none
  | none => none
def eqNil (d : Option TypeDesc) (x y : Value) : Option Bool :=
  match d, x, y with
  | some (.pointer _), .pointer none, .pointer b => some b.isNone
  | some (.pointer _), .pointer (some _), .pointer none => some false
  | some (.slice _), .slice none _ _, .slice b _ _ => some b.isNone
  | some (.slice _), .slice (some _) _ _, .slice none _ _ => some false
  | some (.map _ _), .map none, .map b => some b.isNone
  | some (.map _ _), .map (some _), .map none => some false
  | some (.func _ _ _), .nilFunc, .func .. => some false
  | some (.func _ _ _), .func .., .nilFunc => some false
  | some (.interface _), .nilIface, .iface _ _ => some false
  | some (.interface _), .iface _ _, .nilIface => some false
  | _, _, _ => none
def eqPtr (P : Program) (d : Option TypeDesc) (x y : Value) : Bool := match d, x, y with
  | some (.pointer t), .pointer (some ⟨b, o, none⟩), .pointer (some ⟨b', o', none⟩) => (Nat.beq b b' && Nat.beq o o') && (P.info? t).isSome
  | _, _, _ => false
noncomputable def binV (P : Program) (op : BinOp) (t : TypeId) (xo yo : Operand) (x y : Value) : Option Value :=
  match (scal x && scal y) || (plainV x && plainV y) with
  | true => runS P (do eqGuard op t xo yo x y; binOp op t x y)
  | false => match op, eqNil (P.underlying t) x y with
    | .eql, some b => some (.bool b)
    | .neq, some b => some (.bool (!b))
    | .eql, none => match eqPtr P (P.underlying t) x y with | true => some (.bool true) | false => none
    | .neq, none => match eqPtr P (P.underlying t) x y with | true => some (.bool false) | false => none
    | _, _ => none
noncomputable def binF (P : Program) (op : BinOp) (t : TypeId) (x y : Operand) (fr : Fr) : Option Value := binV P op t x y (ev x fr) (ev y fr)
noncomputable def kBinO (P : Program) (op : BinOp) (t : TypeId) (x y : Operand) : Option (IntKind → Int → Int → Value) → OpK := Option.rec (.q (binF P op t x y)) (fun f => .q (int2 f (binF P op t x y) x y))
noncomputable def kBin (P : Program) (op : BinOp) (t : TypeId) (x y : Operand) (_ : TypeId) : OpK := kBinO P op t x y (fastOp op)
noncomputable def unF (P : Program) (op : UnOp) (x : Operand) (fr : Fr) : Option Value := Bool.rec none (runS P (Op.unary op (ev x fr))) (scal (ev x fr))
noncomputable def kUn (P : Program) (op : UnOp) (_ : TypeId) (x : Operand) : OpK := .q (unF P op x)
def nilV (v : Value) : Option Value := match v with
  | .pointer none | .nilIface | .nilFunc | .func (.method _) .. => none
  | v => some v
noncomputable def nilF (x : Operand) (fr : Fr) : Option Value := vPtr (ev x fr) (fun _ _ => some (ev x fr)) (nilV (ev x fr))
noncomputable def kNil (x : Operand) : OpK := .q (nilF x)
noncomputable def extF (x : Operand) (i : Nat) (fr : Fr) : Option Value := vTup (ev x fr) (fun l => nth l i) none
noncomputable def kExtract (x : Operand) (i : Nat) : OpK := .q (extF x i)
noncomputable def funF (f : Nat) (first captured : List Operand) (fr : Fr) : Option Value := some (.func (.func f) ⟨mapL (fun x => ev x fr) first⟩ ⟨mapL (fun x => ev x fr) captured⟩)
noncomputable def kFunc (fn : Fn) (first captured : Array Operand) : OpK := match fn with
  | .func f => .q (funF f first.toList captured.toList)
  | _ => .bad
noncomputable def ifF (t : TypeId) (x : Operand) (fr : Fr) : Option Value := some (.iface t (ev x fr))
noncomputable def kIface (P : Program) (t : TypeId) (x : Operand) : OpK := match P.underlying t with
  | some (.interface _) => .bad
  | some _ => .q (ifF t x)
  | none => .bad
noncomputable def fieldV (P : Program) (s : TypeId) (i : Nat) : Option Nat := match P.underlying s with
  | some (.struct ⟨fs⟩) => match nth fs i with
    | some f => match P.info? f.type with
      | some j => match Nat.beq j.size 0 with
        | false => some f.offset
        | true => none
      | none => none
    | none => none
  | _ => none
noncomputable def offF (x : Operand) (d : Nat) (fr : Fr) : Option Value := vPtr (ev x fr) (fun b o => some (.pointer (some ⟨b, Nat.add o d, none⟩))) none
noncomputable def kFieldO (x : Operand) : Option Nat → OpK := Option.rec .bad (fun d => .q (offF x d))
noncomputable def kField (P : Program) (s : TypeId) (x : Operand) (i : Nat) : OpK := kFieldO x (fieldV P s i)
noncomputable def fldV (P : Program) (s : TypeId) (x : Value) (i : Nat) : Option Value := match P.underlying s, x with
  | some (.struct ⟨fs⟩), .agg ⟨cs⟩ => match nth fs i with
    | some f => match P.info? f.type, P.underlying f.type with
      | some j, some (.struct _) => some (.agg ⟨takeL j.size (dropL f.offset cs)⟩)
      | some j, some (.array _ _) => some (.agg ⟨takeL j.size (dropL f.offset cs)⟩)
      | some _, some _ => nth cs f.offset
      | _, _ => none
    | none => none
  | _, _ => none
noncomputable def kFieldV (P : Program) (s : TypeId) (x : Operand) (i : Nat) : OpK := .q fun fr => fldV P s (ev x fr) i
inductive Ix where
  | bad
  | arr (len size : Nat)
  | sl (size : Nat)
def ixT (P : Program) (t : TypeId) : Ix := match P.underlying t with
  | some (.array n e) => match P.info? e with
    | some i => .arr n i.size
    | none => .bad
  | some (.slice e) => match P.info? e with
    | some i => .sl i.size
    | none => .bad
  | _ => .bad
noncomputable def natI {R : Type} : Int → (Nat → R) → R → R := Int.rec (fun n f _ => f n) (fun _ _ d => d)
noncomputable def vNat {R : Type} (v : Value) (f : Nat → R) (d : R) : R := vInt v (fun _ n => natI n f d) d
noncomputable def ixP (n s i b o : Nat) : Option Value := Bool.rec none (some (.pointer (some ⟨b, Nat.add o (Nat.mul i s), none⟩))) (Nat.ble (Nat.succ i) n)
noncomputable def ixA (x i : Operand) (n s : Nat) (fr : Fr) : Option Value := vNat (ev i fr) (fun i => vPtr (ev x fr) (ixP n s i) none) none
noncomputable def ixS (x i : Operand) (s : Nat) (fr : Fr) : Option Value := vNat (ev i fr) (fun i => vSl (ev x fr) (fun a n _ => aPtr a (ixP n s i) none) none) none
noncomputable def kIx (x i : Operand) : Ix → OpK := Ix.rec .bad (fun n s => .q (ixA x i n s)) (fun s => .q (ixS x i s))
noncomputable def kIndexAddr (P : Program) (t : TypeId) (x i : Operand) : OpK := kIx x i (ixT P t)
noncomputable def byteAt : List UInt8 → Nat → Option Value
  | [], _ => none
  | b :: _, 0 => some (.int .u8 b.toNat)
  | _ :: l, n + 1 => byteAt l n
noncomputable def indexV (P : Program) (t : TypeId) (x i : Value) : Option Value := match i with
  | .int _ (.ofNat n) => match P.underlying t, x with
    | some .string, .string ⟨⟨l⟩⟩ => byteAt l n
    | some (.array len e), .agg ⟨cs⟩ => match Nat.ble (Nat.succ n) len, P.info? e, P.underlying e with
      | true, some j, some (.struct _) => some (.agg ⟨takeL j.size (dropL (Nat.mul n j.size) cs)⟩)
      | true, some j, some (.array _ _) => some (.agg ⟨takeL j.size (dropL (Nat.mul n j.size) cs)⟩)
      | true, some j, some _ => nth cs (Nat.mul n j.size)
      | _, _, _ => none
    | _, _ => none
  | _ => none
noncomputable def kIndex (P : Program) (t : TypeId) (x i : Operand) : OpK := .q fun fr => indexV P t (ev x fr) (ev i fr)
def unk (s m : Nat) : Nat := Nat.add (Nat.mul big s) m
def low (c : Nat) : Nat := match Nat.ble big c with | true => Nat.mod c big | false => c
def stride (c : Nat) : Nat := Nat.div c big
def bnd (d : Nat) : Option Value → Option Nat
  | none => some d
  | some (.int _ (.ofNat n)) => some n
  | _ => none
def sliceB (size : Nat) (a : Option Addr) (l h m : Nat) (noMax : Bool) (unknown : Option Nat) : Option Value := match a with
  | none => some (.slice none (h - l) (m - l))
  | some ⟨b, o, none⟩ => match noMax, unknown with
    | true, some s => match Nat.beq s size with
      | true => some (.slice (some ⟨b, Nat.add o (Nat.mul l size), none⟩) (h - l) (unk size (m - l)))
      | false => none
    | _, _ => match Nat.beq m l with
      | true => some (.slice (some ⟨b, o, none⟩) (h - l) (m - l))
      | false => some (.slice (some ⟨b, Nat.add o (Nat.mul l size), none⟩) (h - l) (m - l))
  | _ => none
noncomputable def sliceV (P : Program) (t : TypeId) (x : Value) (lo hi mx : Option Value) : Option Value :=
  match P.underlying t, x with
  | some .string, .string ⟨⟨l⟩⟩ => match bnd 0 lo, bnd (lenL l) hi, mx with
    | some a, some h, none => match Nat.ble a h, Nat.ble h (lenL l) with
      | true, true => some (.string ⟨⟨takeL (h - a) (dropL a l)⟩⟩)
      | _, _ => none
    | _, _, _ => none
  | some (.slice e), .slice a n c => match P.info? e, bnd 0 lo, bnd n hi, bnd (low c) mx with
    | some j, some l, some h, some m => match Nat.ble l h, Nat.ble h m, Nat.ble m (low c) with
      | true, true, true => match mx.isSome && hi.isNone with
        | true => none
        | false => sliceB j.size a l h m mx.isNone (match Nat.ble big c with | true => some (stride c) | false => none)
      | _, _, _ => none
    | _, _, _, _ => none
  | _, _ => none
noncomputable def kSlice (P : Program) (t : TypeId) (x : Operand) (lo hi mx : Option Operand) : OpK :=
  .q fun fr => sliceV P t (ev x fr) (lo.map fun x => ev x fr) (hi.map fun x => ev x fr) (mx.map fun x => ev x fr)
noncomputable def fillL (size : Nat) : List Value → List (Nat × List Value) → Option (List Value)
  | cs, [] => some cs
  | cs, (i, l) :: r => match Nat.beq (lenL l) size, Nat.ble (Nat.add (Nat.mul i size) (lenL l)) (lenL cs) with
    | true, true => fillL size (appL (takeL (Nat.mul i size) cs) (appL l (dropL (Nat.add (Nat.mul i size) (lenL l)) cs))) r
    | _, _ => none
noncomputable def fillS (P : Program) (fs : List Field) : List Value → List (Nat × List Value) → Option (List Value)
  | cs, [] => some cs
  | cs, (i, l) :: r => match nth fs i with
    | some f => match P.info? f.type with
      | some j => match Nat.beq (lenL l) j.size, Nat.ble (Nat.add f.offset (lenL l)) (lenL cs) with
        | true, true => fillS P fs (appL (takeL f.offset cs) (appL l (dropL (Nat.add f.offset (lenL l)) cs))) r
        | _, _ => none
      | none => none
    | none => none
def zeroC (P : Program) (t : TypeId) : Option (List Value) := match P.info? t with
  | some i => match i.zero with
    | some z => match plainL z.cells.toList with
      | true => some z.cells.toList
      | false => none
    | none => none
  | none => none
noncomputable def buildV (P : Program) (t : TypeId) (parts : List (Nat × List Value)) : Option Value :=
  match zeroC P t, P.underlying t with
  | some z, some (.struct ⟨fs⟩) => match fs.all (fun f => (P.info? f.type).isSome), fillS P fs z parts with
    | true, some l => some (.agg ⟨l⟩)
    | _, _ => none
  | some z, some (.array _ e) => match P.info? e with
    | some j => match fillL j.size z parts with
      | some l => some (.agg ⟨l⟩)
      | none => none
    | none => none
  | _, _ => none
noncomputable def partsV (parts : Array (Nat × Operand)) (fr : Fr) : List (Nat × List Value) := mapL (fun p => (p.1, (ev p.2 fr).cells.toList)) parts.toList
noncomputable def kBuild (P : Program) (t : TypeId) (parts : Array (Nat × Operand)) : OpK := .q fun fr => buildV P t (partsV parts fr)
def ptrG (b : Nat) (_ : List Value) : Value := .pointer (some ⟨b, 0, none⟩)
noncomputable def kAlloc (P : Program) (t : TypeId) : OpK := .n (fun _ => match zeroC P t with | some z => some (z, t) | none => none) ptrG
noncomputable def kBox (t : TypeId) (x : Operand) : OpK := .n (fun fr => some ((ev x fr).cells.toList, t)) ptrG
noncomputable def repL : Nat → List Value → List Value
  | 0, _ => []
  | n + 1, l => l ++ repL n l
noncomputable def rowCells (P : Program) (t : TypeId) (len : Nat) (parts : List (Nat × List Value)) : Option (List Value × TypeId) := match P.underlying t with
  | some (.slice e) => match P.info? e, zeroC P e with
    | some j, some z => match Nat.beq (lenL z) j.size, Nat.ble (Nat.mul len j.size) 65536 && Nat.ble len 65536, fillL j.size (repL len z) parts with
      | true, true, some l => some (l, e)
      | _, _, _ => none
    | _, _ => none
  | _ => none
def rowG (n c b : Nat) (_ : List Value) : Value := .slice (some ⟨b, 0, none⟩) n c
noncomputable def kBuildSlice (P : Program) (t : TypeId) (len : Nat) (parts : Array (Nat × Operand)) : OpK := .n (fun fr => rowCells P t len (partsV parts fr)) (rowG len len)
noncomputable def takeN (n : Nat) (l : List Value) : Option (List Value) := match Nat.ble n (lenL l) with
  | true => some (takeL n l)
  | false => none
noncomputable def cellsAt (H : AH) (b o n : Nat) : Option (List Value) := match H.get b with
  | some (.cells cs _) => takeN n (dropL o cs)
  | _ => none
inductive LK where
  | bad
  | one
  | agg (size : Nat)
def ldT (P : Program) (t : TypeId) : LK := match P.underlying t with
  | some (.struct _) | some (.array _ _) => match P.info? t with
    | some i => .agg i.size
    | none => .bad
  | some _ => .one
  | none => .bad
noncomputable def aoCells {R : Type} : Option AO → (List Value → TypeId → R) → R → R := Option.rec (fun _ d => d) (AO.rec (fun cs e f _ => f cs e) (fun _ _ d => d) (fun _ _ _ _ _ _ d => d))
noncomputable def ldOne (o : Nat) (H : AH) (b : Nat) : Option Value := aoCells (H.get b) (fun cs _ => nth cs o) none
noncomputable def ldAgg (n o : Nat) (H : AH) (b : Nat) : Option Value := aoCells (H.get b) (fun cs _ => Option.rec none (fun l => some (.agg ⟨l⟩)) (takeN n (dropL o cs))) none
noncomputable def ldK (H : AH) (b o : Nat) : LK → Option Value := LK.rec none (ldOne o H b) (fun n => ldAgg n o H b)
noncomputable def ldV (k : LK) (x : Value) (H : AH) : Option Value := vPtr x (fun b o => ldK H b o k) none
noncomputable def ldF (k : LK) (a : Operand) (fr : Fr) (H : AH) : Option Value := ldV k (ev a fr) H
noncomputable def kLoad (P : Program) (t : TypeId) (a : Operand) : OpK := .r (ldF (ldT P t) a)
def findE (kind : TypeDesc) (k : Value) : List (Value × Value) → Option (Option Value)
  | [] => some none
  | (a, v) :: l => match Instr.sameNow kind k a with
    | some true => some (some v)
    | some false => findE kind k l
    | none => none
def keyKind (P : Program) (t : TypeId) (k : Value) : Option TypeDesc := match P.underlying t, k with
  | some (.int j), .int _ _ => some (.int j)
  | some .string, .string _ => some .string
  | _, _ => none
noncomputable def entries (m : Value) (H : AH) : Option (List (Value × Value)) := match m with
  | .map none => some []
  | .map (some r) => match H.get r with | some (.map es) => some es | _ => none
  | _ => none
def okV (ok b : Bool) (v : Value) : Value := match ok with | true => .tuple ⟨[v, .bool b]⟩ | false => v
def zeroV (P : Program) (t : TypeId) : Option Value := match P.info? t with
  | some i => match i.zero with
    | some z => match plainV z with
      | true => some z
      | false => none
    | none => none
  | none => none
def asV (P : Program) (t : TypeId) (ok : Bool) (x : Value) : Option Value := match x with
  | .iface s v => match Nat.beq s t with
    | true => some (okV ok true v)
    | false => match ok with
      | true => (zeroV P t).map (okV true false)
      | false => none
  | .nilIface => match ok with
    | true => (zeroV P t).map (okV true false)
    | false => none
  | _ => none
noncomputable def kAssert (P : Program) (x : Operand) (_ t : TypeId) (ok : Bool) : OpK := match P.underlying t with
  | some (.interface _) => .bad
  | some _ => .q (fun fr => asV P t ok (ev x fr))
  | none => .bad
noncomputable def lookV (P : Program) (t : TypeId) (m k : Value) (ok : Bool) (H : AH) : Option Value := match P.underlying t with
  | some (.map kt e) => match keyKind P kt k, entries m H with
    | some kind, some es => match findE kind k es, zeroV P e with
      | some (some v), _ => some (okV ok true v)
      | some none, some z => some (okV ok false z)
      | _, _ => none
    | _, _ => none
  | _ => none
noncomputable def kLookup (P : Program) (t : TypeId) (m k : Operand) (ok : Bool) : OpK := .r fun fr H => lookV P t (ev m fr) (ev k fr) ok H
def bytesOf : List Value → Option (List UInt8)
  | [] => some []
  | .int .u8 n :: l => match bytesOf l with | some r => some (UInt8.ofNat n.toNat :: r) | none => none
  | _ => none
noncomputable def byteCells (l : List UInt8) : List Value := mapL (fun b => .int .u8 b.toNat) l
noncomputable def b2s (v : Value) (H : AH) : Option Value := match v with
  | .slice none _ _ => some (.string ⟨⟨[]⟩⟩)
  | .slice (some ⟨b, o, none⟩) n _ => match cellsAt H b o n with
    | some l => match bytesOf l with | some r => some (.string ⟨⟨r⟩⟩) | none => none
    | none => none
  | _ => none
noncomputable def s2bF (e : TypeId) (x : Operand) (fr : Fr) (H : AH) : RO := match ev x fr, H.room with
  | .string ⟨⟨l⟩⟩, true => match Nat.ble (lenL l) 65536 with
    | true => .ok (.slice (some ⟨H.next, 0, none⟩) (lenL l) (unk 1 (lenL l))) (H.new (.cells (byteCells l) e))
    | false => .bad
  | _, _ => .bad
noncomputable def convF (k : IntKind) (x : Operand) (fr : Fr) : Option Value := vInt (ev x fr) (fun _ n => some (.int k (k.wrap n))) none
noncomputable def toUF (x : Operand) (fr : Fr) (H : AH) : Option Value := vPtr (ev x fr) (fun b o => aoCells (H.get b) (fun cs _ => match Nat.ble (Nat.succ o) (lenL cs) with | true => some (ev x fr) | false => none) none) none
noncomputable def fromUF (u size : Nat) (x : Operand) (fr : Fr) (H : AH) : Option Value := vPtr (ev x fr) (fun b o => aoCells (H.get b) (fun cs e => match Nat.beq e u && (Nat.beq (Nat.mod o size) 0 && Nat.ble (Nat.add o size) (lenL cs)) with | true => some (ev x fr) | false => none) none) none
noncomputable def kConv (P : Program) (src dst : TypeId) (x : Operand) : OpK := match P.underlying src, P.underlying dst with
  | some (.int _), some (.int k) => .q (convF k x)
  | some (.slice e), some .string => match P.underlying e with
    | some (.int .u8) => .r fun fr H => b2s (ev x fr) H
    | _ => .bad
  | some .string, some (.slice e) => match P.underlying e, P.info? e with
    | some (.int .u8), some j => match Nat.beq j.size 1 with
      | true => .a (s2bF e x)
      | false => .bad
    | _, _ => .bad
  | some (.pointer t), some .unsafePointer => match P.info? t with
    | some i => match Nat.beq i.size 0 with
      | false => .r (toUF x)
      | true => .bad
    | none => .bad
  | some .unsafePointer, some (.pointer u) => match P.info? u with
    | some i => match Nat.beq i.size 0 with
      | false => .r (fromUF u i.size x)
      | true => .bad
    | none => .bad
  | _, _ => .q fun fr => match plainV (ev x fr) with | true => runS P (convert src dst (ev x fr)) | false => none
noncomputable def setL (o : Nat) (l cs : List Value) : Option (List Value) := match Nat.ble (Nat.add o (lenL l)) (lenL cs) with
  | true => some (appL (takeL o cs) (appL l (dropL (Nat.add o (lenL l)) cs)))
  | false => none
noncomputable def oneC : Value → Bool := @Value.rec (fun _ => Bool) (fun _ => PUnit.{1}) (fun _ => PUnit.{1})
    (fun _ => true)
    (fun _ _ => true)
    (fun _ _ => true)
    (fun _ _ _ => true)
    (fun _ => true)
    (fun _ => true)
    (fun _ _ _ => true)
    (fun _ => true)
    (fun _ => true)
    (fun _ _ _ _ _ => true)
    true
    (fun _ _ _ => true)
    true
    (fun _ _ => false)
    (fun _ _ => false)
    (fun _ _ => PUnit.unit)
    PUnit.unit
    (fun _ _ _ _ => PUnit.unit)
noncomputable def allOne (l : List Value) : Bool := List.rec true (fun v _ ih => Bool.rec false ih (oneC v)) l
noncomputable def storeL (nG : Nat) (H : AH) (b o : Nat) (l : List Value) : Option AH := match H.get b, Nat.ble nG b && allOne l with
  | some (.cells cs e), true => match setL o l cs with | some r => some (H.put b (some (.cells r e))) | none => none
  | _, _ => none
def sizeT (P : Program) (t : TypeId) : Option Nat := match P.info? t with | some i => some i.size | none => none
noncomputable def lenIs (l : List Value) (n : Option Nat) : Bool := match n with | some n => Nat.beq (lenL l) n | none => false
noncomputable def stA (nG : Nat) (n : Option Nat) (v : Value) (H : AH) (b o : Nat) : RO := Bool.rec .bad (Option.rec .bad (fun H => .ok undef H) (storeL nG H b o v.cells.toList)) (lenIs v.cells.toList n)
noncomputable def stV (P : Program) (nG : Nat) (t : TypeId) (x v : Value) (H : AH) : RO := vPtr x (stA nG (sizeT P t) v H) .bad
noncomputable def stF (P : Program) (nG : Nat) (t : TypeId) (a x : Operand) (fr : Fr) (H : AH) : RO := stV P nG t (ev a fr) (ev x fr) H
noncomputable def kStore (P : Program) (nG : Nat) (t : TypeId) (a x : Operand) : OpK := .a (stF P nG t a x)
noncomputable def mapF (_ : Fr) (H : AH) : RO := match H.room with
  | true => .ok (.map (some H.next)) (H.new (.map []))
  | false => .bad
noncomputable def kMap (P : Program) (t : TypeId) (r : Option Operand) : OpK := match r with
  | none => .a mapF
  | some (.const (.int _ _)) => match P.underlying t with
    | some (.map _ _) => .a mapF
    | _ => .bad
  | _ => .bad
def putE (kind : TypeDesc) (k v : Value) : List (Value × Value) → Option (List (Value × Value))
  | [] => some [(k, v)]
  | (a, w) :: l => match Instr.sameNow kind k a with
    | some true => some ((k, v) :: l)
    | some false => match putE kind k v l with | some r => some ((a, w) :: r) | none => none
    | none => none
noncomputable def insV (P : Program) (t : TypeId) (m k v : Value) (H : AH) : RO := match P.underlying t, m with
  | some (.map kt _), .map (some r) => match keyKind P kt k, entries m H with
    | some kind, some es => match putE kind k v es with
      | some es => .ok undef (H.put r (some (.map es)))
      | none => .bad
    | _, _ => .bad
  | _, _ => .bad
def ownMap (nG : Nat) (m : Value) : Bool := match m with | .map (some r) => Nat.ble nG r | _ => false
noncomputable def insF (P : Program) (nG : Nat) (t : TypeId) (m k x : Operand) (fr : Fr) (H : AH) : RO := match ownMap nG (ev m fr) with
  | true => insV P t (ev m fr) (ev k fr) (ev x fr) H
  | false => .bad
noncomputable def kInsert (P : Program) (nG : Nat) (t : TypeId) (m k x : Operand) : OpK := .a (insF P nG t m k x)
noncomputable def makeSl (P : Program) (t : TypeId) (l c : Value) : Option (List Value × TypeId) := match P.underlying t, l, c with
  | some (.slice e), .int _ (.ofNat n), .int _ (.ofNat m) => match zeroC P e, P.info? e, Nat.ble n m, Nat.ble m 65536 with
    | some z, some j, true, true => match Nat.beq (lenL z) j.size && Nat.ble j.bytes 1000000 with
      | true => some (repL m z, e)
      | false => none
    | _, _, _, _ => none
  | _, _, _ => none
def natV : Value → Nat | .int _ (.ofNat n) => n | _ => 0
noncomputable def makeF (P : Program) (t : TypeId) (l c : Operand) (fr : Fr) (H : AH) : RO := match makeSl P t (ev l fr) (ev c fr), H.room with
  | some (cs, e), true => .ok (.slice (some ⟨H.next, 0, none⟩) (natV (ev l fr)) (natV (ev c fr))) (H.new (.cells cs e))
  | _, _ => .bad
noncomputable def kMakeSlice (P : Program) (t : TypeId) (l c : Operand) : OpK := .a (makeF P t l c)
noncomputable def firstC (H : AH) (size n : Nat) (x : Value) : Option (List Value) := match x with
  | .slice (some ⟨b, o, none⟩) _ _ => match n with
    | 0 => some []
    | k + 1 => cellsAt H b o (Nat.mul (k + 1) size)
  | .slice none _ _ => some []
  | .string ⟨⟨l⟩⟩ => some (byteCells (takeL n l))
  | _ => none
noncomputable def lenV : Value → Option Nat
  | .slice _ n _ => some n
  | .string ⟨⟨l⟩⟩ => some (lenL l)
  | _ => none
def elemT (P : Program) (t : Option TypeId) : Option (TypeId × Nat) := match t with
  | some t => match P.underlying t with
    | some (.slice e) => match P.info? e with
      | some j => match j.zero with
        | some z => match Nat.beq z.cells.size j.size && Nat.ble j.bytes 1000000 with
          | true => some (e, j.size)
          | false => none
        | none => none
      | none => none
    | _ => none
  | none => none
def srcOk (P : Program) (t : Option TypeId) (size : Nat) (x : Value) : Bool := match t with
  | some t => match P.underlying t, x with
    | some (.slice _), .slice _ _ _ => true
    | some .string, .string _ => Nat.beq size 1
    | _, _ => false
  | none => false
noncomputable def appN (nG : Nat) (e size n m c : Nat) (base : Option Addr) (old new : List Value) (H : AH) : RO :=
  match Nat.ble (Nat.add n m) 1000000 && Nat.ble 1 size && H.room, Nat.ble big c, base with
  | true, true, some ⟨b, _, none⟩ => match Nat.ble nG b && Nat.beq (stride c) size && aoCells (H.get b) (fun _ e' => Nat.beq e e') false with
    | true => .ok (.slice (some ⟨H.next, 0, none⟩) (Nat.add n m) (unk size (Nat.add n m))) ((H.put b none).new (.cells (appL old new) e))
    | false => .bad
  | true, false, _ => .ok (.slice (some ⟨H.next, 0, none⟩) (Nat.add n m) (unk size (Nat.add n m))) (H.new (.cells (appL old new) e))
  | _, _, _ => .bad
noncomputable def appV (nG : Nat) (e size : Nat) (s x : Value) (H : AH) : RO := match s, lenV x with
  | .slice base n c, some m => match firstC H size m x with
    | some new => match allOne new, Nat.ble (Nat.add n m) (low c) with
      | false, _ => .bad
      | true, true => match base, new with
        | none, _ => .ok s H
        | some ⟨_, _, none⟩, [] => .ok (.slice base (Nat.add n m) c) H
        | some ⟨b, o, none⟩, _ => match storeL nG H b (Nat.add o (Nat.mul n size)) new with
          | some H => .ok (.slice base (Nat.add n m) c) H
          | none => .bad
        | _, _ => .bad
      | true, false => match firstC H size n s with
        | some old => appN nG e size n m c base old new H
        | none => .bad
    | none => .bad
  | _, _ => .bad
noncomputable def copyV (nG : Nat) (size : Nat) (d x : Value) (H : AH) : RO := match d, lenV x with
  | .slice base n _, some m => match firstC H size (Nat.min m n) x with
    | some cs => match base, cs with
      | none, _ => .ok (goInt (Nat.min m n)) H
      | some _, [] => .ok (goInt (Nat.min m n)) H
      | some ⟨b, o, none⟩, _ => match storeL nG H b o cs with
        | some H => .ok (goInt (Nat.min m n)) H
        | none => .bad
      | _, _ => .bad
    | none => .bad
  | _, _ => .bad
noncomputable def lenBV (P : Program) (t : Option TypeId) (x : Value) : Option Value := match t with
  | some t => match P.underlying t, x with
    | some .string, .string ⟨⟨l⟩⟩ => some (.int .i64 (.ofNat (lenL l)))
    | some (.slice _), .slice _ n _ => some (.int .i64 (.ofNat n))
    | some (.array n _), _ => some (.int .i64 (.ofNat n))
    | _, _ => none
  | none => none
noncomputable def clearF (P : Program) (nG : Nat) (t : Option TypeId) (x : Operand) (fr : Fr) (H : AH) : RO := match elemT P t, ev x fr with
  | some _, .slice _ 0 _ => .ok undef H
  | some (e, _), .slice (some ⟨b, o, none⟩) n _ => match zeroC P e with
    | some z => match storeL nG H b o (repL n z) with
      | some H => .ok undef H
      | none => .bad
    | none => .bad
  | _, _ => .bad
noncomputable def maxF (x y : Operand) (fr : Fr) : Option Value := vInt (ev x fr) (fun k a => vInt (ev y fr) (fun _ b => some (.int k (if b > a then b else a))) none) none
noncomputable def minF (x y : Operand) (fr : Fr) : Option Value := vInt (ev x fr) (fun k a => vInt (ev y fr) (fun _ b => some (.int k (if b < a then b else a))) none) none
noncomputable def sdF (x : Operand) (fr : Fr) : Option Value := vSl (ev x fr) (fun a _ c => match a with
  | none => some (.pointer none)
  | some ⟨b, o, none⟩ => match Nat.ble 1 (low c) with
    | true => some (.pointer (some ⟨b, o, none⟩))
    | false => none
  | _ => none) none
def byteT (P : Program) (t : Option TypeId) : Option TypeId := match t with
  | some t => match P.underlying t with
    | some (.pointer e) => match P.info? e with
      | some j => match Nat.beq j.size 1 with
        | true => some e
        | false => none
      | none => none
    | _ => none
  | none => none
noncomputable def usV (nG e : Nat) (p n : Value) (H : AH) : RO := match p, n with
  | .pointer none, .int .i64 (.ofNat 0) => .ok (.string ⟨⟨[]⟩⟩) H
  | .pointer (some ⟨_, _, none⟩), .int .i64 (.ofNat 0) => .ok (.string ⟨⟨[]⟩⟩) H
  | .pointer (some ⟨b, o, none⟩), .int .i64 (.ofNat (m + 1)) => match H.get b with
    | some (.cells cs e') => match Nat.beq e' e && (Nat.ble nG b && Nat.ble (m + 1) 1000000000), takeN (m + 1) (dropL o cs) with
      | true, some l => match bytesOf l with
        | some r => .ok (.string ⟨⟨r⟩⟩) (H.put b none)
        | none => .bad
      | _, _ => .bad
    | _ => .bad
  | _, _ => .bad
noncomputable def kBuiltin (P : Program) (nG : Nat) (b : Builtin) (ts : List TypeId) (args : List Operand) : OpK := match b, args with
  | .len, [x] => .q fun fr => lenBV P (nth ts 0) (ev x fr)
  | .append, [s, x] => match elemT P (nth ts 0) with
    | some (e, size) => .a fun fr H => match srcOk P (nth ts 1) size (ev x fr) with
      | true => appV nG e size (ev s fr) (ev x fr) H
      | false => .bad
    | none => .bad
  | .copy, [d, s] => match elemT P (nth ts 0) with
    | some (_, size) => .a fun fr H => match srcOk P (nth ts 1) size (ev s fr) with
      | true => copyV nG size (ev d fr) (ev s fr) H
      | false => .bad
    | _ => .bad
  | .max, [x, y] => .q (maxF x y)
  | .min, [x, y] => .q (minF x y)
  | .clear, [x] => .a (clearF P nG (nth ts 0) x)
  | .unsafeSliceData, [x] => .q (sdF x)
  | .unsafeString, [p, n] => match byteT P (nth ts 0), Nat.beq (lenL ts) 2 with
    | some e, true => .a fun fr H => usV nG e (ev p fr) (ev n fr) H
    | _, _ => .bad
  | _, _ => .bad
noncomputable def kCall (P : Program) (nG : Nat) (c : Call) : OpK := match c.callee with
  | .value f => .call f c.args.toList
  | .builtin b => kBuiltin P nG b c.argTypes.toList c.args.toList
  | .invoke _ _ => .bad
noncomputable def opT (P : Program) (nG : Nat) : Op → OpK := @Op.rec (fun _ => OpK)
    kMove
    kMove
    kPick
    (kAlloc P)
    kBox
    (kBuild P)
    (kBuildSlice P)
    (kInsert P nG)
    (kLoad P)
    (kStore P nG)
    (fun _ => .bad)
    (fun _ => .bad)
    kNil
    (kBin P)
    (kUn P)
    (kConv P)
    (fun _ _ => .bad)
    (kIface P)
    kFunc
    (kMap P)
    (fun _ _ => .bad)
    (kMakeSlice P)
    (kSlice P)
    (kField P)
    (kFieldV P)
    (kIndexAddr P)
    (kIndex P)
    (kLookup P)
    (kInsert P nG)
    (fun _ _ _ => .bad)
    (fun _ _ _ _ => .bad)
    (fun _ _ => .bad)
    (fun _ _ => .bad)
    (fun _ => .bad)
    (kAssert P)
    kExtract
    (kCall P nG)
    (fun _ => .bad)
    (fun _ => .bad)
    (fun _ => .bad)
    (fun _ _ => .bad)
    (fun _ _ _ => .bad)
    (fun _ _ => .bad)
inductive Ex | normal | exit (id : Nat) | ret
inductive TrE where
  | n (k : Nat)
  | st (args : List Value) (H : AH)
instance (k : Nat) : OfNat TrE k := ⟨.n k⟩
instance : Coe Nat TrE := ⟨.n⟩
inductive Rs where
  | bad (tr : List TrE)
  | ok (e : Ex) (fr : Fr) (H : AH)
  | val (v : Value) (H : AH)
structure PO where
  k : OpK
  dst : Option Tmp
  guard : Option (Tmp × Bool)
  /-- how many of the last states of memory a reader must find the same in -/
  back : Nat
noncomputable def guardOf (ops : List Oper) (g : Option (Nat × Bool)) : Option (Tmp × Bool) := match g with
  | none => none
  | some (j, w) => match nth ops j with
    | some o => match o.dst with | some d => some (d, w) | none => none
    | none => none
noncomputable def prep (P : Program) (nG : Nat) (ops : List Oper) : List Oper → List PO := List.rec [] (fun o _ ih => ⟨opT P nG o.op, o.dst, guardOf ops o.guard, 0⟩ :: ih)
inductive Task where
  | code (c : Code)
  | ops (l : List PO)
  /-- operations in the order of a plan: the first of the names that are kept for new blocks; what memory was at each change so far -/
  | dops (N : Nat) (l : List PO) (sn : List (Nat × AH))
  | call (f : Value) (args : List Value)
abbrev Ih := Task → Fr → AH → Rs
noncomputable def putD (d : Option Tmp) (v : Value) (fr : Fr) : Fr := Option.rec fr (fun t => fset v t fr) d
noncomputable def rBad (_ : Option Tmp) (l : List PO) (_ : Ih) (_ : Fr) (_ : AH) : Rs := .bad [6, lenL l]
noncomputable def rQ (f : Fr → Option Value) (d : Option Tmp) (l : List PO) (ih : Ih) (fr : Fr) (H : AH) : Rs := Option.rec (.bad [1, lenL l]) (fun v => ih (.ops l) (putD d v fr) H) (f fr)
noncomputable def rR (f : Fr → AH → Option Value) (d : Option Tmp) (l : List PO) (ih : Ih) (fr : Fr) (H : AH) : Rs := Option.rec (.bad [2, lenL l]) (fun v => ih (.ops l) (putD d v fr) H) (f fr H)
noncomputable def rN (f : Fr → Option (List Value × TypeId)) (g : Nat → List Value → Value) (d : Option Tmp) (l : List PO) (ih : Ih) (fr : Fr) (H : AH) : Rs := match f fr, H.room with
  | some (cs, e), true => ih (.ops l) (putD d (g H.next cs) fr) (H.new (.cells cs e))
  | _, _ => .bad [3, lenL l]
noncomputable def rA (f : Fr → AH → RO) (d : Option Tmp) (l : List PO) (ih : Ih) (fr : Fr) (H : AH) : Rs := RO.rec (.bad [4, lenL l]) (fun v H => ih (.ops l) (putD d v fr) H) (f fr H)
noncomputable def rCall (f : Operand) (args : List Operand) (d : Option Tmp) (l : List PO) (ih : Ih) (fr : Fr) (H : AH) : Rs :=
  Rs.rec (fun tr => .bad (lenL l :: tr)) (fun _ _ _ => .bad [5]) (fun v H => ih (.ops l) (putD d v fr) H) (ih (.call (ev f fr) (mapL (fun x => ev x fr) args)) fr0 H)
noncomputable def runK : OpK → Option Tmp → List PO → Ih → Fr → AH → Rs := OpK.rec rBad rQ rR rN rA rCall
noncomputable def rSkip (d : Option Tmp) (l : List PO) (ih : Ih) (fr : Fr) (H : AH) : Rs := ih (.ops l) (putD d undef fr) H
noncomputable def bEq : Bool → Bool → Bool := Bool.rec (Bool.rec true false) (Bool.rec false true)
noncomputable def rGuard (t : Tmp) (w : Bool) (k : OpK) (d : Option Tmp) (l : List PO) (ih : Ih) (fr : Fr) (H : AH) : Rs :=
  Bool.rec (rSkip d l ih fr H) (runK k d l ih fr H) (vBool (fget t fr) (bEq w true) (bEq w false) false)
noncomputable def rG : Option (Tmp × Bool) → OpK → Option Tmp → List PO → Ih → Fr → AH → Rs := Option.rec runK (Prod.rec rGuard)
noncomputable def runPO : PO → List PO → Ih → Fr → AH → Rs := PO.rec fun k d g _ => rG g k d
def sameA (a b : Option Addr) : Bool := decide (a = b)
noncomputable def same1 (v u : Value) : Bool := match v, u with
  | .bool a, .bool b => decide (a = b)
  | .int k a, .int k' b => kEq k k' && eqlV a b
  | .string a, .string b => a == b
  | .pointer a, .pointer b => sameA a b
  | .slice a n c, .slice b m c' => sameA a b && (Nat.beq n m && Nat.beq c c')
  | .map a, .map b => decide (a = b)
  | .nilFunc, .nilFunc => true
  | .nilIface, .nilIface => true
  | _, _ => false
noncomputable def sameL : List Value → List Value → Bool := List.rec (List.rec true (fun _ _ _ => false)) (fun v _ ih l => List.rec false (fun u l _ => Bool.rec false (ih l) (same1 v u)) l)
noncomputable def sameV (v u : Value) : Bool := match v, u with
  | .agg ⟨l⟩, .agg ⟨l'⟩ => sameL l l'
  | .tuple ⟨l⟩, .tuple ⟨l'⟩ => sameL l l'
  | v, u => same1 v u
noncomputable def agree (f : AH → Option Value) (v : Value) (n : Nat) : List (Nat × AH) → Bool := List.rec true (fun p _ ih => Bool.rec ih (match f p.2 with
  | some u => Bool.rec false ih (sameV v u)
  | none => false) (Nat.ble p.1 n))
noncomputable def dBad (_ : Option Tmp) (_ : Nat) (_ : Nat) (l : List PO) (_ : List (Nat × AH)) (_ : Ih) (_ : Fr) (_ : AH) : Rs := .bad [30, lenL l]
noncomputable def dQ (f : Fr → Option Value) (d : Option Tmp) (_ : Nat) (N : Nat) (l : List PO) (sn : List (Nat × AH)) (ih : Ih) (fr : Fr) (H : AH) : Rs := Option.rec (.bad [31, lenL l]) (fun v => ih (.dops N l sn) (putD d v fr) H) (f fr)
noncomputable def dR (f : Fr → AH → Option Value) (d : Option Tmp) (back : Nat) (N : Nat) (l : List PO) (sn : List (Nat × AH)) (ih : Ih) (fr : Fr) (H : AH) : Rs :=
  Option.rec (.bad [32, lenL l]) (fun v => Bool.rec (.bad [37, lenL l]) (ih (.dops N l sn) (putD d v fr) H) (agree (f fr) v back sn)) (f fr H)
noncomputable def dN (f : Fr → Option (List Value × TypeId)) (g : Nat → List Value → Value) (d : Option Tmp) (back : Nat) (N : Nat) (l : List PO) (sn : List (Nat × AH)) (ih : Ih) (fr : Fr) (H : AH) : Rs := match f fr with
  | some (cs, e) => ih (.dops N l ((lenL l, H) :: sn)) (putD d (g (Nat.add N back) cs) fr) (H.put (Nat.add N back) (some (.cells cs e)))
  | none => .bad [33, lenL l]
noncomputable def dA (f : Fr → AH → RO) (d : Option Tmp) (_ : Nat) (N : Nat) (l : List PO) (sn : List (Nat × AH)) (ih : Ih) (fr : Fr) (H : AH) : Rs := RO.rec (.bad [34, lenL l]) (fun v H' => Bool.rec (.bad [38, lenL l]) (ih (.dops N l ((lenL l, H) :: sn)) (putD d v fr) H') (Nat.ble H.next H'.next)) (f fr H)
noncomputable def dCall (f : Operand) (args : List Operand) (d : Option Tmp) (_ : Nat) (N : Nat) (l : List PO) (sn : List (Nat × AH)) (ih : Ih) (fr : Fr) (H : AH) : Rs :=
  Rs.rec (fun tr => .bad (lenL l :: tr)) (fun _ _ _ => .bad [35]) (fun v H' => Bool.rec (.bad [39, lenL l]) (ih (.dops N l ((lenL l, H) :: sn)) (putD d v fr) H') (Nat.ble H.next H'.next)) (ih (.call (ev f fr) (mapL (fun x => ev x fr) args)) fr0 H)
noncomputable def dK : OpK → Option Tmp → Nat → Nat → List PO → List (Nat × AH) → Ih → Fr → AH → Rs := OpK.rec dBad dQ dR dN dA dCall
noncomputable def dSkip (d : Option Tmp) (N : Nat) (l : List PO) (sn : List (Nat × AH)) (ih : Ih) (fr : Fr) (H : AH) : Rs := ih (.dops N l sn) (putD d undef fr) H
noncomputable def dGuard (t : Tmp) (w : Bool) (k : OpK) (d : Option Tmp) (b N : Nat) (l : List PO) (sn : List (Nat × AH)) (ih : Ih) (fr : Fr) (H : AH) : Rs :=
  Bool.rec (dSkip d N l sn ih fr H) (dK k d b N l sn ih fr H) (vBool (fget t fr) (bEq w true) (bEq w false) false)
noncomputable def dG : Option (Tmp × Bool) → OpK → Option Tmp → Nat → Nat → List PO → List (Nat × AH) → Ih → Fr → AH → Rs := Option.rec dK (Prod.rec dGuard)
noncomputable def dPO : PO → Nat → List PO → List (Nat × AH) → Ih → Fr → AH → Rs := PO.rec fun k d g b => dG g k d b
noncomputable def dopsF (N : Nat) : List PO → List (Nat × AH) → Ih → Fr → AH → Rs := List.rec (fun _ _ fr H => .ok .normal fr H) (fun o l _ sn ih fr H => dPO o N l sn ih fr H)
def maskOf (ms : List Nat) : List Edge → Nat
  | [] => 0
  | e :: l => match Region.binds .any e with
    | true => Nat.lor (Nat.lor (Nat.pow 2 e.on) (ms.getD e.on 0)) (maskOf ms l)
    | false => maskOf ms l
def masks : List Oper → List Nat → List Nat
  | [], ms => ms
  | o :: l, ms => masks l (ms ++ [maskOf ms o.after.toList])
def bit (m i : Nat) : Bool := Nat.beq (Nat.mod (Nat.div m (Nat.pow 2 i)) 2) 1
def isFloat : OpK → Bool
  | .q _ | .r _ | .n _ _ => true
  | _ => false
def pick (m done : Nat) : Nat → Nat → List Nat
  | 0, _ => []
  | n + 1, i => match bit m i && !bit done i with
    | true => i :: pick m done n (i + 1)
    | false => pick m done n (i + 1)
def addBits (done : Nat) : List Nat → Nat
  | [] => done
  | i :: l => addBits (Nat.lor done (Nat.pow 2 i)) l
def orderG (n : Nat) (ks : List Bool) (ms : List Nat) : Nat → Nat → Nat → List Nat
  | 0, _, done => pick (Nat.pow 2 n - 1) done n 0
  | f + 1, i, done => match ks.getD i true with
    | true => orderG n ks ms f (i + 1) done
    | false => pick (ms.getD i 0) done n 0 ++ i :: orderG n ks ms f (i + 1) (Nat.lor (addBits done (pick (ms.getD i 0) done n 0)) (Nat.pow 2 i))
noncomputable def kindsL (P : Program) (nG : Nat) (l : List Oper) : List OpK := l.map fun o => opT P nG o.op
def isN : OpK → Bool
  | .n _ _ => true
  | _ => false
def lastA (ks : List OpK) (m : Nat) : List Nat → Nat
  | [] => 0
  | i :: l => match (ks[i]?).map isFloat, bit m i with
    | some false, true => l.length + 1
    | _, _ => lastA ks m l
def countN (ks : List OpK) : List Nat → Nat
  | [] => 0
  | i :: l => match (ks[i]?).map isN with
    | some true => countN ks l + 1
    | _ => countN ks l
noncomputable def planL (ops : List Oper) (ks : List OpK) (ms : List Nat) : List Nat → List Nat → Option (List PO)
  | [], _ => some []
  | i :: l, rev => match ops[i]?, ks[i]?, planL ops ks ms l (i :: rev) with
    | some o, some k, some r => some (⟨k, o.dst, guardOf ops o.guard, (match k with | .n _ _ => countN ks rev | _ => ops.length - 1 - lastA ks (ms.getD i 0) rev)⟩ :: r)
    | _, _, _ => none
def slotsOf (ops : List Oper) (o : Oper) : List Tmp := (o.op.operands.toList.filterMap fun | .tmp t => some t | _ => none) ++ (match o.guard with | some (g, _) => ((ops[g]?).bind (·.dst)).toList | none => [])
def posOf (i : Nat) : List Nat → Nat
  | [] => 0
  | j :: l => match Nat.beq j i with
    | true => 0
    | false => posOf i l + 1
noncomputable def planOk (ops : List Oper) (ks : List OpK) (ms : List Nat) (π : List Nat) : Bool :=
  let z := ops.zipIdx
  Nat.beq π.length ops.length && π.all (fun i => Nat.ble (i + 1) ops.length) && (List.range ops.length).all (fun i => Nat.ble (posOf i π + 1) π.length) && (π.zipIdx.all fun (i, p) => Nat.beq (posOf i π) p) &&
  -- edges
  (z.all fun (o, j) => o.after.toList.all fun e => !Region.binds .any e || (Nat.ble (e.on + 1) ops.length && Nat.ble (posOf e.on π + 1) (posOf j π))) &&
  -- slots
  (z.all fun (x, i) => match x.dst with
    | none => true
    | some t => z.all fun (y, j) => Nat.beq i j || ((match y.dst with | some u => !Nat.beq t u | none => true) && (!(slotsOf ops y).contains t || bit (ms.getD j 0) i || bit (ms.getD i 0) j))) &&
  -- actors are late
  (z.all fun (_, j) => match (ks[j]?).map isFloat with
    | some true => true
    | _ => (π.take (posOf j π)).all fun i => bit (ms.getD j 0) i)
noncomputable def planOf (P : Program) (nG : Nat) (ops : List Oper) : Option (List PO × Nat) :=
  let ks := kindsL P nG ops
  let ms := masks ops []
  let π := orderG ops.length (ks.map isFloat) ms ops.length 0 0
  match planOk ops ks ms π, planL ops ks ms π [] with
  | true, some l => some (l, countN ks π)
  | _, _ => none
noncomputable def opsF : List PO → Ih → Fr → AH → Rs := List.rec (fun _ fr H => .ok .normal fr H) (fun o l _ => runPO o l)
noncomputable def Ex.k1 (fr : Fr) (H : AH) (k : Fr → AH → Rs) : Ex → Rs := Ex.rec (k fr H) (fun i => .ok (.exit i) fr H) (.ok .ret fr H)
noncomputable def Rs.seq (r : Rs) (k : Fr → AH → Rs) : Rs := Rs.rec (fun tr => .bad tr) (fun e fr H => Ex.k1 fr H k e) (fun v H => .val v H) r
noncomputable def Ex.k2 (fr : Fr) (H : AH) (id : Nat) : Ex → Rs := Ex.rec (.ok .normal fr H) (fun i => Bool.rec (.ok (.exit i) fr H) (.ok .normal fr H) (Nat.beq i id)) (.ok .ret fr H)
noncomputable def Rs.blk (r : Rs) (id : Nat) : Rs := Rs.rec (fun tr => .bad tr) (fun e fr H => Ex.k2 fr H id e) (fun v H => .val v H) r
noncomputable def cSkip (_ : Ih) (fr : Fr) (H : AH) : Rs := .ok .normal fr H
noncomputable def cBad (_ : Ih) (_ : Fr) (_ : AH) : Rs := .bad []
def AH.keep (H : AH) (m : Nat) : AH := ⟨Nat.add H.next m, H.objs⟩
noncomputable def drawn (ih : Ih) (fr : Fr) (H : AH) : Option (List PO × Nat) → Rs := Option.rec (.bad [40]) (Prod.rec fun l m => Bool.rec (.bad [41]) (ih (.dops H.next l []) fr (H.keep m)) (Nat.ble (Nat.add H.next m) 65536))
noncomputable def cRegion (P : Program) (nG : Nat) (_ : Nat) (ops : Array Oper) (draw : Bool) (ih : Ih) (fr : Fr) (H : AH) : Rs :=
  Bool.rec (ih (.ops (prep P nG ops.toList ops.toList)) fr H) (drawn ih fr H (planOf P nG ops.toList)) draw
noncomputable def cSeq (a b : Code) (_ _ : Ih → Fr → AH → Rs) (ih : Ih) (fr : Fr) (H : AH) : Rs := Rs.seq (ih (.code a) fr H) (ih (.code b))
noncomputable def cCond (c : Operand) (a b : Code) (_ _ : Ih → Fr → AH → Rs) (ih : Ih) (fr : Fr) (H : AH) : Rs := vBool (ev c fr) (ih (.code a) fr H) (ih (.code b) fr H) (.bad [7])
noncomputable def cBlock (id : Nat) (b : Code) (_ : Ih → Fr → AH → Rs) (ih : Ih) (fr : Fr) (H : AH) : Rs := Rs.blk (ih (.code b) fr H) id
noncomputable def cLoop (b : Code) (_ : Ih → Fr → AH → Rs) (ih : Ih) (fr : Fr) (H : AH) : Rs := Rs.seq (ih (.code b) fr H) (ih (.code (.loop b)))
noncomputable def cScope (_ : Code) (_ : Ih → Fr → AH → Rs) (_ : Ih) (_ : Fr) (_ : AH) : Rs := .bad [24]
noncomputable def cExit (id : Nat) (_ : Ih) (fr : Fr) (H : AH) : Rs := .ok (.exit id) fr H
noncomputable def cRet (_ : Ih) (fr : Fr) (H : AH) : Rs := .ok .ret fr H
abbrev Known := Nat → Option (List Value → AH → RO)
def slotR : Nat := 255
def aoLoop : Option AO → Bool
  | some (.loop _ _ _ _ _) => true
  | _ => false
noncomputable def aroundOk (fr : Fr) (H : AH) : Bool := match fget slotR fr with
  | .func (.yield l) _ _ => aoLoop (H.get l)
  | .tuple ⟨[]⟩ => true
  | _ => false
def isBody (K : Known) : Value → Bool
  | .func (.func f) _ _ => (K f).isNone
  | _ => false
noncomputable def cRange (K : Known) (f : Operand) (ps : Array Tmp) (a b : Code) (_ _ : Ih → Fr → AH → Rs) (ih : Ih) (fr : Fr) (H : AH) : Rs :=
  match aroundOk fr H && (isBody K (ev f fr) && H.room) with
  | true => match ih (.call (ev f fr) [.func (.yield H.next) #[] #[]]) fr0 (H.new (.loop fr ps.toList a b (some none))) with
    | .val _ H' => match H'.get H.next with
      | some (.loop _ _ _ _ (some none)) => .ok .normal fr (H'.put H.next none)
      | some (.loop _ _ _ _ (some (some (.exit i)))) => .ok (.exit i) fr (H'.put H.next none)
      | some (.loop _ _ _ _ (some (some .ret))) => .ok .ret fr (H'.put H.next none)
      | _ => .bad [8]
    | .bad tr => .bad tr
    | _ => .bad [9]
  | false => .bad [21]
noncomputable def codeF (P : Program) (nG : Nat) (K : Known) : Code → Ih → Fr → AH → Rs := Code.rec
  cSkip (cRegion P nG) cSeq cCond cBlock cLoop (cRange K) cExit cScope (fun _ => cSkip) (fun _ => cBad) cRet (fun _ => cBad)
noncomputable def argsF : Nat → List Value → Fr → Fr := fun k l => List.rec (fun _ fr => fr) (fun v _ ih k fr => ih (Nat.succ k) (fset v k fr)) l k
noncomputable def frOf (l : List Value) : Fr := argsF 0 l fr0
noncomputable def resV (P : Program) (fr : Fr) (H : AH) : List ResultVar → Option (List Value)
  | [] => some []
  | .tmp t :: l => match resV P fr H l with | some r => some (fget t fr :: r) | none => none
  | .cell a t :: l => match ldV (ldT P t) (fget a fr) H, resV P fr H l with | some v, some r => some (v :: r) | _, _ => none
noncomputable def retV (P : Program) (f : Nat) (fn : Func) (r : Rs) : Rs := match r with
  | .ok .normal fr H | .ok .ret fr H => match resV P fr H fn.results.toList with
    | some [v] => .val v H
    | some l => .val (.tuple ⟨l⟩) H
    | none => .bad [10, f]
  | .bad tr => .bad (f :: tr)
  | _ => .bad [11, f]
noncomputable def setPs : List Tmp → List Value → Fr → Fr := fun ps => List.rec (fun _ fr => fr) (fun t _ ih l fr => List.rec fr (fun v l _ => ih l (fset v t fr)) l) ps
noncomputable def endJ (l : Nat) (v : Bool) (j : Option Code) (H : AH) : Rs := match H.get l with
  | some (.loop fr ps a b none) => .val (.bool v) (H.put l (some (.loop fr ps a b (some j))))
  | _ => .bad [22]
noncomputable def endR (l : Nat) (r : Rs) : Rs := match r with
  | .ok .normal _ H => endJ l true none H
  | .ok (.exit i) _ H => endJ l false (some (.exit i)) H
  | .ok .ret _ H => endJ l false (some .ret) H
  | .bad tr => .bad tr
  | _ => .bad [12]
noncomputable def begR (l : Nat) (H : AH) (k : AH → Rs) : Rs := match H.get l with
  | some (.loop fr ps a b (some none)) => k (H.put l (some (.loop fr ps a b none)))
  | _ => .bad [23]
noncomputable def callF (P : Program) (nG : Nat) (K : Known) (f : Value) (args : List Value) (ih : Ih) (H : AH) : Rs := match f with
  | .func (.func f) first cap => match K f with
    | some h => RO.rec (.bad [13, f, .st (appL first.toList (appL args cap.toList)) H]) (fun v H => .val v H) (h (appL first.toList (appL args cap.toList)) H)
    | none => match P.funcs[f]? with
      | some fn => match fn.body with
        | some b => match Nat.ble (lenL (appL first.toList (appL args cap.toList))) fn.ntmps with
          | true => retV P f fn (ih (.code b) (frOf (appL first.toList (appL args cap.toList))) H)
          | false => .bad [25, f]
        | none => .bad [14, f]
      | none => .bad [15, f]
  | .func (.yield l) _ _ => match H.get l with
    | some (.loop fr ps a b (some none)) => match Nat.beq (lenL args) (lenL ps) && Nat.ble nG l with
      | true => endR l (match ih (.code a) (fset (.func (.yield l) #[] #[]) slotR (setPs ps args fr)) H with
        | .ok .normal fr2 H2 => begR l H2 fun H3 => ih (.code b) fr2 H3
        | .bad tr => .bad tr
        | _ => .bad [16])
      | false => .bad [17]
    | _ => .bad [18]
  | _ => .bad [19]
noncomputable def taskF (P : Program) (nG : Nat) (K : Known) : Task → Ih → Fr → AH → Rs := Task.rec (codeF P nG K) opsF dopsF (fun f args ih _ H => callF P nG K f args ih H)
noncomputable def exec (P : Program) (nG : Nat) (K : Known) (n : Nat) : Ih := Nat.rec (fun _ _ _ => .bad [20]) (fun _ ih t => taskF P nG K t ih) n
end Go.Proofs.YtfafhdganloipaaGreatDoor.Eng

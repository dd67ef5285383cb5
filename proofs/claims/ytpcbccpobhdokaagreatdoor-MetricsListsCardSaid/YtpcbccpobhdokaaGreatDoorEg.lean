/- What a run of a function without arguments, on nothing, says in whatever world. -/
import Derived.Test.YtpcbccpobhdokaaGreatDoorEf
import Derived.Lib.Join
import Derived.Laws.IdiomRangeMap
set_option linter.unusedSimpArgs false
set_option linter.unusedVariables false
set_option linter.all false
namespace Go.Proofs.YtpcbccpobhdokaaGreatDoor.Eng
open Go.RowKit
variable {P : Program} {nG : Nat}
def J0 (nG : Nat) : Inj := fun g => if g < nG then some ⟨g, 0, 0, 0⟩ else none
theorem WR.start {w : World} (hn : nG ≤ 65536) (hw : nG ≤ w.heap.size) (hg : GL P w) : WR P nG w.heap.size w (J0 nG) ⟨nG, m8⟩ w where
  glob := fun g hg => if_pos hg
  ids := fun b x h => by
    unfold J0 at h
    split at h
    · assumption
    · cases h
  lt := fun b x h => by
    unfold J0 at h
    split at h
    · obtain rfl := Option.some.inj h; show b < _; omega
    · cases h
  inj := fun b b' x x' h => by
    have : (⟨nG, m8⟩ : AH).get b = none := m8_get b
    rw [this] at h; cases h
  obj := fun b o x h => by
    have : (⟨nG, m8⟩ : AH).get b = none := m8_get b
    rw [this] at h; cases h
  own := fun b x h hb => by
    unfold J0 at h
    rw [if_neg (by omega)] at h; cases h
  sep := ⟨hw, hg⟩
  nx := Nat.le_refl _
  top := hn
  room := Nat.le_refl _
  clean := fun b _ _ => m8_get b
  below := Below.refl _ w
theorem VR.bool_inv {J : Inj} {b : Bool} {v' : Value} (h : VR J (.bool b) v') : v' = .bool b := by cases h; rfl
theorem calls_of_run {f : Nat} {fn : Func} {c : Code} (hf : P.funcs[f]? = some fn) (hb : fn.body = some c) (hnm : (fn.name == "runtime.NumGoroutine") = false) (hn : nG ≤ 65536) {b : Bool} {H : AH}
    (h : CallSem P nG (.func (.func f) #[] #[]) [] ⟨nG, m8⟩ (.bool b) H) (w : World) (hw : nG ≤ w.heap.size) (hg : GL P w) : Calls P f #[] w fun e w' => e = .returned (.bool b) ∧ Below w.heap.size w w' := by
  have hent : (Callee (.func (.func f) #[] #[]) #[]).run P w = .ok (.enter f #[]) w := by
    rw [show (Callee (.func (.func f) #[] #[]) #[]) = callFunc f ⟨[] ++ ([] ++ [])⟩ from callee_func (fs := []) (cs := []) (args := [])]
    exact call_enter hf hb hnm _ w
  rcases h w.heap.size w (J0 nG) w (.func (.func f) #[] #[]) [] (.func f [] [] [] [] .nil .nil) .nil (WR.start hn hw hg) with ⟨g, as, h1, h2⟩ | ⟨l, g, tm, c1, c2, h1, _⟩ | ⟨v, w', h1, _⟩
  · rw [hent] at h1
    obtain ⟨rfl, rfl⟩ : f = g ∧ #[] = as := by
      injection h1 with h1 _; injection h1 with h3 h4; exact ⟨h3, h4⟩
    exact (callsIn_wide.1 h2).mono fun e w' ⟨v, he, J', hv, hwr, _⟩ => ⟨by rw [he, hv.bool_inv], hwr.below⟩
  · rw [hent] at h1; injection h1 with h1 _; cases h1
  · rw [hent] at h1; injection h1 with h1 _; cases h1
end Go.Proofs.YtpcbccpobhdokaaGreatDoor.Eng
namespace Go.Proofs.YtpcbccpobhdokaaGreatDoor.Eng
open Go.RowKit
variable {P : Program} {nG : Nat}
theorem WR.more {base : Nat} {w0 : World} {J : Inj} {H : AH} {w w' : World} (h : WR P nG base w0 J H w) (hb : Below w.heap.size w w') : WR P nG base w0 J H w' :=
  ⟨h.glob, h.ids, fun b x hj => Nat.lt_of_lt_of_le (h.lt b x hj) hb.size, h.inj, fun b o x hg hj => (h.obj b o x hg hj).of_heap (.refl J) (hb.block x.B (h.lt b x hj)), h.own, h.sep, h.nx, h.top, Nat.le_trans h.room hb.size, h.clean, h.below.trans (hb.mono h.room)⟩
theorem Ev.more {N : Nat} {J : Inj} {H : AH} {w w' : World} (hb : Below w.heap.size w w') : Ev N J H w J H w' :=
  ⟨.refl J, fun b x h1 h2 => absurd (h1.symm.trans h2) (by simp), Nat.le_refl _, fun B hB _ => hb.block B hB, fun b x h1 h2 => absurd (h1.symm.trans h2) (by simp), hb.size, fun b _ h => h⟩
def dgF : Nat → Nat → List UInt8
  | 0, _ => []
  | f + 1, u => match Nat.ble 10 u with
    | true => dgF f (Nat.div u 10) ++ [UInt8.ofNat (48 + Nat.mod u 10)]
    | false => [UInt8.ofNat (48 + u)]
theorem dgF_eq : ∀ (f u : Nat), u < 10 ^ (f + 1) → dgF (f + 1) u = Lib.decDigits u
  | 0, u, h => by
    have h1 : u < 10 := by simpa using h
    rw [Lib.decDigits, dif_pos h1]
    unfold dgF
    cases hb : Nat.ble 10 u with
    | true =>
      have := Nat.le_of_ble_eq_true hb
      omega
    | false => rfl
  | f + 1, u, h => by
    unfold dgF
    rw [Lib.decDigits]
    cases hb : Nat.ble 10 u with
    | true =>
      have h1 : 10 ≤ u := Nat.le_of_ble_eq_true hb
      rw [dif_neg (by omega)]
      show dgF (f + 1) (u / 10) ++ [UInt8.ofNat (48 + u % 10)] = _
      rw [dgF_eq f (u / 10) (by rw [Nat.pow_succ] at h; omega)]
    | false =>
      have h1 : ¬ 10 ≤ u := fun h1 => by rw [Nat.ble_eq_true_of_le h1] at hb; cases hb
      rw [dif_pos (by omega)]
noncomputable def kItoa (args : List Value) (H : AH) : RO := match args with
  | [.int .i64 (.ofNat n)] => match Nat.ble n 999999 with
    | true => .ok (.string ⟨⟨dgF 9 n⟩⟩) H
    | false => .bad
  | [.int .i64 (.negSucc n)] => match Nat.ble n 99999 with
    | true => .ok (.string ⟨⟨45 :: dgF 9 (Nat.succ n)⟩⟩) H
    | false => .bad
  | _ => .bad
theorem kItoa_eq {args : List Value} {H H' : AH} {v : Value} (h : kItoa args H = .ok v H') : ∃ n : Int, args = [.int .i64 n] ∧ v = .string ⟨(Lib.itoa n).toArray⟩ ∧ H' = H ∧ -9223372036854775808 ≤ n ∧ n ≤ 9223372036854775807 := by
  unfold kItoa at h
  split at h
  · rename_i n
    split at h
    · rename_i hb
      have hb := Nat.le_of_ble_eq_true hb
      injection h with h1 h2
      refine ⟨(n : Int), rfl, ?_, h2.symm, by omega, by omega⟩
      rw [← h1, dgF_eq 8 n (by omega)]
      unfold Lib.itoa
      rw [if_neg (by omega)]
      rfl
    · cases h
  · rename_i n
    split at h
    · rename_i hb
      have hb := Nat.le_of_ble_eq_true hb
      injection h with h1 h2
      refine ⟨_, rfl, ?_, h2.symm, by omega, by omega⟩
      rw [← h1, dgF_eq 8 (Nat.succ n) (by omega)]
      unfold Lib.itoa
      rw [if_pos (by omega)]
      rfl
    · cases h
  · cases h
theorem tab_below {w0 w : World} {base g : Nat} {name : String} {k : IntKind} {zs : List Int} (h : Lib.TabIs P w0 name k zs) (hg : P.globalNamed name = some g) (hb : Below base w0 w) (hlt : g < base) : Lib.TabIs P w name k zs := by
  unfold Lib.TabIs World.var? at h ⊢
  rw [hg] at h ⊢
  simp only [Option.bind_some] at h ⊢
  rw [hb.block g hlt]
  exact h
theorem known_itoa {f g : Nat} (hg : P.globalNamed "internal/strconv.uint64pow10" = some g) (hn : g < nG) (henter : ∀ as w, (callFunc f as).run P w = .ok (.enter f as) w)
    (hc : ∀ (n : Int), -9223372036854775808 ≤ n → n ≤ 9223372036854775807 → ∀ w : World, GL P w → Calls P f #[.int .i64 n] w fun e w' => e = .returned (.string ⟨(Lib.itoa n).toArray⟩) ∧ Below w.heap.size w w') : KnownOk P nG f kItoa := by
  intro args H v H' hv base w0 J w args' hargs hw
  obtain ⟨n, rfl, rfl, rfl, h1, h2⟩ := kItoa_eq hv
  cases hargs with
  | cons _ x' _ l h3 h => cases h with
    | nil =>
      cases h3
      refine .inl ⟨_, henter _ _, callsIn_wide.2 ((hc n h1 h2 w (tab_below hw.sep.gl hg hw.below (Nat.lt_of_lt_of_le hn hw.sep.le))).mono ?_)⟩
      rintro e w' ⟨rfl, hb⟩
      exact ⟨_, rfl, J, .string _, hw.more hb, Ev.more hb⟩
end Go.Proofs.YtpcbccpobhdokaaGreatDoor.Eng
namespace Go.Proofs.YtpcbccpobhdokaaGreatDoor.Eng
open Go.RowKit
variable {P : Program} {nG : Nat}
def strC (v : Value) (r : Option (List ByteArray)) : Option (List ByteArray) := match v, r with
  | .string s, some l => some (s :: l)
  | _, _ => none
noncomputable def strsOf : List Value → Option (List ByteArray) := List.rec (some []) (fun v _ ih => strC v ih)
theorem strsOf_eq : ∀ {l : List Value} {xs : List ByteArray}, strsOf l = some xs → l = xs.map Value.string
  | [], xs, h => by
    obtain rfl : [] = xs := Option.some.inj h
    rfl
  | v :: l, xs, h => by
    replace h : strC v (strsOf l) = some xs := h
    unfold strC at h
    split at h
    · rename_i s l' hl
      obtain rfl := Option.some.inj h
      rw [strsOf_eq hl]
      rfl
    · cases h
theorem plain_strs (xs : List ByteArray) : plainL (xs.map Value.string) = true := by
  induction xs with
  | nil => rfl
  | cons x l ih =>
    show (plainV (.string x) && plainL (l.map Value.string)) = true
    rw [ih]
    rfl
def joinF (sep : List UInt8) : List (List UInt8) → List UInt8
  | [] => []
  | [x] => x
  | x :: y :: l => x ++ (sep ++ joinF sep (y :: l))
theorem joinF_eq (sep : List UInt8) : ∀ l : List (List UInt8), joinF sep l = Lib.join l sep
  | [] => rfl
  | [x] => (Lib.join_one x sep).symm
  | x :: y :: l => by
    show x ++ (sep ++ joinF sep (y :: l)) = _
    rw [joinF_eq sep (y :: l), Lib.join_cons, Lib.join_cons]
    simp [Lib.joinTail]
noncomputable def kJoin (args : List Value) (H : AH) : RO := match args with
  | [.slice (some ⟨b, o, none⟩) n _, .string sep] => match cellsAt H b o n with
    | some cs => match strsOf cs with
      | some xs => match Nat.ble 1 n && (Nat.ble n 100000 && Nat.ble (lenL (joinF sep.data.toList (xs.map fun x => x.data.toList))) 1000000) with
        | true => .ok (.string ⟨⟨joinF sep.data.toList (xs.map fun x => x.data.toList)⟩⟩) H
        | false => .bad
      | none => .bad
    | none => .bad
  | _ => .bad
theorem known_join {f : Nat} (henter : ∀ as w, (callFunc f as).run P w = .ok (.enter f as) w)
    (hc : ∀ (bk o c : Nat) (xs : List ByteArray) (sep : ByteArray) (w : World), (∀ (j : Nat) x, xs[j]? = some x → w.cell? ⟨bk, o + j, none⟩ = some (.string x)) → bk < w.heap.size → xs.length ≤ 140737488355328 → xs.length ≤ c → (Lib.join (xs.map (·.data.toList)) sep.data.toList).length ≤ 140737488355328 →
      Calls P f #[.slice (some ⟨bk, o, none⟩) xs.length c, .string sep] w fun e w' => e = .returned (.string ⟨(Lib.join (xs.map (·.data.toList)) sep.data.toList).toArray⟩) ∧ Below w.heap.size w w') : KnownOk P nG f kJoin := by
  intro args H v H' hv base w0 J w args' hargs hw
  unfold kJoin at hv
  split at hv
  · rename_i b o n c sep
    split at hv
    · rename_i cs hcs
      split at hv
      · rename_i xs hxs
        split at hv
        · rename_i hbnd
          rw [Bool.and_eq_true, Bool.and_eq_true, Nat.ble_eq, Nat.ble_eq, Nat.ble_eq, lenL_eq, joinF_eq] at hbnd
          injection hv with hv1 hv2
          subst hv1 hv2
          cases hargs with
          | cons _ x1 _ l1 h1 h => cases h with
            | cons _ x2 _ l2 h2 h => cases h with
              | nil =>
                cases h2
                cases h1 with
                | slice _ _ _ _ o' c' x hJ hn ho hcc =>
                  have hlen := (cellsAt_some hcs).choose_spec.choose_spec.2.2.1
                  have hxl : xs.length = n := by rw [← hlen, strsOf_eq hxs, List.length_map]
                  have ho2 : o' = x.d + o := by rcases ho with h | h
                                                · exact h
                                                · omega
                  subst ho2
                  subst hxl
                  refine .inl ⟨_, henter _ _, callsIn_wide.2 ((hc x.B (x.d + o) c' xs sep w ?_ (hw.lt b x hJ) (by omega) hn (by omega)).mono ?_)⟩
                  · intro j y hy
                    obtain ⟨l', g1, _, g3⟩ := hw.read hcs hJ
                    rw [strsOf_eq hxs] at g1
                    have g4 := VRs.plain g1 (plain_strs xs)
                    have := g3 j (.string y) (by rw [g4, List.getElem?_map, hy]; rfl)
                    rwa [show (⟨x.B, x.d + o, none⟩ : Addr).add j = ⟨x.B, x.d + o + j, none⟩ from by simp [Addr.add]] at this
                  · rintro e w' ⟨rfl, hb⟩
                    refine ⟨_, rfl, J, ?_, hw.more hb, Ev.more hb⟩
                    rw [joinF_eq]
                    exact .string _
        · cases hv
      · cases hv
    · cases hv
  · cases hv
end Go.Proofs.YtpcbccpobhdokaaGreatDoor.Eng
namespace Go.Proofs.YtpcbccpobhdokaaGreatDoor.Eng
open Go.RowKit
variable {P : Program} {nG : Nat}
noncomputable def kEmpty (args : List Value) (H : AH) : RO := match args with
  | [m] => match entries m H with
    | some [] => .ok (.tuple ⟨[.slice none 0 0, .slice none 0 0, .bool true]⟩) H
    | _ => .bad
  | _ => .bad
def NoEntries (w : World) (m : Value) : Prop := m = .map none ∨ ∃ B c, m = .map (some B) ∧ w.heap[B]? = some (.map #[] c)
theorem known_empty {f : Nat} (henter : ∀ as w, (callFunc f as).run P w = .ok (.enter f as) w)
    (hc : ∀ (m : Value) (w : World), NoEntries w m → Calls P f #[m] w fun e w' => e = .returned (.tuple #[.slice none 0 0, .slice none 0 0, .bool true]) ∧ Below w.heap.size w w') : KnownOk P nG f kEmpty := by
  intro args H v H' hv base w0 J w args' hargs hw
  unfold kEmpty at hv
  split at hv <;> first | (cases hv; done) | skip
  rename_i m
  split at hv <;> first | (cases hv; done) | skip
  rename_i hes
  obtain ⟨rfl, rfl⟩ : _ ∧ _ := by injection hv with h1 h2; exact ⟨h1, h2⟩
  cases hargs with
  | cons _ x' _ l h3 h => cases h with
    | nil =>
      have hn : NoEntries w x' := by
        rcases entries_some hw hes h3 with ⟨-, hm, -⟩ | ⟨b, x, es', c, -, -, rfl, hB, hme, -⟩
        · exact .inl hm
        · cases es' with
          | mk l =>
            cases hme
            exact .inr ⟨_, c, rfl, hB⟩
      refine .inl ⟨_, henter _ _, callsIn_wide.2 ((hc x' w hn).mono ?_)⟩
      rintro e w' ⟨rfl, hb⟩
      exact ⟨_, rfl, J, .tuple _ _ (.cons _ _ _ _ .snil (.cons _ _ _ _ .snil (.cons _ _ _ _ (.bool true) .nil))), hw.more hb, Ev.more hb⟩
noncomputable def kIdx (P : Program) (args : List Value) (H : AH) : RO := match args with
  | [.string s, .int .u8 n] => match runS P (Extern.BytealgIndexByte.indexByte #[.string s, .int .u8 n]) with
    | some v => .ok v H
    | none => .bad
  | _ => .bad
theorem known_idx {f : Nat} (hrun : ∀ as w, (callFunc f as).run P w = ((Extern.BytealgIndexByte.indexByte as).run P w).andThen fun v w' => .ok (.value v) w') : KnownOk P nG f (kIdx P) := by
  intro args H v H' hv base w0 J w args' hargs hw
  unfold kIdx at hv
  split at hv <;> first | (cases hv; done) | skip
  rename_i s n
  split at hv <;> first | (cases hv; done) | skip
  rename_i u hu
  obtain ⟨rfl, rfl⟩ : _ ∧ _ := by injection hv with h1 h2; exact ⟨h1, h2⟩
  obtain ⟨h1, h2⟩ := runS_some hu
  cases hargs with
  | cons _ x' _ l h3 h => cases h with
    | cons _ y' _ l h4 h => cases h with
      | nil =>
        cases h3
        cases h4
        refine .inr ⟨_, w, ?_, J, VR.of_plain h2, hw, Ev.refl _ _ _ _⟩
        rw [hrun, runP_run h1 w]
        rfl
end Go.Proofs.YtpcbccpobhdokaaGreatDoor.Eng
namespace Go.Proofs.YtpcbccpobhdokaaGreatDoor.Eng
open Go.RowKit
variable {P : Program} {nG : Nat} {K : Known}
def CodeRel (P : Program) (nG : Nat) (c : Code) (fr : Fr) (H : AH) (Φ : Ex → Fr → AH → Prop) : Prop :=
  ∀ ⦃base sz S : Nat⦄ ⦃w0 : World⦄ ⦃r : Option Nat⦄ ⦃J : Inj⦄ ⦃a : Act⦄ ⦃w : World⦄ ⦃Q : Exit → Act → World → Prop⦄, okCode sz nG c = true → St P nG base w0 sz S r J fr H a w → S ≤ w.heap.size →
    (∀ e fr' H' a' w', Φ e fr' H' → After P nG base w0 sz S r H.next J H w fr' H' a' w' → QX Q e a' w') → c.wpIn (FF r) 0 P Q a w
def CallRel (P : Program) (nG : Nat) (f : Value) (args : List Value) (H : AH) (Φ : Value → AH → Prop) : Prop :=
  ∀ (base : Nat) (w0 : World) (J : Inj) (w : World) (f' : Value) (args' : List Value), VR J f f' → VRs J args args' → WR P nG base w0 J H w →
    CallV P f' ⟨args'⟩ w fun v' w' => ∃ v H' J', Φ v H' ∧ VR J' v v' ∧ WR P nG base w0 J' H' w' ∧ Ev H.next J H w J' H' w'
theorem CodeRel.of {c : Code} {fr : Fr} {H : AH} {e : Ex} {fr' : Fr} {H' : AH} {Φ : Ex → Fr → AH → Prop} (h : CodeSem P nG c fr H e fr' H') (hΦ : Φ e fr' H') : CodeRel P nG c fr H Φ :=
  fun _ _ _ _ _ _ _ _ _ hok hst hS hQ => h hok hst hS fun a' w' ha => hQ e fr' H' a' w' hΦ ha
theorem CodeRel.mono {c : Code} {fr : Fr} {H : AH} {Φ Ψ : Ex → Fr → AH → Prop} (h : CodeRel P nG c fr H Φ) (hm : ∀ e f g, Φ e f g → Ψ e f g) : CodeRel P nG c fr H Ψ :=
  fun _ _ _ _ _ _ _ _ _ hok hst hS hQ => h hok hst hS fun e f g a' w' hp ha => hQ e f g a' w' (hm e f g hp) ha
theorem CodeRel.seq {a b : Code} {fr : Fr} {H : AH} {Φ Ψ : Ex → Fr → AH → Prop} (h1 : CodeRel P nG a fr H Φ) (hn : ∀ e f g, Φ e f g → e = .normal) (h2 : ∀ f g, Φ .normal f g → CodeRel P nG b f g Ψ) : CodeRel P nG (.seq a b) fr H Ψ := by
  intro base sz S w0 r J ac w Q hok hst hS hQ
  simp only [okCode, Bool.and_eq_true] at hok
  refine wpIn_seq (h1 hok.1 hst hS fun e f g a1 w1 hp ha => ?_)
  obtain rfl := hn e f g hp
  obtain ⟨J1, k1, k2⟩ := ha
  exact h2 f g hp hok.2 k1 (Nat.le_trans hS k2.size) fun e' f' g' a' w' hq ha' => hQ e' f' g' a' w' hq (After.trans hst.wr.ids k2 ha')
def Less (H1 H : AH) : Prop := H1.next = H.next ∧ ∀ b, b < 65536 → H1.get b = none ∨ H1.get b = H.get b
theorem After.less {base sz S : Nat} {w0 : World} {r : Option Nat} {N : Nat} (hN : N ≤ 65536) {J : Inj} {H : AH} {w : World} {fr' : Fr} {H' H1 : AH} {a' : Act} {w' : World} (hl : Less H1 H') (h : After P nG base w0 sz S r N J H w fr' H' a' w') : After P nG base w0 sz S r N J H w fr' H1 a' w' := by
  obtain ⟨J', hst, hev⟩ := h
  have hget : ∀ b x, J' b = some x → (H1.get b).isSome = true → (H'.get b).isSome = true := fun b x hx hs => by
    have hb : b < 65536 := Nat.lt_of_lt_of_le (hst.wr.ids b x hx) hst.wr.top
    rcases hl.2 b hb with e | e
    · rw [e] at hs; cases hs
    · rwa [e] at hs
  refine ⟨J', ⟨hst.at_, hst.sz, hst.wr.sub hl.1 hl.2, hst.ar, ?_⟩, ?_⟩
  · obtain ⟨rs, p1, p2, p3⟩ := hst.pins
    exact ⟨rs, p1, p2, fun q hq => ⟨(p3 q hq).1, (p3 q hq).2.1, fun b x hs hx => (p3 q hq).2.2 b x (hget b x hx hs) hx⟩⟩
  · exact ⟨hev.ext, hev.fresh, by rw [hl.1]; exact hev.next, hev.frame, hev.newB, hev.size, fun b hb hs => by
      rcases hl.2 b (by omega) with e | e
      · rw [e] at hs; cases hs
      · rw [e] at hs; exact hev.live b hb hs⟩
theorem CodeRel.less {c : Code} {fr : Fr} {H : AH} {Φ Ψ : Ex → Fr → AH → Prop} (h : CodeRel P nG c fr H Φ) (hm : ∀ e f g, Φ e f g → ∃ g1, Less g1 g ∧ Ψ e f g1) : CodeRel P nG c fr H Ψ :=
  fun _ _ _ _ _ _ _ _ _ hok hst hS hQ => h hok hst hS fun e f g a' w' hp ha => by
    obtain ⟨g1, hl, hq⟩ := hm e f g hp
    exact hQ e f g1 a' w' hq (ha.less hst.wr.top hl)
theorem CallRel.sem {f : Value} {args : List Value} {H : AH} {Φ : Value → AH → Prop} {v : Value} {H1 : AH} (h : CallRel P nG f args H Φ) (hm : ∀ v' g, Φ v' g → v' = v ∧ g = H1) : CallSem P nG f args H v H1 := by
  intro base w0 J w f' args' hf ha hw
  have k := h base w0 J w f' args' hf ha hw
  have hi : ∀ v' w', (∃ v H' J', Φ v H' ∧ VR J' v v' ∧ WR P nG base w0 J' H' w' ∧ Ev H.next J H w J' H' w') → ∃ J', VR J' v v' ∧ WR P nG base w0 J' H1 w' ∧ Ev H.next J H w J' H1 w' := by
    rintro v' w' ⟨u, g, J', hp, h1, h2, h3⟩
    obtain ⟨rfl, rfl⟩ := hm u g hp
    exact ⟨J', h1, h2, h3⟩
  rcases k with ⟨g, as, h1, h2⟩ | ⟨l, g, tm, c1, c2, h1, h2⟩ | ⟨v', w', h1, h2⟩
  · exact .inl ⟨g, as, h1, h2.mono fun e w' ⟨v', he, hv⟩ => ⟨v', he, hi v' w' hv⟩⟩
  · exact .inr (.inl ⟨l, g, tm, c1, c2, h1, h2.mono fun e w' ⟨v', he, hv⟩ => ⟨v', he, hi v' w' hv⟩⟩)
  · exact .inr (.inr ⟨v', w', h1, hi v' w' h2⟩)
theorem leaves_mono {fn : Func} {tmps : Array Value} {F : Fence} {n : Nat} {R R' : Ending → World → Prop} : ∀ (rs : List Nat) (w : World), LeavesInM F n P fn tmps R (rs.map markD) .returning w → (∀ e w, R e w → R' e w) → LeavesInM F n P fn tmps R' (rs.map markD) .returning w
  | [], w, h, hR => by
    obtain ⟨v, h1, h2⟩ := h
    exact ⟨v, h1, hR _ _ h2⟩
  | r :: rs, w, h, hR => by
    simp only [List.map_cons, LeavesInM] at h ⊢
    obtain ⟨h0, ⟨r', w', h1, h2, h3⟩ | ⟨_, fv, cap, f, args, h1, _⟩⟩ := h
    · exact ⟨h0, .inl ⟨r', w', h1, h2, leaves_mono rs w' h3 hR⟩⟩
    · cases h1
theorem body_rel {f : Nat} {fn : Func} {b : Code} (hfn : P.funcs[f]? = some fn) (hb : fn.body = some b) (hok : okFunc nG fn = true) {args : List Value} {H : AH} {Φ : Ex → Fr → AH → Prop} {Ψ : Value → AH → Prop} (hle : args.length ≤ fn.ntmps)
    (h : CodeRel P nG b (frOf args) H Φ) (hΦ : ∀ e fr1 H1, Φ e fr1 H1 → (e = .normal ∨ e = .ret) ∧ ∃ vs, resV P fr1 H1 fn.results.toList = some vs ∧ Ψ (resOf vs) H1) : CallRel P nG (.func (.func f) #[] #[]) args H Ψ := by
  unfold okFunc at hok
  rw [hb] at hok
  simp only [Bool.and_eq_true, Nat.ble_eq, Bool.not_eq_true'] at hok
  obtain ⟨⟨ok1, ok2⟩, ok3, ok4⟩ := hok
  intro base w0 J w f' args' hf' hargs hw
  cases hf' with
  | func _ _ _ _ _ h1 h2 =>
    cases h1; cases h2
    have hent : (Callee (.func (.func f) #[] #[]) ⟨args'⟩).run P w = .ok (.enter f ⟨args'⟩) w := by
      rw [show (Callee (.func (.func f) #[] #[]) ⟨args'⟩) = callFunc f ⟨[] ++ (args' ++ [])⟩ from callee_func (fs := []) (cs := []) (args := args')]
      rw [List.nil_append, List.append_nil]
      exact call_enter hfn hb ok3 _ w
    refine .inl ⟨f, ⟨args'⟩, hent, ?_⟩
    refine callsIn_of_wp_marks hfn hb trivial ?_
    have hS : base ≤ w.heap.size := hw.room
    refine h (base := base) (w0 := w0) (S := w.heap.size) (r := none) (J := J) ok4 ⟨⟨hw.glob, FR.of_args hargs hle ok1⟩, ok1, hw, .inl ⟨rfl, ?_⟩, ⟨[], rfl, by simp, by simp⟩⟩ (Nat.le_refl _) fun e fr1 H1 a' w' hp ha => ?_
    · rw [fget_frOf (by omega) (by decide)]
      simp [List.getD, slotR, List.getElem?_eq_none (show args.length ≤ 255 from by omega)]
    · obtain ⟨he, vs, hres, hΨ⟩ := hΦ e fr1 H1 hp
      obtain ⟨J', hst, hev⟩ := ha
      obtain ⟨rs, p1, p2, p3⟩ := hst.pins
      have hl := leaves_sem (fn := fn) hst.at_.fr ok2 hres rfl hS (Nat.le_refl _) rs w' hst.wr hev p2 p3
      have hl2 := leaves_mono (R' := fun e w' => ∃ v, e = .returned v ∧ ∃ v0 H' J', Ψ v0 H' ∧ VR J' v0 v ∧ WR P nG base w0 J' H' w' ∧ Ev H.next J H w J' H' w') rs w' hl (fun e w2 hx => by
        obtain ⟨v', he, J2, k1, k2, k3⟩ := hx
        exact ⟨v', he, _, _, J2, hΨ, k1, k2, k3⟩)
      rw [← p1] at hl2
      rcases he with rfl | rfl <;> exact hl2
end Go.Proofs.YtpcbccpobhdokaaGreatDoor.Eng
namespace Go.Proofs.YtpcbccpobhdokaaGreatDoor.Eng
open Go.RowKit
variable {P : Program} {nG : Nat} {K : Known}
theorem run_next_at (w : World) (ty : TypeId) {it bm since c0 clock : Nat} {seen : Array Nat} {es : Array MapEntry} (hi : w.heap[it]? = some (.mapIter (some bm) since seen c0)) (hb : w.heap[bm]? = some (.map es clock)) (hold : ∀ x ∈ es.toList, x.born < since) (hsc : since ≤ c0) :
    ((leftOf es seen).size = 0 ∧ (Instr.next (.pointer (some ⟨it, 0, none⟩)) false ty).run P w = .ok (.tuple #[.bool false]) w) ∨
    ∃ e ∈ (leftOf es seen).toList, ∃ w1 : World, (w1 = w ∨ w1 = w.drew) ∧ (Instr.next (.pointer (some ⟨it, 0, none⟩)) false ty).run P w = .ok (.tuple #[.bool true, e.key, e.val]) (w1.putObj it (.mapIter (some bm) since (seen.push e.born) clock)) := by
  simp only [Instr.next, getObj, Sem.run_bind, Sem.run, hi, hb, Result.andThen, next_test_false seen es since c0 hold hsc, Bool.false_eq_true, if_false]
  unfold leftOf
  have hmem : ∀ x ∈ (Array.filter (fun e => !seen.contains e.born) es).toList, x.born < since := fun x hx => hold x (by simp at hx ⊢; exact hx.1)
  generalize Array.filter (fun e => !seen.contains e.born) es = L at hmem ⊢
  have e1 : L.filter (fun x => decide (x.born < since)) = L := Array.filter_eq_self.2 (fun x hx => by simpa using hmem x (by simpa using hx))
  have e2 : L.filter (fun x => decide (x.born ≥ since)) = #[] := by
    rw [Array.filter_eq_empty_iff]
    intro x hx
    have := hmem x (by simpa using hx)
    simp
    omega
  simp only [e1, e2, Array.append_empty]
  by_cases h0 : L.size = 0
  · left
    have : L = #[] := Array.eq_empty_of_size_eq_zero h0
    subst this
    refine ⟨rfl, ?_⟩
    simp [choose, Sem.run, Question.forced]
  · right
    have hne : L.isEmpty = false := by simp [Array.isEmpty, h0]
    simp only [hne, Bool.false_eq_true, if_false, Array.empty_append, Array.size_map]
    have hch : ∃ (j : Nat) (w1 : World), j < L.size ∧ (w1 = w ∨ w1 = w.drew) ∧ (choose (Question.mapNext L.size)).run P w = .ok j w1 := by
      by_cases hf : L.size ≤ 1
      · exact ⟨0, w, by omega, .inl rfl, by simp [choose, Sem.run, Question.forced, hf]⟩
      · exact ⟨_, w.drew, Nat.mod_lt _ (by omega), .inr rfl, by
          simp only [choose, Sem.run, Question.forced, decide_eq_true_eq, hf, if_false, Question.cut]
          rfl⟩
    obtain ⟨j, w1, hj, hal, hrun⟩ := hch
    have hi1 : w1.heap[it]? = some (.mapIter (some bm) since seen c0) := by rcases hal with rfl | rfl <;> exact hi
    refine ⟨L[j], by simp, w1, hal, ?_⟩
    have hset : ∀ (o' : Obj), (setObj it o').run P w1 = .ok () (w1.putObj it o') := fun o' => by
      simp only [setObj, Sem.run, hi1]
      rfl
    simp only [hrun, Array.getElem?_map, Array.getElem?_eq_getElem hj, Option.map_some, Sem.run_bind, hset, Result.andThen]
    rfl
theorem run_entry_at (w : World) {it bm since clock : Nat} {seen : Array Nat} {es : Array MapEntry} {e : MapEntry} (hi : w.heap[it]? = some (.mapIter (some bm) since (seen.push e.born) clock)) (hb : w.heap[bm]? = some (.map es clock)) (he : e ∈ es.toList) (hn : (es.toList.map (·.born)).Nodup) :
    (Instr.entry (.pointer (some ⟨it, 0, none⟩))).run P w = .ok (.tuple #[e.key, e.val]) w := by
  have hf : es.find? (·.born == e.born) = some e := by rw [← Array.find?_toList]; exact find_born e es.toList hn he
  simp only [Instr.entry, getObj, Sem.run_bind, Sem.run, hi, hb, Result.andThen, Array.back?_push, bne_self_eq_false, Bool.false_eq_true, if_false, hf]
  rfl
end Go.Proofs.YtpcbccpobhdokaaGreatDoor.Eng
namespace Go.Proofs.YtpcbccpobhdokaaGreatDoor.Eng
open Go.RowKit
variable {P : Program} {nG : Nat} {K : Known}
noncomputable def frAll (fr : Fr) : List Value := List.map (fun t => fget t fr) (List.range 256)
noncomputable def viewC (bs : List Nat) (r : Rs) : Option (Ex × List Value × Nat × List (Option AO)) := match r with
  | .ok e fr H => some (e, frAll fr, H.next, getsL H bs)
  | _ => none
def pad (l : List Value) : List Value := l ++ List.replicate (256 - l.length) undef
theorem frAll_get {fr : Fr} {l : List Value} (hl : l.length ≤ 256) (h : frAll fr = pad l) {t : Nat} (ht : t < 256) : fget t fr = fget t (frOf l) := by
  rw [fget_frOf hl ht]
  have h1 : (frAll fr)[t]? = (pad l)[t]? := by rw [h]
  unfold frAll pad at h1
  rw [List.getElem?_map, List.getElem?_range ht] at h1
  simp only [Option.map_some] at h1
  rw [List.getD_eq_getElem?_getD]
  by_cases hk : t < l.length
  · rw [List.getElem?_append_left hk] at h1
    rw [← h1]; rfl
  · rw [List.getElem?_append_right (by omega)] at h1
    rw [List.getElem?_eq_none (show l.length ≤ t by omega)]
    rw [List.getElem?_replicate] at h1
    split at h1
    · injection h1
    · cases h1
theorem FR.like {J : Inj} {sz : Nat} {fr fr' : Fr} {tmps : Array Value} (h : FR J sz fr tmps) (he : ∀ t, t < 256 → fget t fr = fget t fr') : FR J sz fr' tmps :=
  ⟨h.size, h.le, fun t ht => by rw [← he t (Nat.lt_of_lt_of_le ht h.le)]; exact h.rel t ht⟩
theorem Ar.like {J : Inj} {fr fr' : Fr} {r : Option Nat} (h : Ar J fr r) (he : ∀ t, t < 256 → fget t fr = fget t fr') : Ar J fr' r := by
  unfold Ar at h ⊢
  rwa [← he slotR (by decide)]
theorem St.like {base sz S : Nat} {w0 : World} {r : Option Nat} {J : Inj} {fr fr' : Fr} {H : AH} {a : Act} {w : World} (h : St P nG base w0 sz S r J fr H a w) (he : ∀ t, t < 256 → fget t fr = fget t fr') : St P nG base w0 sz S r J fr' H a w :=
  ⟨⟨h.at_.glob, h.at_.fr.like he⟩, h.sz, h.wr, h.ar.like he, h.pins⟩
theorem After.like {base sz S : Nat} {w0 : World} {r : Option Nat} {N : Nat} {J : Inj} {H : AH} {w : World} {fr' fr2 : Fr} {H' : AH} {a' : Act} {w' : World} (h : After P nG base w0 sz S r N J H w fr' H' a' w') (he : ∀ t, t < 256 → fget t fr' = fget t fr2) : After P nG base w0 sz S r N J H w fr2 H' a' w' := by
  obtain ⟨J', hst, hev⟩ := h
  exact ⟨J', hst.like he, hev⟩
theorem less_mk {H : AH} {li : List (Nat × AO)} {n : Nat} (hn : H.next = n) (hli : ∀ p ∈ li, p.1 < 65536) (h : getsL H (namesL li) = objsL li) : Less (mkH n li) H := by
  refine ⟨by rw [hn]; exact putAll_next li _, fun b hb => ?_⟩
  rcases putAll_get (l := li) ⟨n, m8⟩ hli b hb with ⟨o, h1, h2⟩ | ⟨_, h2⟩
  · right
    show (putAll li ⟨n, m8⟩).get b = _
    rw [h2]; exact (gets_mem h (b, o) h1).symm
  · left
    show (putAll li ⟨n, m8⟩).get b = _
    rw [h2]; exact m8_none n b
theorem CodeRel.view (hyp : Hyp P nG K) {m : Nat} {c : Code} {fr : Fr} {H : AH} {e : Ex} {l : List Value} {n : Nat} {li : List (Nat × AO)} (h : viewC (namesL li) (exec P nG K m (.code c) fr H) = some (e, pad l, n, objsL li)) (hl : Nat.ble l.length 256 = true) (hli : okNames 65536 li = true) :
    CodeRel P nG c fr H (fun e' f g => e' = e ∧ f = frOf l ∧ g = mkH n li) := by
  unfold viewC at h
  split at h
  · rename_i e1 fr1 H1 hx
    injection h with h; injection h with h1 h; injection h with h2 h; injection h with h3 h4
    subst h1
    have hsem := (all_sem hyp m).1 m (Nat.le_refl _) c fr H _ fr1 H1 hx
    intro base sz S w0 r J a w Q hok hst hS hQ
    refine hsem hok hst hS fun a' w' ha => ?_
    exact hQ _ _ _ a' w' ⟨rfl, rfl, rfl⟩ ((ha.like fun t ht => frAll_get (by simpa using hl) h2 ht).less hst.wr.top (less_mk h3 (okNames_lt hli) h4))
  · cases h
def OpsRel (P : Program) (nG : Nat) (ops : Array Oper) (l : List Oper) (fr : Fr) (H : AH) (Φ : Fr → AH → Prop) : Prop :=
  ∀ ⦃base sz S : Nat⦄ ⦃w0 : World⦄ ⦃r : Option Nat⦄ ⦃Q : Exit → Act → World → Prop⦄, l.all (okOper sz nG ops.toList) = true → ∀ ⦃is : List Nat⦄, (is.map fun i => ops[i]?) = l.map some →
    ∀ ⦃J : Inj⦄ ⦃a : Act⦄ ⦃w : World⦄, St P nG base w0 sz S r J fr H a w → (∀ fr' H' a' w', Φ fr' H' → After P nG base w0 sz S r H.next J H w fr' H' a' w' → Q .normal a' w') → wpOpsIn (FF r) 0 P ops Q is a w
theorem OpsRel.nil {ops : Array Oper} {fr : Fr} {H : AH} {Φ : Fr → AH → Prop} (h : Φ fr H) : OpsRel P nG ops [] fr H Φ := by
  intro base sz S w0 r Q _ is his J a w hst hQ
  cases is with
  | nil => exact hQ fr H a w h ⟨J, hst, Ev.refl _ J H w⟩
  | cons i is => cases his
theorem OpsRel.step {ops : Array Oper} {o : Oper} {l : List Oper} {fr : Fr} {H H1 : AH} {v : Value} {Φ : Fr → AH → Prop} (hw : wants (guardOf ops.toList o.guard) fr = true) (hs : AStep P nG fr H v H1 (opT P nG o.op)) (h : OpsRel P nG ops l (putD o.dst v fr) H1 Φ) : OpsRel P nG ops (o :: l) fr H Φ := by
  intro base sz S w0 r Q hok is his J a w hst hQ
  simp only [List.all_cons, Bool.and_eq_true] at hok
  obtain ⟨h1, h2, h3⟩ := okOper_some hok.1
  cases is with
  | nil => cases his
  | cons i is =>
    simp only [List.map_cons, List.cons.injEq] at his
    simp only [wpOpsIn, his.1]
    rw [wanted_eq h3 hst.at_, hw, if_pos rfl]
    refine op_wp h1 hst.at_ hst.wr hs fun J' v' w' hv hw' he => ?_
    exact h hok.2 his.2 ((hst.ev hw' he).put h2 hv) fun f g a2 w2 hp ⟨J2, k1, k2⟩ => hQ f g a2 w2 hp ⟨J2, k1, he.trans hst.wr.ids (k2.weak he.next)⟩
theorem OpsRel.call {ops : Array Oper} {o : Oper} {l : List Oper} {fr : Fr} {H : AH} {c : Call} {f : Operand} {Ψ : Value → AH → Prop} {Φ : Fr → AH → Prop} (hw : wants (guardOf ops.toList o.guard) fr = true) (hc : o.op = .call c) (hcal : c.callee = .value f)
    (hr : CallRel P nG (ev f fr) (c.args.toList.map fun x => ev x fr) H Ψ) (h : ∀ v H1, Ψ v H1 → OpsRel P nG ops l (putD o.dst v fr) H1 Φ) : OpsRel P nG ops (o :: l) fr H Φ := by
  intro base sz S w0 r Q hok is his J a w hst hQ
  simp only [List.all_cons, Bool.and_eq_true] at hok
  obtain ⟨h1, h2, h3⟩ := okOper_some hok.1
  cases is with
  | nil => cases his
  | cons i is =>
    simp only [List.map_cons, List.cons.injEq] at his
    simp only [wpOpsIn, his.1]
    rw [wanted_eq h3 hst.at_, hw, if_pos rfl]
    have hnd : ∀ d, o.op ≠ .defer d := fun d hd => by rw [hc] at hd; cases hd
    have hall : okO sz nG f = true ∧ c.args.toList.all (okO sz nG) = true := by
      rw [hc] at h1
      simpa [Op.operands, Call.operands, hcal] using h1
    have hargs := hst.at_.evs hall.2
    rw [mapL_eq] at hargs
    have e1 : c.args.map a.eval = ⟨c.args.toList.map a.eval⟩ := map_arr rfl _
    have hcall := hr base w0 J w (a.eval f) _ (hst.at_.ev hall.1) hargs hst.wr
    have fin : ∀ v' w', (∃ v H' J', Ψ v H' ∧ VR J' v v' ∧ WR P nG base w0 J' H' w' ∧ Ev H.next J H w J' H' w') → wpOpsIn (FF r) 0 P ops Q is (a.put o.dst v') w' := by
      rintro v' w' ⟨v, H', J', hp, hv, hw', he⟩
      exact h v H' hp hok.2 his.2 ((hst.ev hw' he).put h2 hv) fun f g a2 w2 hp ⟨J2, k1, k2⟩ => hQ f g a2 w2 hp ⟨J2, k1, he.trans hst.wr.ids (k2.weak he.next)⟩
    refine ⟨fun _ _ => trivial, ?_⟩
    rw [Oper.semAt_eq _ _ _ hnd, sem_call hc hcal, e1]
    rcases hcall with ⟨g, as, h1, h2⟩ | ⟨l, g, tm, c1, c2, h1, h2⟩ | ⟨v', w', h1, h2⟩
    · rw [h1]
      refine ⟨fun h => absurd (depth_FF h) (by omega), ?_⟩
      exact CallsIn.mono (F := FF r) h2 (fun e w' ⟨v', he, hv⟩ => by subst he; exact fin v' w' hv)
    · rw [h1]
      refine ⟨fun h => absurd (depth_FF h) (by omega), ?_⟩
      exact RoundIn.mono (F := FF r) h2 (fun e w' ⟨v', he, hv⟩ => by subst he; exact fin v' w' hv)
    · rw [h1]
      exact fin v' w' h2
theorem CodeRel.region {id : Nat} {ops : Array Oper} {fr : Fr} {H : AH} {Φ : Fr → AH → Prop} (h : OpsRel P nG ops ops.toList fr H Φ) : CodeRel P nG (.region id ops false) fr H (fun e f g => e = .normal ∧ Φ f g) := by
  intro base sz S w0 r J a w Q hok hst hS hQ
  refine wpIn_region (h hok ?_ hst fun f g a' w' hp ha => hQ .normal f g a' w' ⟨rfl, hp⟩ ha)
  apply List.ext_getElem?
  intro i
  simp only [List.getElem?_map]
  by_cases hi : i < ops.size
  · rw [List.getElem?_range hi]; simp [hi]
  · rw [List.getElem?_eq_none (by simp; omega), List.getElem?_eq_none (by simp; omega)]; rfl
end Go.Proofs.YtpcbccpobhdokaaGreatDoor.Eng

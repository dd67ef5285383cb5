/- What a run of a function without arguments, on nothing, says in whatever world. -/
import Derived.Test.YthlfhfliidhelaaGreatDoorEf
import Derived.Lib.Join
set_option linter.unusedSimpArgs false
set_option linter.unusedVariables false
set_option linter.all false
namespace Go.Proofs.YthlfhfliidhelaaGreatDoor.Eng
open Go.RowKit
variable {P : Program} {nG : Nat}
def J0 (nG : Nat) : Inj := fun g => if g < nG then some ⟨g, 0, 0, 0⟩ else none
theorem WR.start {w : World} (hn : nG ≤ 262144) (hw : nG ≤ w.heap.size) (hg : GL P w) : WR P nG w.heap.size w (J0 nG) ⟨nG, m8⟩ w where
  glob := fun g hg => if_pos hg
  ids := fun b x h => by
    unfold J0 at h
    split at h
    · assumption
    · cases h
  lt := fun b x h => by
    unfold J0 at h
    split at h
    · obtain rfl := Option.some.inj h; show b < _; omega
    · cases h
  inj := fun b b' x x' h => by
    have : (⟨nG, m8⟩ : AH).get b = none := m8_get b
    rw [this] at h; cases h
  obj := fun b o x h => by
    have : (⟨nG, m8⟩ : AH).get b = none := m8_get b
    rw [this] at h; cases h
  own := fun b x h hb => by
    unfold J0 at h
    rw [if_neg (by omega)] at h; cases h
  sep := ⟨hw, hg⟩
  nx := Nat.le_refl _
  top := hn
  room := Nat.le_refl _
  clean := fun b _ _ => m8_get b
  below := Below.refl _ w
theorem VR.bool_inv {J : Inj} {b : Bool} {v' : Value} (h : VR J (.bool b) v') : v' = .bool b := by cases h; rfl
theorem calls_of_run {f : Nat} {fn : Func} {c : Code} (hf : P.funcs[f]? = some fn) (hb : fn.body = some c) (hnm : (fn.name == "runtime.NumGoroutine") = false) (hn : nG ≤ 262144) {b : Bool} {H : AH}
    (h : CallSem P nG (.func (.func f) #[] #[]) [] ⟨nG, m8⟩ (.bool b) H) (w : World) (hw : nG ≤ w.heap.size) (hg : GL P w) : Calls P f #[] w fun e w' => e = .returned (.bool b) ∧ Below w.heap.size w w' := by
  have hent : (Callee (.func (.func f) #[] #[]) #[]).run P w = .ok (.enter f #[]) w := by
    rw [show (Callee (.func (.func f) #[] #[]) #[]) = callFunc f ⟨[] ++ ([] ++ [])⟩ from callee_func (fs := []) (cs := []) (args := [])]
    exact call_enter hf hb hnm _ w
  rcases h w.heap.size w (J0 nG) w (.func (.func f) #[] #[]) [] (.func f [] [] [] [] .nil .nil) .nil (WR.start hn hw hg) with ⟨g, as, h1, h2⟩ | ⟨l, g, tm, c1, c2, h1, _⟩ | ⟨v, w', h1, _⟩
  · rw [hent] at h1
    obtain ⟨rfl, rfl⟩ : f = g ∧ #[] = as := by
      injection h1 with h1 _; injection h1 with h3 h4; exact ⟨h3, h4⟩
    exact (callsIn_wide.1 h2).mono fun e w' ⟨v, he, J', hv, hwr, _⟩ => ⟨by rw [he, hv.bool_inv], hwr.below⟩
  · rw [hent] at h1; injection h1 with h1 _; cases h1
  · rw [hent] at h1; injection h1 with h1 _; cases h1
end Go.Proofs.YthlfhfliidhelaaGreatDoor.Eng
namespace Go.Proofs.YthlfhfliidhelaaGreatDoor.Eng
open Go.RowKit
variable {P : Program} {nG : Nat}
theorem WR.more {base : Nat} {w0 : World} {J : Inj} {H : AH} {w w' : World} (h : WR P nG base w0 J H w) (hb : Below w.heap.size w w') : WR P nG base w0 J H w' :=
  ⟨h.glob, h.ids, fun b x hj => Nat.lt_of_lt_of_le (h.lt b x hj) hb.size, h.inj, fun b o x hg hj => (h.obj b o x hg hj).of_heap (.refl J) (hb.block x.B (h.lt b x hj)), h.own, h.sep, h.nx, h.top, Nat.le_trans h.room hb.size, h.clean, h.below.trans (hb.mono h.room)⟩
theorem Ev.more {N : Nat} {J : Inj} {H : AH} {w w' : World} (hb : Below w.heap.size w w') : Ev N J H w J H w' :=
  ⟨.refl J, fun b x h1 h2 => absurd (h1.symm.trans h2) (by simp), Nat.le_refl _, fun B hB _ => hb.block B hB, fun b x h1 h2 => absurd (h1.symm.trans h2) (by simp), hb.size, fun b _ h => h⟩
def dgF : Nat → Nat → List UInt8
  | 0, _ => []
  | f + 1, u => match Nat.ble 10 u with
    | true => dgF f (Nat.div u 10) ++ [UInt8.ofNat (48 + Nat.mod u 10)]
    | false => [UInt8.ofNat (48 + u)]
theorem dgF_eq : ∀ (f u : Nat), u < 10 ^ (f + 1) → dgF (f + 1) u = Lib.decDigits u
  | 0, u, h => by
    have h1 : u < 10 := by simpa using h
    rw [Lib.decDigits, dif_pos h1]
    unfold dgF
    cases hb : Nat.ble 10 u with
    | true =>
      have := Nat.le_of_ble_eq_true hb
      omega
    | false => rfl
  | f + 1, u, h => by
    unfold dgF
    rw [Lib.decDigits]
    cases hb : Nat.ble 10 u with
    | true =>
      have h1 : 10 ≤ u := Nat.le_of_ble_eq_true hb
      rw [dif_neg (by omega)]
      show dgF (f + 1) (u / 10) ++ [UInt8.ofNat (48 + u % 10)] = _
      rw [dgF_eq f (u / 10) (by rw [Nat.pow_succ] at h; omega)]
    | false =>
      have h1 : ¬ 10 ≤ u := fun h1 => by rw [Nat.ble_eq_true_of_le h1] at hb; cases hb
      rw [dif_pos (by omega)]
noncomputable def kItoa (args : List Value) (H : AH) : RO := match args with
  | [.int .i64 (.ofNat n)] => match Nat.ble n 999999 with
    | true => .ok (.string ⟨⟨dgF 9 n⟩⟩) H
    | false => .bad
  | [.int .i64 (.negSucc n)] => match Nat.ble n 99999 with
    | true => .ok (.string ⟨⟨45 :: dgF 9 (Nat.succ n)⟩⟩) H
    | false => .bad
  | _ => .bad
theorem kItoa_eq {args : List Value} {H H' : AH} {v : Value} (h : kItoa args H = .ok v H') : ∃ n : Int, args = [.int .i64 n] ∧ v = .string ⟨(Lib.itoa n).toArray⟩ ∧ H' = H ∧ -9223372036854775808 ≤ n ∧ n ≤ 9223372036854775807 := by
  unfold kItoa at h
  split at h
  · rename_i n
    split at h
    · rename_i hb
      have hb := Nat.le_of_ble_eq_true hb
      injection h with h1 h2
      refine ⟨(n : Int), rfl, ?_, h2.symm, by omega, by omega⟩
      rw [← h1, dgF_eq 8 n (by omega)]
      unfold Lib.itoa
      rw [if_neg (by omega)]
      rfl
    · cases h
  · rename_i n
    split at h
    · rename_i hb
      have hb := Nat.le_of_ble_eq_true hb
      injection h with h1 h2
      refine ⟨_, rfl, ?_, h2.symm, by omega, by omega⟩
      rw [← h1, dgF_eq 8 (Nat.succ n) (by omega)]
      unfold Lib.itoa
      rw [if_pos (by omega)]
      rfl
    · cases h
  · cases h
theorem tab_below {w0 w : World} {base g : Nat} {name : String} {k : IntKind} {zs : List Int} (h : Lib.TabIs P w0 name k zs) (hg : P.globalNamed name = some g) (hb : Below base w0 w) (hlt : g < base) : Lib.TabIs P w name k zs := by
  unfold Lib.TabIs World.var? at h ⊢
  rw [hg] at h ⊢
  simp only [Option.bind_some] at h ⊢
  rw [hb.block g hlt]
  exact h
theorem known_itoa {f g : Nat} (hg : P.globalNamed "internal/strconv.uint64pow10" = some g) (hn : g < nG) (henter : ∀ as w, (callFunc f as).run P w = .ok (.enter f as) w)
    (hc : ∀ (n : Int), -9223372036854775808 ≤ n → n ≤ 9223372036854775807 → ∀ w : World, GL P w → Calls P f #[.int .i64 n] w fun e w' => e = .returned (.string ⟨(Lib.itoa n).toArray⟩) ∧ Below w.heap.size w w') : KnownOk P nG f kItoa := by
  intro args H v H' hv base w0 J w args' hargs hw
  obtain ⟨n, rfl, rfl, rfl, h1, h2⟩ := kItoa_eq hv
  cases hargs with
  | cons _ x' _ l h3 h => cases h with
    | nil =>
      cases h3
      refine .inl ⟨_, henter _ _, callsIn_wide.2 ((hc n h1 h2 w (tab_below hw.sep.gl hg hw.below (Nat.lt_of_lt_of_le hn hw.sep.le))).mono ?_)⟩
      rintro e w' ⟨rfl, hb⟩
      exact ⟨_, rfl, J, .string _, hw.more hb, Ev.more hb⟩
end Go.Proofs.YthlfhfliidhelaaGreatDoor.Eng
namespace Go.Proofs.YthlfhfliidhelaaGreatDoor.Eng
open Go.RowKit
variable {P : Program} {nG : Nat}
def strC (v : Value) (r : Option (List ByteArray)) : Option (List ByteArray) := match v, r with
  | .string s, some l => some (s :: l)
  | _, _ => none
noncomputable def strsOf : List Value → Option (List ByteArray) := List.rec (some []) (fun v _ ih => strC v ih)
theorem strsOf_eq : ∀ {l : List Value} {xs : List ByteArray}, strsOf l = some xs → l = xs.map Value.string
  | [], xs, h => by
    obtain rfl : [] = xs := Option.some.inj h
    rfl
  | v :: l, xs, h => by
    replace h : strC v (strsOf l) = some xs := h
    unfold strC at h
    split at h
    · rename_i s l' hl
      obtain rfl := Option.some.inj h
      rw [strsOf_eq hl]
      rfl
    · cases h
theorem plain_strs (xs : List ByteArray) : plainL (xs.map Value.string) = true := by
  induction xs with
  | nil => rfl
  | cons x l ih =>
    show (plainV (.string x) && plainL (l.map Value.string)) = true
    rw [ih]
    rfl
def joinF (sep : List UInt8) : List (List UInt8) → List UInt8
  | [] => []
  | [x] => x
  | x :: y :: l => x ++ (sep ++ joinF sep (y :: l))
theorem joinF_eq (sep : List UInt8) : ∀ l : List (List UInt8), joinF sep l = Lib.join l sep
  | [] => rfl
  | [x] => (Lib.join_one x sep).symm
  | x :: y :: l => by
    show x ++ (sep ++ joinF sep (y :: l)) = _
    rw [joinF_eq sep (y :: l), Lib.join_cons, Lib.join_cons]
    simp [Lib.joinTail]
noncomputable def kJoin (args : List Value) (H : AH) : RO := match args with
  | [.slice (some ⟨b, o, none⟩) n _, .string sep] => match cellsAt H b o n with
    | some cs => match strsOf cs with
      | some xs => match Nat.ble 1 n && (Nat.ble n 100000 && Nat.ble (lenL (joinF sep.data.toList (xs.map fun x => x.data.toList))) 1000000) with
        | true => .ok (.string ⟨⟨joinF sep.data.toList (xs.map fun x => x.data.toList)⟩⟩) H
        | false => .bad
      | none => .bad
    | none => .bad
  | _ => .bad
theorem known_join {f : Nat} (henter : ∀ as w, (callFunc f as).run P w = .ok (.enter f as) w)
    (hc : ∀ (bk o c : Nat) (xs : List ByteArray) (sep : ByteArray) (w : World), (∀ (j : Nat) x, xs[j]? = some x → w.cell? ⟨bk, o + j, none⟩ = some (.string x)) → bk < w.heap.size → xs.length ≤ 140737488355328 → xs.length ≤ c → (Lib.join (xs.map (·.data.toList)) sep.data.toList).length ≤ 140737488355328 →
      Calls P f #[.slice (some ⟨bk, o, none⟩) xs.length c, .string sep] w fun e w' => e = .returned (.string ⟨(Lib.join (xs.map (·.data.toList)) sep.data.toList).toArray⟩) ∧ Below w.heap.size w w') : KnownOk P nG f kJoin := by
  intro args H v H' hv base w0 J w args' hargs hw
  unfold kJoin at hv
  split at hv
  · rename_i b o n c sep
    split at hv
    · rename_i cs hcs
      split at hv
      · rename_i xs hxs
        split at hv
        · rename_i hbnd
          rw [Bool.and_eq_true, Bool.and_eq_true, Nat.ble_eq, Nat.ble_eq, Nat.ble_eq, lenL_eq, joinF_eq] at hbnd
          injection hv with hv1 hv2
          subst hv1 hv2
          cases hargs with
          | cons _ x1 _ l1 h1 h => cases h with
            | cons _ x2 _ l2 h2 h => cases h with
              | nil =>
                cases h2
                cases h1 with
                | slice _ _ _ _ o' c' x hJ hn ho hcc =>
                  have hlen := (cellsAt_some hcs).choose_spec.choose_spec.2.2.1
                  have hxl : xs.length = n := by rw [← hlen, strsOf_eq hxs, List.length_map]
                  have ho2 : o' = x.d + o := by rcases ho with h | h
                                                · exact h
                                                · omega
                  subst ho2
                  subst hxl
                  refine .inl ⟨_, henter _ _, callsIn_wide.2 ((hc x.B (x.d + o) c' xs sep w ?_ (hw.lt b x hJ) (by omega) hn (by omega)).mono ?_)⟩
                  · intro j y hy
                    obtain ⟨l', g1, _, g3⟩ := hw.read hcs hJ
                    rw [strsOf_eq hxs] at g1
                    have g4 := VRs.plain g1 (plain_strs xs)
                    have := g3 j (.string y) (by rw [g4, List.getElem?_map, hy]; rfl)
                    rwa [show (⟨x.B, x.d + o, none⟩ : Addr).add j = ⟨x.B, x.d + o + j, none⟩ from by simp [Addr.add]] at this
                  · rintro e w' ⟨rfl, hb⟩
                    refine ⟨_, rfl, J, ?_, hw.more hb, Ev.more hb⟩
                    rw [joinF_eq]
                    exact .string _
        · cases hv
      · cases hv
    · cases hv
  · cases hv
end Go.Proofs.YthlfhfliidhelaaGreatDoor.Eng
namespace Go.Proofs.YthlfhfliidhelaaGreatDoor.Eng
open Go.RowKit
variable {P : Program} {nG : Nat}
noncomputable def kEmpty (args : List Value) (H : AH) : RO := match args with
  | [m] => match entries m H with
    | some [] => .ok (.tuple ⟨[.slice none 0 0, .slice none 0 0, .bool true]⟩) H
    | _ => .bad
  | _ => .bad
def NoEntries (w : World) (m : Value) : Prop := m = .map none ∨ ∃ B c, m = .map (some B) ∧ w.heap[B]? = some (.map #[] c)
theorem known_empty {f : Nat} (henter : ∀ as w, (callFunc f as).run P w = .ok (.enter f as) w)
    (hc : ∀ (m : Value) (w : World), NoEntries w m → Calls P f #[m] w fun e w' => e = .returned (.tuple #[.slice none 0 0, .slice none 0 0, .bool true]) ∧ Below w.heap.size w w') : KnownOk P nG f kEmpty := by
  intro args H v H' hv base w0 J w args' hargs hw
  unfold kEmpty at hv
  split at hv <;> first | (cases hv; done) | skip
  rename_i m
  split at hv <;> first | (cases hv; done) | skip
  rename_i hes
  obtain ⟨rfl, rfl⟩ : _ ∧ _ := by injection hv with h1 h2; exact ⟨h1, h2⟩
  cases hargs with
  | cons _ x' _ l h3 h => cases h with
    | nil =>
      have hn : NoEntries w x' := by
        rcases entries_some hw hes h3 with ⟨-, hm, -⟩ | ⟨b, x, es', c, -, -, rfl, hB, hme, -⟩
        · exact .inl hm
        · cases es' with
          | mk l =>
            cases hme
            exact .inr ⟨_, c, rfl, hB⟩
      refine .inl ⟨_, henter _ _, callsIn_wide.2 ((hc x' w hn).mono ?_)⟩
      rintro e w' ⟨rfl, hb⟩
      exact ⟨_, rfl, J, .tuple _ _ (.cons _ _ _ _ .snil (.cons _ _ _ _ .snil (.cons _ _ _ _ (.bool true) .nil))), hw.more hb, Ev.more hb⟩
noncomputable def kIdx (P : Program) (args : List Value) (H : AH) : RO := match args with
  | [.string s, .int .u8 n] => match runS P (Extern.BytealgIndexByte.indexByte #[.string s, .int .u8 n]) with
    | some v => .ok v H
    | none => .bad
  | _ => .bad
theorem known_idx {f : Nat} (hrun : ∀ as w, (callFunc f as).run P w = ((Extern.BytealgIndexByte.indexByte as).run P w).andThen fun v w' => .ok (.value v) w') : KnownOk P nG f (kIdx P) := by
  intro args H v H' hv base w0 J w args' hargs hw
  unfold kIdx at hv
  split at hv <;> first | (cases hv; done) | skip
  rename_i s n
  split at hv <;> first | (cases hv; done) | skip
  rename_i u hu
  obtain ⟨rfl, rfl⟩ : _ ∧ _ := by injection hv with h1 h2; exact ⟨h1, h2⟩
  obtain ⟨h1, h2⟩ := runS_some hu
  cases hargs with
  | cons _ x' _ l h3 h => cases h with
    | cons _ y' _ l h4 h => cases h with
      | nil =>
        cases h3
        cases h4
        refine .inr ⟨_, w, ?_, J, VR.of_plain h2, hw, Ev.refl _ _ _ _⟩
        rw [hrun, runP_run h1 w]
        rfl
end Go.Proofs.YthlfhfliidhelaaGreatDoor.Eng
namespace Go.Proofs.YthlfhfliidhelaaGreatDoor.Eng
open Go.RowKit
variable {P : Program} {nG : Nat} {K : Known}
structure Memo.Sem (P : Program) (nG : Nat) (f : Nat) (m : Memo) : Prop where
  sem : ∃ Hx, CallSem P nG (.func (.func f) #[] #[]) m.args (mkH m.nx m.li) m.v Hx ∧ Hx.next = m.nx' ∧ getsL Hx (namesL m.lo) = objsL m.lo
  names : ((okNames m.nx m.li && okNames m.nx' m.lo) && (Nat.ble m.nx m.nx' && Nat.ble m.nx' 262144)) = true
theorem Memo.Ok.toSem (hyp : Hyp P nG K) {f : Nat} {m : Memo} (ok : m.Ok P nG K f) : m.Sem P nG f := by
  obtain ⟨⟨n, hn⟩, hnm⟩ := ok
  unfold view at hn
  split at hn <;> first | (cases hn; done) | skip
  rename_i v Hx hx
  injection hn with hn; injection hn with hv hn; injection hn with hnx hg
  subst hv
  exact ⟨⟨Hx, run_call hyp hx, hnx, hg⟩, hnm⟩
theorem Memo.Sem.sound {f : Nat} {m : Memo} (ok : m.Sem P nG f) {args : List Value} {H : AH} (hf : m.fits args H = true) : CallSem P nG (.func (.func f) #[] #[]) args H m.v (m.out H) := by
  obtain ⟨⟨Hx, hcs, hnx, hg⟩, hnm⟩ := ok
  rw [Bool.and_eq_true, Bool.and_eq_true, Bool.and_eq_true, Nat.ble_eq, Nat.ble_eq] at hnm
  obtain ⟨⟨a1, a2⟩, a3, a4⟩ := hnm
  have hli := okNames_lt a1
  have hlo := okNames_lt a2
  unfold Memo.fits at hf
  cases e1 : Nat.beq H.next m.nx with
  | false => rw [e1] at hf; cases hf
  | true =>
  rw [e1] at hf
  dsimp only at hf
  cases e2 : sameA2 m.args args with
  | false => rw [e2] at hf; cases hf
  | true =>
  rw [e2] at hf
  rw [Nat.beq_eq] at e1
  have e3 := sameA2_eq e2
  subst e3
  have hsh := shows_get hf
  have hgo := gets_mem hg
  intro base w0 J w f' args' hf' hargs hw
  have hmk : ∀ b, b < 262144 → (∃ o, (b, o) ∈ m.li ∧ (mkH m.nx m.li).get b = some o) ∨ ((∀ o, (b, o) ∉ m.li) ∧ (mkH m.nx m.li).get b = none) := fun b hb => by
    rcases putAll_get ⟨m.nx, m8⟩ (fun p hp => by have := hli p hp; omega) b hb with h | ⟨h1, h2⟩
    · exact .inl h
    · exact .inr ⟨h1, by rw [m8_none] at h2; exact h2⟩
  have hmn : (mkH m.nx m.li).next = m.nx := putAll_next _ _
  have hsub : ∀ b, b < 262144 → (mkH m.nx m.li).get b = none ∨ (mkH m.nx m.li).get b = H.get b := fun b hb => by
    rcases hmk b hb with ⟨o, h1, h2⟩ | ⟨_, h2⟩
    · exact .inr (by rw [h2]; exact (hsh _ h1).symm)
    · exact .inl h2
  have hw1 := hw.sub (by rw [hmn, e1]) hsub
  have ho6 : ∀ p ∈ m.lo, p.1 < 262144 := fun p hp => by have := hlo p hp; omega
  have hout : ∀ b, b < 262144 → (∃ o, (b, o) ∈ m.lo ∧ (m.out H).get b = some o ∧ Hx.get b = some o) ∨ ((m.out H).get b = none) ∨ ((∀ o, (b, o) ∉ m.li) ∧ (m.out H).get b = H.get b) := fun b hb => by
    have e : (m.out H).get b = (putAll m.lo (dropAll m.li H)).get b := rfl
    rcases putAll_get (dropAll m.li H) ho6 b hb with ⟨o, h1, h2⟩ | ⟨_, h2⟩
    · exact .inl ⟨o, h1, by rw [e]; exact h2, hgo _ h1⟩
    · rcases dropAll_get H (fun p hp => by have := hli p hp; omega) b hb with ⟨_, h4⟩ | ⟨h3, h4⟩
      · exact .inr (.inl (by rw [e, h2, h4]))
      · exact .inr (.inr ⟨h3, by rw [e, h2, h4]⟩)
  have fin : ∀ (J' : Inj) (w' : World), WR P nG base w0 J' Hx w' → Ev (mkH m.nx m.li).next J (mkH m.nx m.li) w J' Hx w' → WR P nG base w0 J' (m.out H) w' ∧ Ev H.next J H w J' (m.out H) w' := fun J' w' k1 k2 => by
    rw [hmn.trans e1.symm] at k2
    have hlive1 : ∀ b x, J b = some x → ((mkH m.nx m.li).get b).isSome = true → (H.get b).isSome = true := fun b x hx hl => by
      rcases hsub b (hw.small hx) with h | h
      · rw [h] at hl; cases hl
      · rw [← h]; exact hl
    have hold : ∀ b x, J' b = some x → (∀ o, (b, o) ∉ m.li) → (H.get b).isSome = true → b < 262144 → J b = some x ∧ w'.heap[x.B]? = w.heap[x.B]? ∧ ∀ b1 x1, (Hx.get b1).isSome = true → J' b1 = some x1 → x1.B ≠ x.B := fun b x hx hni hl hb => by
      have hlt := hw.bigger hl hb
      have hJ : J b = some x := by
        cases hj : J b with
        | some y => rw [← hx]; exact (k2.ext _ _ hj).symm
        | none => have := k2.fresh b x hj hx; omega
      have hap : ∀ b1 x1, ((mkH m.nx m.li).get b1).isSome = true → J b1 = some x1 → x1.B ≠ x.B := fun b1 x1 hl1 hj1 he => by
        have := hw.inj b1 b x1 x (hlive1 b1 x1 hj1 hl1) hl hj1 hJ he
        subst this
        rcases hmk b1 hb with ⟨o, h1, _⟩ | ⟨_, h2⟩
        · exact hni o h1
        · rw [h2] at hl1; cases hl1
      obtain ⟨q1, q2⟩ := k2.apart hw.ids (hw.lt b x hJ) hap
      exact ⟨hJ, q1, q2⟩
    have hcase : ∀ b x, J' b = some x → ((m.out H).get b).isSome = true → ((Hx.get b).isSome = true ∧ (m.out H).get b = Hx.get b) ∨ ((∀ o, (b, o) ∉ m.li) ∧ (m.out H).get b = H.get b ∧ (H.get b).isSome = true) := fun b x hx hl => by
      rcases hout b (k1.small hx) with ⟨o, _, h2, h3⟩ | h2 | ⟨h2, h3⟩
      · exact .inl ⟨by rw [h3]; rfl, by rw [h2, h3]⟩
      · rw [h2] at hl; cases hl
      · exact .inr ⟨h2, h3, by rw [← h3]; exact hl⟩
    refine ⟨⟨k1.glob, fun b x hx => ?_, k1.lt, ?_, ?_, k1.own, k1.sep, ?_, a4, k1.room, ?_, k1.below⟩, ⟨k2.ext, k2.fresh, ?_, ?_, ?_, k2.size, ?_⟩⟩
    · have := k1.ids b x hx; rw [hnx] at this; exact this
    · intro b b' x x' l l' j j' he
      rcases hcase b x j l with ⟨h1, _⟩ | ⟨h1, _, h2⟩ <;> rcases hcase b' x' j' l' with ⟨h1', _⟩ | ⟨h1', _, h2'⟩
      · exact k1.inj b b' x x' h1 h1' j j' he
      · obtain ⟨_, _, q⟩ := hold b' x' j' h1' h2' (k1.small j')
        exact absurd he (q b x h1 j)
      · obtain ⟨_, _, q⟩ := hold b x j h1 h2 (k1.small j)
        exact absurd he.symm (q b' x' h1' j')
      · obtain ⟨q, _⟩ := hold b x j h1 h2 (k1.small j)
        obtain ⟨q', _⟩ := hold b' x' j' h1' h2' (k1.small j')
        exact hw.inj b b' x x' h2 h2' q q' he
    · intro b o x hg hj
      rcases hcase b x hj (by rw [hg]; rfl) with ⟨_, h2⟩ | ⟨h1, h2, h3⟩
      · exact k1.obj b o x (by rw [← h2]; exact hg) hj
      · obtain ⟨q1, q2, _⟩ := hold b x hj h1 h3 (k1.small hj)
        exact (hw.obj b o x (by rw [← h2]; exact hg) q1).of_heap k2.ext q2
    · have := hw.nx
      show nG ≤ m.nx'
      omega
    · intro b h1 h2
      have h1 : m.nx' ≤ b := h1
      rcases hout b h2 with ⟨o, h3, _, _⟩ | h3 | ⟨_, h3⟩
      · have := hlo _ h3; simp only at this; omega
      · exact h3
      · rw [h3]; exact hw.clean b (by omega) h2
    · show H.next ≤ m.nx'
      omega
    · intro B hB hnt
      exact k2.frame B hB fun b x hl hx => hnt b x (hlive1 b x hx hl) hx
    · intro b x h1 h2
      rcases k2.newB b x h1 h2 with h | ⟨b0, x0, q1, q2, q3⟩
      · exact .inl h
      · exact .inr ⟨b0, x0, hlive1 b0 x0 q2 q1, q2, q3⟩
    · intro b hb hl
      have hb6 : b < 262144 := by omega
      rcases hout b hb6 with ⟨o, _, h2, h3⟩ | h2 | ⟨_, h3⟩
      · have := k2.live b hb (by rw [h3]; rfl)
        rcases hsub b hb6 with h | h
        · rw [h] at this; cases this
        · rw [← h]; exact this
      · rw [h2] at hl; cases hl
      · rw [← h3]; exact hl
  have hc := hcs base w0 J w f' args' hf' hargs hw1
  rcases hc with ⟨g, ar, h1, h2⟩ | ⟨l, g, tm, c1, c2, h1, h2⟩ | ⟨v', w', h1, J', h2, h3, h4⟩
  · exact .inl ⟨g, ar, h1, CallsIn.mono h2 fun e w' ⟨v', he, J', p1, p2, p3⟩ => by
      obtain ⟨q1, q2⟩ := fin J' w' p2 p3
      exact ⟨v', he, J', p1, q1, q2⟩⟩
  · exact .inr (.inl ⟨l, g, tm, c1, c2, h1, RoundIn.mono h2 fun e w' ⟨v', he, J', p1, p2, p3⟩ => by
      obtain ⟨q1, q2⟩ := fin J' w' p2 p3
      exact ⟨v', he, J', p1, q1, q2⟩⟩)
  · obtain ⟨q1, q2⟩ := fin J' w' h3 h4
    exact .inr (.inr ⟨v', w', h1, J', h2, q1, q2⟩)
theorem Hyp.withS {K' : Known} (hyp' : Hyp P nG K') {f : Nat} {ms : List Memo} (ok : ∀ m ∈ ms, m.Sem P nG f) (hf : ∃ fn c, P.funcs[f]? = some fn ∧ fn.body = some c ∧ (fn.name == "runtime.NumGoroutine") = false) : Hyp P nG (Eng.withM K' f ms) where
  mixed := hyp'.mixed
  funcs := fun g fn hg => by
    unfold Eng.withM at hg
    cases h : Nat.beq g f with
    | true => rw [h] at hg; cases hg
    | false => rw [h] at hg; exact hyp'.funcs g fn hg
  known := fun g h hg => by
    unfold Eng.withM at hg
    cases hb : Nat.beq g f with
    | false => rw [hb] at hg; exact hyp'.known g h hg
    | true =>
      rw [hb] at hg
      rw [Nat.beq_eq] at hb
      subst hb
      obtain rfl := Option.some.inj hg
      intro args H v H' hr base w0 J w args' hargs hw
      obtain ⟨m, h1, h2, rfl, rfl⟩ := askM_some hr
      have hc := (ok m h1).sound h2 base w0 J w (.func (.func g) #[] #[]) args' (.func g [] [] [] [] .nil .nil) hargs hw
      obtain ⟨fn, c, b1, b2, b3⟩ := hf
      have e : Callee (.func (.func g) #[] #[]) ⟨args'⟩ = callFunc g ⟨args'⟩ := by
        have := callee_func (f := g) (fs := []) (cs := []) (args := args')
        simpa using this
      unfold CallV at hc
      rw [e] at hc
      have hen := call_enter b1 b2 b3 (⟨args'⟩ : Array Value) w
      rcases hc with ⟨g', ar, q1, q2⟩ | ⟨l, g', tm, c1, c2, q1, q2⟩ | ⟨v', w', q1, q2⟩
      · rw [hen] at q1
        injection q1 with q1 _
        injection q1 with q1 q3
        subst q1 q3
        exact .inl ⟨_, hen, q2⟩
      · rw [hen] at q1
        injection q1 with q1 _
        cases q1
      · rw [hen] at q1
        injection q1 with q1 _
        cases q1
end Go.Proofs.YthlfhfliidhelaaGreatDoor.Eng
namespace Go.Proofs.YthlfhfliidhelaaGreatDoor.Eng
open Go.RowKit
variable {P : Program} {nG : Nat} {K : Known}
structure Memo2 where
  args : List Value
  nx : Nat
  li : List (Nat × AO)
  v : Value
  nx' : Nat
  ch : List (Nat × AO)
def inNames (l : List (Nat × AO)) (b : Nat) : Bool := l.any fun q => Nat.beq q.1 b
def Memo2.full (m : Memo2) : Memo := ⟨m.args, m.nx, m.li, m.v, m.nx', m.ch ++ m.li.filter (fun p => !inNames m.ch p.1)⟩
noncomputable def Memo2.fits (m : Memo2) (args : List Value) (H : AH) : Bool := Bool.rec false (Bool.rec false (shows H m.li) (sameA2 m.args args)) (Nat.beq H.next m.nx)
noncomputable def Memo2.out (m : Memo2) (H : AH) : AH := ⟨m.nx', (putAll m.ch H).objs⟩
theorem inNames_iff {l : List (Nat × AO)} {b : Nat} : inNames l b = true ↔ ∃ o, (b, o) ∈ l := by
  unfold inNames
  rw [List.any_eq_true]
  constructor
  · rintro ⟨⟨c, o⟩, h1, h2⟩
    rw [Nat.beq_eq] at h2
    exact ⟨o, h2 ▸ h1⟩
  · rintro ⟨o, h⟩
    exact ⟨(b, o), h, by rw [Nat.beq_eq]⟩
theorem putAll_congr {X Y : AH} {k : Nat} (hk : k < 262144) : ∀ {l : List (Nat × AO)}, (∀ p ∈ l, p.1 < 262144) → ((∃ o, (k, o) ∈ l) ∨ X.get k = Y.get k) → (putAll l X).get k = (putAll l Y).get k
  | [], _, h => by
    rcases h with ⟨o, h⟩ | h
    · cases h
    · exact h
  | p :: l, hp, h => by
    have e : ∀ Z : AH, (putAll (p :: l) Z).get k = if k = p.1 then some p.2 else (putAll l Z).get k := fun Z => AH.get_put _ _ (hp p (by simp)) hk
    rw [e, e]
    by_cases h1 : k = p.1
    · rw [if_pos h1, if_pos h1]
    · rw [if_neg h1, if_neg h1]
      refine putAll_congr hk (fun q hq => hp q (by simp [hq])) ?_
      rcases h with ⟨o, h⟩ | h
      · rcases List.mem_cons.1 h with h2 | h2
        · exact absurd (by rw [← h2]) h1
        · exact .inl ⟨o, h2⟩
      · exact .inr h
theorem putAll_append (a b : List (Nat × AO)) (H : AH) : putAll (a ++ b) H = putAll a (putAll b H) := by
  induction a with
  | nil => rfl
  | cons p a ih =>
    show (putAll (a ++ b) H).put p.1 (some p.2) = (putAll a (putAll b H)).put p.1 (some p.2)
    rw [ih]
theorem Memo2.out_eq {m : Memo2} {H : AH} (hli : ∀ p ∈ m.li, p.1 < 262144) (hch : ∀ p ∈ m.ch, p.1 < 262144) (hsh : ∀ p ∈ m.li, H.get p.1 = some p.2) (k : Nat) (hk : k < 262144) : (m.out H).get k = (m.full.out H).get k := by
  show (putAll m.ch H).get k = (putAll (m.ch ++ m.li.filter (fun p => !inNames m.ch p.1)) (dropAll m.li H)).get k
  rw [putAll_append]
  refine putAll_congr hk hch ?_
  by_cases hn : inNames m.ch k = true
  · exact .inl (inNames_iff.1 hn)
  · right
    have hn2 : inNames m.ch k = false := by simpa using hn
    rcases putAll_get (l := m.li.filter (fun p => !inNames m.ch p.1)) (dropAll m.li H) (fun p hp => hli p (List.mem_filter.1 hp).1) k hk with ⟨o, h1, h2⟩ | ⟨h1, h2⟩
    · rw [h2]; exact hsh _ (List.mem_filter.1 h1).1
    · rw [h2]
      rcases dropAll_get H hli k hk with ⟨⟨o, h3⟩, _⟩ | ⟨_, h4⟩
      · exact absurd (List.mem_filter.2 ⟨h3, by rw [hn2]; rfl⟩) (h1 o)
      · exact h4.symm
theorem CallSem.congr {f : Value} {args : List Value} {H H1 H2 : AH} {v : Value} (h : CallSem P nG f args H v H1) (hg : ∀ k, k < 262144 → H2.get k = H1.get k) (hn : H2.next = H1.next) : CallSem P nG f args H v H2 := by
  intro base w0 J w f' args' hf' hargs hw
  have fin : ∀ {J' : Inj} {w' : World}, WR P nG base w0 J' H1 w' → Ev H.next J H w J' H1 w' → WR P nG base w0 J' H2 w' ∧ Ev H.next J H w J' H2 w' := fun k1 k2 => ⟨k1.congr hg hn, k2.congr hw.top hg hn⟩
  rcases h base w0 J w f' args' hf' hargs hw with ⟨g, ar, h1, h2⟩ | ⟨l, g, tm, c1, c2, h1, h2⟩ | ⟨v', w', h1, J', h2, h3, h4⟩
  · exact .inl ⟨g, ar, h1, CallsIn.mono h2 fun e w' ⟨v', he, J', p1, p2, p3⟩ => ⟨v', he, J', p1, (fin p2 p3).1, (fin p2 p3).2⟩⟩
  · exact .inr (.inl ⟨l, g, tm, c1, c2, h1, RoundIn.mono h2 fun e w' ⟨v', he, J', p1, p2, p3⟩ => ⟨v', he, J', p1, (fin p2 p3).1, (fin p2 p3).2⟩⟩)
  · exact .inr (.inr ⟨v', w', h1, J', h2, (fin h3 h4).1, (fin h3 h4).2⟩)
theorem Memo2.sound {f : Nat} {m : Memo2} (ok : m.full.Sem P nG f) {args : List Value} {H : AH} (hf : m.fits args H = true) : CallSem P nG (.func (.func f) #[] #[]) args H m.v (m.out H) := by
  have h0 : m.full.fits args H = true := hf
  have hs := ok.sound h0
  obtain ⟨_, hnm⟩ := ok
  rw [Bool.and_eq_true, Bool.and_eq_true, Bool.and_eq_true, Nat.ble_eq, Nat.ble_eq] at hnm
  obtain ⟨⟨a1, a2⟩, a3, a4⟩ := hnm
  have a4 : m.nx' ≤ 262144 := a4
  have a3 : m.nx ≤ m.nx' := a3
  have hli : ∀ p ∈ m.li, p.1 < 262144 := fun p hp => by
    have h : p.1 < m.nx := okNames_lt a1 p hp
    omega
  have hch : ∀ p ∈ m.ch, p.1 < 262144 := fun p hp => by
    have h : p.1 < m.nx' := okNames_lt a2 p (List.mem_append_left _ hp)
    omega
  have hsh : ∀ p ∈ m.li, H.get p.1 = some p.2 := by
    unfold Memo2.fits at hf
    cases e1 : Nat.beq H.next m.nx with
    | false => rw [e1] at hf; cases hf
    | true =>
      rw [e1] at hf
      dsimp only at hf
      cases e2 : sameA2 m.args args with
      | false => rw [e2] at hf; cases hf
      | true =>
        rw [e2] at hf
        exact shows_get hf
  exact hs.congr (fun k hk => m.out_eq hli hch hsh k hk) rfl
noncomputable def askM2 (ms : List Memo2) (args : List Value) (H : AH) : RO := List.rec .bad (fun m _ ih => Bool.rec ih (.ok m.v (m.out H)) (m.fits args H)) ms
theorem askM2_some {args : List Value} {H H' : AH} {v : Value} : ∀ {ms : List Memo2}, askM2 ms args H = .ok v H' → ∃ m ∈ ms, m.fits args H = true ∧ v = m.v ∧ H' = m.out H
  | [], h => by cases h
  | m :: ms, h => by
    replace h : (Bool.rec (askM2 ms args H) (.ok m.v (m.out H)) (m.fits args H) : RO) = .ok v H' := h
    cases hf : m.fits args H with
    | true =>
      rw [hf] at h
      injection h with h1 h2
      exact ⟨m, by simp, hf, h1.symm, h2.symm⟩
    | false =>
      rw [hf] at h
      obtain ⟨m', h1, h2⟩ := askM2_some h
      exact ⟨m', by simp [h1], h2⟩
noncomputable def withM2 (K : Known) (f : Nat) (ms : List Memo2) : Known := fun g => Bool.rec (K g) (some (askM2 ms)) (Nat.beq g f)
theorem Hyp.withM2 {K' : Known} (hyp' : Hyp P nG K') {f : Nat} {ms : List Memo2} (ok : ∀ m ∈ ms, m.full.Sem P nG f) (hf : ∃ fn c, P.funcs[f]? = some fn ∧ fn.body = some c ∧ (fn.name == "runtime.NumGoroutine") = false) : Hyp P nG (Eng.withM2 K' f ms) where
  mixed := hyp'.mixed
  funcs := fun g fn hg => by
    unfold Eng.withM2 at hg
    cases h : Nat.beq g f with
    | true => rw [h] at hg; cases hg
    | false => rw [h] at hg; exact hyp'.funcs g fn hg
  known := fun g h hg => by
    unfold Eng.withM2 at hg
    cases hb : Nat.beq g f with
    | false => rw [hb] at hg; exact hyp'.known g h hg
    | true =>
      rw [hb] at hg
      rw [Nat.beq_eq] at hb
      subst hb
      obtain rfl := Option.some.inj hg
      intro args H v H' hr base w0 J w args' hargs hw
      obtain ⟨m, h1, h2, rfl, rfl⟩ := askM2_some hr
      have hc := Memo2.sound (ok m h1) h2 base w0 J w (.func (.func g) #[] #[]) args' (.func g [] [] [] [] .nil .nil) hargs hw
      obtain ⟨fn, c, b1, b2, b3⟩ := hf
      have e : Callee (.func (.func g) #[] #[]) ⟨args'⟩ = callFunc g ⟨args'⟩ := by
        have := callee_func (f := g) (fs := []) (cs := []) (args := args')
        simpa using this
      unfold CallV at hc
      rw [e] at hc
      have hen := call_enter b1 b2 b3 (⟨args'⟩ : Array Value) w
      rcases hc with ⟨g', ar, q1, q2⟩ | ⟨l, g', tm, c1, c2, q1, q2⟩ | ⟨v', w', q1, q2⟩
      · rw [hen] at q1
        injection q1 with q1 _
        injection q1 with q1 q3
        subst q1 q3
        exact .inl ⟨_, hen, q2⟩
      · rw [hen] at q1
        injection q1 with q1 _
        cases q1
      · rw [hen] at q1
        injection q1 with q1 _
        cases q1
end Go.Proofs.YthlfhfliidhelaaGreatDoor.Eng
namespace Go.Proofs.YthlfhfliidhelaaGreatDoor.Eng
open Go.RowKit
variable {P : Program} {nG : Nat}
noncomputable def kGrow (e s : Nat) (args : List Value) (H : AH) : RO := match args with
  | [.slice none 0 0, .int .i64 (.ofNat n)] => match Nat.beq n 0 with
    | true => .ok (.slice none 0 0) H
    | false => match Nat.ble n 10000 && H.room with
      | true => .ok (.slice (some ⟨H.next, 0, none⟩) 0 (unk s 0)) ((H.put H.next none).new (.cells [] e))
      | false => .bad
  | _ => .bad
theorem known_grow {f e s : Nat} (hinfo : (P.info? e).map (·.size) = some s) (hs : 0 < s) (henter : ∀ as w, (callFunc f as).run P w = .ok (.enter f as) w)
    (h0 : ∀ w, Calls P f #[.slice none 0 0, .int .i64 0] w fun ed w' => ed = .returned (.slice none 0 0) ∧ w' = w)
    (hc : ∀ (n : Nat) (w : World), 1 ≤ n → n ≤ 10000 → Calls P f #[.slice none 0 0, .int .i64 (n : Int)] w fun ed w' => ∃ cs c', ed = .returned (.slice (some ⟨w.heap.size, 0, none⟩) 0 c') ∧ w' = w.drew.alloc (.cells cs e) ∧ c' * s ≤ cs.size) : KnownOk P nG f (kGrow e s) := by
  intro args H v H' hv base w0 J w args' hargs hw
  unfold kGrow at hv
  split at hv <;> first | (cases hv; done) | skip
  rename_i n
  cases hargs with
  | cons _ x' _ l h3 h => cases h with
    | cons _ y' _ l h4 h => cases h with
      | nil =>
        cases h3
        cases h4
        split at hv
        · rename_i hn
          rw [Nat.beq_eq] at hn
          subst hn
          obtain ⟨rfl, rfl⟩ : _ ∧ _ := by injection hv with h1 h2; exact ⟨h1, h2⟩
          refine .inl ⟨_, henter _ _, callsIn_wide.2 ((h0 w).mono ?_)⟩
          rintro ed w' ⟨rfl, rfl⟩
          exact ⟨_, rfl, J, .snil, hw, Ev.refl _ _ _ _⟩
        · rename_i hn
          split at hv <;> first | (cases hv; done) | skip
          rename_i hb
          rw [Bool.and_eq_true, Nat.ble_eq] at hb
          obtain ⟨hb1, hb2⟩ := hb
          unfold AH.room at hb2
          rw [Nat.ble_eq] at hb2
          have hn1 : 1 ≤ n := by
            rcases Nat.eq_zero_or_pos n with h | h
            · subst h; exact absurd hn (by decide)
            · exact h
          obtain ⟨rfl, rfl⟩ : _ ∧ _ := by injection hv with h1 h2; exact ⟨h1, h2⟩
          refine .inl ⟨_, henter _ _, callsIn_wide.2 ((hc n w hn1 hb1).mono ?_)⟩
          rintro ed w' ⟨cs, c', rfl, rfl, hroom⟩
          refine ⟨_, rfl, ?_⟩
          have hbel : Below base w0 (w.drew.alloc (.cells cs e)) := (hw.below.drew).alloc hw.room _
          exact hw.anew (b := H.next) hb2 (by omega) hs (World.alloc_heap_new w.drew _) (fun B hB => Below.heap_alloc w.drew _ B hB) (by simp) hbel hinfo hroom (new := []) (news := []) .nil (fun i v hi => by simp at hi) (Nat.zero_le _) (by decide)
end Go.Proofs.YthlfhfliidhelaaGreatDoor.Eng
namespace Go.Proofs.YthlfhfliidhelaaGreatDoor.Eng
open Go.RowKit
variable {P : Program} {nG : Nat}
def GX (w : World) (g t : Nat) (cs : List Value) : Prop := ∃ fz : Nat × Nat, w.heap[g]? = some (.cells ⟨cs⟩ t fz) ∧ fz.2 ≤ fz.1
theorem WR.start_on {w : World} {g t : Nat} {cs : List Value} (hn : nG ≤ 262144) (hw : nG ≤ w.heap.size) (hgl : GL P w) (hg : g < nG) (hx : GX w g t cs) (hcs : ∀ J, VRs J cs cs) : WR P nG w.heap.size w (J0 nG) (mkH nG [(g, .cells cs t)]) w := by
  have h0 := WR.start (P := P) hn hw hgl
  have e : mkH nG [(g, .cells cs t)] = (⟨nG, m8⟩ : AH).put g (some (.cells cs t)) := rfl
  have jlt : ∀ {b : Nat} {x : Tg}, J0 nG b = some x → b < nG ∧ x = ⟨b, 0, 0, 0⟩ := fun {b x} h => by
    unfold J0 at h
    split at h
    · exact ⟨by assumption, (Option.some.inj h).symm⟩
    · cases h
  rw [e]
  refine ⟨h0.glob, h0.ids, h0.lt, fun b b' x x' _ _ hj hj' hB => ?_, fun b o x hget hj => ?_, h0.own, h0.sep, h0.nx, h0.top, h0.room, fun b hb hb2 => ?_, h0.below⟩
  · obtain ⟨_, rfl⟩ := jlt hj
    obtain ⟨_, rfl⟩ := jlt hj'
    exact hB
  · obtain ⟨hb, rfl⟩ := jlt hj
    rw [AH.get_put _ _ (by omega) (by omega)] at hget
    split at hget
    · rename_i hbg
      subst hbg
      obtain rfl := Option.some.inj hget
      obtain ⟨fz, h1, h2⟩ := hx
      refine ⟨⟨cs⟩, fz, h1, .inl h2, fun i v hi => ?_, fun h => absurd rfl h, rfl⟩
      obtain ⟨v', h3, h4⟩ := (hcs (J0 nG)).get hi
      exact ⟨v', by show (Array.mk cs)[0 + i]? = some v'; rw [Nat.zero_add, List.getElem?_toArray]; exact h3, h4⟩
    · have : (⟨nG, m8⟩ : AH).get b = none := m8_get b
      rw [this] at hget; cases hget
  · rw [AH.get_put _ _ (by omega) hb2, if_neg (by show ¬ b = g; have : nG ≤ b := hb; omega)]
    exact m8_get b
theorem calls_of_run_on {f : Nat} {fn : Func} {c : Code} (hf : P.funcs[f]? = some fn) (hb : fn.body = some c) (hnm : (fn.name == "runtime.NumGoroutine") = false) (hn : nG ≤ 262144) {b : Bool} {H : AH} {g t : Nat} {cs : List Value}
    (h : CallSem P nG (.func (.func f) #[] #[]) [] (mkH nG [(g, .cells cs t)]) (.bool b) H) (hg : g < nG) (hcs : ∀ J, VRs J cs cs) (w : World) (hw : nG ≤ w.heap.size) (hgl : GL P w) (hx : GX w g t cs) : Calls P f #[] w fun e w' => e = .returned (.bool b) ∧ Below w.heap.size w w' := by
  have hent : (Callee (.func (.func f) #[] #[]) #[]).run P w = .ok (.enter f #[]) w := by
    rw [show (Callee (.func (.func f) #[] #[]) #[]) = callFunc f ⟨[] ++ ([] ++ [])⟩ from callee_func (fs := []) (cs := []) (args := [])]
    exact call_enter hf hb hnm _ w
  rcases h w.heap.size w (J0 nG) w (.func (.func f) #[] #[]) [] (.func f [] [] [] [] .nil .nil) .nil (WR.start_on hn hw hgl hg hx hcs) with ⟨g', as', h1, h2⟩ | ⟨l, g', tm, c1, c2, h1, _⟩ | ⟨v, w', h1, _⟩
  · rw [hent] at h1
    obtain ⟨rfl, rfl⟩ : f = g' ∧ #[] = as' := by
      injection h1 with h1 _; injection h1 with h3 h4; exact ⟨h3, h4⟩
    exact (callsIn_wide.1 h2).mono fun e w' ⟨v, he, J', hv, hwr, _⟩ => ⟨by rw [he, hv.bool_inv], hwr.below⟩
  · rw [hent] at h1; injection h1 with h1 _; cases h1
  · rw [hent] at h1; injection h1 with h1 _; cases h1
end Go.Proofs.YthlfhfliidhelaaGreatDoor.Eng

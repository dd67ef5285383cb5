/- What a run of a function without arguments, on nothing, says in whatever world. -/
import Derived.Test.YtfafhdganloipaaGreatDoorEk
import Derived.Lib.Join
namespace Go.Proofs.YtfafhdganloipaaGreatDoor.Eng
open Go.RowKit
variable {P : Program} {nG : Nat}
def J0 (nG : Nat) : Inj := fun g => if g < nG then some ⟨g, 0, 0, 0⟩ else none
theorem WR.start {w : World} (hn : nG ≤ 65536) (hw : nG ≤ w.heap.size) (hg : GL P w) : WR P nG w.heap.size w (J0 nG) ⟨nG, m8⟩ w where
  glob := fun g hg => if_pos hg
  ids := fun b x h => by
    unfold J0 at h
    split at h
    · assumption
    · cases h
  lt := fun b x h => by
    unfold J0 at h
    split at h
    · obtain rfl := Option.some.inj h; show b < _; omega
    · cases h
  inj := fun b b' x x' h => by
    have : (⟨nG, m8⟩ : AH).get b = none := m8_get b
    rw [this] at h; cases h
  obj := fun b o x h => by
    have : (⟨nG, m8⟩ : AH).get b = none := m8_get b
    rw [this] at h; cases h
  own := fun b x h hb => by
    unfold J0 at h
    rw [if_neg (by omega)] at h; cases h
  sep := ⟨hw, hg⟩
  nx := Nat.le_refl _
  top := hn
  room := Nat.le_refl _
  clean := fun b _ _ => m8_get b
  below := Below.refl _ w
theorem VR.bool_inv {J : Inj} {b : Bool} {v' : Value} (h : VR J (.bool b) v') : v' = .bool b := by cases h; rfl
theorem calls_of_run {f : Nat} {fn : Func} {c : Code} (hf : P.funcs[f]? = some fn) (hb : fn.body = some c) (hnm : (fn.name == "runtime.NumGoroutine") = false) (hn : nG ≤ 65536) {b : Bool} {H : AH}
    (h : CallSem P nG (.func (.func f) #[] #[]) [] ⟨nG, m8⟩ (.bool b) H) (w : World) (hw : nG ≤ w.heap.size) (hg : GL P w) : Calls P f #[] w fun e w' => e = .returned (.bool b) ∧ Below w.heap.size w w' := by
  have hent : (Callee (.func (.func f) #[] #[]) #[]).run P w = .ok (.enter f #[]) w := by
    rw [show (Callee (.func (.func f) #[] #[]) #[]) = callFunc f ⟨[] ++ ([] ++ [])⟩ from callee_func (fs := []) (cs := []) (args := [])]
    exact call_enter hf hb hnm _ w
  rcases h w.heap.size w (J0 nG) w (.func (.func f) #[] #[]) [] (.func f [] [] [] [] .nil .nil) .nil (WR.start hn hw hg) with ⟨g, as, h1, h2⟩ | ⟨l, g, tm, c1, c2, h1, _⟩ | ⟨v, w', h1, _⟩
  · rw [hent] at h1
    obtain ⟨rfl, rfl⟩ : f = g ∧ #[] = as := by
      injection h1 with h1 _; injection h1 with h3 h4; exact ⟨h3, h4⟩
    exact (callsIn_wide.1 h2).mono fun e w' ⟨v, he, J', hv, hwr, _⟩ => ⟨by rw [he, hv.bool_inv], hwr.below⟩
  · rw [hent] at h1; injection h1 with h1 _; cases h1
  · rw [hent] at h1; injection h1 with h1 _; cases h1
end Go.Proofs.YtfafhdganloipaaGreatDoor.Eng
namespace Go.Proofs.YtfafhdganloipaaGreatDoor.Eng
open Go.RowKit
variable {P : Program} {nG : Nat}
theorem WR.more {base : Nat} {w0 : World} {J : Inj} {H : AH} {w w' : World} (h : WR P nG base w0 J H w) (hb : Below w.heap.size w w') : WR P nG base w0 J H w' :=
  ⟨h.glob, h.ids, fun b x hj => Nat.lt_of_lt_of_le (h.lt b x hj) hb.size, h.inj, fun b o x hg hj => (h.obj b o x hg hj).of_heap (.refl J) (hb.block x.B (h.lt b x hj)), h.own, h.sep, h.nx, h.top, Nat.le_trans h.room hb.size, h.clean, h.below.trans (hb.mono h.room)⟩
theorem Ev.more {N : Nat} {J : Inj} {H : AH} {w w' : World} (hb : Below w.heap.size w w') : Ev N J H w J H w' :=
  ⟨.refl J, fun b x h1 h2 => absurd (h1.symm.trans h2) (by simp), Nat.le_refl _, fun B hB _ => hb.block B hB, fun b x h1 h2 => absurd (h1.symm.trans h2) (by simp), hb.size, fun b _ h => h⟩
def dgF : Nat → Nat → List UInt8
  | 0, _ => []
  | f + 1, u => match Nat.ble 10 u with
    | true => dgF f (Nat.div u 10) ++ [UInt8.ofNat (48 + Nat.mod u 10)]
    | false => [UInt8.ofNat (48 + u)]
theorem dgF_eq : ∀ (f u : Nat), u < 10 ^ (f + 1) → dgF (f + 1) u = Lib.decDigits u
  | 0, u, h => by
    have h1 : u < 10 := by simpa using h
    rw [Lib.decDigits, dif_pos h1]
    unfold dgF
    cases hb : Nat.ble 10 u with
    | true =>
      have := Nat.le_of_ble_eq_true hb
      omega
    | false => rfl
  | f + 1, u, h => by
    unfold dgF
    rw [Lib.decDigits]
    cases hb : Nat.ble 10 u with
    | true =>
      have h1 : 10 ≤ u := Nat.le_of_ble_eq_true hb
      rw [dif_neg (by omega)]
      show dgF (f + 1) (u / 10) ++ [UInt8.ofNat (48 + u % 10)] = _
      rw [dgF_eq f (u / 10) (by rw [Nat.pow_succ] at h; omega)]
    | false =>
      have h1 : ¬ 10 ≤ u := fun h1 => by rw [Nat.ble_eq_true_of_le h1] at hb; cases hb
      rw [dif_pos (by omega)]
noncomputable def kItoa (args : List Value) (H : AH) : RO := match args with
  | [.int .i64 (.ofNat n)] => match Nat.ble n 999999 with
    | true => .ok (.string ⟨⟨dgF 9 n⟩⟩) H
    | false => .bad
  | [.int .i64 (.negSucc n)] => match Nat.ble n 99999 with
    | true => .ok (.string ⟨⟨45 :: dgF 9 (Nat.succ n)⟩⟩) H
    | false => .bad
  | _ => .bad
theorem kItoa_eq {args : List Value} {H H' : AH} {v : Value} (h : kItoa args H = .ok v H') : ∃ n : Int, args = [.int .i64 n] ∧ v = .string ⟨(Lib.itoa n).toArray⟩ ∧ H' = H ∧ -9223372036854775808 ≤ n ∧ n ≤ 9223372036854775807 := by
  unfold kItoa at h
  split at h
  · rename_i n
    split at h
    · rename_i hb
      have hb := Nat.le_of_ble_eq_true hb
      injection h with h1 h2
      refine ⟨(n : Int), rfl, ?_, h2.symm, by omega, by omega⟩
      rw [← h1, dgF_eq 8 n (by omega)]
      unfold Lib.itoa
      rw [if_neg (by omega)]
      rfl
    · cases h
  · rename_i n
    split at h
    · rename_i hb
      have hb := Nat.le_of_ble_eq_true hb
      injection h with h1 h2
      refine ⟨_, rfl, ?_, h2.symm, by omega, by omega⟩
      rw [← h1, dgF_eq 8 (Nat.succ n) (by omega)]
      unfold Lib.itoa
      rw [if_pos (by omega)]
      rfl
    · cases h
  · cases h
theorem tab_below {w0 w : World} {base g : Nat} {name : String} {k : IntKind} {zs : List Int} (h : Lib.TabIs P w0 name k zs) (hg : P.globalNamed name = some g) (hb : Below base w0 w) (hlt : g < base) : Lib.TabIs P w name k zs := by
  unfold Lib.TabIs World.var? at h ⊢
  rw [hg] at h ⊢
  simp only [Option.bind_some] at h ⊢
  rw [hb.block g hlt]
  exact h
theorem known_itoa {f g : Nat} (hg : P.globalNamed "internal/strconv.uint64pow10" = some g) (hn : g < nG) (henter : ∀ as w, (callFunc f as).run P w = .ok (.enter f as) w)
    (hc : ∀ (n : Int), -9223372036854775808 ≤ n → n ≤ 9223372036854775807 → ∀ w : World, GL P w → Calls P f #[.int .i64 n] w fun e w' => e = .returned (.string ⟨(Lib.itoa n).toArray⟩) ∧ Below w.heap.size w w') : KnownOk P nG f kItoa := by
  intro args H v H' hv base w0 J w args' hargs hw
  obtain ⟨n, rfl, rfl, rfl, h1, h2⟩ := kItoa_eq hv
  cases hargs with
  | cons _ x' _ l h3 h => cases h with
    | nil =>
      cases h3
      refine .inl ⟨_, henter _ _, callsIn_wide.2 ((hc n h1 h2 w (tab_below hw.sep.gl hg hw.below (Nat.lt_of_lt_of_le hn hw.sep.le))).mono ?_)⟩
      rintro e w' ⟨rfl, hb⟩
      exact ⟨_, rfl, J, .string _, hw.more hb, Ev.more hb⟩
end Go.Proofs.YtfafhdganloipaaGreatDoor.Eng
namespace Go.Proofs.YtfafhdganloipaaGreatDoor.Eng
open Go.RowKit
variable {P : Program} {nG : Nat}
def strC (v : Value) (r : Option (List ByteArray)) : Option (List ByteArray) := match v, r with
  | .string s, some l => some (s :: l)
  | _, _ => none
noncomputable def strsOf : List Value → Option (List ByteArray) := List.rec (some []) (fun v _ ih => strC v ih)
theorem strsOf_eq : ∀ {l : List Value} {xs : List ByteArray}, strsOf l = some xs → l = xs.map Value.string
  | [], xs, h => by
    obtain rfl : [] = xs := Option.some.inj h
    rfl
  | v :: l, xs, h => by
    replace h : strC v (strsOf l) = some xs := h
    unfold strC at h
    split at h
    · rename_i s l' hl
      obtain rfl := Option.some.inj h
      rw [strsOf_eq hl]
      rfl
    · cases h
theorem plain_strs (xs : List ByteArray) : plainL (xs.map Value.string) = true := by
  induction xs with
  | nil => rfl
  | cons x l ih =>
    show (plainV (.string x) && plainL (l.map Value.string)) = true
    rw [ih]
    rfl
def joinF (sep : List UInt8) : List (List UInt8) → List UInt8
  | [] => []
  | [x] => x
  | x :: y :: l => x ++ (sep ++ joinF sep (y :: l))
theorem joinF_eq (sep : List UInt8) : ∀ l : List (List UInt8), joinF sep l = Lib.join l sep
  | [] => rfl
  | [x] => (Lib.join_one x sep).symm
  | x :: y :: l => by
    show x ++ (sep ++ joinF sep (y :: l)) = _
    rw [joinF_eq sep (y :: l), Lib.join_cons, Lib.join_cons]
    simp [Lib.joinTail]
noncomputable def kJoin (args : List Value) (H : AH) : RO := match args with
  | [.slice (some ⟨b, o, none⟩) n _, .string sep] => match cellsAt H b o n with
    | some cs => match strsOf cs with
      | some xs => match Nat.ble 1 n && (Nat.ble n 100000 && Nat.ble (lenL (joinF sep.data.toList (xs.map fun x => x.data.toList))) 1000000) with
        | true => .ok (.string ⟨⟨joinF sep.data.toList (xs.map fun x => x.data.toList)⟩⟩) H
        | false => .bad
      | none => .bad
    | none => .bad
  | _ => .bad
theorem known_join {f : Nat} (henter : ∀ as w, (callFunc f as).run P w = .ok (.enter f as) w)
    (hc : ∀ (bk o c : Nat) (xs : List ByteArray) (sep : ByteArray) (w : World), (∀ (j : Nat) x, xs[j]? = some x → w.cell? ⟨bk, o + j, none⟩ = some (.string x)) → bk < w.heap.size → xs.length ≤ 140737488355328 → xs.length ≤ c → (Lib.join (xs.map (·.data.toList)) sep.data.toList).length ≤ 140737488355328 →
      Calls P f #[.slice (some ⟨bk, o, none⟩) xs.length c, .string sep] w fun e w' => e = .returned (.string ⟨(Lib.join (xs.map (·.data.toList)) sep.data.toList).toArray⟩) ∧ Below w.heap.size w w') : KnownOk P nG f kJoin := by
  intro args H v H' hv base w0 J w args' hargs hw
  unfold kJoin at hv
  split at hv
  · rename_i b o n c sep
    split at hv
    · rename_i cs hcs
      split at hv
      · rename_i xs hxs
        split at hv
        · rename_i hbnd
          rw [Bool.and_eq_true, Bool.and_eq_true, Nat.ble_eq, Nat.ble_eq, Nat.ble_eq, lenL_eq, joinF_eq] at hbnd
          injection hv with hv1 hv2
          subst hv1 hv2
          cases hargs with
          | cons _ x1 _ l1 h1 h => cases h with
            | cons _ x2 _ l2 h2 h => cases h with
              | nil =>
                cases h2
                cases h1 with
                | slice _ _ _ _ o' c' x hJ hn ho hcc =>
                  have hlen := (cellsAt_some hcs).choose_spec.choose_spec.2.2.1
                  have hxl : xs.length = n := by rw [← hlen, strsOf_eq hxs, List.length_map]
                  have ho2 : o' = x.d + o := by rcases ho with h | h
                                                · exact h
                                                · omega
                  subst ho2
                  subst hxl
                  refine .inl ⟨_, henter _ _, callsIn_wide.2 ((hc x.B (x.d + o) c' xs sep w ?_ (hw.lt b x hJ) (by omega) hn (by omega)).mono ?_)⟩
                  · intro j y hy
                    obtain ⟨l', g1, _, g3⟩ := hw.read hcs hJ
                    rw [strsOf_eq hxs] at g1
                    have g4 := VRs.plain g1 (plain_strs xs)
                    have := g3 j (.string y) (by rw [g4, List.getElem?_map, hy]; rfl)
                    rwa [show (⟨x.B, x.d + o, none⟩ : Addr).add j = ⟨x.B, x.d + o + j, none⟩ from by simp [Addr.add]] at this
                  · rintro e w' ⟨rfl, hb⟩
                    refine ⟨_, rfl, J, ?_, hw.more hb, Ev.more hb⟩
                    rw [joinF_eq]
                    exact .string _
        · cases hv
      · cases hv
    · cases hv
  · cases hv
end Go.Proofs.YtfafhdganloipaaGreatDoor.Eng

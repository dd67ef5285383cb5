/- What an operation of the table does depends on what its operands are, and on nothing else of the frame. -/
import Derived.Test.YthlfhfliidhelaaGreatDoorEd
import Derived.LoopNIn
set_option linter.unusedSimpArgs false
set_option linter.unusedVariables false
set_option linter.all false
namespace Go.Proofs.YthlfhfliidhelaaGreatDoor.Eng
open Go.RowKit
variable {P : Program} {nG : Nat}
def Cong (xs : List Operand) : OpK → Prop
  | .bad => True
  | .q f => ∀ fr fr' : Fr, (∀ x ∈ xs, ev x fr = ev x fr') → f fr = f fr'
  | .r f => ∀ fr fr' : Fr, (∀ x ∈ xs, ev x fr = ev x fr') → f fr = f fr'
  | .n f _ => ∀ fr fr' : Fr, (∀ x ∈ xs, ev x fr = ev x fr') → f fr = f fr'
  | .a f => ∀ fr fr' : Fr, (∀ x ∈ xs, ev x fr = ev x fr') → f fr = f fr'
  | .call f args => f ∈ xs ∧ ∀ x ∈ args, x ∈ xs
theorem mapL_congr {xs : List Operand} {fr fr' : Fr} (l : List Operand) (hl : ∀ x ∈ l, x ∈ xs) (h : ∀ x ∈ xs, ev x fr = ev x fr') : mapL (fun x => ev x fr) l = mapL (fun x => ev x fr') l := by
  rw [mapL_eq, mapL_eq]
  exact List.map_congr_left fun x hx => h x (hl x hx)
theorem parts_congr {xs : List Operand} {fr fr' : Fr} (ps : Array (Nat × Operand)) (hl : ∀ p ∈ ps.toList, p.2 ∈ xs) (h : ∀ x ∈ xs, ev x fr = ev x fr') : partsV ps fr = partsV ps fr' := by
  unfold partsV
  rw [mapL_eq, mapL_eq]
  exact List.map_congr_left fun p hp => by rw [h p.2 (hl p hp)]
theorem opt_congr {xs : List Operand} {fr fr' : Fr} (o : Option Operand) (hl : ∀ x, o = some x → x ∈ xs) (h : ∀ x ∈ xs, ev x fr = ev x fr') : (o.map fun x => ev x fr) = (o.map fun x => ev x fr') := by
  cases o with
  | none => rfl
  | some x => simp [h x (hl x rfl)]
theorem cong_bin {op : BinOp} {t u : TypeId} {x y : Operand} : Cong [x, y] (kBin P op t x y u) := by
  have hb : ∀ fr fr' : Fr, (∀ z ∈ [x, y], ev z fr = ev z fr') → binF P op t x y fr = binF P op t x y fr' := fun fr fr' h => by
    unfold binF; rw [h x (by simp), h y (by simp)]
  unfold kBin kBinO
  cases fastOp op with
  | none => exact hb
  | some f =>
    show ∀ fr fr' : Fr, _
    intro fr fr' h
    unfold int2 int2a int2b
    rw [h x (by simp), h y (by simp), hb fr fr' h]
theorem cong_conv {src dst : TypeId} {x : Operand} : Cong [x] (kConv P src dst x) := by
  unfold kConv
  generalize P.underlying src = d1
  generalize P.underlying dst = d2
  split
  · intro fr fr' h; unfold convF; rw [h x (by simp)]
  · split
    · intro fr fr' h; funext H; dsimp only; rw [h x (by simp)]
    · trivial
  · split
    · split
      · intro fr fr' h; funext H; unfold s2bF; rw [h x (by simp)]
      · trivial
    · trivial
  · split
    · split
      · intro fr fr' h; funext H; unfold toUF; rw [h x (by simp)]
      · trivial
    · trivial
  · split
    · split
      · intro fr fr' h; funext H; unfold fromUF; rw [h x (by simp)]
      · trivial
    · trivial
  · intro fr fr' h; show (match plainV (ev x fr) with | true => runS P (convert src dst (ev x fr)) | false => none) = (match plainV (ev x fr') with | true => runS P (convert src dst (ev x fr')) | false => none); rw [h x (by simp)]
theorem cong_builtin {xs : List Operand} {b : Builtin} {ts : List TypeId} {args : List Operand} (hx : ∀ x ∈ args, x ∈ xs) : Cong xs (kBuiltin P nG b ts args) := by
  unfold kBuiltin
  split
  · intro fr fr' h; dsimp only; rw [h _ (hx _ (by simp))]
  · split
    · rename_i s x _ e size he
      intro fr fr' h; funext H; dsimp only; rw [h s (hx _ (by simp)), h x (hx _ (by simp))]
    · trivial
  · split
    · rename_i s x _ e size he
      intro fr fr' h; funext H; dsimp only; rw [h s (hx _ (by simp)), h x (hx _ (by simp))]
    · trivial
  · rename_i x y; intro fr fr' h; unfold maxF; rw [h x (hx _ (by simp)), h y (hx _ (by simp))]
  · rename_i x y; intro fr fr' h; unfold minF; rw [h x (hx _ (by simp)), h y (hx _ (by simp))]
  · rename_i x; intro fr fr' h; funext H; unfold clearF; rw [h x (hx _ (by simp))]
  · rename_i x; intro fr fr' h; unfold sdF; rw [h x (hx _ (by simp))]
  · rename_i p n
    split
    · intro fr fr' h; funext H; dsimp only; rw [h p (hx _ (by simp)), h n (hx _ (by simp))]
    · trivial
  · trivial
theorem cong_call {c : Call} : Cong c.operands.toList (kCall P nG c) := by
  unfold kCall
  split
  · rename_i f hf
    refine ⟨by simp [Call.operands, hf], fun x hx => ?_⟩
    have : x ∈ c.args := by simpa using hx
    simp [Call.operands, hf, this]
  · rename_i b hb
    refine cong_builtin fun x hx => ?_
    have : x ∈ c.args := by simpa using hx
    simp [Call.operands, hb, this]
  · trivial
theorem op_cong (o : Op) : Cong o.operands.toList (opT P nG o) := by
  cases o
  case move x => intro fr fr' h; show some _ = some _; rw [h x (by simp [Op.operands])]
  case assign x => intro fr fr' h; show some _ = some _; rw [h x (by simp [Op.operands])]
  case pick c x y => intro fr fr' h; show pickF c x y fr = pickF c x y fr'; unfold pickF; rw [h c (by simp [Op.operands]), h x (by simp [Op.operands]), h y (by simp [Op.operands])]
  case alloc t => intro fr fr' h; rfl
  case box t x => intro fr fr' h; show some _ = some _; rw [h x (by simp [Op.operands])]
  case build t ps => intro fr fr' h; show buildV P t (partsV ps fr) = buildV P t (partsV ps fr'); rw [parts_congr ps (fun p hp => by simp [Op.operands]; exact ⟨p.1, by simpa using hp⟩) h]
  case buildSlice t len ps => intro fr fr' h; show rowCells P t len (partsV ps fr) = rowCells P t len (partsV ps fr'); rw [parts_congr ps (fun p hp => by simp [Op.operands]; exact ⟨p.1, by simpa using hp⟩) h]
  case insert t m k x => intro fr fr' h; show insF P nG t m k x fr = insF P nG t m k x fr'; funext H; unfold insF; rw [h m (by simp [Op.operands]), h k (by simp [Op.operands]), h x (by simp [Op.operands])]
  case load t x => intro fr fr' h; show ldF (ldT P t) x fr = ldF (ldT P t) x fr'; funext H; unfold ldF; rw [h x (by simp [Op.operands])]
  case store t x y => intro fr fr' h; show stF P nG t x y fr = stF P nG t x y fr'; funext H; unfold stF; rw [h x (by simp [Op.operands]), h y (by simp [Op.operands])]
  case nilCheck x => intro fr fr' h; show nilF x fr = nilF x fr'; unfold nilF; rw [h x (by simp [Op.operands])]
  case binOp op t x y u => exact cong_bin (u := u)
  case unOp op t x => intro fr fr' h; show unF P op x fr = unF P op x fr'; unfold unF; rw [h x (by simp [Op.operands])]
  case convert src dst x => exact cong_conv
  case makeInterface t x =>
    show Cong _ (kIface P t x)
    unfold kIface
    split
    · trivial
    · intro fr fr' h; unfold ifF; rw [h x (by simp [Op.operands])]
    · trivial
  case makeFunc fn first captured =>
    show Cong _ (kFunc fn first captured)
    unfold kFunc
    split
    · intro fr fr' h; unfold funF
      rw [mapL_congr first.toList (fun x hx => by simp [Op.operands]; exact .inl (by simpa using hx)) h, mapL_congr captured.toList (fun x hx => by simp [Op.operands]; exact .inr (by simpa using hx)) h]
    · trivial
  case makeMap t r =>
    show Cong _ (kMap P t r)
    unfold kMap
    split
    · intro fr fr' h; rfl
    · split
      · intro fr fr' h; rfl
      · trivial
    · trivial
  case makeSlice t l c =>
    show Cong _ (kMakeSlice P t l c)
    unfold kMakeSlice
    split
    · intro fr fr' h; show makeSl P t (ev l fr) (ev c fr) = makeSl P t (ev l fr') (ev c fr'); rw [h l (by simp [Op.operands]), h c (by simp [Op.operands])]
    · intro fr fr' h; show makeF P t l c fr = makeF P t l c fr'; funext H; unfold makeF; rw [h l (by simp [Op.operands]), h c (by simp [Op.operands])]
  case slice t x lo hi mx =>
    intro fr fr' h
    show sliceV P t (ev x fr) (lo.map fun x => ev x fr) (hi.map fun x => ev x fr) (mx.map fun x => ev x fr) = sliceV P t (ev x fr') (lo.map fun x => ev x fr') (hi.map fun x => ev x fr') (mx.map fun x => ev x fr')
    rw [h x (by simp [Op.operands]), opt_congr lo (fun z hz => by simp [Op.operands, hz]) h, opt_congr hi (fun z hz => by simp [Op.operands, hz]) h, opt_congr mx (fun z hz => by simp [Op.operands, hz]) h]
  case fieldAddr s x i =>
    show Cong _ (kField P s x i)
    unfold kField kFieldO
    cases fieldV P s i with
    | none => trivial
    | some d => intro fr fr' h; unfold offF; rw [h x (by simp [Op.operands])]
  case field s x i => intro fr fr' h; show fldV P s (ev x fr) i = fldV P s (ev x fr') i; rw [h x (by simp [Op.operands])]
  case indexAddr t x i =>
    show Cong _ (kIx x i (ixT P t))
    unfold kIx
    cases ixT P t with
    | bad => trivial
    | arr n s => intro fr fr' h; unfold ixA; rw [h x (by simp [Op.operands]), h i (by simp [Op.operands])]
    | sl s => intro fr fr' h; unfold ixS; rw [h x (by simp [Op.operands]), h i (by simp [Op.operands])]
  case index t x i => intro fr fr' h; show indexV P t (ev x fr) (ev i fr) = indexV P t (ev x fr') (ev i fr'); rw [h x (by simp [Op.operands]), h i (by simp [Op.operands])]
  case lookup t m k ok => intro fr fr' h; show (fun H => lookV P t (ev m fr) (ev k fr) ok H) = (fun H => lookV P t (ev m fr') (ev k fr') ok H); rw [h m (by simp [Op.operands]), h k (by simp [Op.operands])]
  case mapUpdate t m k x => intro fr fr' h; show insF P nG t m k x fr = insF P nG t m k x fr'; funext H; unfold insF; rw [h m (by simp [Op.operands]), h k (by simp [Op.operands]), h x (by simp [Op.operands])]
  case typeAssert x s t ok =>
    show Cong _ (kAssert P x s t ok)
    unfold kAssert
    split
    · trivial
    · intro fr fr' h; show asV P t ok (ev x fr) = asV P t ok (ev x fr'); rw [h x (by simp [Op.operands])]
    · trivial
  case extract x i => intro fr fr' h; show extF x i fr = extF x i fr'; unfold extF; rw [h x (by simp [Op.operands])]
  case call c => exact cong_call
  all_goals trivial
end Go.Proofs.YthlfhfliidhelaaGreatDoor.Eng
namespace Go.Proofs.YthlfhfliidhelaaGreatDoor.Eng
open Go.RowKit
variable {P : Program} {nG sz base S : Nat} {w0 : World} {r : Option Nat}
def Mk (P : Program) (nG N : Nat) (ops : Array Oper) (π idn : Nat → Nat) (fr : Nat → Fr) (Hh : Nat → AH) (q : Nat) (cs : List Value) (e : TypeId) : Prop :=
  ∃ (o : Oper) (f : Fr → Option (List Value × TypeId)) (g : Nat → List Value → Value), ops[π q]? = some o ∧ opT P nG o.op = .n f g ∧ wants (guardOf ops.toList o.guard) (fr q) = true ∧ f (fr q) = some (cs, e) ∧ Hh (q + 1) = (Hh q).put (N + idn q) (some (.cells cs e))
structure IV (P : Program) (nG base : Nat) (w0 : World) (sz S : Nat) (r : Option Nat) (N : Nat) (ops : Array Oper) (π pos idn : Nat → Nat) (fr : Nat → Fr) (Hh : Nat → AH) (vv : Nat → Value)
    (J0 : Inj) (H0 : AH) (wb : World) (ls : Array Bool) (k : Nat) (J : Inj) (f : Fr) (a : Act) (w : World) : Prop where
  size : ls.size = ops.size
  cl : Cl ops ls
  kle : k ≤ ops.size
  low : ∀ q, q < k → ls.getD (π q) false = true
  high : ∀ (q : Nat) (o : Oper), k ≤ q → q < ops.size → ops[π q]? = some o → ls.getD (π q) false = true → isFloat (opT P nG o.op) = true
  cur : Cur ops π pos (fr 0) vv ls f
  st : St P nG base w0 sz S r J f (Hh k) a w
  ev : Ev N J0 H0 wb J (Hh k) w
  mkr : ∀ (q : Nat) (cs : List Value) (e : TypeId), k ≤ q → q < ops.size → ls.getD (π q) false = true → Mk P nG N ops π idn fr Hh q cs e →
    ∃ x, J (N + idn q) = some x ∧ OR P nG J w x (.cells cs e) ∧ (∀ b y, ((Hh k).get b).isSome = true → J b = some y → y.B ≠ x.B) ∧ ∀ B, markD B ∈ a.defers → x.B ≠ B
  mi : ∀ (q q' : Nat) (cs cs' : List Value) (e e' : TypeId) (x x' : Tg), k ≤ q → k ≤ q' → q < ops.size → q' < ops.size → ls.getD (π q) false = true → ls.getD (π q') false = true → Mk P nG N ops π idn fr Hh q cs e → Mk P nG N ops π idn fr Hh q' cs' e' →
    J (N + idn q) = some x → J (N + idn q') = some x' → x.B = x'.B → q = q'
  un : ∀ (q : Nat) (o : Oper), q < ops.size → ops[π q]? = some o → isNK (opT P nG o.op) = true → ls.getD (π q) false = false → J (N + idn q) = none ∧ (Hh k).get (N + idn q) = none
theorem WR.adopt {J : Inj} {H : AH} {w : World} (h : WR P nG base w0 J H w) {b : Nat} {x : Tg} (hb : J b = some x) {o : AO} (hor : OR P nG J w x o) (hn : ∀ b' y, (H.get b').isSome = true → J b' = some y → y.B ≠ x.B) : WR P nG base w0 J (H.put b (some o)) w := by
  have hb6 := h.small hb
  refine ⟨h.glob, h.ids, h.lt, ?_, ?_, h.own, h.sep, h.nx, h.top, h.room, ?_, h.below⟩
  · intro k k' y y' hl hl' hk hk' he
    rw [AH.get_put H _ hb6 (h.small hk)] at hl
    rw [AH.get_put H _ hb6 (h.small hk')] at hl'
    by_cases e1 : k = b
    · by_cases e2 : k' = b
      · rw [e1, e2]
      · rw [if_neg e2] at hl'
        subst e1
        rw [hb] at hk; obtain rfl := Option.some.inj hk
        exact absurd he.symm (hn k' y' hl' hk')
    · rw [if_neg e1] at hl
      by_cases e2 : k' = b
      · subst e2
        rw [hb] at hk'; obtain rfl := Option.some.inj hk'
        exact absurd he (hn k y hl hk)
      · rw [if_neg e2] at hl'
        exact h.inj k k' y y' hl hl' hk hk' he
  · intro k o' y hg hk
    rw [AH.get_put H _ hb6 (h.small hk)] at hg
    split at hg
    · rename_i e1; subst e1
      rw [hb] at hk; obtain rfl := Option.some.inj hk
      obtain rfl := Option.some.inj hg
      exact hor
    · exact h.obj k o' y hg hk
  · intro k h1 h2
    have := h.ids b x hb
    simp only [AH.next_put] at h1
    rw [AH.get_put H _ hb6 h2, if_neg (by omega)]
    exact h.clean k h1 h2
theorem markD_inj {r r' : Nat} (h : markD r = markD r') : r = r' := by
  injection h with h1 _; injection h1
theorem Pins.adopt {J : Inj} {H : AH} {w : World} {ds : List Deferred} (h : Pins S J H w ds) {b : Nat} {x : Tg} (hb6 : b < 262144) (hs6 : ∀ k y, J k = some y → k < 262144) (hb : J b = some x) {o : AO} (hn : ∀ B, markD B ∈ ds → x.B ≠ B) : Pins S J (H.put b (some o)) w ds := by
  obtain ⟨rs, h1, h2, h3⟩ := h
  refine ⟨rs, h1, h2, fun B hB => ?_⟩
  obtain ⟨a1, a2, a3⟩ := h3 B hB
  refine ⟨a1, a2, fun k y hl hk => ?_⟩
  rw [AH.get_put H _ hb6 (hs6 _ _ hk)] at hl
  split at hl
  · rename_i e1; subst e1
    rw [hb] at hk; obtain rfl := Option.some.inj hk
    exact hn B (by rw [h1]; exact List.mem_map_of_mem hB)
  · exact a3 k y hl hk
theorem St.adopt {J : Inj} {fr : Fr} {H : AH} {a : Act} {w : World} (h : St P nG base w0 sz S r J fr H a w) {b : Nat} {x : Tg} (hb : J b = some x) {o : AO} (hor : OR P nG J w x o) (hn : ∀ b' y, (H.get b').isSome = true → J b' = some y → y.B ≠ x.B) (hd : ∀ B, markD B ∈ a.defers → x.B ≠ B) :
    St P nG base w0 sz S r J fr (H.put b (some o)) a w :=
  ⟨h.at_, h.sz, h.wr.adopt hb hor hn, h.ar, h.pins.adopt (h.wr.small hb) (fun _ _ hk => h.wr.small hk) hb hd⟩
theorem Ev.adopt {N : Nat} {J J' : Inj} {H H' : AH} {w w' : World} (h : Ev N J H w J' H' w') {b : Nat} (hb : N ≤ b) (hb6 : b < 262144) (o : AO) : Ev N J H w J' (H'.put b (some o)) w' :=
  ⟨h.ext, h.fresh, h.next, h.frame, h.newB, h.size, fun k hk hl => h.live k hk (by rw [AH.get_put H' _ hb6 (by omega), if_neg (by omega)] at hl; exact hl)⟩
section
variable {N m : Nat} {ops : Array Oper} {π pos lo idn : Nat → Nat} {fr : Nat → Fr} {Hh : Nat → AH} {vv : Nat → Value} (D : DR P nG sz N m ops π pos lo idn fr Hh vv)
variable {J0 : Inj} {H0 : AH} {wb : World}
include D
theorem DR.promote1 {ls : Array Bool} {k : Nat} {J : Inj} {f : Fr} {a : Act} {w : World} (I : IV P nG base w0 sz S r N ops π pos idn fr Hh vv J0 H0 wb ls k J f a w) (hk : k < ops.size) (hl : ls.getD (π k) false = true) :
    IV P nG base w0 sz S r N ops π pos idn fr Hh vv J0 H0 wb ls (k + 1) J f a w := by
  have hpn := (D.pi k hk).1
  have ho : ops[π k]? = some ops[π k] := Array.getElem?_eq_getElem hpn
  have hfl := I.high k _ (Nat.le_refl _) hk ho hl
  have low' : ∀ q, q < k + 1 → ls.getD (π q) false = true := fun q hq => by
    rcases Nat.lt_or_ge q k with h | h
    · exact I.low q h
    · obtain rfl : q = k := by omega
      exact hl
  have plain : Hh (k + 1) = Hh k → IV P nG base w0 sz S r N ops π pos idn fr Hh vv J0 H0 wb ls (k + 1) J f a w := fun e =>
    ⟨I.size, I.cl, hk, low', fun q o h1 => I.high q o (by omega), I.cur, by rw [e]; exact I.st, by rw [e]; exact I.ev, fun q cs e' h1 h2 h3 h4 => by rw [e]; exact I.mkr q cs e' (by omega) h2 h3 h4, fun q q' cs cs' e1 e2 x x' h1 h1' => I.mi q q' cs cs' e1 e2 x x' (by omega) (by omega), by rw [e]; exact I.un⟩
  rcases D.step k _ hk ho with ⟨_, _, h3⟩ | ⟨hw, hs⟩
  · exact plain h3
  · cases hop : opT P nG (ops[π k]).op with
    | bad => rw [hop] at hfl; cases hfl
    | q g => rw [hop] at hs; exact plain hs.2
    | r g => rw [hop] at hs; exact plain hs.2.1
    | a g => rw [hop] at hfl; cases hfl
    | call g as => rw [hop] at hfl; cases hfl
    | n g h =>
      rw [hop] at hs
      obtain ⟨cs, e, h1, h2, h3⟩ := hs
      have hM : Mk P nG N ops π idn fr Hh k cs e := ⟨_, g, h, ho, hop, hw, h1, h3⟩
      obtain ⟨x, x1, x2, x3, x4⟩ := I.mkr k cs e (Nat.le_refl _) hk hl hM
      have hb6 := I.st.wr.small x1
      refine ⟨I.size, I.cl, hk, low', fun q o h1 => I.high q o (by omega), I.cur, by rw [h3]; exact I.st.adopt x1 x2 x3 x4, by rw [h3]; exact I.ev.adopt (Nat.le_add_right _ _) hb6 _, fun q cs' e' g1 g2 g3 g4 => ?_, fun q q' cs cs' e1 e2 x x' h1 h1' => I.mi q q' cs cs' e1 e2 x x' (by omega) (by omega), fun q o' g1 g2 g3 g4 => ?_⟩
      obtain ⟨y, y1, y2, y3, y4⟩ := I.mkr q cs' e' (by omega) g2 g3 g4
      refine ⟨y, y1, y2, fun b z hz hb => ?_, y4⟩
      rw [h3, AH.get_put _ _ hb6 (I.st.wr.small hb)] at hz
      split at hz
      · rename_i e1; subst e1
        rw [x1] at hb; obtain rfl := Option.some.inj hb
        intro he
        have := I.mi k q cs cs' e e' x y (Nat.le_refl _) (by omega) hk g2 hl g3 hM g4 x1 y1 he
        omega
      · exact y3 b z hz hb
      obtain ⟨u1, u2⟩ := I.un q o' g1 g2 g3 g4
      refine ⟨u1, ?_⟩
      have hnx := D.next k I.kle
      have hid := D.idm q o' g1 g2 g3
      have htop := I.st.wr.top
      rw [h3, AH.get_put _ _ hb6 (by omega), if_neg ?_]
      · exact u2
      · intro he
        have := D.idj q k o' _ g1 hk g2 ho g3 (by rw [hop]; rfl) (by omega)
        subst this
        rw [hl] at g4; cases g4
theorem DR.promote {ls : Array Bool} {J : Inj} {f : Fr} {a : Act} {w : World} : ∀ (j k : Nat), IV P nG base w0 sz S r N ops π pos idn fr Hh vv J0 H0 wb ls k J f a w → k + j ≤ ops.size → (∀ q, k ≤ q → q < k + j → ls.getD (π q) false = true) →
    IV P nG base w0 sz S r N ops π pos idn fr Hh vv J0 H0 wb ls (k + j) J f a w
  | 0, _, I, _, _ => I
  | j + 1, k, I, h, hl => by
    have := DR.promote j (k + 1) (D.promote1 I (by omega) (hl k (Nat.le_refl _) (by omega))) (by omega) (fun q h1 h2 => hl q (by omega) (by omega))
    rw [show k + (j + 1) = k + 1 + j from by omega]; exact this
theorem DR.add {ls : Array Bool} {k k' : Nat} {J J' : Inj} {f : Fr} {a : Act} {w w' : World} (I : IV P nG base w0 sz S r N ops π pos idn fr Hh vv J0 H0 wb ls k J f a w) {i : Nat} {o : Oper} (ho : ops[i]? = some o) (hun : ls.getD i false = false)
    (hr : ∀ e ∈ o.after, Region.binds .any e = true → ls.getD e.on false = true) {v' : Value} (hv : VR J' (vv (pos i)) v') (hk' : k' ≤ ops.size) (hst : St P nG base w0 sz S r J' f (Hh k') a w') (hev : Ev N J0 H0 wb J' (Hh k') w')
    (low' : ∀ q, q < k' → (ls.setIfInBounds i true).getD (π q) false = true)
    (high' : ∀ (q : Nat) (o : Oper), k' ≤ q → q < ops.size → ops[π q]? = some o → (ls.setIfInBounds i true).getD (π q) false = true → isFloat (opT P nG o.op) = true)
    (mk' : ∀ (q : Nat) (cs : List Value) (e : TypeId), k' ≤ q → q < ops.size → (ls.setIfInBounds i true).getD (π q) false = true → Mk P nG N ops π idn fr Hh q cs e →
      ∃ x, J' (N + idn q) = some x ∧ OR P nG J' w' x (.cells cs e) ∧ (∀ b y, ((Hh k').get b).isSome = true → J' b = some y → y.B ≠ x.B) ∧ ∀ B, markD B ∈ a.defers → x.B ≠ B)
    (mi' : ∀ (q q' : Nat) (cs cs' : List Value) (e e' : TypeId) (x x' : Tg), k' ≤ q → k' ≤ q' → q < ops.size → q' < ops.size → (ls.setIfInBounds i true).getD (π q) false = true → (ls.setIfInBounds i true).getD (π q') false = true → Mk P nG N ops π idn fr Hh q cs e → Mk P nG N ops π idn fr Hh q' cs' e' →
      J' (N + idn q) = some x → J' (N + idn q') = some x' → x.B = x'.B → q = q')
    (un' : ∀ (q : Nat) (o : Oper), q < ops.size → ops[π q]? = some o → isNK (opT P nG o.op) = true → (ls.setIfInBounds i true).getD (π q) false = false → J' (N + idn q) = none ∧ (Hh k').get (N + idn q) = none) :
    IV P nG base w0 sz S r N ops π pos idn fr Hh vv J0 H0 wb (ls.setIfInBounds i true) k' J' (putD o.dst (vv (pos i)) f) (a.put o.dst v') w' := by
  have hi := DR.size_some ho
  have hokd := (okOper_some (D.ok _ _ ho)).2.1
  have hdf : ∀ d : Option Tmp, ∀ u, (a.put d u).defers = a.defers := fun d u => by cases d <;> rfl
  refine ⟨by rw [Array.size_setIfInBounds]; exact I.size, ?_, hk', low', high', ?_, hst.put hokd hv, hev, by rw [hdf]; exact mk', mi', un'⟩
  · intro j oj e hj hlj he hb
    by_cases hij : i = j
    · subst hij
      rw [ho] at hj; obtain rfl := Option.some.inj hj
      exact getD_set_true (hr e he hb)
    · rw [getD_set_ne _ hij] at hlj
      exact getD_set_true (I.cl j oj e hj hlj he hb)
  · refine ⟨fun i' o' t ho' hd hl => ?_, fun t ht hno => ?_⟩
    · have hokd' := (okOper_some (D.ok _ _ ho')).2.1
      rw [hd] at hokd'
      simp only [okDst, Nat.ble_eq] at hokd'
      have hsz := I.st.sz
      by_cases hij : i = i'
      · subst hij
        rw [ho] at ho'; obtain rfl := Option.some.inj ho'
        rw [hd]
        exact (fget_fset _ _ (by omega) (by omega)).trans (if_pos rfl)
      · rw [getD_set_ne _ hij] at hl
        have h1 := I.cur.got i' o' t ho' hd hl
        cases hdo : o.dst with
        | none => exact h1
        | some d =>
          rw [hdo] at hokd
          simp only [okDst, Nat.ble_eq] at hokd
          refine (fget_fset _ _ (by omega) (by omega)).trans ?_
          rw [if_neg (fun e => hij (D.dsts i i' o o' t ho ho' (by rw [hdo, e]) hd))]
          exact h1
    · have h1 := I.cur.old t ht fun i' o' ho' hd => by
        have := hno i' o' ho' hd
        by_cases hij : i = i'
        · subst hij; exact hun
        · rw [getD_set_ne _ hij] at this; exact this
      cases hdo : o.dst with
      | none => exact h1
      | some d =>
        rw [hdo] at hokd
        simp only [okDst, Nat.ble_eq] at hokd
        have hsz := I.st.sz
        refine (fget_fset _ _ (by omega) (by omega)).trans ?_
        rw [if_neg ?_]
        · exact h1
        · rintro rfl
          have := hno i o ho hdo
          rw [show (ls.setIfInBounds i true).getD i false = true from by simp [I.size, hi]] at this
          cases this
end
end Go.Proofs.YthlfhfliidhelaaGreatDoor.Eng
namespace Go.Proofs.YthlfhfliidhelaaGreatDoor.Eng
open Go.RowKit
variable {P : Program} {nG sz base S : Nat} {w0 : World} {r : Option Nat}
theorem DStep.congr {b : Nat} {fr fr' : Fr} {H H' : AH} {v : Value} {rd : (AH → Option Value) → Prop} {o : Op} (h : ∀ x ∈ o.operands.toList, ev x fr = ev x fr') (hs : DStep P nG b fr H v H' rd (opT P nG o)) : DStep P nG b fr' H v H' rd (opT P nG o) := by
  have hc := op_cong (P := P) (nG := nG) o
  cases hk : opT P nG o with
  | bad => rw [hk] at hs; exact hs
  | q f => rw [hk] at hs hc; have := hc fr fr' h; show f fr' = _ ∧ _; rw [← this]; exact hs
  | r f => rw [hk] at hs hc; have := hc fr fr' h; show f fr' H = _ ∧ _ ∧ rd (f fr'); rw [← this]; exact hs
  | n f g => rw [hk] at hs hc; have := hc fr fr' h; show ∃ cs e, f fr' = _ ∧ _; rw [← this]; exact hs
  | a f => rw [hk] at hs hc; have := hc fr fr' h; show f fr' H = _; rw [← this]; exact hs
  | call f args =>
    rw [hk] at hs hc
    show CallSem P nG (ev f fr') (args.map fun x => ev x fr') H v H'
    have e : (args.map fun x => ev x fr') = args.map fun x => ev x fr := List.map_congr_left fun x hx => (h x (hc.2 x hx)).symm
    rw [e, ← h f hc.1]
    exact hs
theorem wants_congr {g : Option (Tmp × Bool)} {fr fr' : Fr} (h : ∀ t w, g = some (t, w) → fget t fr = fget t fr') : wants g fr = wants g fr' := by
  cases g with
  | none => rfl
  | some p => obtain ⟨t, w⟩ := p; show vBool (fget t fr) _ _ _ = vBool (fget t fr') _ _ _; rw [h t w rfl]
theorem WR.named {J : Inj} {H : AH} {w : World} (h : WR P nG base w0 J H w) {b : Nat} (hf : J b = none) (hd : H.get b = none) (hlt : b < H.next) (obj : Obj) : WR P nG base w0 (J.add b ⟨w.heap.size, 0, 0, 0⟩) H (w.alloc obj) := by
  have hle := Inj.le_add (x := (⟨w.heap.size, 0, 0, 0⟩ : Tg)) hf
  have hl : ∀ k y, (H.get k).isSome = true → J.add b ⟨w.heap.size, 0, 0, 0⟩ k = some y → J k = some y := fun k y hk hy => by
    rcases Inj.add_inv hy with ⟨rfl, _⟩ | ⟨_, h1⟩
    · rw [hd] at hk; cases hk
    · exact h1
  refine ⟨fun g hg => hle _ _ (h.glob g hg), ?_, ?_, fun k k' y y' l l' j j' => h.inj k k' y y' l l' (hl k y l j) (hl k' y' l' j'), ?_, ?_, h.sep, h.nx, h.top, ?_, h.clean, h.below.alloc h.room obj⟩
  · intro k y hk
    rcases Inj.add_inv hk with ⟨rfl, _⟩ | ⟨_, hk⟩
    · exact hlt
    · exact h.ids k y hk
  · intro k y hk
    rcases Inj.add_inv hk with ⟨_, rfl⟩ | ⟨_, hk⟩
    · simp
    · have := h.lt k y hk; simp; omega
  · intro k o' y hg hk
    have hk' := hl k y (by rw [hg]; rfl) hk
    exact (h.obj k o' y hg hk').of_heap hle (Below.heap_alloc w obj _ (h.lt k y hk'))
  · intro k y hk hn
    rcases Inj.add_inv hk with ⟨_, rfl⟩ | ⟨_, hk⟩
    · exact h.room
    · exact h.own k y hk hn
  · have := h.room; simp; omega
theorem Ev.named {J : Inj} {H : AH} {w : World} {b : Nat} (hf : J b = none) (obj : Obj) {N : Nat} (hN : N ≤ b) : Ev N J H w (J.add b ⟨w.heap.size, 0, 0, 0⟩) H (w.alloc obj) where
  ext := Inj.le_add hf
  fresh := fun k y hk hy => by
    rcases Inj.add_inv hy with ⟨rfl, _⟩ | ⟨_, hy⟩
    · exact hN
    · rw [hk] at hy; cases hy
  next := Nat.le_refl _
  frame := fun B hB _ => Below.heap_alloc w obj B hB
  newB := fun k y hk hy => by
    rcases Inj.add_inv hy with ⟨_, rfl⟩ | ⟨_, hy⟩
    · exact .inl (Nat.le_refl _)
    · rw [hk] at hy; cases hy
  size := by simp
  live := fun _ _ hl => hl
section
variable {N m : Nat} {ops : Array Oper} {π pos lo idn : Nat → Nat} {fr : Nat → Fr} {Hh : Nat → AH} {vv : Nat → Value} (D : DR P nG sz N m ops π pos lo idn fr Hh vv)
variable {J0 : Inj} {H0 : AH} {wb : World}
include D
omit D in
theorem DR.acted {ls : Array Bool} {k k' : Nat} {J J' : Inj} {f : Fr} {a : Act} {w w' : World} (I : IV P nG base w0 sz S r N ops π pos idn fr Hh vv J0 H0 wb ls k J f a w) (hk : k ≤ k')
    (he : Ev (Hh k).next J (Hh k) w J' (Hh k') w') {q : Nat} {cs : List Value} {e : TypeId} (h1 : k' ≤ q) (h2 : q < ops.size) (h3 : ls.getD (π q) false = true) (h4 : Mk P nG N ops π idn fr Hh q cs e) :
      ∃ x, J' (N + idn q) = some x ∧ J (N + idn q) = some x ∧ OR P nG J' w' x (.cells cs e) ∧ (∀ b y, ((Hh k').get b).isSome = true → J' b = some y → y.B ≠ x.B) ∧ (∀ B, markD B ∈ a.defers → x.B ≠ B) := by
  obtain ⟨x, x1, x2, x3, x4⟩ := I.mkr q cs e (by omega) h2 h3 h4
  obtain ⟨a1, a2⟩ := he.apart I.st.wr.ids (I.st.wr.lt _ _ x1) x3
  exact ⟨x, he.ext _ _ x1, x1, x2.of_heap he.ext a1, a2, x4⟩
theorem DR.acted_un {ls : Array Bool} {k k' : Nat} {J J' : Inj} {f : Fr} {a : Act} {w w' : World} (I : IV P nG base w0 sz S r N ops π pos idn fr Hh vv J0 H0 wb ls k J f a w)
    (he : Ev (Hh k).next J (Hh k) w J' (Hh k') w') {q : Nat} {o : Oper} (h1 : q < ops.size) (h2 : ops[π q]? = some o) (h3 : isNK (opT P nG o.op) = true) (h4 : ls.getD (π q) false = false) : J' (N + idn q) = none ∧ (Hh k').get (N + idn q) = none := by
  obtain ⟨u1, u2⟩ := I.un q o h1 h2 h3 h4
  have hnx := D.next k I.kle
  have hid := D.idm q o h1 h2 h3
  refine ⟨?_, ?_⟩
  · cases h : J' (N + idn q) with
    | none => rfl
    | some x =>
      have := he.fresh _ x u1 h
      omega
  · cases h : (Hh k').get (N + idn q) with
    | none => rfl
    | some x =>
      have := he.live (N + idn q) (by omega) (by rw [h]; rfl)
      rw [u2] at this; cases this
theorem DR.goOn {ls : Array Bool} {k k' : Nat} {J J' : Inj} {f : Fr} {a : Act} {w w' : World} (I : IV P nG base w0 sz S r N ops π pos idn fr Hh vv J0 H0 wb ls k J f a w) (ids0 : ∀ b x, J0 b = some x → b < N) {i : Nat} {o : Oper} (ho : ops[i]? = some o) (hun : ls.getD i false = false)
    (hr : ∀ e ∈ o.after, Region.binds .any e = true → ls.getD e.on false = true) (hkk : (k' = k ∧ isFloat (opT P nG o.op) = true) ∨ (k = pos i ∧ k' = k + 1)) (hnk : ∀ cs e, ¬ Mk P nG N ops π idn fr Hh (pos i) cs e) {v' : Value} (hv : VR J' (vv (pos i)) v') (hw' : WR P nG base w0 J' (Hh k') w') (he : Ev (Hh k).next J (Hh k) w J' (Hh k') w') :
    IV P nG base w0 sz S r N ops π pos idn fr Hh vv J0 H0 wb (ls.setIfInBounds i true) k' J' (putD o.dst (vv (pos i)) f) (a.put o.dst v') w' := by
  have hi := DR.size_some ho
  obtain ⟨hp, hpi⟩ := D.po i hi
  have hk1 : k ≤ k' := by rcases hkk with ⟨rfl, _⟩ | ⟨_, rfl⟩ <;> omega
  have hqi : ∀ q, q < ops.size → π q = i → q = pos i := fun q hq hqi => by have := (D.pi q hq).2; rw [hqi] at this; exact this.symm
  have hk' : k' ≤ ops.size := by
    rcases hkk with ⟨rfl, _⟩ | ⟨h1, rfl⟩
    · exact I.kle
    · omega
  have hset : ∀ q, q < ops.size → (ls.setIfInBounds i true).getD (π q) false = true → q = pos i ∨ ls.getD (π q) false = true := fun q hq h => by
    by_cases e : i = π q
    · exact .inl (hqi q hq e.symm)
    · rw [getD_set_ne _ e] at h; exact .inr h
  have hset2 : ∀ q, q < ops.size → (ls.setIfInBounds i true).getD (π q) false = false → ls.getD (π q) false = false := fun q hq h => by
    cases hl : ls.getD (π q) false with
    | false => rfl
    | true => rw [getD_set_true hl] at h; cases h
  have hM : ∀ q cs e, q < ops.size → (ls.setIfInBounds i true).getD (π q) false = true → Mk P nG N ops π idn fr Hh q cs e → ls.getD (π q) false = true := fun q cs e hq hl hm => by
    rcases hset q hq hl with rfl | h
    · exact absurd hm (hnk cs e)
    · exact h
  refine D.add I ho hun hr hv hk' (I.st.ev hw' he) (I.ev.trans ids0 (he.weak (by have := D.next k I.kle; omega))) ?_ ?_ ?_ ?_ ?_
  · intro q hq
    rcases hkk with ⟨rfl, _⟩ | ⟨h1, rfl⟩
    · exact getD_set_true (I.low q hq)
    · rcases Nat.lt_or_ge q k with h | h
      · exact getD_set_true (I.low q h)
      · obtain rfl : q = pos i := by omega
        rw [hpi]
        simp [I.size, hi]
  · intro q o' h1 h2 h3 h4
    rcases hset q h2 h4 with rfl | h
    · rw [hpi, ho] at h3
      obtain rfl := Option.some.inj h3
      rcases hkk with ⟨_, h⟩ | ⟨h1', h2'⟩
      · exact h
      · omega
    · exact I.high q o' (by omega) h2 h3 h
  · intro q cs e h1 h2 h3 h4
    obtain ⟨x, x1, _, x2, x3, x4⟩ := DR.acted I hk1 he h1 h2 (hM q cs e h2 h3 h4) h4
    exact ⟨x, x1, x2, x3, x4⟩
  · intro q q' cs cs' e e' x x' h1 h1' h2 h2' h3 h3' h4 h4' j j' hB
    obtain ⟨y, y1, y2, -⟩ := DR.acted I hk1 he h1 h2 (hM q cs e h2 h3 h4) h4
    obtain ⟨y', y1', y2', -⟩ := DR.acted I hk1 he h1' h2' (hM q' cs' e' h2' h3' h4') h4'
    rw [y1] at j; rw [y1'] at j'
    obtain rfl := Option.some.inj j
    obtain rfl := Option.some.inj j'
    exact I.mi q q' cs cs' e e' _ _ (by omega) (by omega) h2 h2' (hM q cs e h2 h3 h4) (hM q' cs' e' h2' h3' h4') h4 h4' y2 y2' hB
  · intro q o' h1 h2 h3 h4
    exact D.acted_un I he h1 h2 h3 (hset2 q h1 h4)
theorem DR.made {ls : Array Bool} {k : Nat} {J : Inj} {f : Fr} {a : Act} {w : World} (I : IV P nG base w0 sz S r N ops π pos idn fr Hh vv J0 H0 wb ls k J f a w) (ids0 : ∀ b x, J0 b = some x → b < N) {i : Nat} {o : Oper} (ho : ops[i]? = some o) (hun : ls.getD i false = false)
    (hr : ∀ e ∈ o.after, Region.binds .any e = true → ls.getD e.on false = true) {g : Fr → Option (List Value × TypeId)} {h : Nat → List Value → Value} (hop : opT P nG o.op = .n g h) {cs cs' : List Value} {e : TypeId} (hcs : VRs J cs cs')
    (hM : Mk P nG N ops π idn fr Hh (pos i) cs e) {v' : Value} (hv : VR (J.add (N + idn (pos i)) ⟨w.heap.size, 0, 0, 0⟩) (vv (pos i)) v') :
    IV P nG base w0 sz S r N ops π pos idn fr Hh vv J0 H0 wb (ls.setIfInBounds i true) k (J.add (N + idn (pos i)) ⟨w.heap.size, 0, 0, 0⟩) (putD o.dst (vv (pos i)) f) (a.put o.dst v') (w.alloc (.cells ⟨cs'⟩ e)) := by
  have hi := DR.size_some ho
  obtain ⟨hp, hpi⟩ := D.po i hi
  have ho' : ops[π (pos i)]? = some o := by rw [hpi]; exact ho
  have hisn : isNK (opT P nG o.op) = true := by rw [hop]; rfl
  obtain ⟨hf, hdead⟩ := I.un _ o hp ho' hisn (by rw [hpi]; exact hun)
  have hle := Inj.le_add (x := (⟨w.heap.size, 0, 0, 0⟩ : Tg)) hf
  have hid := D.idm _ o hp ho' hisn
  have hnx := D.next k I.kle
  have hqi : ∀ q, q < ops.size → π q = i → q = pos i := fun q hq hqi => by have := (D.pi q hq).2; rw [hqi] at this; exact this.symm
  have hset : ∀ q, q < ops.size → (ls.setIfInBounds i true).getD (π q) false = true → q = pos i ∨ (q ≠ pos i ∧ ls.getD (π q) false = true) := fun q hq h => by
    by_cases e : i = π q
    · exact .inl (hqi q hq e.symm)
    · rw [getD_set_ne _ e] at h; exact .inr ⟨fun h' => e (by rw [h', hpi]), h⟩
  have hadd : ∀ q cs1 e1, q < ops.size → q ≠ pos i → Mk P nG N ops π idn fr Hh q cs1 e1 → N + idn q ≠ N + idn (pos i) := fun q cs1 e1 hq hne hm he => by
    obtain ⟨o1, f1, g1, h1, h2, -⟩ := hm
    exact hne (D.idj q (pos i) o1 o hq hp h1 ho' (by rw [h2]; rfl) hisn (by omega))
  have hwr := I.st.wr.named hf hdead (by omega) (.cells ⟨cs'⟩ e)
  have hev := Ev.named (H := Hh k) (w := w) hf (.cells ⟨cs'⟩ e) (N := N) (by omega)
  have hold : ∀ B, B < w.heap.size → (w.alloc (.cells ⟨cs'⟩ e)).heap[B]? = w.heap[B]? := fun B hB => Below.heap_alloc w _ B hB
  have hpins : Pins S (J.add (N + idn (pos i)) ⟨w.heap.size, 0, 0, 0⟩) (Hh k) (w.alloc (.cells ⟨cs'⟩ e)) a.defers := by
    obtain ⟨rs, h1, h2, h3⟩ := I.st.pins
    refine ⟨rs, h1, h2, fun B hB => ?_⟩
    obtain ⟨a1, a2, a3⟩ := h3 B hB
    have hlt := (Array.getElem?_eq_some_iff.1 a2).1
    refine ⟨a1, (hold B hlt).trans a2, fun b y hl hb => ?_⟩
    rcases Inj.add_inv hb with ⟨rfl, _⟩ | ⟨_, hb⟩
    · rw [hdead] at hl; cases hl
    · exact a3 b y hl hb
  have hdl : ∀ B, markD B ∈ a.defers → B < w.heap.size := fun B hB => by
    obtain ⟨rs, h1, h2, h3⟩ := I.st.pins
    rw [h1] at hB
    obtain ⟨B', hB1, hB2⟩ := List.mem_map.1 hB
    obtain rfl := markD_inj hB2
    exact (Array.getElem?_eq_some_iff.1 (h3 _ hB1).2.1).1
  have hMx : ∀ q cs1 e1, k ≤ q → q < ops.size → (ls.setIfInBounds i true).getD (π q) false = true → Mk P nG N ops π idn fr Hh q cs1 e1 → (q = pos i ∧ J.add (N + idn (pos i)) ⟨w.heap.size, 0, 0, 0⟩ (N + idn q) = some ⟨w.heap.size, 0, 0, 0⟩) ∨
      (q ≠ pos i ∧ ls.getD (π q) false = true ∧ ∃ x, J.add (N + idn (pos i)) ⟨w.heap.size, 0, 0, 0⟩ (N + idn q) = some x ∧ J (N + idn q) = some x ∧ OR P nG (J.add (N + idn (pos i)) ⟨w.heap.size, 0, 0, 0⟩) (w.alloc (.cells ⟨cs'⟩ e)) x (.cells cs1 e1) ∧ (∀ b y, ((Hh k).get b).isSome = true → J b = some y → y.B ≠ x.B) ∧ ∀ B, markD B ∈ a.defers → x.B ≠ B) := fun q cs1 e1 h1 h2 h3 h4 => by
    rcases hset q h2 h3 with rfl | ⟨hne, hl⟩
    · exact .inl ⟨rfl, Inj.add_same _ _ _⟩
    · obtain ⟨x, x1, x2, x3, x4⟩ := I.mkr q cs1 e1 h1 h2 hl h4
      refine .inr ⟨hne, hl, x, ?_, x1, x2.of_heap hle (hold _ (I.st.wr.lt _ _ x1)), x3, x4⟩
      rw [Inj.add_ne _ _ (hadd q cs1 e1 h2 hne h4)]; exact x1
  refine D.add I ho hun hr hv I.kle ⟨I.st.at_.mono hle, I.st.sz, hwr, I.st.ar.mono hle, hpins⟩ (I.ev.trans ids0 (hev.weak (by omega))) ?_ ?_ ?_ ?_ ?_
  · exact fun q hq => getD_set_true (I.low q hq)
  · intro q o' h1 h2 h3 h4
    rcases hset q h2 h4 with rfl | ⟨_, h⟩
    · rw [ho'] at h3
      obtain rfl := Option.some.inj h3
      rw [hop]; rfl
    · exact I.high q o' h1 h2 h3 h
  · intro q cs1 e1 h1 h2 h3 h4
    rcases hMx q cs1 e1 h1 h2 h3 h4 with ⟨rfl, hx⟩ | ⟨_, _, x, x1, x2, x3, x4, x5⟩
    · obtain ⟨o1, f1, g1, k1, k2, k3, k4, k5⟩ := h4
      obtain ⟨o2, f2, g2, l1, l2, l3, l4, l5⟩ := hM
      rw [k1] at l1; obtain rfl := Option.some.inj l1
      rw [k2] at l2; injection l2 with l2 _; subst l2
      rw [k4] at l4; injection l4 with l4; injection l4 with l4 l6; subst l4 l6
      refine ⟨_, hx, OR.row (P := P) (nG := nG) (w := w) (hcs.mono hle) _, fun b y hl hb => ?_, fun B hB => ?_⟩
      · rcases Inj.add_inv hb with ⟨rfl, _⟩ | ⟨_, hb⟩
        · rw [hdead] at hl; cases hl
        · have := I.st.wr.lt b y hb; show y.B ≠ w.heap.size; omega
      · have := hdl B hB; show w.heap.size ≠ B; omega
    · refine ⟨x, x1, x3, fun b y hl hb => ?_, x5⟩
      rcases Inj.add_inv hb with ⟨rfl, _⟩ | ⟨_, hb⟩
      · rw [hdead] at hl; cases hl
      · exact x4 b y hl hb
  · intro q q' cs1 cs2 e1 e2 x x' h1 h1' h2 h2' h3 h3' h4 h4' j j' hB
    rcases hMx q cs1 e1 h1 h2 h3 h4 with ⟨g1, hx⟩ | ⟨_, g2, y, y1, y2, -⟩ <;> rcases hMx q' cs2 e2 h1' h2' h3' h4' with ⟨g1', hx'⟩ | ⟨_, g2', y', y1', y2', -⟩
    · rw [g1, g1']
    · rw [hx] at j; rw [y1'] at j'
      obtain rfl := Option.some.inj j
      obtain rfl := Option.some.inj j'
      have := I.st.wr.lt _ _ y2'
      simp only at hB; omega
    · rw [y1] at j; rw [hx'] at j'
      obtain rfl := Option.some.inj j
      obtain rfl := Option.some.inj j'
      have := I.st.wr.lt _ _ y2
      simp only at hB; omega
    · rw [y1] at j; rw [y1'] at j'
      obtain rfl := Option.some.inj j
      obtain rfl := Option.some.inj j'
      exact I.mi q q' cs1 cs2 e1 e2 _ _ h1 h1' h2 h2' g2 g2' h4 h4' y2 y2' hB
  · intro q o' h1 h2 h3 h4
    have hl : ls.getD (π q) false = false := by
      cases hl : ls.getD (π q) false with
      | false => rfl
      | true => rw [getD_set_true hl] at h4; cases h4
    obtain ⟨u1, u2⟩ := I.un q o' h1 h2 h3 hl
    refine ⟨?_, u2⟩
    rw [Inj.add_ne]
    · exact u1
    · intro he
      have := D.idj q (pos i) o' o h1 hp h2 ho' h3 hisn (by omega)
      subst this
      rw [hpi] at h4
      simp [I.size, hi] at h4
end
end Go.Proofs.YthlfhfliidhelaaGreatDoor.Eng
namespace Go.Proofs.YthlfhfliidhelaaGreatDoor.Eng
open Go.RowKit
variable {P : Program} {nG sz base S : Nat} {w0 : World} {r : Option Nat}
theorem getD_ft {ls : Array Bool} {i : Nat} (h : ls.getD i true = false) : ls.getD i false = false := by
  by_cases hi : i < ls.size
  · rw [getD_tf hi] at h; exact h
  · simp [hi] at h
theorem float_of {k : OpK} (h : isFloat k = false) : k = .bad ∨ (∃ f, k = .a f) ∨ ∃ f as, k = .call f as := by
  cases k with
  | bad => exact .inl rfl
  | a f => exact .inr (.inl ⟨f, rfl⟩)
  | call f as => exact .inr (.inr ⟨f, as, rfl⟩)
  | q f => cases h
  | r f => cases h
  | n f g => cases h
section
variable {N m : Nat} {ops : Array Oper} {π pos lo idn : Nat → Nat} {fr : Nat → Fr} {Hh : Nat → AH} {vv : Nat → Value} (D : DR P nG sz N m ops π pos lo idn fr Hh vv)
variable {J0 : Inj} {H0 : AH} {wb : World}
include D
theorem DR.next_wp {ls : Array Bool} {k : Nat} {J : Inj} {f : Fr} {a : Act} {w : World} (I : IV P nG base w0 sz S r N ops π pos idn fr Hh vv J0 H0 wb ls k J f a w) (ids0 : ∀ b x, J0 b = some x → b < N) {i : Nat} (hi : i ∈ Region.ready .any ops ls)
    {Q : Exit → Act → World → Prop} {K : Act → World → Prop} (hK : ∀ k' J' f' a' w', IV P nG base w0 sz S r N ops π pos idn fr Hh vv J0 H0 wb (ls.setIfInBounds i true) k' J' f' a' w' → K a' w') : wpOpIn (FF r) 0 P ops Q i K a w := by
  obtain ⟨hun', o, ho, hr⟩ := mem_ready.1 hi
  have hun := getD_ft hun'
  have hin := DR.size_some ho
  obtain ⟨hp, hpi⟩ := D.po i hin
  have ho' : ops[π (pos i)]? = some o := by rw [hpi]; exact ho
  obtain ⟨ok1, ok2, ok3⟩ := okOper_some (D.ok i o ho)
  have hkp : k ≤ pos i := by
    rcases Nat.lt_or_ge (pos i) k with h | h
    · have := I.low _ h; rw [hpi, hun] at this; cases this
    · exact h
  have hag : ∀ t, t < 256 → t ∈ slotsOf ops.toList o → fget t f = fget t (fr (pos i)) := fun t ht hs => D.slots_agree I.st.sz I.size I.cl I.cur ho hun hr ht hs
  have hev : ∀ x ∈ o.op.operands.toList, ev x (fr (pos i)) = ev x f := fun x hx => by
    cases x with
    | tmp t =>
      have h1 := (List.all_eq_true.1 ok1) _ hx
      simp only [okO, Nat.ble_eq] at h1
      have hz := I.st.sz
      have h256 : t < 256 := Nat.lt_of_lt_of_le h1 (by omega)
      exact (hag t h256 (List.mem_append_left _ (List.mem_filterMap.2 ⟨.tmp t, hx, rfl⟩))).symm
    | const v => rfl
    | global g => rfl
    | func g => rfl
  have hwants : wants (guardOf ops.toList o.guard) (fr (pos i)) = wants (guardOf ops.toList o.guard) f := wants_congr fun t w' hg => by
    unfold guardOf at hg
    cases hgd : o.guard with
    | none => rw [hgd] at hg; cases hg
    | some p =>
      obtain ⟨j, b⟩ := p
      rw [hgd] at hg ok3
      simp only [okGuard] at ok3
      simp only [nth_eq] at hg
      cases hj : ops.toList[j]? with
      | none => rw [hj] at hg; cases hg
      | some oj =>
        rw [hj] at hg ok3
        cases hd : oj.dst with
        | none => simp only [hd] at hg; cases hg
        | some d =>
          simp only [hd] at hg ok3
          injection hg with hg; injection hg with hg _; subst hg
          rw [Nat.ble_eq] at ok3
          have hz := I.st.sz
          have h256 : d < 256 := Nat.lt_of_lt_of_le ok3 (by omega)
          refine (hag d h256 (List.mem_append_right _ ?_)).symm
          simp [hgd, show ops[j]? = some oj from by simpa using hj, hd]
  have hb := wanted_eq ok3 I.st.at_
  have hidn : ∀ q, q < k → ls.getD (π q) false = true := I.low
  have hat : isFloat (opT P nG o.op) = false → IV P nG base w0 sz S r N ops π pos idn fr Hh vv J0 H0 wb ls (pos i) J f a w := fun hf => by
    have hl : ∀ q, k ≤ q → q < k + (pos i - k) → ls.getD (π q) false = true := fun q _ h2 =>
      D.ready_bf I.size I.cl (D.late i o ho hf q (by omega)) ho hr
    have := D.promote (pos i - k) k I (by omega) hl
    rw [show k + (pos i - k) = pos i from by omega] at this
    exact this
  unfold wpOpIn
  rw [ho]
  dsimp only
  rw [hb]
  rcases D.step (pos i) o hp ho' with ⟨hw, hv, hH⟩ | ⟨hw, hs⟩
  · rw [hwants] at hw
    rw [hw]
    refine ⟨fun _ _ => trivial, ?_⟩
    have hnk : ∀ cs e, ¬ Mk P nG N ops π idn fr Hh (pos i) cs e := fun cs e hm => by
      obtain ⟨o1, f1, g1, h1, h2, h3, -⟩ := hm
      rw [ho'] at h1; obtain rfl := Option.some.inj h1
      rw [hwants, hw] at h3; cases h3
    by_cases hf : isFloat (opT P nG o.op) = true
    · have := D.goOn I ids0 ho hun hr (.inl ⟨rfl, hf⟩) hnk (v' := undef) (by rw [hv]; exact VR.undef J) I.st.wr (Ev.refl _ _ _ _)
      exact hK _ _ _ _ _ this
    · have I' := hat (by simpa using hf)
      have := D.goOn I' ids0 ho hun hr (.inr ⟨rfl, rfl⟩) hnk (v' := undef) (by rw [hv]; exact VR.undef J) (by rw [hH]; exact I'.st.wr) (by rw [hH]; exact Ev.refl _ _ _ _)
      exact hK _ _ _ _ _ this
  · rw [hwants] at hw
    rw [hw, if_pos rfl]
    have hs' := hs.congr hev
    have hnk : (∀ f g, opT P nG o.op ≠ .n f g) → ∀ cs e, ¬ Mk P nG N ops π idn fr Hh (pos i) cs e := fun hn cs e hm => by
      obtain ⟨o1, f1, g1, h1, h2, -⟩ := hm
      rw [ho'] at h1; obtain rfl := Option.some.inj h1
      exact hn _ _ h2
    cases hop : opT P nG o.op with
    | bad => rw [hop] at hs'; exact hs'.elim
    | q g =>
      rw [hop] at hs'
      refine op_wp (v := vv (pos i)) (H' := Hh k) ok1 I.st.at_ I.st.wr (by rw [hop]; exact ⟨hs'.1, rfl⟩) fun J' v' w' h1 h2 h3 => ?_
      exact hK _ _ _ _ _ (D.goOn I ids0 ho hun hr (.inl ⟨rfl, by rw [hop]; rfl⟩) (hnk (fun f g h => by rw [hop] at h; cases h)) h1 h2 h3)
    | r g =>
      rw [hop] at hs'
      have hlo : lo (pos i) ≤ k := by
        rcases D.lo_ (pos i) hp with h | ⟨h1, ⟨o2, h2, h3⟩, h4⟩
        · omega
        · rw [hpi] at h4
          have h5 := D.ready_bf I.size I.cl h4 ho hr
          rcases Nat.lt_or_ge (lo (pos i) - 1) k with h6 | h6
          · omega
          · have := I.high _ o2 h6 (by omega) h2 h5
            rw [h3] at this; cases this
      refine op_wp (v := vv (pos i)) (H' := Hh k) ok1 I.st.at_ I.st.wr (by rw [hop]; exact ⟨hs'.2.2 k hlo hkp, rfl⟩) fun J' v' w' h1 h2 h3 => ?_
      exact hK _ _ _ _ _ (D.goOn I ids0 ho hun hr (.inl ⟨rfl, by rw [hop]; rfl⟩) (hnk (fun f g h => by rw [hop] at h; cases h)) h1 h2 h3)
    | n g h =>
      have hS := op_sound (P := P) ok1
      rw [hop] at hs' hS hs
      obtain ⟨cs, e, h1, h2, h3⟩ := hs'
      obtain ⟨cs', v', g1, g2, g3⟩ := hS J f a cs e I.st.at_ h1
      have hM : Mk P nG N ops π idn fr Hh (pos i) cs e := by
        obtain ⟨cs2, e2, l1, l2, l3⟩ := hs
        have hc := op_cong (P := P) (nG := nG) o.op
        rw [hop] at hc
        have := hc _ _ hev
        rw [this, h1] at l1
        injection l1 with l1; injection l1 with l1 l4; subst l1 l4
        exact ⟨o, g, h, ho', hop, by rw [hwants]; exact hw, by rw [this]; exact h1, h3⟩
      refine uponIn_gives (notDefer (P := P) (nG := nG) (by rw [hop]; intro h; cases h)) (.inl (g2 w)) ?_
      exact hK _ _ _ _ _ (D.made I ids0 ho hun hr hop g1 hM (by rw [h2]; exact g3 _ _ _ (Inj.add_same _ _ _)))
    | a g =>
      have I' := hat (by rw [hop]; rfl)
      rw [hop] at hs'
      refine op_wp (v := vv (pos i)) (H' := Hh (pos i + 1)) ok1 I'.st.at_ I'.st.wr (by rw [hop]; exact hs') fun J' v' w' h1 h2 h3 => ?_
      exact hK _ _ _ _ _ (D.goOn I' ids0 ho hun hr (.inr ⟨rfl, rfl⟩) (hnk (fun f g h => by rw [hop] at h; cases h)) h1 h2 h3)
    | call g as =>
      have I' := hat (by rw [hop]; rfl)
      rw [hop] at hs'
      refine op_wp (v := vv (pos i)) (H' := Hh (pos i + 1)) ok1 I'.st.at_ I'.st.wr (by rw [hop]; exact hs') fun J' v' w' h1 h2 h3 => ?_
      exact hK _ _ _ _ _ (D.goOn I' ids0 ho hun hr (.inr ⟨rfl, rfl⟩) (hnk (fun f g h => by rw [hop] at h; cases h)) h1 h2 h3)
theorem DR.all_listed {ls : Array Bool} (hsz : ls.size = ops.size) (hr : Region.ready .any ops ls = []) : ∀ p : Nat, p < ops.size → ls.getD (π p) false = true := by
  intro p
  induction p using Nat.strongRecOn with
  | ind p ih =>
    intro hp
    cases hl : ls.getD (π p) false with
    | true => rfl
    | false =>
      have hpn := (D.pi p hp).1
      have : π p ∈ Region.ready .any ops ls := by
        refine mem_ready.2 ⟨by rw [getD_tf (by omega)]; exact hl, _, Array.getElem?_eq_getElem hpn, fun e he hb => ?_⟩
        obtain ⟨h1, h2⟩ := D.edge (π p) _ e (Array.getElem?_eq_getElem hpn) he hb
        rw [(D.pi p hp).2] at h2
        have := ih (pos e.on) h2 (by omega)
        rw [(D.po _ h1).2] at this
        exact this
      rw [hr] at this; cases this
theorem DR.end_ {ls : Array Bool} {k : Nat} {J : Inj} {f : Fr} {a : Act} {w : World} (I : IV P nG base w0 sz S r N ops π pos idn fr Hh vv J0 H0 wb ls k J f a w) (hr : Region.ready .any ops ls = []) : After P nG base w0 sz S r N J0 H0 wb (fr ops.size) (Hh ops.size) a w := by
  have hall := D.all_listed I.size hr
  have I' := D.promote (ops.size - k) k I (by have := I.kle; omega) (fun q _ h => hall q (by have := I.kle; omega))
  rw [show k + (ops.size - k) = ops.size from by have := I.kle; omega] at I'
  have hf : ∀ t, t < 256 → fget t f = fget t (fr ops.size) := fun t ht => by
    obtain ⟨c1, c2⟩ := D.fr_char I.st.sz ops.size (Nat.le_refl _) t ht
    by_cases hw : ∃ (j : Nat) (oj : Oper), ops[j]? = some oj ∧ oj.dst = some t
    · obtain ⟨j, oj, hj, hd⟩ := hw
      obtain ⟨h1, h2⟩ := D.po j (DR.size_some hj)
      rw [I.cur.got j oj t hj hd (by rw [← h2]; exact hall _ h1), c1 (pos j) oj h1 (by rw [h2]; exact hj) hd]
    · rw [I.cur.old t ht (fun i o h1 h2 => absurd ⟨i, o, h1, h2⟩ hw), c2 (fun q o _ h1 h2 => hw ⟨_, o, h1, h2⟩)]
  refine ⟨J, ⟨⟨I'.st.at_.glob, ⟨I'.st.at_.fr.size, I'.st.at_.fr.le, fun t ht => ?_⟩⟩, I'.st.sz, I'.st.wr, ?_, I'.st.pins⟩, I'.ev⟩
  · have := I'.st.sz
    rw [← hf t (by omega)]; exact I'.st.at_.fr.rel t ht
  · have e := hf slotR (by decide)
    rcases I'.st.ar with ⟨h1, h2⟩ | ⟨l, x, h1, h2, h3⟩
    · exact .inl ⟨h1, by rw [← e]; exact h2⟩
    · exact .inr ⟨l, x, by rw [← e]; exact h1, h2, h3⟩
theorem DR.any_wp (ids0 : ∀ b x, J0 b = some x → b < N) {Q : Exit → Act → World → Prop} (hQ : ∀ a' w', After P nG base w0 sz S r N J0 H0 wb (fr ops.size) (Hh ops.size) a' w' → Q .normal a' w') : ∀ (fuel : Nat) {ls : Array Bool} {k : Nat} {J : Inj} {f : Fr} {a : Act} {w : World},
    IV P nG base w0 sz S r N ops π pos idn fr Hh vv J0 H0 wb ls k J f a w → ls.toList.count false ≤ fuel → wpAnyIn (FF r) 0 P .any ops Q fuel ls a w := by
  intro fuel
  induction fuel with
  | zero =>
    intro ls k J f a w I hc
    have hr : Region.ready .any ops ls = [] := by
      cases h : Region.ready .any ops ls with
      | nil => rfl
      | cons i l =>
        have hi : i ∈ Region.ready .any ops ls := by rw [h]; simp
        obtain ⟨h1, o, ho, _⟩ := mem_ready.1 hi
        have hlt : i < ls.size := by rw [I.size]; exact DR.size_some ho
        have h0 : ls[i] = false := by simpa [hlt] using h1
        have : false ∈ ls.toList := by rw [← h0]; simp
        have := List.count_pos_iff.2 this
        omega
    exact ⟨hr, hQ _ _ (D.end_ I hr)⟩
  | succ fuel ih =>
    intro ls k J f a w I hc
    refine ⟨fun hr => hQ _ _ (D.end_ I hr), fun i hi => ?_⟩
    refine D.next_wp I ids0 hi fun k' J' f' a' w' I' => ih I' ?_
    obtain ⟨h1, o, ho, _⟩ := mem_ready.1 hi
    have hlt : i < ls.size := by rw [I.size]; exact DR.size_some ho
    have h0 : ls[i] = false := by simpa [hlt] using h1
    rw [Array.toList_setIfInBounds, List.count_set (by simpa using hlt)]
    have hm : false ∈ ls.toList := by rw [← h0]; simp
    have := List.count_pos_iff.2 hm
    simp [h0]
    simp at hc this
    omega
theorem DR.region_wp (hm : P.follows .mixedOrders = true) {id : Nat} {J : Inj} {a : Act} {w : World} {H : AH} (hst : St P nG base w0 sz S r J (fr 0) H a w) (hN : N = H.next) (hH : Hh 0 = H.skip m) (htop : H.next + m ≤ 262144) {Q : Exit → Act → World → Prop}
    (hQ : ∀ a' w', After P nG base w0 sz S r H.next J H w (fr ops.size) (Hh ops.size) a' w' → Q .normal a' w') : (Code.region id ops true).wpIn (FF r) 0 P Q a w := by
  refine wpIn_region_any hm ?_
  have hno : ∀ i : Nat, (Array.replicate ops.size false).getD i false = false := fun i => by
    by_cases hi : i < ops.size <;> simp [hi]
  have hno2 : ∀ {i : Nat} {A : Prop}, (Array.replicate ops.size false).getD i false = true → A := fun {i} {A} h => by rw [hno i] at h; cases h
  have hsk : ∀ b : Nat, (Hh 0).get b = H.get b := fun b => by rw [hH]; rfl
  subst hN
  refine D.any_wp (J0 := J) (H0 := H) (wb := w) hst.wr.ids hQ ops.size (k := 0) (J := J) (f := fr 0) ?_ ?_
  · refine ⟨by simp, ?_, Nat.zero_le _, fun q hq => absurd hq (by omega), fun q o _ _ _ h => hno2 h, ⟨fun i o t _ _ h => hno2 h, fun t _ _ => rfl⟩, ⟨hst.at_, hst.sz, ?_, hst.ar, ?_⟩, ?_, fun q cs e _ _ h => hno2 h, fun q q' cs cs' e e' x x' _ _ _ _ h => hno2 h, fun q o h1 h2 h3 _ => ?_⟩
    · intro j o e ho h
      have := DR.size_some ho
      simp [this] at h
    · rw [hH]; exact (hst.wr.skip htop).drew
    · obtain ⟨rs, h1, h2, h3⟩ := hst.pins
      refine ⟨rs, h1, h2, fun B hB => ?_⟩
      obtain ⟨a1, a2, a3⟩ := h3 B hB
      exact ⟨a1, a2, fun b x hl hb => a3 b x (by rw [← hsk b]; exact hl) hb⟩
    · rw [hH]
      exact (Ev.heap_eq (w := w) (w' := { w with drawn := w.drawn + 1 }) rfl).trans hst.wr.ids (Ev.skip _ J H _ m)
    · have hid := D.idm q o h1 h2 h3
      refine ⟨?_, ?_⟩
      · cases h : J (H.next + idn q) with
        | none => rfl
        | some x => have := hst.wr.ids _ x h; omega
      · rw [hsk]
        exact hst.wr.clean _ (by omega) (by omega)
  · simp
end
end Go.Proofs.YthlfhfliidhelaaGreatDoor.Eng
namespace Go.Proofs.YthlfhfliidhelaaGreatDoor.Eng
open Go.RowKit
variable {P : Program} {nG : Nat} {K : Known}
def CallsOk (P : Program) (nG : Nat) (K : Known) (n : Nat) : Prop :=
  ∀ k, k < n → ∀ (f : Value) (args : List Value) (fr : Fr) (H : AH) (v : Value) (H' : AH), exec P nG K k (.call f args) fr H = .val v H' → CallSem P nG f args H v H'
theorem CallsOk.mono {n m : Nat} (h : CallsOk P nG K n) (hm : m ≤ n) : CallsOk P nG K m := fun k hk => h k (by omega)
theorem exec_ops (n : Nat) (l : List PO) (fr : Fr) (H : AH) : exec P nG K (n + 1) (.ops l) fr H = opsF l (exec P nG K n) fr H := rfl
theorem exec_dops (n N : Nat) (l : List PO) (sn : List (Nat × AH)) (fr : Fr) (H : AH) : exec P nG K (n + 1) (.dops N l sn) fr H = dopsF N l sn (exec P nG K n) fr H := rfl
theorem exec_code (n : Nat) (c : Code) (fr : Fr) (H : AH) : exec P nG K (n + 1) (.code c) fr H = codeF P nG K c (exec P nG K n) fr H := rfl
theorem exec_call (n : Nat) (f : Value) (args : List Value) (fr : Fr) (H : AH) : exec P nG K (n + 1) (.call f args) fr H = callF P nG K f args (exec P nG K n) H := rfl
theorem runK_step {n : Nat} (hc : CallsOk P nG K (n + 1)) {k : OpK} {d : Option Tmp} {l : List PO} {fr : Fr} {H : AH} {e : Ex} {fr' : Fr} {H' : AH} (h : runK k d l (exec P nG K n) fr H = .ok e fr' H') :
    ∃ v H1, AStep P nG fr H v H1 k ∧ exec P nG K n (.ops l) (putD d v fr) H1 = .ok e fr' H' := by
  cases k with
  | bad => cases h
  | q f =>
    replace h : (Option.rec (.bad [1, lenL l]) (fun v => exec P nG K n (.ops l) (putD d v fr) H) (f fr) : Rs) = _ := h
    cases hf : f fr with
    | none => rw [hf] at h; cases h
    | some v => rw [hf] at h; exact ⟨v, H, ⟨hf, rfl⟩, h⟩
  | r f =>
    replace h : (Option.rec (.bad [2, lenL l]) (fun v => exec P nG K n (.ops l) (putD d v fr) H) (f fr H) : Rs) = _ := h
    cases hf : f fr H with
    | none => rw [hf] at h; cases h
    | some v => rw [hf] at h; exact ⟨v, H, ⟨hf, rfl⟩, h⟩
  | n f g =>
    replace h : (match f fr, H.room with
      | some (cs, e), true => exec P nG K n (.ops l) (putD d (g H.next cs) fr) (H.new (.cells cs e))
      | _, _ => .bad [3, lenL l] : Rs) = _ := h
    split at h
    · rename_i cs t hf hr
      exact ⟨_, _, ⟨cs, t, hf, hr, rfl, rfl⟩, h⟩
    · cases h
  | a f =>
    replace h : (RO.rec (.bad [4, lenL l]) (fun v H => exec P nG K n (.ops l) (putD d v fr) H) (f fr H) : Rs) = _ := h
    cases hf : f fr H with
    | bad => rw [hf] at h; cases h
    | ok v H1 => rw [hf] at h; exact ⟨v, H1, hf, h⟩
  | call f args =>
    replace h : (Rs.rec (fun tr => .bad (lenL l :: tr)) (fun _ _ _ => .bad [5]) (fun v H => exec P nG K n (.ops l) (putD d v fr) H) (exec P nG K n (.call (ev f fr) (mapL (fun x => ev x fr) args)) fr0 H) : Rs) = _ := h
    cases hf : exec P nG K n (.call (ev f fr) (mapL (fun x => ev x fr) args)) fr0 H with
    | bad tr => rw [hf] at h; cases h
    | ok e1 fr1 H1 => rw [hf] at h; cases h
    | val v H1 =>
      rw [hf] at h
      refine ⟨v, H1, ?_, h⟩
      rw [mapL_eq] at hf
      exact hc n (by omega) _ _ _ _ _ _ hf
theorem ops_sem {L : List Oper} : ∀ (n : Nat), CallsOk P nG K n → ∀ (l : List Oper) (fr : Fr) (H : AH) (e : Ex) (fr' : Fr) (H' : AH), exec P nG K n (.ops (prep P nG L l)) fr H = .ok e fr' H' → e = .normal ∧ ARun P nG L l fr H fr' H' := by
  intro n
  induction n with
  | zero => intro _ l fr H e fr' H' h; cases h
  | succ n ih =>
    intro hc l fr H e fr' H' h
    rw [exec_ops] at h
    cases l with
    | nil => injection h with h1 h2 h3; subst h1 h2 h3; exact ⟨rfl, .nil _ _⟩
    | cons o l =>
      replace h : rG (guardOf L o.guard) (opT P nG o.op) o.dst (prep P nG L l) (exec P nG K n) fr H = _ := h
      have go : runK (opT P nG o.op) o.dst (prep P nG L l) (exec P nG K n) fr H = .ok e fr' H' → wants (guardOf L o.guard) fr = true → e = .normal ∧ ARun P nG L (o :: l) fr H fr' H' := fun h hw => by
        obtain ⟨v, H1, h1, h2⟩ := runK_step hc h
        obtain ⟨h3, h4⟩ := ih (hc.mono (by omega)) l _ _ _ _ _ h2
        exact ⟨h3, .step o l fr H v H1 fr' H' hw h1 h4⟩
      cases hg : guardOf L o.guard with
      | none => rw [hg] at h; exact go h (by rw [hg]; rfl)
      | some p =>
        obtain ⟨t, w⟩ := p
        rw [hg] at h
        replace h : (Bool.rec (rSkip o.dst (prep P nG L l) (exec P nG K n) fr H) (runK (opT P nG o.op) o.dst (prep P nG L l) (exec P nG K n) fr H) (wants (some (t, w)) fr) : Rs) = _ := h
        cases hw : wants (some (t, w)) fr with
        | false =>
          rw [hw] at h
          obtain ⟨h3, h4⟩ := ih (hc.mono (by omega)) l _ _ _ _ _ h
          exact ⟨h3, .skip o l fr H fr' H' (by rw [hg]; exact hw) h4⟩
        | true => rw [hw] at h; exact go h (by rw [hg]; exact hw)
/-! values that are found the same are the same -/
theorem same1_eq {v u : Value} (h : same1 v u = true) : u = v := by
  unfold same1 at h
  split at h
  · rw [decide_eq_true_eq] at h; rw [h]
  · rw [Bool.and_eq_true, eqlV_eq] at h
    rw [kEq_eq h.1]; have := h.2; simp at this; rw [this]
  · rename_i a b
    obtain ⟨a⟩ := a
    obtain ⟨b⟩ := b
    have h1 : (a == b) = true := h
    rw [eq_of_beq h1]
  · unfold sameA at h; rw [decide_eq_true_eq] at h; rw [h]
  · simp only [Bool.and_eq_true, sameA, decide_eq_true_eq, Nat.beq_eq] at h
    rw [h.1, h.2.1, h.2.2]
  · rw [decide_eq_true_eq] at h; rw [h]
  · rfl
  · rfl
  · cases h
theorem sameL_eq : ∀ {l r : List Value}, sameL l r = true → r = l
  | [], [], _ => rfl
  | [], _ :: _, h => by cases h
  | _ :: _, [], h => by cases h
  | v :: l, u :: r, h => by
    replace h : (Bool.rec false (sameL l r) (same1 v u) : Bool) = true := h
    cases h1 : same1 v u with
    | false => rw [h1] at h; cases h
    | true => rw [h1] at h; rw [same1_eq h1, sameL_eq h]
theorem sameV_eq {v u : Value} (h : sameV v u = true) : u = v := by
  unfold sameV at h
  split at h
  · rw [sameL_eq h]
  · rw [sameL_eq h]
  · rw [Bool.and_eq_true, Bool.and_eq_true, Nat.beq_eq] at h
    obtain ⟨⟨rfl, h1⟩, h2⟩ := h
    rw [sameL_eq h1, sameL_eq h2]
  · exact same1_eq h
theorem agree_all {f : AH → Option Value} {v : Value} {n : Nat} : ∀ {sn : List (Nat × AH)}, agree f v n sn = true → ∀ p ∈ sn, p.1 ≤ n → f p.2 = some v
  | [], _, p, hp, _ => by cases hp
  | q :: sn, h, p, hp, hn => by
    replace h : (Bool.rec (agree f v n sn) (match f q.2 with
      | some u => Bool.rec false (agree f v n sn) (sameV v u)
      | none => false) (Nat.ble q.1 n) : Bool) = true := h
    have hrest : agree f v n sn = true ∧ (q.1 ≤ n → f q.2 = some v) := by
      cases hb : Nat.ble q.1 n with
      | false => rw [hb] at h; exact ⟨h, fun h1 => by rw [← Nat.ble_eq, hb] at h1; cases h1⟩
      | true =>
        rw [hb] at h
        dsimp only at h
        cases hf : f q.2 with
        | none => rw [hf] at h; cases h
        | some u =>
          rw [hf] at h
          dsimp only at h
          cases hs : sameV v u with
          | false => rw [hs] at h; cases h
          | true => rw [hs] at h; exact ⟨h, fun _ => by rw [sameV_eq hs]⟩
    rcases List.mem_cons.1 hp with rfl | hp
    · exact hrest.2 hn
    · exact agree_all hrest.1 p hp hn
theorem dK_step {n N : Nat} (hc : CallsOk P nG K (n + 1)) {k : OpK} {d : Option Tmp} {b : Nat} {l : List PO} {sn : List (Nat × AH)} {fr : Fr} {H : AH} {e : Ex} {fr' : Fr} {H' : AH} (h : dK k d b N l sn (exec P nG K n) fr H = .ok e fr' H') :
    ∃ v H1 sn1, DStep P nG (N + b) fr H v H1 (fun f => ∀ p ∈ sn, p.1 ≤ b → f p.2 = some v) k ∧ (sn1 = sn ∧ H1 = H ∨ sn1 = (lenL l, H) :: sn) ∧ H.next ≤ H1.next ∧ exec P nG K n (.dops N l sn1) (putD d v fr) H1 = .ok e fr' H' := by
  cases k with
  | bad => cases h
  | q f =>
    replace h : (Option.rec (.bad [31, lenL l]) (fun v => exec P nG K n (.dops N l sn) (putD d v fr) H) (f fr) : Rs) = _ := h
    cases hf : f fr with
    | none => rw [hf] at h; cases h
    | some v => rw [hf] at h; exact ⟨v, H, sn, ⟨hf, rfl⟩, .inl ⟨rfl, rfl⟩, Nat.le_refl _, h⟩
  | r f =>
    replace h : (Option.rec (.bad [32, lenL l]) (fun v => Bool.rec (.bad [37, lenL l]) (exec P nG K n (.dops N l sn) (putD d v fr) H) (agree (f fr) v b sn)) (f fr H) : Rs) = _ := h
    cases hf : f fr H with
    | none => rw [hf] at h; cases h
    | some v =>
      rw [hf] at h
      dsimp only at h
      cases ha : agree (f fr) v b sn with
      | false => rw [ha] at h; cases h
      | true => rw [ha] at h; exact ⟨v, H, sn, ⟨hf, rfl, agree_all ha⟩, .inl ⟨rfl, rfl⟩, Nat.le_refl _, h⟩
  | n f g =>
    replace h : (match f fr with
      | some (cs, e) => exec P nG K n (.dops N l ((lenL l, H) :: sn)) (putD d (g (Nat.add N b) cs) fr) (H.put (Nat.add N b) (some (.cells cs e)))
      | none => .bad [33, lenL l] : Rs) = _ := h
    split at h
    · rename_i cs t hf
      exact ⟨_, _, _, ⟨cs, t, hf, rfl, rfl⟩, .inr rfl, Nat.le_refl _, h⟩
    · cases h
  | a f =>
    replace h : (RO.rec (.bad [34, lenL l]) (fun v H' => Bool.rec (.bad [38, lenL l]) (exec P nG K n (.dops N l ((lenL l, H) :: sn)) (putD d v fr) H') (Nat.ble H.next H'.next)) (f fr H) : Rs) = _ := h
    cases hf : f fr H with
    | bad => rw [hf] at h; cases h
    | ok v H1 =>
      rw [hf] at h
      dsimp only at h
      cases hb : Nat.ble H.next H1.next with
      | false => rw [hb] at h; cases h
      | true => rw [hb] at h; exact ⟨v, H1, _, hf, .inr rfl, by rw [← Nat.ble_eq]; exact hb, h⟩
  | call f args =>
    replace h : (Rs.rec (fun tr => .bad (lenL l :: tr)) (fun _ _ _ => .bad [35]) (fun v H' => Bool.rec (.bad [39, lenL l]) (exec P nG K n (.dops N l ((lenL l, H) :: sn)) (putD d v fr) H') (Nat.ble H.next H'.next)) (exec P nG K n (.call (ev f fr) (mapL (fun x => ev x fr) args)) fr0 H) : Rs) = _ := h
    cases hf : exec P nG K n (.call (ev f fr) (mapL (fun x => ev x fr) args)) fr0 H with
    | bad tr => rw [hf] at h; cases h
    | ok e1 fr1 H1 => rw [hf] at h; cases h
    | val v H1 =>
      rw [hf] at h
      dsimp only at h
      cases hb : Nat.ble H.next H1.next with
      | false => rw [hb] at h; cases h
      | true =>
        rw [hb] at h
        refine ⟨v, H1, _, ?_, .inr rfl, by rw [← Nat.ble_eq]; exact hb, h⟩
        rw [mapL_eq] at hf
        exact hc n (by omega) _ _ _ _ _ _ hf
theorem DStep.weak {b : Nat} {fr : Fr} {H H' : AH} {v : Value} {rd rd' : (AH → Option Value) → Prop} {k : OpK} (hr : ∀ f, k = .r f → f fr H = some v → rd (f fr) → rd' (f fr)) (h : DStep P nG b fr H v H' rd k) : DStep P nG b fr H v H' rd' k := by
  cases k with
  | r f => exact ⟨h.1, h.2.1, hr f rfl h.1 h.2.2⟩
  | _ => exact h
theorem dops_sem {N : Nat} : ∀ (n : Nat), CallsOk P nG K n → ∀ (l : List PO) (p : Nat) (hist : Nat → AH) (fr : Fr) (H : AH) (sn : List (Nat × AH)) (e : Ex) (fr' : Fr) (H' : AH), exec P nG K n (.dops N l sn) fr H = .ok e fr' H' → hist p = H →
    (∀ k, k ≤ p → hist k = H ∨ ∃ q, k ≤ q ∧ q < p ∧ (p + l.length - 1 - q, hist q) ∈ sn ∧ hist k = hist q) →
    e = .normal ∧ ∃ (F : Nat → Fr) (G : Nat → AH) (V : Nat → Value), (∀ k, k ≤ p → G k = hist k) ∧ F p = fr ∧ F (p + l.length) = fr' ∧ G (p + l.length) = H' ∧
      ∀ (j : Nat) (po : PO), p ≤ j → l[j - p]? = some po → F (j + 1) = putD po.dst (V j) (F j) ∧ (G j).next ≤ (G (j + 1)).next ∧ ((wants po.guard (F j) = false ∧ V j = undef ∧ G (j + 1) = G j) ∨
        (wants po.guard (F j) = true ∧ DStep P nG (N + po.back) (F j) (G j) (V j) (G (j + 1)) (fun f => ∀ k, k ≤ j → p + l.length - 1 - k ≤ po.back → f (G k) = some (V j)) po.k)) := by
  intro n
  induction n with
  | zero => intro _ l p hist fr H sn e fr' H' h; cases h
  | succ n ih =>
    intro hc l p hist fr H sn e fr' H' h hp hinv
    rw [exec_dops] at h
    cases l with
    | nil =>
      injection h with h1 h2 h3; subst h1 h2 h3
      exact ⟨rfl, fun _ => fr, hist, fun _ => undef, fun _ _ => rfl, rfl, rfl, hp, fun j po _ hj => by simp at hj⟩
    | cons o l =>
      obtain ⟨k, d, g, b⟩ := o
      replace h : dG g k d b N l sn (exec P nG K n) fr H = _ := h
      have go : ∀ (v : Value) (H1 : AH) (sn1 : List (Nat × AH)), (sn1 = sn ∧ H1 = H ∨ sn1 = (lenL l, H) :: sn) → H.next ≤ H1.next → exec P nG K n (.dops N l sn1) (putD d v fr) H1 = .ok e fr' H' →
          ((wants g fr = false ∧ v = undef ∧ H1 = H) ∨ (wants g fr = true ∧ DStep P nG (N + b) fr H v H1 (fun f => ∀ p ∈ sn, p.1 ≤ b → f p.2 = some v) k)) →
          e = .normal ∧ ∃ (F : Nat → Fr) (G : Nat → AH) (V : Nat → Value), (∀ k, k ≤ p → G k = hist k) ∧ F p = fr ∧ F (p + (l.length + 1)) = fr' ∧ G (p + (l.length + 1)) = H' ∧
            ∀ (j : Nat) (po : PO), p ≤ j → ((⟨k, d, g, b⟩ : PO) :: l)[j - p]? = some po → F (j + 1) = putD po.dst (V j) (F j) ∧ (G j).next ≤ (G (j + 1)).next ∧ ((wants po.guard (F j) = false ∧ V j = undef ∧ G (j + 1) = G j) ∨
              (wants po.guard (F j) = true ∧ DStep P nG (N + po.back) (F j) (G j) (V j) (G (j + 1)) (fun f => ∀ k, k ≤ j → p + (l.length + 1) - 1 - k ≤ po.back → f (G k) = some (V j)) po.k)) := by
        intro v H1 sn1 hsn hnx hex hst
        obtain ⟨h1, F, G, V, g1, g2, g3, g4, g5⟩ := ih (hc.mono (by omega)) l (p + 1) (fun k => if k ≤ p then hist k else H1) _ H1 sn1 e fr' H' hex (if_neg (by omega)) (fun k hk => by
          rcases Nat.lt_or_ge p k with hk1 | hk1
          · exact .inl (if_neg (by omega))
          · have e1 : (if k ≤ p then hist k else H1) = hist k := if_pos hk1
            rw [e1]
            rcases hsn with ⟨rfl, rfl⟩ | rfl
            · rcases hinv k hk1 with h | ⟨q, q1, q2, q3, q4⟩
              · exact .inl h
              · exact .inr ⟨q, q1, by omega, by rw [if_pos (by omega)]; simp only [List.length_cons] at q3; rw [show p + 1 + l.length - 1 - q = p + (l.length + 1) - 1 - q from by omega]; exact q3, by rw [if_pos (by omega)]; exact q4⟩
            · right
              rcases hinv k hk1 with h | ⟨q, q1, q2, q3, q4⟩
              · refine ⟨p, hk1, by omega, ?_, by rw [if_pos (Nat.le_refl _), hp]; exact h⟩
                rw [if_pos (Nat.le_refl _), hp, lenL_eq, show p + 1 + l.length - 1 - p = l.length from by omega]
                exact List.mem_cons_self
              · refine ⟨q, q1, by omega, ?_, by rw [if_pos (by omega)]; exact q4⟩
                rw [if_pos (by omega), show p + 1 + l.length - 1 - q = p + (l.length + 1) - 1 - q from by omega]
                exact List.mem_cons_of_mem _ q3)
        refine ⟨h1, fun j => if j ≤ p then fr else F j, G, fun j => if j ≤ p then v else V j, fun k hk => by rw [g1 k (by omega), if_pos hk], if_pos (Nat.le_refl _), ?_, ?_, ?_⟩
        · show (if p + (l.length + 1) ≤ p then fr else F (p + (l.length + 1))) = fr'
          rw [if_neg (by omega), ← g3, show p + (l.length + 1) = p + 1 + l.length from by omega]
        · rw [← g4, show p + (l.length + 1) = p + 1 + l.length from by omega]
        · intro j po hj hpo
          have eG : ∀ k, k ≤ p → G k = hist k := fun k hk => by rw [g1 k (by omega), if_pos hk]
          have eGp : G p = H := (eG p (Nat.le_refl _)).trans hp
          have eG1 : G (p + 1) = H1 := by rw [g1 (p + 1) (Nat.le_refl _), if_neg (by omega)]
          rcases Nat.lt_or_ge p j with hj1 | hj1
          · rw [show j - p = (j - (p + 1)) + 1 from by omega, List.getElem?_cons_succ] at hpo
            have := g5 j po hj1 hpo
            simp only [if_neg (show ¬ j ≤ p from by omega), if_neg (show ¬ j + 1 ≤ p from by omega)]
            refine ⟨this.1, this.2.1, ?_⟩
            rw [show p + (l.length + 1) = p + 1 + l.length from by omega]
            exact this.2.2
          · obtain rfl : j = p := by omega
            rw [Nat.sub_self, List.getElem?_cons_zero] at hpo
            obtain rfl := Option.some.inj hpo
            simp only [if_pos (Nat.le_refl j), if_neg (show ¬ j + 1 ≤ j from by omega)]
            rw [eGp, eG1]
            refine ⟨g2, hnx, ?_⟩
            rcases hst with ⟨a1, a2, a3⟩ | ⟨a1, a2⟩
            · exact .inl ⟨a1, a2, a3⟩
            · refine .inr ⟨a1, a2.weak fun f _ hf hrd k hk hb => ?_⟩
              rw [eG k hk]
              rcases hinv k hk with h | ⟨q, q1, q2, q3, q4⟩
              · rw [h]; exact hf
              · rw [q4]
                simp only [List.length_cons] at q3
                exact hrd _ q3 (by simp only; omega)
      have key : ∃ v H1 sn1, (sn1 = sn ∧ H1 = H ∨ sn1 = (lenL l, H) :: sn) ∧ H.next ≤ H1.next ∧ exec P nG K n (.dops N l sn1) (putD d v fr) H1 = .ok e fr' H' ∧
          ((wants g fr = false ∧ v = undef ∧ H1 = H) ∨ (wants g fr = true ∧ DStep P nG (N + b) fr H v H1 (fun f => ∀ p ∈ sn, p.1 ≤ b → f p.2 = some v) k)) := by
        cases g with
        | none =>
          obtain ⟨v, H1, sn1, h1, h2, h3, h4⟩ := dK_step hc h
          exact ⟨v, H1, sn1, h2, h3, h4, .inr ⟨rfl, h1⟩⟩
        | some q =>
          obtain ⟨t, w⟩ := q
          replace h : (Bool.rec (dSkip d N l sn (exec P nG K n) fr H) (dK k d b N l sn (exec P nG K n) fr H) (wants (some (t, w)) fr) : Rs) = _ := h
          cases hw : wants (some (t, w)) fr with
          | false => rw [hw] at h; exact ⟨undef, H, sn, .inl ⟨rfl, rfl⟩, Nat.le_refl _, h, .inl ⟨rfl, rfl, rfl⟩⟩
          | true =>
            rw [hw] at h
            obtain ⟨v, H1, sn1, h1, h2, h3, h4⟩ := dK_step hc h
            exact ⟨v, H1, sn1, h2, h3, h4, .inr ⟨rfl, h1⟩⟩
      obtain ⟨v, H1, sn1, h2, h3, h4, h5⟩ := key
      exact go v H1 sn1 h2 h3 h4 h5
end Go.Proofs.YthlfhfliidhelaaGreatDoor.Eng
namespace Go.Proofs.YthlfhfliidhelaaGreatDoor.Eng
open Go.RowKit
variable {P : Program} {nG : Nat} {K : Known}
theorem bit_eq (m i : Nat) : bit m i = m.testBit i := by
  unfold bit
  rw [Nat.testBit_eq_decide_div_mod_eq]
  show Nat.beq (m / 2 ^ i % 2) 1 = _
  cases h : Nat.beq (m / 2 ^ i % 2) 1 with
  | true => rw [Nat.beq_eq] at h; rw [h]; rfl
  | false =>
    have : m / 2 ^ i % 2 ≠ 1 := fun h1 => by rw [h1] at h; cases h
    simp [this]
theorem maskOf_bf {ops : Array Oper} {j : Nat} {o : Oper} (ho : ops[j]? = some o) {ms : List Nat} (hms : ∀ k i, bit (ms.getD k 0) i = true → Bf ops i k) : ∀ (l : List Edge), (∀ e ∈ l, e ∈ o.after) → ∀ i, bit (maskOf ms l) i = true → Bf ops i j
  | [], _, i, h => by unfold maskOf at h; rw [bit_eq] at h; simp at h
  | e :: l, hl, i, h => by
    unfold maskOf at h
    split at h
    · rename_i hb
      rw [bit_eq] at h
      have h' : ((Nat.pow 2 e.on ||| ms.getD e.on 0) ||| maskOf ms l).testBit i = true := h
      rw [Nat.testBit_or, Nat.testBit_or] at h'
      simp only [Bool.or_eq_true] at h'
      rcases h' with (h1 | h1) | h1
      · have h2 : (2 ^ e.on).testBit i = true := h1
        rw [Nat.testBit_two_pow] at h2
        obtain rfl : e.on = i := by simpa using h2
        exact .edge j o e ho (hl e (by simp)) hb
      · exact .trans i j o e ho (hl e (by simp)) hb (hms _ _ (by rw [bit_eq]; exact h1))
      · exact maskOf_bf ho hms l (fun e' he' => hl e' (by simp [he'])) i (by rw [bit_eq]; exact h1)
    · exact maskOf_bf ho hms l (fun e' he' => hl e' (by simp [he'])) i h
theorem masks_bf {ops : Array Oper} : ∀ (l : List Oper) (ms : List Nat), ms.length + l.length = ops.size → (∀ k o, l[k]? = some o → ops[ms.length + k]? = some o) → (∀ k i, bit (ms.getD k 0) i = true → Bf ops i k) → ∀ k i, bit ((masks l ms).getD k 0) i = true → Bf ops i k
  | [], ms, _, _, h => h
  | o :: l, ms, hl, ho, h => by
    unfold masks
    have h0 := ho 0 o rfl
    refine masks_bf l _ (by simp at hl ⊢; omega) (fun k o' hk => ?_) (fun k i hb => ?_)
    · have := ho (k + 1) o' (by simpa using hk)
      simpa [Nat.add_assoc, Nat.add_comm 1 k] using this
    · rcases Nat.lt_or_ge k ms.length with h1 | h1
      · refine h k i ?_
        simpa [List.getElem?_append_left h1] using hb
      · rcases Nat.lt_or_ge ms.length k with h2 | h2
        · rw [bit_eq] at hb
          have : (ms ++ [maskOf ms o.after.toList])[k]? = none := by simp; omega
          simp [List.getD, this] at hb
        · obtain rfl : k = ms.length := by omega
          refine maskOf_bf (j := ms.length) (by simpa using h0) h o.after.toList (fun e he => by simpa using he) i ?_
          simpa [List.getD] using hb
theorem posOf_get : ∀ {l : List Nat} {i : Nat}, posOf i l < l.length → l[posOf i l]? = some i
  | [], _, h => by simp [posOf] at h
  | j :: l, i, h => by
    unfold posOf at h ⊢
    split
    · rename_i e; rw [Nat.beq_eq] at e; subst e; rfl
    · rename_i e
      rw [e] at h
      simp only [List.length_cons] at h
      rw [List.getElem?_cons_succ]
      exact posOf_get (by omega)
noncomputable def backOf (k : OpK) (a b : Nat) : Nat := OpK.rec b (fun _ => b) (fun _ => b) (fun _ _ => a) (fun _ => b) (fun _ _ => b) k
theorem planL_get {ops : List Oper} {ks : List OpK} {ms : List Nat} : ∀ (π rev : List Nat) (l : List PO), planL ops ks ms π rev = some l → l.length = π.length ∧ ∀ (p i : Nat), π[p]? = some i → ∃ o k, ops[i]? = some o ∧ ks[i]? = some k ∧
    l[p]? = some ⟨k, o.dst, guardOf ops o.guard, backOf k (countN ks ((π.take p).reverse ++ rev)) (ops.length - 1 - lastA ks (ms.getD i 0) ((π.take p).reverse ++ rev))⟩
  | [], rev, l, h => by
    unfold planL at h
    obtain rfl := Option.some.inj h
    exact ⟨rfl, fun p i hp => by simp at hp⟩
  | j :: π, rev, l, h => by
    unfold planL at h
    split at h
    · rename_i o k r ho hk hr
      obtain rfl := Option.some.inj h
      obtain ⟨h1, h2⟩ := planL_get π (j :: rev) r hr
      refine ⟨by simp [h1], fun p i hp => ?_⟩
      cases p with
      | zero =>
        simp only [List.getElem?_cons_zero] at hp
        obtain rfl := Option.some.inj hp
        exact ⟨o, k, ho, hk, by cases k <;> rfl⟩
      | succ p =>
        rw [List.getElem?_cons_succ] at hp
        obtain ⟨o', k', a1, a2, a3⟩ := h2 p i hp
        refine ⟨o', k', a1, a2, ?_⟩
        rw [List.getElem?_cons_succ, a3]
        simp
    · cases h
theorem countN_cons (ks : List OpK) (i : Nat) (l : List Nat) : countN ks (i :: l) = (if (ks[i]?).map isN = some true then 1 else 0) + countN ks l := by
  rw [countN]
  split
  · rename_i h; rw [if_pos h]; omega
  · rename_i h; rw [if_neg (fun e => h e)]; omega
theorem countN_append (ks : List OpK) : ∀ (a b : List Nat), countN ks (a ++ b) = countN ks a + countN ks b
  | [], b => by simp [countN]
  | i :: a, b => by
    rw [List.cons_append, countN_cons, countN_cons, countN_append ks a b]
    omega
theorem countN_reverse (ks : List OpK) : ∀ (a : List Nat), countN ks a.reverse = countN ks a
  | [] => rfl
  | i :: a => by
    rw [List.reverse_cons, countN_append, countN_reverse ks a]
    show countN ks a + countN ks [i] = countN ks ([i] ++ a)
    rw [countN_append]; omega
theorem countN_one {ks : List OpK} {i : Nat} {k : OpK} (h : ks[i]? = some k) (hn : isNK k = true) : countN ks [i] = 1 := by
  have : isN k = true := by cases k <;> first | rfl | cases hn
  simp [countN, h, this]
theorem countN_take {ks : List OpK} {π : List Nat} {p q i : Nat} {k : OpK} (hpq : p < q) (hp : π[p]? = some i) (h : ks[i]? = some k) (hn : isNK k = true) : countN ks (π.take p) < countN ks (π.take q) := by
  have e : π.take q = π.take p ++ (i :: (π.take q).drop (p + 1)) := by
    have hlt := (List.getElem?_eq_some_iff.1 hp).1
    have h1 : (π.take q).take p = π.take p := by rw [List.take_take]; congr 1; omega
    have h2 : (π.take q)[p]? = some i := by rw [List.getElem?_take]; simp [hpq, hp]
    have h3 := List.take_append_drop p (π.take q)
    rw [h1] at h3
    obtain ⟨h4, h5⟩ := List.getElem?_eq_some_iff.1 h2
    rw [List.drop_eq_getElem_cons h4, h5] at h3
    exact h3.symm
  rw [e, countN_append]
  show _ < _ + countN ks ([i] ++ _)
  rw [countN_append, countN_one h hn]
  omega
theorem lastA_spec {ks : List OpK} {m : Nat} : ∀ (l : List Nat), lastA ks m l = 0 ∨ ∃ i k, l.reverse[lastA ks m l - 1]? = some i ∧ lastA ks m l - 1 < l.length ∧ ks[i]? = some k ∧ isFloat k = false ∧ bit m i = true
  | [] => .inl rfl
  | i :: l => by
    have go : lastA ks m (i :: l) = l.length + 1 ∧ (∃ k, ks[i]? = some k ∧ isFloat k = false ∧ bit m i = true) ∨ lastA ks m (i :: l) = lastA ks m l := by
      rw [lastA]
      split
      · rename_i h1 h2
        left
        cases hk : ks[i]? with
        | none => rw [hk] at h1; cases h1
        | some k => rw [hk] at h1; exact ⟨rfl, k, rfl, by simpa using h1, h2⟩
      · exact .inr rfl
    rcases go with ⟨h1, k, h2, h3, h4⟩ | h
    · refine .inr ⟨i, k, ?_, by rw [h1]; simp, h2, h3, h4⟩
      rw [h1]; simp
    · rw [h]
      rcases lastA_spec (ks := ks) (m := m) l with h1 | ⟨i', k, h1, h2, h3, h4, h5⟩
      · exact .inl h1
      · refine .inr ⟨i', k, ?_, by simp; omega, h3, h4, h5⟩
        rw [List.reverse_cons, List.getElem?_append_left (by simpa using h2)]; exact h1
end Go.Proofs.YthlfhfliidhelaaGreatDoor.Eng
namespace Go.Proofs.YthlfhfliidhelaaGreatDoor.Eng
open Go.RowKit
variable {P : Program} {nG : Nat} {K : Known}
theorem planOk_spec {L : List Oper} {ks : List OpK} {ms π : List Nat} (h : planOk L ks ms π = true) :
    π.length = L.length ∧ (∀ i ∈ π, i < L.length) ∧ (∀ i, i < L.length → posOf i π < π.length) ∧ (∀ p i, π[p]? = some i → posOf i π = p) ∧
    (∀ j o, L[j]? = some o → ∀ e ∈ o.after, Region.binds .any e = true → e.on < L.length ∧ posOf e.on π < posOf j π) ∧
    (∀ i x t, L[i]? = some x → x.dst = some t → ∀ j y, L[j]? = some y → i = j ∨ (y.dst ≠ some t ∧ (t ∈ slotsOf L y → bit (ms.getD j 0) i = true ∨ bit (ms.getD i 0) j = true))) ∧
    (∀ j o, L[j]? = some o → (ks[j]?).map isFloat ≠ some true → ∀ i ∈ π.take (posOf j π), bit (ms.getD j 0) i = true) := by
  unfold planOk at h
  simp only [Bool.and_eq_true] at h
  obtain ⟨⟨⟨⟨⟨⟨h1, h2⟩, h3⟩, h4⟩, h5⟩, h6⟩, h7⟩ := h
  rw [List.all_eq_true] at h2 h3 h4 h5 h6 h7
  refine ⟨by rwa [Nat.beq_eq] at h1, fun i hi => ?_, fun i hi => ?_, fun p i hp => ?_, fun j o ho e he hb => ?_, fun i x t hx ht j y hy => ?_, fun j o ho hk i hi => ?_⟩
  · have := h2 i hi; rw [Nat.ble_eq] at this; exact this
  · have := h3 i (List.mem_range.2 hi); rw [Nat.ble_eq] at this; exact this
  · have := h4 (i, p) (List.mem_zipIdx_iff_getElem?.2 hp); simp only [Nat.beq_eq] at this; exact this
  · have := h5 (o, j) (List.mem_zipIdx_iff_getElem?.2 ho)
    have := (List.all_eq_true.1 this) e (by simpa using he)
    simp only [hb, Bool.not_true, Bool.false_or, Bool.and_eq_true, Nat.ble_eq] at this
    exact this
  · have := h6 (x, i) (List.mem_zipIdx_iff_getElem?.2 hx)
    simp only [ht] at this
    have := (List.all_eq_true.1 this) (y, j) (List.mem_zipIdx_iff_getElem?.2 hy)
    simp only [Bool.or_eq_true, Bool.and_eq_true, Nat.beq_eq] at this
    rcases this with h | ⟨h8, h9⟩
    · exact .inl h
    · refine .inr ⟨fun hd => ?_, fun hs => ?_⟩
      · rw [hd] at h8
        simp only [Bool.not_eq_true'] at h8
        have : Nat.beq t t = true := by rw [Nat.beq_eq]
        rw [this] at h8; cases h8
      · rcases h9 with (h9 | h9) | h9
        · simp only [Bool.not_eq_true'] at h9
          have : (slotsOf L y).contains t = true := by simpa using hs
          rw [this] at h9; cases h9
        · exact .inl h9
        · exact .inr h9
  · have := h7 (o, j) (List.mem_zipIdx_iff_getElem?.2 ho)
    dsimp only at this
    split at this
    · rename_i e; exact absurd e hk
    · exact (List.all_eq_true.1 this) i hi
theorem kinds_get {L : List Oper} (i : Nat) : (kindsL P nG L)[i]? = (L[i]?).map fun o => opT P nG o.op := by
  unfold kindsL; rw [List.getElem?_map]
theorem drawn_sem {sz : Nat} (hm : P.follows .mixedOrders = true) {id : Nat} {ops : Array Oper} (hok : ops.toList.all (okOper sz nG ops.toList) = true) {n : Nat} (hc : CallsOk P nG K n) {l : List PO} {m : Nat} (hpl : planOf P nG ops.toList = some (l, m)) {fr : Fr} {H : AH} (htop : H.next + m ≤ 262144) {e : Ex} {fr' : Fr} {H' : AH}
    (hr : exec P nG K n (.dops H.next l []) fr (H.keep m) = .ok e fr' H') : e = .normal ∧ ∀ {base S : Nat} {w0 : World} {r : Option Nat} {J : Inj} {a : Act} {w : World}, St P nG base w0 sz S r J fr H a w → ∀ {Q : Exit → Act → World → Prop},
      (∀ a' w', After P nG base w0 sz S r H.next J H w fr' H' a' w' → Q .normal a' w') → (Code.region id ops true).wpIn (FF r) 0 P Q a w := by
  obtain ⟨he, F, G, V, g1, g2, g3, g4, g5⟩ := dops_sem n hc l 0 (fun _ => H.keep m) fr _ [] e fr' H' hr rfl (fun k _ => .inl rfl)
  refine ⟨he, fun {base S w0 r J a w} hst {Q} hQ => ?_⟩
  unfold planOf at hpl
  dsimp only at hpl
  obtain ⟨ks, hks⟩ : ∃ ks, ks = kindsL P nG ops.toList := ⟨_, rfl⟩
  obtain ⟨ms, hms⟩ : ∃ ms, ms = masks ops.toList [] := ⟨_, rfl⟩
  obtain ⟨π, hπ⟩ : ∃ π, π = orderG ops.toList.length (ks.map isFloat) ms ops.toList.length 0 0 := ⟨_, rfl⟩
  rw [← hks, ← hms, ← hπ] at hpl
  split at hpl
  · rename_i l' h1 h2
    injection hpl with hpl; injection hpl with hl hm'; subst hl
    obtain ⟨o1, o2, o3, o4, o5, o6, o7⟩ := planOk_spec h1
    obtain ⟨p1, p2⟩ := planL_get π [] l' h2
    have hlen : ops.toList.length = ops.size := by simp
    have hbf : ∀ k i, bit (ms.getD k 0) i = true → Bf ops i k := by
      rw [hms]
      exact masks_bf ops.toList [] (by simp) (fun k o hk => by simpa using hk) (fun k i hb => by rw [bit_eq] at hb; simp at hb)
    have hget : ∀ p, p < ops.size → π[p]? = some (π.getD p 0) := fun p hp => by
      have : p < π.length := by omega
      simp [this]
    have hpi : ∀ p, p < ops.size → π.getD p 0 < ops.size ∧ posOf (π.getD p 0) π = p := fun p hp => by
      have h := hget p hp
      exact ⟨by have := o2 _ (List.mem_of_getElem? h); omega, o4 p _ h⟩
    have hpo : ∀ i, i < ops.size → posOf i π < ops.size ∧ π.getD (posOf i π) 0 = i := fun i hi => by
      have h := o3 i (by omega)
      refine ⟨by omega, ?_⟩
      have := posOf_get h
      simp [List.getD, this]
    have hop : ∀ p, p < ops.size → ∀ o : Oper, ops[π.getD p 0]? = some o → ks[π.getD p 0]? = some (opT P nG o.op) ∧ l'[p]? = some ⟨opT P nG o.op, o.dst, guardOf ops.toList o.guard, backOf (opT P nG o.op) (countN ks (π.take p)) (ops.size - 1 - lastA ks (ms.getD (π.getD p 0) 0) (π.take p).reverse)⟩ := fun p hp o ho => by
      obtain ⟨o', k, a1, a2, a3⟩ := p2 p _ (hget p hp)
      have e1 : o' = o := by
        have h1 : ops[π.getD p 0]? = some o' := by rw [← Array.getElem?_toList]; exact a1
        rw [ho] at h1; exact (Option.some.inj h1).symm
      subst e1
      have e2 : k = opT P nG o'.op := by
        rw [hks, kinds_get] at a2
        rw [a1] at a2; exact (Option.some.inj a2).symm
      subst e2
      refine ⟨a2, ?_⟩
      rw [a3]
      simp only [List.append_nil, hlen, countN_reverse]
    have hkop : ∀ (i : Nat) (o : Oper), ops[i]? = some o → (ks[i]?).map isFloat = some (isFloat (opT P nG o.op)) := fun i o ho => by
      rw [hks, kinds_get]
      have : ops.toList[i]? = some o := by rw [Array.getElem?_toList]; exact ho
      rw [this]; rfl
    have hll : l'.length = ops.size := by omega
    have D : DR P nG sz H.next m ops (fun p => π.getD p 0) (fun i => posOf i π) (fun p => lastA ks (ms.getD (π.getD p 0) 0) (π.take p).reverse) (fun p => countN ks (π.take p)) F G V := by
      have hlo : ∀ p : Nat, p < ops.size → lastA ks (ms.getD (π.getD p 0) 0) (π.take p).reverse = 0 ∨ (lastA ks (ms.getD (π.getD p 0) 0) (π.take p).reverse - 1 < p ∧ (∃ o : Oper, ops[π.getD (lastA ks (ms.getD (π.getD p 0) 0) (π.take p).reverse - 1) 0]? = some o ∧ isFloat (opT P nG o.op) = false) ∧ Bf ops (π.getD (lastA ks (ms.getD (π.getD p 0) 0) (π.take p).reverse - 1) 0) (π.getD p 0)) := fun p hp => by
        rcases lastA_spec (ks := ks) (m := ms.getD (π.getD p 0) 0) (π.take p).reverse with h | ⟨i, k, b1, b2, b3, b4, b5⟩
        · exact .inl h
        · right
          generalize lastA ks (ms.getD (π.getD p 0) 0) (π.take p).reverse = q at b1 b2
          rw [List.reverse_reverse] at b1
          have hq : q - 1 < p := by simp at b2; omega
          have hqi : π[q - 1]? = some i := by rw [List.getElem?_take] at b1; simpa [hq] using b1
          have hqi' : π.getD (q - 1) 0 = i := by simp [List.getD, hqi]
          have hi : i < ops.size := by rw [← hqi']; exact (hpi _ (by omega)).1
          refine ⟨hq, ⟨ops[i], by rw [hqi']; exact Array.getElem?_eq_getElem hi, ?_⟩, by rw [hqi']; exact hbf _ _ b5⟩
          have := hkop i _ (Array.getElem?_eq_getElem hi)
          rw [b3] at this
          simp only [Option.map_some, Option.some.injEq] at this
          rw [← this]; exact b4
      refine ⟨hpi, hpo, fun i o ho => (List.all_eq_true.1 hok) o ?_, fun p o hp ho => ?_, fun p o hp ho => ?_, ?_, ?_, ?_, ?_, hlo, fun p o hp ho hn => ?_, fun p q o o' hp hq ho ho' hn hn' he => ?_, ?_⟩
      · have h := Array.mem_of_getElem? ho
        simpa using h
      · exact (g5 p _ (Nat.zero_le _) (hop p hp o ho).2).1
      · rcases (g5 p _ (Nat.zero_le _) (hop p hp o ho).2).2.2 with ⟨c1, c2, c3⟩ | ⟨c1, c2⟩
        · exact .inl ⟨c1, c2, c3⟩
        · refine .inr ⟨c1, ?_⟩
          dsimp only at c2
          cases hk : opT P nG o.op with
          | n f g => rw [hk] at c2; exact c2
          | r f =>
            rw [hk] at c2
            refine ⟨c2.1, c2.2.1, fun k k1 k2 => c2.2.2 k k2 ?_⟩
            show 0 + l'.length - 1 - k ≤ ops.size - 1 - lastA ks (ms.getD (π.getD p 0) 0) (π.take p).reverse
            have k1' : lastA ks (ms.getD (π.getD p 0) 0) (π.take p).reverse ≤ k := k1
            omega
          | bad => rw [hk] at c2; exact c2
          | q f => rw [hk] at c2; exact c2
          | a f => rw [hk] at c2; exact c2
          | call f as => rw [hk] at c2; exact c2
      · intro i o e ho he hb
        have := o5 i o (by rw [Array.getElem?_toList]; exact ho) e he hb
        exact ⟨by omega, this.2⟩
      · intro i j oi oj t hi hj hd hs
        rcases o6 i oi t (by rw [Array.getElem?_toList]; exact hi) hd j oj (by rw [Array.getElem?_toList]; exact hj) with h | ⟨_, h⟩
        · exact .inl h
        · rcases h hs with h | h
          · exact .inr (.inl (hbf _ _ h))
          · exact .inr (.inr (hbf _ _ h))
      · intro i j oi oj t hi hj hd hd'
        rcases o6 i oi t (by rw [Array.getElem?_toList]; exact hi) hd j oj (by rw [Array.getElem?_toList]; exact hj) with h | ⟨h, _⟩
        · exact h
        · exact absurd hd' h
      · intro i o ho hf q hq
        refine hbf _ _ (o7 i o (by rw [Array.getElem?_toList]; exact ho) (by rw [hkop i o ho, hf]; simp) _ ?_)
        have hin := DR.size_some ho
        have hq' : q < posOf i π := hq
        have hq2 : q < ops.size := by have := (hpo i hin).1; omega
        refine List.mem_of_getElem? (i := q) ?_
        rw [List.getElem?_take]
        rw [if_pos hq']; exact hget q hq2
      · rw [← hm', ← List.take_length (l := π)]
        have : countN ks (List.take p π) < countN ks (List.take π.length π) := countN_take (by omega) (hget p hp) (hop p hp o ho).1 hn
        rw [List.take_length] at this ⊢
        exact this
      · rcases Nat.lt_trichotomy p q with h | h | h
        · have := countN_take h (hget p hp) (hop p hp o ho).1 hn
          have he' : countN ks (π.take p) = countN ks (π.take q) := he
          omega
        · exact h
        · have := countN_take h (hget q hq) (hop q hq o' ho').1 hn'
          have he' : countN ks (π.take p) = countN ks (π.take q) := he
          omega
      · intro p
        induction p with
        | zero => intro _; rw [g1 0 (Nat.le_refl _)]; exact Nat.le_refl _
        | succ p ih =>
          intro hp
          have hlt : p < ops.size := by omega
          have h3 := ih (by omega)
          have h4 : ops[π.getD p 0]? = some (ops[π.getD p 0]'(hpi p hlt).1) := Array.getElem?_eq_getElem _
          have h5 := (g5 p _ (Nat.zero_le _) (hop p hlt _ h4).2).2.1
          omega
    have hF : F ops.size = fr' := by rw [← g3, Nat.zero_add, hll]
    have hG : G ops.size = H' := by rw [← g4, Nat.zero_add, hll]
    refine D.region_wp hm (H := H) (by rw [g2]; exact hst) rfl (g1 0 (Nat.le_refl _)) htop (Q := Q) ?_
    rw [hF, hG]
    exact hQ
  · cases hpl
end Go.Proofs.YthlfhfliidhelaaGreatDoor.Eng
namespace Go.Proofs.YthlfhfliidhelaaGreatDoor.Eng
open Go.RowKit
variable {P : Program} {nG : Nat} {K : Known}
def QX (Q : Exit → Act → World → Prop) : Ex → Act → World → Prop
  | .normal => Q .normal
  | .exit i => Q (.exit i)
  | .ret => Q .ret
def CodeSem (P : Program) (nG : Nat) (c : Code) (fr : Fr) (H : AH) (e : Ex) (fr' : Fr) (H' : AH) : Prop :=
  ∀ ⦃base sz S : Nat⦄ ⦃w0 : World⦄ ⦃r : Option Nat⦄ ⦃J : Inj⦄ ⦃a : Act⦄ ⦃w : World⦄ ⦃Q : Exit → Act → World → Prop⦄, okCode sz nG c = true → St P nG base w0 sz S r J fr H a w → S ≤ w.heap.size →
    (∀ a' w', After P nG base w0 sz S r H.next J H w fr' H' a' w' → QX Q e a' w') → c.wpIn (FF r) 0 P Q a w
theorem After.trans {base sz S : Nat} {w0 : World} {r : Option Nat} {J J1 : Inj} {H H1 H2 : AH} {w w1 : World} {fr2 : Fr} {a2 : Act} {w2 : World} (ids : ∀ b x, J b = some x → b < H.next) (he : Ev H.next J H w J1 H1 w1) (h2 : After P nG base w0 sz S r H1.next J1 H1 w1 fr2 H2 a2 w2) : After P nG base w0 sz S r H.next J H w fr2 H2 a2 w2 := by
  obtain ⟨J2, k1, k2⟩ := h2
  exact ⟨J2, k1, he.trans ids (k2.weak he.next)⟩
theorem CodeSem.then_ {c : Code} {fr : Fr} {H : AH} {fr1 : Fr} {H1 : AH} (h : CodeSem P nG c fr H .normal fr1 H1) {base sz S : Nat} {w0 : World} {r : Option Nat} {J : Inj} {a : Act} {w : World} {Q : Exit → Act → World → Prop} {K' : Act → World → Prop} (hok : okCode sz nG c = true) (hst : St P nG base w0 sz S r J fr H a w) (hS : S ≤ w.heap.size)
    (hK : ∀ J1 a1 w1, St P nG base w0 sz S r J1 fr1 H1 a1 w1 → Ev H.next J H w J1 H1 w1 → S ≤ w1.heap.size → K' a1 w1) : c.wpIn (FF r) 0 P (Exit.then K' Q) a w :=
  h hok hst hS fun a1 w1 ⟨J1, k1, k2⟩ => hK J1 a1 w1 k1 k2 (Nat.le_trans hS k2.size)
theorem seq_sem {a b : Code} {fr : Fr} {H : AH} {fr1 : Fr} {H1 : AH} {e : Ex} {fr' : Fr} {H' : AH} (h1 : CodeSem P nG a fr H .normal fr1 H1) (h2 : CodeSem P nG b fr1 H1 e fr' H') : CodeSem P nG (.seq a b) fr H e fr' H' := by
  intro base sz S w0 r J ac w Q hok hst hS hQ
  simp only [okCode, Bool.and_eq_true] at hok
  refine wpIn_seq (h1.then_ hok.1 hst hS fun J1 a1 w1 k1 k2 k3 => ?_)
  exact h2 hok.2 k1 k3 fun a' w' ha => hQ a' w' (After.trans hst.wr.ids k2 ha)
theorem seq_sem_out {a b : Code} {fr : Fr} {H : AH} {fr1 : Fr} {H1 : AH} {e : Ex} (he : e ≠ .normal) (h1 : CodeSem P nG a fr H e fr1 H1) : CodeSem P nG (.seq a b) fr H e fr1 H1 := by
  intro base sz S w0 r J ac w Q hok hst hS hQ
  simp only [okCode, Bool.and_eq_true] at hok
  refine wpIn_seq (h1 hok.1 hst hS fun a1 w1 h => ?_)
  have := hQ a1 w1 h
  cases e with
  | normal => exact absurd rfl he
  | exit i => exact this
  | ret => exact this
theorem rounds_sem {b : Code} : ∀ (n : Nat), (∀ m, m < n → ∀ (fr : Fr) (H : AH) (e : Ex) (fr' : Fr) (H' : AH), exec P nG K m (.code b) fr H = .ok e fr' H' → CodeSem P nG b fr H e fr' H') →
    ∀ (fr : Fr) (H : AH) (e : Ex) (fr' : Fr) (H' : AH), exec P nG K n (.code (.loop b)) fr H = .ok e fr' H' →
    ∀ {base sz S : Nat} {w0 : World} {r : Option Nat} {J : Inj} {a : Act} {w : World} {Q : Exit → Act → World → Prop}, okCode sz nG b = true → St P nG base w0 sz S r J fr H a w → S ≤ w.heap.size →
      (∀ a' w', After P nG base w0 sz S r H.next J H w fr' H' a' w' → QX Q e a' w') → Code.roundsIn (FF r) 0 P b Q n a w := by
  intro n
  induction n with
  | zero => intro _ fr H e fr' H' h; cases h
  | succ n ih =>
    intro hb fr H e fr' H' h base sz S w0 r J a w Q hok hst hS hQ
    rw [exec_code] at h
    replace h : Rs.seq (exec P nG K n (.code b) fr H) (exec P nG K n (.code (.loop b))) = _ := h
    rw [roundsIn_succ]
    cases h1 : exec P nG K n (.code b) fr H with
    | bad tr => rw [h1] at h; cases h
    | val v H1 => rw [h1] at h; cases h
    | ok e1 fr1 H1 =>
      rw [h1] at h
      have hs := hb n (by omega) _ _ _ _ _ h1
      cases e1 with
      | normal =>
        replace h : exec P nG K n (.code (.loop b)) fr1 H1 = _ := h
        refine hs.then_ hok hst hS fun J1 a1 w1 k1 k2 k3 => ?_
        exact ih (fun m hm => hb m (by omega)) _ _ _ _ _ h hok k1 k3 fun a' w' ha => hQ a' w' (After.trans hst.wr.ids k2 ha)
      | exit i =>
        injection h with g1 g2 g3; subst g1 g2 g3
        exact hs hok hst hS fun a1 w1 h => hQ a1 w1 h
      | ret =>
        injection h with g1 g2 g3; subst g1 g2 g3
        exact hs hok hst hS fun a1 w1 h => hQ a1 w1 h
theorem block_sem {id : Nat} {b : Code} {fr : Fr} {H : AH} {e1 e : Ex} {fr1 : Fr} {H1 : AH} {fr' : Fr} {H' : AH} (h : CodeSem P nG b fr H e1 fr1 H1) (he : Ex.k2 fr1 H1 id e1 = .ok e fr' H') : CodeSem P nG (.block id b) fr H e fr' H' := by
  intro base sz S w0 r J ac w Q hok hst hS hQ
  refine wpIn_block (h hok hst hS fun a1 w1 ha => ?_)
  cases e1 with
  | normal =>
    injection he with g1 g2 g3; subst g1 g2 g3
    exact hQ a1 w1 ha
  | ret =>
    injection he with g1 g2 g3; subst g1 g2 g3
    exact hQ a1 w1 ha
  | exit i =>
    replace he : (Bool.rec (.ok (.exit i) fr1 H1) (.ok .normal fr1 H1) (Nat.beq i id) : Rs) = _ := he
    show if i = id then Q .normal a1 w1 else Q (.exit i) a1 w1
    cases hb : Nat.beq i id with
    | true =>
      rw [hb] at he
      injection he with g1 g2 g3; subst g1 g2 g3
      rw [Nat.beq_eq] at hb
      rw [if_pos hb]; exact hQ a1 w1 ha
    | false =>
      rw [hb] at he
      injection he with g1 g2 g3; subst g1 g2 g3
      rw [if_neg (fun e => by rw [← Nat.beq_eq, hb] at e; cases e)]; exact hQ a1 w1 ha
theorem cond_sem {c : Operand} {x y : Code} {t : Bool} {fr : Fr} {H : AH} {e : Ex} {fr' : Fr} {H' : AH} (hc : ev c fr = .bool t) (h : CodeSem P nG (if t then x else y) fr H e fr' H') : CodeSem P nG (.cond c x y) fr H e fr' H' := by
  intro base sz S w0 r J ac w Q hok hst hS hQ
  simp only [okCode, Bool.and_eq_true] at hok
  have hv := hst.at_.ev hok.1
  rw [hc] at hv
  have hev : ac.eval c = .bool t := by
    generalize ac.eval c = v at hv
    cases hv; rfl
  exact wpIn_cond hev (h (by cases t <;> simp [hok.2.1, hok.2.2]) hst hS hQ)
theorem region_sem {id : Nat} {ops : Array Oper} {n : Nat} (hc : CallsOk P nG K n) {fr : Fr} {H : AH} {e : Ex} {fr' : Fr} {H' : AH} (h : exec P nG K n (.ops (prep P nG ops.toList ops.toList)) fr H = .ok e fr' H') : CodeSem P nG (.region id ops false) fr H e fr' H' := by
  obtain ⟨rfl, h1⟩ := ops_sem n hc _ _ _ _ _ _ h
  intro base sz S w0 r J ac w Q hok hst hS hQ
  exact region_wp h1 hok hst hQ
theorem draw_sem (hm : P.follows .mixedOrders = true) {id : Nat} {ops : Array Oper} {n : Nat} (hc : CallsOk P nG K n) {fr : Fr} {H : AH} {e : Ex} {fr' : Fr} {H' : AH} (h : drawn (exec P nG K n) fr H (planOf P nG ops.toList) = .ok e fr' H') : CodeSem P nG (.region id ops true) fr H e fr' H' := by
  intro base sz S w0 r J ac w Q hok hst hS hQ
  cases hp : planOf P nG ops.toList with
  | none => rw [hp] at h; cases h
  | some q =>
    obtain ⟨l, m⟩ := q
    rw [hp] at h
    replace h : (Bool.rec (.bad [41]) (exec P nG K n (.dops H.next l []) fr (H.keep m)) (Nat.ble (Nat.add H.next m) 262144) : Rs) = _ := h
    cases hb : Nat.ble (Nat.add H.next m) 262144 with
    | false => rw [hb] at h; cases h
    | true =>
      rw [hb] at h
      rw [Nat.ble_eq] at hb
      obtain ⟨rfl, h2⟩ := drawn_sem hm (id := id) hok hc hp hb h
      exact h2 hst hQ
end Go.Proofs.YthlfhfliidhelaaGreatDoor.Eng

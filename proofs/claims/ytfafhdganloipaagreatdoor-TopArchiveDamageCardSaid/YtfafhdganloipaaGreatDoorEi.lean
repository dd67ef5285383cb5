/- Runs of operations, out of the kernel's run. -/
import Derived.Test.YtfafhdganloipaaGreatDoorEh
import Derived.LoopNIn
namespace Go.Proofs.YtfafhdganloipaaGreatDoor.Eng
open Go.RowKit
variable {P : Program} {nG : Nat} {K : Known}
def CallsOk (P : Program) (nG : Nat) (K : Known) (n : Nat) : Prop :=
  ∀ k, k < n → ∀ (f : Value) (args : List Value) (fr : Fr) (H : AH) (v : Value) (H' : AH), exec P nG K k (.call f args) fr H = .val v H' → CallSem P nG f args H v H'
theorem CallsOk.mono {n m : Nat} (h : CallsOk P nG K n) (hm : m ≤ n) : CallsOk P nG K m := fun k hk => h k (by omega)
theorem exec_ops (n : Nat) (l : List PO) (fr : Fr) (H : AH) : exec P nG K (n + 1) (.ops l) fr H = opsF l (exec P nG K n) fr H := rfl
theorem exec_dops (n N : Nat) (l : List PO) (sn : List (Nat × AH)) (fr : Fr) (H : AH) : exec P nG K (n + 1) (.dops N l sn) fr H = dopsF N l sn (exec P nG K n) fr H := rfl
theorem exec_code (n : Nat) (c : Code) (fr : Fr) (H : AH) : exec P nG K (n + 1) (.code c) fr H = codeF P nG K c (exec P nG K n) fr H := rfl
theorem exec_call (n : Nat) (f : Value) (args : List Value) (fr : Fr) (H : AH) : exec P nG K (n + 1) (.call f args) fr H = callF P nG K f args (exec P nG K n) H := rfl
theorem runK_step {n : Nat} (hc : CallsOk P nG K (n + 1)) {k : OpK} {d : Option Tmp} {l : List PO} {fr : Fr} {H : AH} {e : Ex} {fr' : Fr} {H' : AH} (h : runK k d l (exec P nG K n) fr H = .ok e fr' H') :
    ∃ v H1, AStep P nG fr H v H1 k ∧ exec P nG K n (.ops l) (putD d v fr) H1 = .ok e fr' H' := by
  cases k with
  | bad => cases h
  | q f =>
    replace h : (Option.rec (.bad [1, lenL l]) (fun v => exec P nG K n (.ops l) (putD d v fr) H) (f fr) : Rs) = _ := h
    cases hf : f fr with
    | none => rw [hf] at h; cases h
    | some v => rw [hf] at h; exact ⟨v, H, ⟨hf, rfl⟩, h⟩
  | r f =>
    replace h : (Option.rec (.bad [2, lenL l]) (fun v => exec P nG K n (.ops l) (putD d v fr) H) (f fr H) : Rs) = _ := h
    cases hf : f fr H with
    | none => rw [hf] at h; cases h
    | some v => rw [hf] at h; exact ⟨v, H, ⟨hf, rfl⟩, h⟩
  | n f g =>
    replace h : (match f fr, H.room with
      | some (cs, e), true => exec P nG K n (.ops l) (putD d (g H.next cs) fr) (H.new (.cells cs e))
      | _, _ => .bad [3, lenL l] : Rs) = _ := h
    split at h
    · rename_i cs t hf hr
      exact ⟨_, _, ⟨cs, t, hf, hr, rfl, rfl⟩, h⟩
    · cases h
  | a f =>
    replace h : (RO.rec (.bad [4, lenL l]) (fun v H => exec P nG K n (.ops l) (putD d v fr) H) (f fr H) : Rs) = _ := h
    cases hf : f fr H with
    | bad => rw [hf] at h; cases h
    | ok v H1 => rw [hf] at h; exact ⟨v, H1, hf, h⟩
  | call f args =>
    replace h : (Rs.rec (fun tr => .bad (lenL l :: tr)) (fun _ _ _ => .bad [5]) (fun v H => exec P nG K n (.ops l) (putD d v fr) H) (exec P nG K n (.call (ev f fr) (mapL (fun x => ev x fr) args)) fr0 H) : Rs) = _ := h
    cases hf : exec P nG K n (.call (ev f fr) (mapL (fun x => ev x fr) args)) fr0 H with
    | bad tr => rw [hf] at h; cases h
    | ok e1 fr1 H1 => rw [hf] at h; cases h
    | val v H1 =>
      rw [hf] at h
      refine ⟨v, H1, ?_, h⟩
      rw [mapL_eq] at hf
      exact hc n (by omega) _ _ _ _ _ _ hf
theorem ops_sem {L : List Oper} : ∀ (n : Nat), CallsOk P nG K n → ∀ (l : List Oper) (fr : Fr) (H : AH) (e : Ex) (fr' : Fr) (H' : AH), exec P nG K n (.ops (prep P nG L l)) fr H = .ok e fr' H' → e = .normal ∧ ARun P nG L l fr H fr' H' := by
  intro n
  induction n with
  | zero => intro _ l fr H e fr' H' h; cases h
  | succ n ih =>
    intro hc l fr H e fr' H' h
    rw [exec_ops] at h
    cases l with
    | nil => injection h with h1 h2 h3; subst h1 h2 h3; exact ⟨rfl, .nil _ _⟩
    | cons o l =>
      replace h : rG (guardOf L o.guard) (opT P nG o.op) o.dst (prep P nG L l) (exec P nG K n) fr H = _ := h
      have go : runK (opT P nG o.op) o.dst (prep P nG L l) (exec P nG K n) fr H = .ok e fr' H' → wants (guardOf L o.guard) fr = true → e = .normal ∧ ARun P nG L (o :: l) fr H fr' H' := fun h hw => by
        obtain ⟨v, H1, h1, h2⟩ := runK_step hc h
        obtain ⟨h3, h4⟩ := ih (hc.mono (by omega)) l _ _ _ _ _ h2
        exact ⟨h3, .step o l fr H v H1 fr' H' hw h1 h4⟩
      cases hg : guardOf L o.guard with
      | none => rw [hg] at h; exact go h (by rw [hg]; rfl)
      | some p =>
        obtain ⟨t, w⟩ := p
        rw [hg] at h
        replace h : (Bool.rec (rSkip o.dst (prep P nG L l) (exec P nG K n) fr H) (runK (opT P nG o.op) o.dst (prep P nG L l) (exec P nG K n) fr H) (wants (some (t, w)) fr) : Rs) = _ := h
        cases hw : wants (some (t, w)) fr with
        | false =>
          rw [hw] at h
          obtain ⟨h3, h4⟩ := ih (hc.mono (by omega)) l _ _ _ _ _ h
          exact ⟨h3, .skip o l fr H fr' H' (by rw [hg]; exact hw) h4⟩
        | true => rw [hw] at h; exact go h (by rw [hg]; exact hw)
theorem same1_eq {v u : Value} (h : same1 v u = true) : u = v := by
  unfold same1 at h
  split at h
  · rw [decide_eq_true_eq] at h; rw [h]
  · rw [Bool.and_eq_true, eqlV_eq] at h
    rw [kEq_eq h.1]; have := h.2; simp at this; rw [this]
  · rename_i a b
    obtain ⟨a⟩ := a
    obtain ⟨b⟩ := b
    have h1 : (a == b) = true := h
    rw [eq_of_beq h1]
  · unfold sameA at h; rw [decide_eq_true_eq] at h; rw [h]
  · simp only [Bool.and_eq_true, sameA, decide_eq_true_eq, Nat.beq_eq] at h
    rw [h.1, h.2.1, h.2.2]
  · rw [decide_eq_true_eq] at h; rw [h]
  · rfl
  · rfl
  · cases h
theorem sameL_eq : ∀ {l r : List Value}, sameL l r = true → r = l
  | [], [], _ => rfl
  | [], _ :: _, h => by cases h
  | _ :: _, [], h => by cases h
  | v :: l, u :: r, h => by
    replace h : (Bool.rec false (sameL l r) (same1 v u) : Bool) = true := h
    cases h1 : same1 v u with
    | false => rw [h1] at h; cases h
    | true => rw [h1] at h; rw [same1_eq h1, sameL_eq h]
theorem sameV_eq {v u : Value} (h : sameV v u = true) : u = v := by
  unfold sameV at h
  split at h
  · rw [sameL_eq h]
  · rw [sameL_eq h]
  · exact same1_eq h
theorem agree_all {f : AH → Option Value} {v : Value} {n : Nat} : ∀ {sn : List (Nat × AH)}, agree f v n sn = true → ∀ p ∈ sn, p.1 ≤ n → f p.2 = some v
  | [], _, p, hp, _ => by cases hp
  | q :: sn, h, p, hp, hn => by
    replace h : (Bool.rec (agree f v n sn) (match f q.2 with
      | some u => Bool.rec false (agree f v n sn) (sameV v u)
      | none => false) (Nat.ble q.1 n) : Bool) = true := h
    have hrest : agree f v n sn = true ∧ (q.1 ≤ n → f q.2 = some v) := by
      cases hb : Nat.ble q.1 n with
      | false => rw [hb] at h; exact ⟨h, fun h1 => by rw [← Nat.ble_eq, hb] at h1; cases h1⟩
      | true =>
        rw [hb] at h
        dsimp only at h
        cases hf : f q.2 with
        | none => rw [hf] at h; cases h
        | some u =>
          rw [hf] at h
          dsimp only at h
          cases hs : sameV v u with
          | false => rw [hs] at h; cases h
          | true => rw [hs] at h; exact ⟨h, fun _ => by rw [sameV_eq hs]⟩
    rcases List.mem_cons.1 hp with rfl | hp
    · exact hrest.2 hn
    · exact agree_all hrest.1 p hp hn
theorem dK_step {n N : Nat} (hc : CallsOk P nG K (n + 1)) {k : OpK} {d : Option Tmp} {b : Nat} {l : List PO} {sn : List (Nat × AH)} {fr : Fr} {H : AH} {e : Ex} {fr' : Fr} {H' : AH} (h : dK k d b N l sn (exec P nG K n) fr H = .ok e fr' H') :
    ∃ v H1 sn1, DStep P nG (N + b) fr H v H1 (fun f => ∀ p ∈ sn, p.1 ≤ b → f p.2 = some v) k ∧ (sn1 = sn ∧ H1 = H ∨ sn1 = (lenL l, H) :: sn) ∧ H.next ≤ H1.next ∧ exec P nG K n (.dops N l sn1) (putD d v fr) H1 = .ok e fr' H' := by
  cases k with
  | bad => cases h
  | q f =>
    replace h : (Option.rec (.bad [31, lenL l]) (fun v => exec P nG K n (.dops N l sn) (putD d v fr) H) (f fr) : Rs) = _ := h
    cases hf : f fr with
    | none => rw [hf] at h; cases h
    | some v => rw [hf] at h; exact ⟨v, H, sn, ⟨hf, rfl⟩, .inl ⟨rfl, rfl⟩, Nat.le_refl _, h⟩
  | r f =>
    replace h : (Option.rec (.bad [32, lenL l]) (fun v => Bool.rec (.bad [37, lenL l]) (exec P nG K n (.dops N l sn) (putD d v fr) H) (agree (f fr) v b sn)) (f fr H) : Rs) = _ := h
    cases hf : f fr H with
    | none => rw [hf] at h; cases h
    | some v =>
      rw [hf] at h
      dsimp only at h
      cases ha : agree (f fr) v b sn with
      | false => rw [ha] at h; cases h
      | true => rw [ha] at h; exact ⟨v, H, sn, ⟨hf, rfl, agree_all ha⟩, .inl ⟨rfl, rfl⟩, Nat.le_refl _, h⟩
  | n f g =>
    replace h : (match f fr with
      | some (cs, e) => exec P nG K n (.dops N l ((lenL l, H) :: sn)) (putD d (g (Nat.add N b) cs) fr) (H.put (Nat.add N b) (some (.cells cs e)))
      | none => .bad [33, lenL l] : Rs) = _ := h
    split at h
    · rename_i cs t hf
      exact ⟨_, _, _, ⟨cs, t, hf, rfl, rfl⟩, .inr rfl, Nat.le_refl _, h⟩
    · cases h
  | a f =>
    replace h : (RO.rec (.bad [34, lenL l]) (fun v H' => Bool.rec (.bad [38, lenL l]) (exec P nG K n (.dops N l ((lenL l, H) :: sn)) (putD d v fr) H') (Nat.ble H.next H'.next)) (f fr H) : Rs) = _ := h
    cases hf : f fr H with
    | bad => rw [hf] at h; cases h
    | ok v H1 =>
      rw [hf] at h
      dsimp only at h
      cases hb : Nat.ble H.next H1.next with
      | false => rw [hb] at h; cases h
      | true => rw [hb] at h; exact ⟨v, H1, _, hf, .inr rfl, by rw [← Nat.ble_eq]; exact hb, h⟩
  | call f args =>
    replace h : (Rs.rec (fun tr => .bad (lenL l :: tr)) (fun _ _ _ => .bad [35]) (fun v H' => Bool.rec (.bad [39, lenL l]) (exec P nG K n (.dops N l ((lenL l, H) :: sn)) (putD d v fr) H') (Nat.ble H.next H'.next)) (exec P nG K n (.call (ev f fr) (mapL (fun x => ev x fr) args)) fr0 H) : Rs) = _ := h
    cases hf : exec P nG K n (.call (ev f fr) (mapL (fun x => ev x fr) args)) fr0 H with
    | bad tr => rw [hf] at h; cases h
    | ok e1 fr1 H1 => rw [hf] at h; cases h
    | val v H1 =>
      rw [hf] at h
      dsimp only at h
      cases hb : Nat.ble H.next H1.next with
      | false => rw [hb] at h; cases h
      | true =>
        rw [hb] at h
        refine ⟨v, H1, _, ?_, .inr rfl, by rw [← Nat.ble_eq]; exact hb, h⟩
        rw [mapL_eq] at hf
        exact hc n (by omega) _ _ _ _ _ _ hf
theorem DStep.weak {b : Nat} {fr : Fr} {H H' : AH} {v : Value} {rd rd' : (AH → Option Value) → Prop} {k : OpK} (hr : ∀ f, k = .r f → f fr H = some v → rd (f fr) → rd' (f fr)) (h : DStep P nG b fr H v H' rd k) : DStep P nG b fr H v H' rd' k := by
  cases k with
  | r f => exact ⟨h.1, h.2.1, hr f rfl h.1 h.2.2⟩
  | _ => exact h
theorem dops_sem {N : Nat} : ∀ (n : Nat), CallsOk P nG K n → ∀ (l : List PO) (p : Nat) (hist : Nat → AH) (fr : Fr) (H : AH) (sn : List (Nat × AH)) (e : Ex) (fr' : Fr) (H' : AH), exec P nG K n (.dops N l sn) fr H = .ok e fr' H' → hist p = H →
    (∀ k, k ≤ p → hist k = H ∨ ∃ q, k ≤ q ∧ q < p ∧ (p + l.length - 1 - q, hist q) ∈ sn ∧ hist k = hist q) →
    e = .normal ∧ ∃ (F : Nat → Fr) (G : Nat → AH) (V : Nat → Value), (∀ k, k ≤ p → G k = hist k) ∧ F p = fr ∧ F (p + l.length) = fr' ∧ G (p + l.length) = H' ∧
      ∀ (j : Nat) (po : PO), p ≤ j → l[j - p]? = some po → F (j + 1) = putD po.dst (V j) (F j) ∧ (G j).next ≤ (G (j + 1)).next ∧ ((wants po.guard (F j) = false ∧ V j = undef ∧ G (j + 1) = G j) ∨
        (wants po.guard (F j) = true ∧ DStep P nG (N + po.back) (F j) (G j) (V j) (G (j + 1)) (fun f => ∀ k, k ≤ j → p + l.length - 1 - k ≤ po.back → f (G k) = some (V j)) po.k)) := by
  intro n
  induction n with
  | zero => intro _ l p hist fr H sn e fr' H' h; cases h
  | succ n ih =>
    intro hc l p hist fr H sn e fr' H' h hp hinv
    rw [exec_dops] at h
    cases l with
    | nil =>
      injection h with h1 h2 h3; subst h1 h2 h3
      exact ⟨rfl, fun _ => fr, hist, fun _ => undef, fun _ _ => rfl, rfl, rfl, hp, fun j po _ hj => by simp at hj⟩
    | cons o l =>
      obtain ⟨k, d, g, b⟩ := o
      replace h : dG g k d b N l sn (exec P nG K n) fr H = _ := h
      have go : ∀ (v : Value) (H1 : AH) (sn1 : List (Nat × AH)), (sn1 = sn ∧ H1 = H ∨ sn1 = (lenL l, H) :: sn) → H.next ≤ H1.next → exec P nG K n (.dops N l sn1) (putD d v fr) H1 = .ok e fr' H' →
          ((wants g fr = false ∧ v = undef ∧ H1 = H) ∨ (wants g fr = true ∧ DStep P nG (N + b) fr H v H1 (fun f => ∀ p ∈ sn, p.1 ≤ b → f p.2 = some v) k)) →
          e = .normal ∧ ∃ (F : Nat → Fr) (G : Nat → AH) (V : Nat → Value), (∀ k, k ≤ p → G k = hist k) ∧ F p = fr ∧ F (p + (l.length + 1)) = fr' ∧ G (p + (l.length + 1)) = H' ∧
            ∀ (j : Nat) (po : PO), p ≤ j → ((⟨k, d, g, b⟩ : PO) :: l)[j - p]? = some po → F (j + 1) = putD po.dst (V j) (F j) ∧ (G j).next ≤ (G (j + 1)).next ∧ ((wants po.guard (F j) = false ∧ V j = undef ∧ G (j + 1) = G j) ∨
              (wants po.guard (F j) = true ∧ DStep P nG (N + po.back) (F j) (G j) (V j) (G (j + 1)) (fun f => ∀ k, k ≤ j → p + (l.length + 1) - 1 - k ≤ po.back → f (G k) = some (V j)) po.k)) := by
        intro v H1 sn1 hsn hnx hex hst
        obtain ⟨h1, F, G, V, g1, g2, g3, g4, g5⟩ := ih (hc.mono (by omega)) l (p + 1) (fun k => if k ≤ p then hist k else H1) _ H1 sn1 e fr' H' hex (if_neg (by omega)) (fun k hk => by
          rcases Nat.lt_or_ge p k with hk1 | hk1
          · exact .inl (if_neg (by omega))
          · have e1 : (if k ≤ p then hist k else H1) = hist k := if_pos hk1
            rw [e1]
            rcases hsn with ⟨rfl, rfl⟩ | rfl
            · rcases hinv k hk1 with h | ⟨q, q1, q2, q3, q4⟩
              · exact .inl h
              · exact .inr ⟨q, q1, by omega, by rw [if_pos (by omega)]; simp only [List.length_cons] at q3; rw [show p + 1 + l.length - 1 - q = p + (l.length + 1) - 1 - q from by omega]; exact q3, by rw [if_pos (by omega)]; exact q4⟩
            · right
              rcases hinv k hk1 with h | ⟨q, q1, q2, q3, q4⟩
              · refine ⟨p, hk1, by omega, ?_, by rw [if_pos (Nat.le_refl _), hp]; exact h⟩
                rw [if_pos (Nat.le_refl _), hp, lenL_eq, show p + 1 + l.length - 1 - p = l.length from by omega]
                exact List.mem_cons_self
              · refine ⟨q, q1, by omega, ?_, by rw [if_pos (by omega)]; exact q4⟩
                rw [if_pos (by omega), show p + 1 + l.length - 1 - q = p + (l.length + 1) - 1 - q from by omega]
                exact List.mem_cons_of_mem _ q3)
        refine ⟨h1, fun j => if j ≤ p then fr else F j, G, fun j => if j ≤ p then v else V j, fun k hk => by rw [g1 k (by omega), if_pos hk], if_pos (Nat.le_refl _), ?_, ?_, ?_⟩
        · show (if p + (l.length + 1) ≤ p then fr else F (p + (l.length + 1))) = fr'
          rw [if_neg (by omega), ← g3, show p + (l.length + 1) = p + 1 + l.length from by omega]
        · rw [← g4, show p + (l.length + 1) = p + 1 + l.length from by omega]
        · intro j po hj hpo
          have eG : ∀ k, k ≤ p → G k = hist k := fun k hk => by rw [g1 k (by omega), if_pos hk]
          have eGp : G p = H := (eG p (Nat.le_refl _)).trans hp
          have eG1 : G (p + 1) = H1 := by rw [g1 (p + 1) (Nat.le_refl _), if_neg (by omega)]
          rcases Nat.lt_or_ge p j with hj1 | hj1
          · rw [show j - p = (j - (p + 1)) + 1 from by omega, List.getElem?_cons_succ] at hpo
            have := g5 j po hj1 hpo
            simp only [if_neg (show ¬ j ≤ p from by omega), if_neg (show ¬ j + 1 ≤ p from by omega)]
            refine ⟨this.1, this.2.1, ?_⟩
            rw [show p + (l.length + 1) = p + 1 + l.length from by omega]
            exact this.2.2
          · obtain rfl : j = p := by omega
            rw [Nat.sub_self, List.getElem?_cons_zero] at hpo
            obtain rfl := Option.some.inj hpo
            simp only [if_pos (Nat.le_refl j), if_neg (show ¬ j + 1 ≤ j from by omega)]
            rw [eGp, eG1]
            refine ⟨g2, hnx, ?_⟩
            rcases hst with ⟨a1, a2, a3⟩ | ⟨a1, a2⟩
            · exact .inl ⟨a1, a2, a3⟩
            · refine .inr ⟨a1, a2.weak fun f _ hf hrd k hk hb => ?_⟩
              rw [eG k hk]
              rcases hinv k hk with h | ⟨q, q1, q2, q3, q4⟩
              · rw [h]; exact hf
              · rw [q4]
                simp only [List.length_cons] at q3
                exact hrd _ q3 (by simp only; omega)
      have key : ∃ v H1 sn1, (sn1 = sn ∧ H1 = H ∨ sn1 = (lenL l, H) :: sn) ∧ H.next ≤ H1.next ∧ exec P nG K n (.dops N l sn1) (putD d v fr) H1 = .ok e fr' H' ∧
          ((wants g fr = false ∧ v = undef ∧ H1 = H) ∨ (wants g fr = true ∧ DStep P nG (N + b) fr H v H1 (fun f => ∀ p ∈ sn, p.1 ≤ b → f p.2 = some v) k)) := by
        cases g with
        | none =>
          obtain ⟨v, H1, sn1, h1, h2, h3, h4⟩ := dK_step hc h
          exact ⟨v, H1, sn1, h2, h3, h4, .inr ⟨rfl, h1⟩⟩
        | some q =>
          obtain ⟨t, w⟩ := q
          replace h : (Bool.rec (dSkip d N l sn (exec P nG K n) fr H) (dK k d b N l sn (exec P nG K n) fr H) (wants (some (t, w)) fr) : Rs) = _ := h
          cases hw : wants (some (t, w)) fr with
          | false => rw [hw] at h; exact ⟨undef, H, sn, .inl ⟨rfl, rfl⟩, Nat.le_refl _, h, .inl ⟨rfl, rfl, rfl⟩⟩
          | true =>
            rw [hw] at h
            obtain ⟨v, H1, sn1, h1, h2, h3, h4⟩ := dK_step hc h
            exact ⟨v, H1, sn1, h2, h3, h4, .inr ⟨rfl, h1⟩⟩
      obtain ⟨v, H1, sn1, h2, h3, h4, h5⟩ := key
      exact go v H1 sn1 h2 h3 h4 h5
end Go.Proofs.YtfafhdganloipaaGreatDoor.Eng
namespace Go.Proofs.YtfafhdganloipaaGreatDoor.Eng
open Go.RowKit
variable {P : Program} {nG : Nat} {K : Known}
theorem bit_eq (m i : Nat) : bit m i = m.testBit i := by
  unfold bit
  rw [Nat.testBit_eq_decide_div_mod_eq]
  show Nat.beq (m / 2 ^ i % 2) 1 = _
  cases h : Nat.beq (m / 2 ^ i % 2) 1 with
  | true => rw [Nat.beq_eq] at h; rw [h]; rfl
  | false =>
    have : m / 2 ^ i % 2 ≠ 1 := fun h1 => by rw [h1] at h; cases h
    simp [this]
theorem maskOf_bf {ops : Array Oper} {j : Nat} {o : Oper} (ho : ops[j]? = some o) {ms : List Nat} (hms : ∀ k i, bit (ms.getD k 0) i = true → Bf ops i k) : ∀ (l : List Edge), (∀ e ∈ l, e ∈ o.after) → ∀ i, bit (maskOf ms l) i = true → Bf ops i j
  | [], _, i, h => by unfold maskOf at h; rw [bit_eq] at h; simp at h
  | e :: l, hl, i, h => by
    unfold maskOf at h
    split at h
    · rename_i hb
      rw [bit_eq] at h
      have h' : ((Nat.pow 2 e.on ||| ms.getD e.on 0) ||| maskOf ms l).testBit i = true := h
      rw [Nat.testBit_or, Nat.testBit_or] at h'
      simp only [Bool.or_eq_true] at h'
      rcases h' with (h1 | h1) | h1
      · have h2 : (2 ^ e.on).testBit i = true := h1
        rw [Nat.testBit_two_pow] at h2
        obtain rfl : e.on = i := by simpa using h2
        exact .edge j o e ho (hl e (by simp)) hb
      · exact .trans i j o e ho (hl e (by simp)) hb (hms _ _ (by rw [bit_eq]; exact h1))
      · exact maskOf_bf ho hms l (fun e' he' => hl e' (by simp [he'])) i (by rw [bit_eq]; exact h1)
    · exact maskOf_bf ho hms l (fun e' he' => hl e' (by simp [he'])) i h
theorem masks_bf {ops : Array Oper} : ∀ (l : List Oper) (ms : List Nat), ms.length + l.length = ops.size → (∀ k o, l[k]? = some o → ops[ms.length + k]? = some o) → (∀ k i, bit (ms.getD k 0) i = true → Bf ops i k) → ∀ k i, bit ((masks l ms).getD k 0) i = true → Bf ops i k
  | [], ms, _, _, h => h
  | o :: l, ms, hl, ho, h => by
    unfold masks
    have h0 := ho 0 o rfl
    refine masks_bf l _ (by simp at hl ⊢; omega) (fun k o' hk => ?_) (fun k i hb => ?_)
    · have := ho (k + 1) o' (by simpa using hk)
      simpa [Nat.add_assoc, Nat.add_comm 1 k] using this
    · rcases Nat.lt_or_ge k ms.length with h1 | h1
      · refine h k i ?_
        simpa [List.getElem?_append_left h1] using hb
      · rcases Nat.lt_or_ge ms.length k with h2 | h2
        · rw [bit_eq] at hb
          have : (ms ++ [maskOf ms o.after.toList])[k]? = none := by simp; omega
          simp [List.getD, this] at hb
        · obtain rfl : k = ms.length := by omega
          refine maskOf_bf (j := ms.length) (by simpa using h0) h o.after.toList (fun e he => by simpa using he) i ?_
          simpa [List.getD] using hb
theorem posOf_get : ∀ {l : List Nat} {i : Nat}, posOf i l < l.length → l[posOf i l]? = some i
  | [], _, h => by simp [posOf] at h
  | j :: l, i, h => by
    unfold posOf at h ⊢
    split
    · rename_i e; rw [Nat.beq_eq] at e; subst e; rfl
    · rename_i e
      rw [e] at h
      simp only [List.length_cons] at h
      rw [List.getElem?_cons_succ]
      exact posOf_get (by omega)
noncomputable def backOf (k : OpK) (a b : Nat) : Nat := OpK.rec b (fun _ => b) (fun _ => b) (fun _ _ => a) (fun _ => b) (fun _ _ => b) k
theorem planL_get {ops : List Oper} {ks : List OpK} {ms : List Nat} : ∀ (π rev : List Nat) (l : List PO), planL ops ks ms π rev = some l → l.length = π.length ∧ ∀ (p i : Nat), π[p]? = some i → ∃ o k, ops[i]? = some o ∧ ks[i]? = some k ∧
    l[p]? = some ⟨k, o.dst, guardOf ops o.guard, backOf k (countN ks ((π.take p).reverse ++ rev)) (ops.length - 1 - lastA ks (ms.getD i 0) ((π.take p).reverse ++ rev))⟩
  | [], rev, l, h => by
    unfold planL at h
    obtain rfl := Option.some.inj h
    exact ⟨rfl, fun p i hp => by simp at hp⟩
  | j :: π, rev, l, h => by
    unfold planL at h
    split at h
    · rename_i o k r ho hk hr
      obtain rfl := Option.some.inj h
      obtain ⟨h1, h2⟩ := planL_get π (j :: rev) r hr
      refine ⟨by simp [h1], fun p i hp => ?_⟩
      cases p with
      | zero =>
        simp only [List.getElem?_cons_zero] at hp
        obtain rfl := Option.some.inj hp
        exact ⟨o, k, ho, hk, by cases k <;> rfl⟩
      | succ p =>
        rw [List.getElem?_cons_succ] at hp
        obtain ⟨o', k', a1, a2, a3⟩ := h2 p i hp
        refine ⟨o', k', a1, a2, ?_⟩
        rw [List.getElem?_cons_succ, a3]
        simp
    · cases h
theorem countN_cons (ks : List OpK) (i : Nat) (l : List Nat) : countN ks (i :: l) = (if (ks[i]?).map isN = some true then 1 else 0) + countN ks l := by
  rw [countN]
  split
  · rename_i h; rw [if_pos h]; omega
  · rename_i h; rw [if_neg (fun e => h e)]; omega
theorem countN_append (ks : List OpK) : ∀ (a b : List Nat), countN ks (a ++ b) = countN ks a + countN ks b
  | [], b => by simp [countN]
  | i :: a, b => by
    rw [List.cons_append, countN_cons, countN_cons, countN_append ks a b]
    omega
theorem countN_reverse (ks : List OpK) : ∀ (a : List Nat), countN ks a.reverse = countN ks a
  | [] => rfl
  | i :: a => by
    rw [List.reverse_cons, countN_append, countN_reverse ks a]
    show countN ks a + countN ks [i] = countN ks ([i] ++ a)
    rw [countN_append]; omega
theorem countN_one {ks : List OpK} {i : Nat} {k : OpK} (h : ks[i]? = some k) (hn : isNK k = true) : countN ks [i] = 1 := by
  have : isN k = true := by cases k <;> first | rfl | cases hn
  simp [countN, h, this]
theorem countN_take {ks : List OpK} {π : List Nat} {p q i : Nat} {k : OpK} (hpq : p < q) (hp : π[p]? = some i) (h : ks[i]? = some k) (hn : isNK k = true) : countN ks (π.take p) < countN ks (π.take q) := by
  have e : π.take q = π.take p ++ (i :: (π.take q).drop (p + 1)) := by
    have hlt := (List.getElem?_eq_some_iff.1 hp).1
    have h1 : (π.take q).take p = π.take p := by rw [List.take_take]; congr 1; omega
    have h2 : (π.take q)[p]? = some i := by rw [List.getElem?_take]; simp [hpq, hp]
    have h3 := List.take_append_drop p (π.take q)
    rw [h1] at h3
    obtain ⟨h4, h5⟩ := List.getElem?_eq_some_iff.1 h2
    rw [List.drop_eq_getElem_cons h4, h5] at h3
    exact h3.symm
  rw [e, countN_append]
  show _ < _ + countN ks ([i] ++ _)
  rw [countN_append, countN_one h hn]
  omega
theorem lastA_spec {ks : List OpK} {m : Nat} : ∀ (l : List Nat), lastA ks m l = 0 ∨ ∃ i k, l.reverse[lastA ks m l - 1]? = some i ∧ lastA ks m l - 1 < l.length ∧ ks[i]? = some k ∧ isFloat k = false ∧ bit m i = true
  | [] => .inl rfl
  | i :: l => by
    have go : lastA ks m (i :: l) = l.length + 1 ∧ (∃ k, ks[i]? = some k ∧ isFloat k = false ∧ bit m i = true) ∨ lastA ks m (i :: l) = lastA ks m l := by
      rw [lastA]
      split
      · rename_i h1 h2
        left
        cases hk : ks[i]? with
        | none => rw [hk] at h1; cases h1
        | some k => rw [hk] at h1; exact ⟨rfl, k, rfl, by simpa using h1, h2⟩
      · exact .inr rfl
    rcases go with ⟨h1, k, h2, h3, h4⟩ | h
    · refine .inr ⟨i, k, ?_, by rw [h1]; simp, h2, h3, h4⟩
      rw [h1]; simp
    · rw [h]
      rcases lastA_spec (ks := ks) (m := m) l with h1 | ⟨i', k, h1, h2, h3, h4, h5⟩
      · exact .inl h1
      · refine .inr ⟨i', k, ?_, by simp; omega, h3, h4, h5⟩
        rw [List.reverse_cons, List.getElem?_append_left (by simpa using h2)]; exact h1
end Go.Proofs.YtfafhdganloipaaGreatDoor.Eng
namespace Go.Proofs.YtfafhdganloipaaGreatDoor.Eng
open Go.RowKit
variable {P : Program} {nG : Nat} {K : Known}
theorem planOk_spec {L : List Oper} {ks : List OpK} {ms π : List Nat} (h : planOk L ks ms π = true) :
    π.length = L.length ∧ (∀ i ∈ π, i < L.length) ∧ (∀ i, i < L.length → posOf i π < π.length) ∧ (∀ p i, π[p]? = some i → posOf i π = p) ∧
    (∀ j o, L[j]? = some o → ∀ e ∈ o.after, Region.binds .any e = true → e.on < L.length ∧ posOf e.on π < posOf j π) ∧
    (∀ i x t, L[i]? = some x → x.dst = some t → ∀ j y, L[j]? = some y → i = j ∨ (y.dst ≠ some t ∧ (t ∈ slotsOf L y → bit (ms.getD j 0) i = true ∨ bit (ms.getD i 0) j = true))) ∧
    (∀ j o, L[j]? = some o → (ks[j]?).map isFloat ≠ some true → ∀ i ∈ π.take (posOf j π), bit (ms.getD j 0) i = true) := by
  unfold planOk at h
  simp only [Bool.and_eq_true] at h
  obtain ⟨⟨⟨⟨⟨⟨h1, h2⟩, h3⟩, h4⟩, h5⟩, h6⟩, h7⟩ := h
  rw [List.all_eq_true] at h2 h3 h4 h5 h6 h7
  refine ⟨by rwa [Nat.beq_eq] at h1, fun i hi => ?_, fun i hi => ?_, fun p i hp => ?_, fun j o ho e he hb => ?_, fun i x t hx ht j y hy => ?_, fun j o ho hk i hi => ?_⟩
  · have := h2 i hi; rw [Nat.ble_eq] at this; exact this
  · have := h3 i (List.mem_range.2 hi); rw [Nat.ble_eq] at this; exact this
  · have := h4 (i, p) (List.mem_zipIdx_iff_getElem?.2 hp); simp only [Nat.beq_eq] at this; exact this
  · have := h5 (o, j) (List.mem_zipIdx_iff_getElem?.2 ho)
    have := (List.all_eq_true.1 this) e (by simpa using he)
    simp only [hb, Bool.not_true, Bool.false_or, Bool.and_eq_true, Nat.ble_eq] at this
    exact this
  · have := h6 (x, i) (List.mem_zipIdx_iff_getElem?.2 hx)
    simp only [ht] at this
    have := (List.all_eq_true.1 this) (y, j) (List.mem_zipIdx_iff_getElem?.2 hy)
    simp only [Bool.or_eq_true, Bool.and_eq_true, Nat.beq_eq] at this
    rcases this with h | ⟨h8, h9⟩
    · exact .inl h
    · refine .inr ⟨fun hd => ?_, fun hs => ?_⟩
      · rw [hd] at h8
        simp only [Bool.not_eq_true'] at h8
        have : Nat.beq t t = true := by rw [Nat.beq_eq]
        rw [this] at h8; cases h8
      · rcases h9 with (h9 | h9) | h9
        · simp only [Bool.not_eq_true'] at h9
          have : (slotsOf L y).contains t = true := by simpa using hs
          rw [this] at h9; cases h9
        · exact .inl h9
        · exact .inr h9
  · have := h7 (o, j) (List.mem_zipIdx_iff_getElem?.2 ho)
    dsimp only at this
    split at this
    · rename_i e; exact absurd e hk
    · exact (List.all_eq_true.1 this) i hi
theorem kinds_get {L : List Oper} (i : Nat) : (kindsL P nG L)[i]? = (L[i]?).map fun o => opT P nG o.op := by
  unfold kindsL; rw [List.getElem?_map]
theorem drawn_sem {sz : Nat} (hm : P.follows .mixedOrders = true) {id : Nat} {ops : Array Oper} (hok : ops.toList.all (okOper sz nG ops.toList) = true) {n : Nat} (hc : CallsOk P nG K n) {l : List PO} {m : Nat} (hpl : planOf P nG ops.toList = some (l, m)) {fr : Fr} {H : AH} (htop : H.next + m ≤ 65536) {e : Ex} {fr' : Fr} {H' : AH}
    (hr : exec P nG K n (.dops H.next l []) fr (H.keep m) = .ok e fr' H') : e = .normal ∧ ∀ {base S : Nat} {w0 : World} {r : Option Nat} {J : Inj} {a : Act} {w : World}, St P nG base w0 sz S r J fr H a w → ∀ {Q : Exit → Act → World → Prop},
      (∀ a' w', After P nG base w0 sz S r H.next J H w fr' H' a' w' → Q .normal a' w') → (Code.region id ops true).wpIn (FF r) 0 P Q a w := by
  obtain ⟨he, F, G, V, g1, g2, g3, g4, g5⟩ := dops_sem n hc l 0 (fun _ => H.keep m) fr _ [] e fr' H' hr rfl (fun k _ => .inl rfl)
  refine ⟨he, fun {base S w0 r J a w} hst {Q} hQ => ?_⟩
  unfold planOf at hpl
  dsimp only at hpl
  obtain ⟨ks, hks⟩ : ∃ ks, ks = kindsL P nG ops.toList := ⟨_, rfl⟩
  obtain ⟨ms, hms⟩ : ∃ ms, ms = masks ops.toList [] := ⟨_, rfl⟩
  obtain ⟨π, hπ⟩ : ∃ π, π = orderG ops.toList.length (ks.map isFloat) ms ops.toList.length 0 0 := ⟨_, rfl⟩
  rw [← hks, ← hms, ← hπ] at hpl
  split at hpl
  · rename_i l' h1 h2
    injection hpl with hpl; injection hpl with hl hm'; subst hl
    obtain ⟨o1, o2, o3, o4, o5, o6, o7⟩ := planOk_spec h1
    obtain ⟨p1, p2⟩ := planL_get π [] l' h2
    have hlen : ops.toList.length = ops.size := by simp
    have hbf : ∀ k i, bit (ms.getD k 0) i = true → Bf ops i k := by
      rw [hms]
      exact masks_bf ops.toList [] (by simp) (fun k o hk => by simpa using hk) (fun k i hb => by rw [bit_eq] at hb; simp at hb)
    have hget : ∀ p, p < ops.size → π[p]? = some (π.getD p 0) := fun p hp => by
      have : p < π.length := by omega
      simp [this]
    have hpi : ∀ p, p < ops.size → π.getD p 0 < ops.size ∧ posOf (π.getD p 0) π = p := fun p hp => by
      have h := hget p hp
      exact ⟨by have := o2 _ (List.mem_of_getElem? h); omega, o4 p _ h⟩
    have hpo : ∀ i, i < ops.size → posOf i π < ops.size ∧ π.getD (posOf i π) 0 = i := fun i hi => by
      have h := o3 i (by omega)
      refine ⟨by omega, ?_⟩
      have := posOf_get h
      simp [List.getD, this]
    have hop : ∀ p, p < ops.size → ∀ o : Oper, ops[π.getD p 0]? = some o → ks[π.getD p 0]? = some (opT P nG o.op) ∧ l'[p]? = some ⟨opT P nG o.op, o.dst, guardOf ops.toList o.guard, backOf (opT P nG o.op) (countN ks (π.take p)) (ops.size - 1 - lastA ks (ms.getD (π.getD p 0) 0) (π.take p).reverse)⟩ := fun p hp o ho => by
      obtain ⟨o', k, a1, a2, a3⟩ := p2 p _ (hget p hp)
      have e1 : o' = o := by
        have h1 : ops[π.getD p 0]? = some o' := by rw [← Array.getElem?_toList]; exact a1
        rw [ho] at h1; exact (Option.some.inj h1).symm
      subst e1
      have e2 : k = opT P nG o'.op := by
        rw [hks, kinds_get] at a2
        rw [a1] at a2; exact (Option.some.inj a2).symm
      subst e2
      refine ⟨a2, ?_⟩
      rw [a3]
      simp only [List.append_nil, hlen, countN_reverse]
    have hkop : ∀ (i : Nat) (o : Oper), ops[i]? = some o → (ks[i]?).map isFloat = some (isFloat (opT P nG o.op)) := fun i o ho => by
      rw [hks, kinds_get]
      have : ops.toList[i]? = some o := by rw [Array.getElem?_toList]; exact ho
      rw [this]; rfl
    have hll : l'.length = ops.size := by omega
    have D : DR P nG sz H.next m ops (fun p => π.getD p 0) (fun i => posOf i π) (fun p => lastA ks (ms.getD (π.getD p 0) 0) (π.take p).reverse) (fun p => countN ks (π.take p)) F G V := by
      have hlo : ∀ p : Nat, p < ops.size → lastA ks (ms.getD (π.getD p 0) 0) (π.take p).reverse = 0 ∨ (lastA ks (ms.getD (π.getD p 0) 0) (π.take p).reverse - 1 < p ∧ (∃ o : Oper, ops[π.getD (lastA ks (ms.getD (π.getD p 0) 0) (π.take p).reverse - 1) 0]? = some o ∧ isFloat (opT P nG o.op) = false) ∧ Bf ops (π.getD (lastA ks (ms.getD (π.getD p 0) 0) (π.take p).reverse - 1) 0) (π.getD p 0)) := fun p hp => by
        rcases lastA_spec (ks := ks) (m := ms.getD (π.getD p 0) 0) (π.take p).reverse with h | ⟨i, k, b1, b2, b3, b4, b5⟩
        · exact .inl h
        · right
          generalize lastA ks (ms.getD (π.getD p 0) 0) (π.take p).reverse = q at b1 b2
          rw [List.reverse_reverse] at b1
          have hq : q - 1 < p := by simp at b2; omega
          have hqi : π[q - 1]? = some i := by rw [List.getElem?_take] at b1; simpa [hq] using b1
          have hqi' : π.getD (q - 1) 0 = i := by simp [List.getD, hqi]
          have hi : i < ops.size := by rw [← hqi']; exact (hpi _ (by omega)).1
          refine ⟨hq, ⟨ops[i], by rw [hqi']; exact Array.getElem?_eq_getElem hi, ?_⟩, by rw [hqi']; exact hbf _ _ b5⟩
          have := hkop i _ (Array.getElem?_eq_getElem hi)
          rw [b3] at this
          simp only [Option.map_some, Option.some.injEq] at this
          rw [← this]; exact b4
      refine ⟨hpi, hpo, fun i o ho => (List.all_eq_true.1 hok) o ?_, fun p o hp ho => ?_, fun p o hp ho => ?_, ?_, ?_, ?_, ?_, hlo, fun p o hp ho hn => ?_, fun p q o o' hp hq ho ho' hn hn' he => ?_, ?_⟩
      · have h := Array.mem_of_getElem? ho
        simpa using h
      · exact (g5 p _ (Nat.zero_le _) (hop p hp o ho).2).1
      · rcases (g5 p _ (Nat.zero_le _) (hop p hp o ho).2).2.2 with ⟨c1, c2, c3⟩ | ⟨c1, c2⟩
        · exact .inl ⟨c1, c2, c3⟩
        · refine .inr ⟨c1, ?_⟩
          dsimp only at c2
          cases hk : opT P nG o.op with
          | n f g => rw [hk] at c2; exact c2
          | r f =>
            rw [hk] at c2
            refine ⟨c2.1, c2.2.1, fun k k1 k2 => c2.2.2 k k2 ?_⟩
            show 0 + l'.length - 1 - k ≤ ops.size - 1 - lastA ks (ms.getD (π.getD p 0) 0) (π.take p).reverse
            have k1' : lastA ks (ms.getD (π.getD p 0) 0) (π.take p).reverse ≤ k := k1
            omega
          | bad => rw [hk] at c2; exact c2
          | q f => rw [hk] at c2; exact c2
          | a f => rw [hk] at c2; exact c2
          | call f as => rw [hk] at c2; exact c2
      · intro i o e ho he hb
        have := o5 i o (by rw [Array.getElem?_toList]; exact ho) e he hb
        exact ⟨by omega, this.2⟩
      · intro i j oi oj t hi hj hd hs
        rcases o6 i oi t (by rw [Array.getElem?_toList]; exact hi) hd j oj (by rw [Array.getElem?_toList]; exact hj) with h | ⟨_, h⟩
        · exact .inl h
        · rcases h hs with h | h
          · exact .inr (.inl (hbf _ _ h))
          · exact .inr (.inr (hbf _ _ h))
      · intro i j oi oj t hi hj hd hd'
        rcases o6 i oi t (by rw [Array.getElem?_toList]; exact hi) hd j oj (by rw [Array.getElem?_toList]; exact hj) with h | ⟨h, _⟩
        · exact h
        · exact absurd hd' h
      · intro i o ho hf q hq
        refine hbf _ _ (o7 i o (by rw [Array.getElem?_toList]; exact ho) (by rw [hkop i o ho, hf]; simp) _ ?_)
        have hin := DR.size_some ho
        have hq' : q < posOf i π := hq
        have hq2 : q < ops.size := by have := (hpo i hin).1; omega
        refine List.mem_of_getElem? (i := q) ?_
        rw [List.getElem?_take]
        rw [if_pos hq']; exact hget q hq2
      · rw [← hm', ← List.take_length (l := π)]
        have : countN ks (List.take p π) < countN ks (List.take π.length π) := countN_take (by omega) (hget p hp) (hop p hp o ho).1 hn
        rw [List.take_length] at this ⊢
        exact this
      · rcases Nat.lt_trichotomy p q with h | h | h
        · have := countN_take h (hget p hp) (hop p hp o ho).1 hn
          have he' : countN ks (π.take p) = countN ks (π.take q) := he
          omega
        · exact h
        · have := countN_take h (hget q hq) (hop q hq o' ho').1 hn'
          have he' : countN ks (π.take p) = countN ks (π.take q) := he
          omega
      · intro p
        induction p with
        | zero => intro _; rw [g1 0 (Nat.le_refl _)]; exact Nat.le_refl _
        | succ p ih =>
          intro hp
          have hlt : p < ops.size := by omega
          have h3 := ih (by omega)
          have h4 : ops[π.getD p 0]? = some (ops[π.getD p 0]'(hpi p hlt).1) := Array.getElem?_eq_getElem _
          have h5 := (g5 p _ (Nat.zero_le _) (hop p hlt _ h4).2).2.1
          omega
    have hF : F ops.size = fr' := by rw [← g3, Nat.zero_add, hll]
    have hG : G ops.size = H' := by rw [← g4, Nat.zero_add, hll]
    refine D.region_wp hm (H := H) (by rw [g2]; exact hst) rfl (g1 0 (Nat.le_refl _)) htop (Q := Q) ?_
    rw [hF, hG]
    exact hQ
  · cases hpl
end Go.Proofs.YtfafhdganloipaaGreatDoor.Eng
namespace Go.Proofs.YtfafhdganloipaaGreatDoor.Eng
open Go.RowKit
variable {P : Program} {nG : Nat} {K : Known}
def QX (Q : Exit → Act → World → Prop) : Ex → Act → World → Prop
  | .normal => Q .normal
  | .exit i => Q (.exit i)
  | .ret => Q .ret
def CodeSem (P : Program) (nG : Nat) (c : Code) (fr : Fr) (H : AH) (e : Ex) (fr' : Fr) (H' : AH) : Prop :=
  ∀ ⦃base sz S : Nat⦄ ⦃w0 : World⦄ ⦃r : Option Nat⦄ ⦃J : Inj⦄ ⦃a : Act⦄ ⦃w : World⦄ ⦃Q : Exit → Act → World → Prop⦄, okCode sz nG c = true → St P nG base w0 sz S r J fr H a w → S ≤ w.heap.size →
    (∀ a' w', After P nG base w0 sz S r H.next J H w fr' H' a' w' → QX Q e a' w') → c.wpIn (FF r) 0 P Q a w
theorem After.trans {base sz S : Nat} {w0 : World} {r : Option Nat} {J J1 : Inj} {H H1 H2 : AH} {w w1 : World} {fr2 : Fr} {a2 : Act} {w2 : World} (ids : ∀ b x, J b = some x → b < H.next) (he : Ev H.next J H w J1 H1 w1) (h2 : After P nG base w0 sz S r H1.next J1 H1 w1 fr2 H2 a2 w2) : After P nG base w0 sz S r H.next J H w fr2 H2 a2 w2 := by
  obtain ⟨J2, k1, k2⟩ := h2
  exact ⟨J2, k1, he.trans ids (k2.weak he.next)⟩
theorem CodeSem.then_ {c : Code} {fr : Fr} {H : AH} {fr1 : Fr} {H1 : AH} (h : CodeSem P nG c fr H .normal fr1 H1) {base sz S : Nat} {w0 : World} {r : Option Nat} {J : Inj} {a : Act} {w : World} {Q : Exit → Act → World → Prop} {K' : Act → World → Prop} (hok : okCode sz nG c = true) (hst : St P nG base w0 sz S r J fr H a w) (hS : S ≤ w.heap.size)
    (hK : ∀ J1 a1 w1, St P nG base w0 sz S r J1 fr1 H1 a1 w1 → Ev H.next J H w J1 H1 w1 → S ≤ w1.heap.size → K' a1 w1) : c.wpIn (FF r) 0 P (Exit.then K' Q) a w :=
  h hok hst hS fun a1 w1 ⟨J1, k1, k2⟩ => hK J1 a1 w1 k1 k2 (Nat.le_trans hS k2.size)
theorem seq_sem {a b : Code} {fr : Fr} {H : AH} {fr1 : Fr} {H1 : AH} {e : Ex} {fr' : Fr} {H' : AH} (h1 : CodeSem P nG a fr H .normal fr1 H1) (h2 : CodeSem P nG b fr1 H1 e fr' H') : CodeSem P nG (.seq a b) fr H e fr' H' := by
  intro base sz S w0 r J ac w Q hok hst hS hQ
  simp only [okCode, Bool.and_eq_true] at hok
  refine wpIn_seq (h1.then_ hok.1 hst hS fun J1 a1 w1 k1 k2 k3 => ?_)
  exact h2 hok.2 k1 k3 fun a' w' ha => hQ a' w' (After.trans hst.wr.ids k2 ha)
theorem seq_sem_out {a b : Code} {fr : Fr} {H : AH} {fr1 : Fr} {H1 : AH} {e : Ex} (he : e ≠ .normal) (h1 : CodeSem P nG a fr H e fr1 H1) : CodeSem P nG (.seq a b) fr H e fr1 H1 := by
  intro base sz S w0 r J ac w Q hok hst hS hQ
  simp only [okCode, Bool.and_eq_true] at hok
  refine wpIn_seq (h1 hok.1 hst hS fun a1 w1 h => ?_)
  have := hQ a1 w1 h
  cases e with
  | normal => exact absurd rfl he
  | exit i => exact this
  | ret => exact this
theorem rounds_sem {b : Code} : ∀ (n : Nat), (∀ m, m < n → ∀ (fr : Fr) (H : AH) (e : Ex) (fr' : Fr) (H' : AH), exec P nG K m (.code b) fr H = .ok e fr' H' → CodeSem P nG b fr H e fr' H') →
    ∀ (fr : Fr) (H : AH) (e : Ex) (fr' : Fr) (H' : AH), exec P nG K n (.code (.loop b)) fr H = .ok e fr' H' →
    ∀ {base sz S : Nat} {w0 : World} {r : Option Nat} {J : Inj} {a : Act} {w : World} {Q : Exit → Act → World → Prop}, okCode sz nG b = true → St P nG base w0 sz S r J fr H a w → S ≤ w.heap.size →
      (∀ a' w', After P nG base w0 sz S r H.next J H w fr' H' a' w' → QX Q e a' w') → Code.roundsIn (FF r) 0 P b Q n a w := by
  intro n
  induction n with
  | zero => intro _ fr H e fr' H' h; cases h
  | succ n ih =>
    intro hb fr H e fr' H' h base sz S w0 r J a w Q hok hst hS hQ
    rw [exec_code] at h
    replace h : Rs.seq (exec P nG K n (.code b) fr H) (exec P nG K n (.code (.loop b))) = _ := h
    rw [roundsIn_succ]
    cases h1 : exec P nG K n (.code b) fr H with
    | bad tr => rw [h1] at h; cases h
    | val v H1 => rw [h1] at h; cases h
    | ok e1 fr1 H1 =>
      rw [h1] at h
      have hs := hb n (by omega) _ _ _ _ _ h1
      cases e1 with
      | normal =>
        replace h : exec P nG K n (.code (.loop b)) fr1 H1 = _ := h
        refine hs.then_ hok hst hS fun J1 a1 w1 k1 k2 k3 => ?_
        exact ih (fun m hm => hb m (by omega)) _ _ _ _ _ h hok k1 k3 fun a' w' ha => hQ a' w' (After.trans hst.wr.ids k2 ha)
      | exit i =>
        injection h with g1 g2 g3; subst g1 g2 g3
        exact hs hok hst hS fun a1 w1 h => hQ a1 w1 h
      | ret =>
        injection h with g1 g2 g3; subst g1 g2 g3
        exact hs hok hst hS fun a1 w1 h => hQ a1 w1 h
theorem block_sem {id : Nat} {b : Code} {fr : Fr} {H : AH} {e1 e : Ex} {fr1 : Fr} {H1 : AH} {fr' : Fr} {H' : AH} (h : CodeSem P nG b fr H e1 fr1 H1) (he : Ex.k2 fr1 H1 id e1 = .ok e fr' H') : CodeSem P nG (.block id b) fr H e fr' H' := by
  intro base sz S w0 r J ac w Q hok hst hS hQ
  refine wpIn_block (h hok hst hS fun a1 w1 ha => ?_)
  cases e1 with
  | normal =>
    injection he with g1 g2 g3; subst g1 g2 g3
    exact hQ a1 w1 ha
  | ret =>
    injection he with g1 g2 g3; subst g1 g2 g3
    exact hQ a1 w1 ha
  | exit i =>
    replace he : (Bool.rec (.ok (.exit i) fr1 H1) (.ok .normal fr1 H1) (Nat.beq i id) : Rs) = _ := he
    show if i = id then Q .normal a1 w1 else Q (.exit i) a1 w1
    cases hb : Nat.beq i id with
    | true =>
      rw [hb] at he
      injection he with g1 g2 g3; subst g1 g2 g3
      rw [Nat.beq_eq] at hb
      rw [if_pos hb]; exact hQ a1 w1 ha
    | false =>
      rw [hb] at he
      injection he with g1 g2 g3; subst g1 g2 g3
      rw [if_neg (fun e => by rw [← Nat.beq_eq, hb] at e; cases e)]; exact hQ a1 w1 ha
theorem cond_sem {c : Operand} {x y : Code} {t : Bool} {fr : Fr} {H : AH} {e : Ex} {fr' : Fr} {H' : AH} (hc : ev c fr = .bool t) (h : CodeSem P nG (if t then x else y) fr H e fr' H') : CodeSem P nG (.cond c x y) fr H e fr' H' := by
  intro base sz S w0 r J ac w Q hok hst hS hQ
  simp only [okCode, Bool.and_eq_true] at hok
  have hv := hst.at_.ev hok.1
  rw [hc] at hv
  have hev : ac.eval c = .bool t := by
    generalize ac.eval c = v at hv
    cases hv; rfl
  exact wpIn_cond hev (h (by cases t <;> simp [hok.2.1, hok.2.2]) hst hS hQ)
theorem region_sem {id : Nat} {ops : Array Oper} {n : Nat} (hc : CallsOk P nG K n) {fr : Fr} {H : AH} {e : Ex} {fr' : Fr} {H' : AH} (h : exec P nG K n (.ops (prep P nG ops.toList ops.toList)) fr H = .ok e fr' H') : CodeSem P nG (.region id ops false) fr H e fr' H' := by
  obtain ⟨rfl, h1⟩ := ops_sem n hc _ _ _ _ _ _ h
  intro base sz S w0 r J ac w Q hok hst hS hQ
  exact region_wp h1 hok hst hQ
theorem draw_sem (hm : P.follows .mixedOrders = true) {id : Nat} {ops : Array Oper} {n : Nat} (hc : CallsOk P nG K n) {fr : Fr} {H : AH} {e : Ex} {fr' : Fr} {H' : AH} (h : drawn (exec P nG K n) fr H (planOf P nG ops.toList) = .ok e fr' H') : CodeSem P nG (.region id ops true) fr H e fr' H' := by
  intro base sz S w0 r J ac w Q hok hst hS hQ
  cases hp : planOf P nG ops.toList with
  | none => rw [hp] at h; cases h
  | some q =>
    obtain ⟨l, m⟩ := q
    rw [hp] at h
    replace h : (Bool.rec (.bad [41]) (exec P nG K n (.dops H.next l []) fr (H.keep m)) (Nat.ble (Nat.add H.next m) 65536) : Rs) = _ := h
    cases hb : Nat.ble (Nat.add H.next m) 65536 with
    | false => rw [hb] at h; cases h
    | true =>
      rw [hb] at h
      rw [Nat.ble_eq] at hb
      obtain ⟨rfl, h2⟩ := drawn_sem hm (id := id) hok hc hp hb h
      exact h2 hst hQ
end Go.Proofs.YtfafhdganloipaaGreatDoor.Eng

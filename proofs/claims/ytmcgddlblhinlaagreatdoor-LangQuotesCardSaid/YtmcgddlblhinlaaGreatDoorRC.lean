/- A range over a function whose iterator writes a captured variable of its own: the iterator's own steps are named (Cl), and the caller's invariant abides them. After the kit's law for bodies that write maps. -/
import Derived.RangeFuncBox
import Derived.RangeFuncNested
import Derived.RangeFuncBound
import Derived.RangeFuncCalls
import Derived.RangeFuncLeaves
namespace Go.Proofs.YtmcgddlblhinlaaGreatDoor
open Go.RowKit
/-- the iterator's contract: its own steps are in Cl, and the caller's invariants abide them -/
def SeqCl {α : Type} (F : Fence) (n : Nat) (P : Program) (g : Nat) (lb : Array Value) (encs : α → Array Value) (Px : α → Prop) (Kp Cl : World → World → Prop) (S Sp : List α → Prop) (N : Nat) (w : World) : Prop :=
  ∀ (l : Nat) (J Jx : List α → World → Prop) (W : World), Below w.heap.size w W → (∀ p A B, J p A → Cl A B → J p B) → (∀ p A B, Jx p A → Cl A B → Jx p B) →
    (∀ pre x W1, Px x → J pre W1 → pre.length < N → YieldAt F (n - 1) P l (encs x) W1 fun e W' =>
      (e = .returned (.bool true) ∧ J (pre ++ [x]) W' ∧ Kp W1 W') ∨ (e = .returned (.bool false) ∧ Jx (pre ++ [x]) W')) →
    J [] W →
    CallsIn F n P g (#[.func (.yield l) #[] #[]] ++ lb) W fun e W' => (∃ v, e = .returned v) ∧ ((∃ xs, S xs ∧ J xs W') ∨ (∃ pre, Sp pre ∧ Jx pre W'))

theorem rangeCl {F : Fence} {n : Nat} {P : Program} {α : Type} {g : Operand} {ps : Array Tmp} {assign body : Code} {Q : Exit → Act → World → Prop} {a : Act} {w : World}
    (hro : F.round = none) (h1 : 1 ≤ n) {gf : Nat} {lb : Array Value} (hg : a.eval g = .func (.func gf) #[] lb) (hFg : F.fn gf) (eg : ∀ args w, (callFunc gf args).run P w = .ok (.enter gf args) w)
    {encs : α → Array Value} {Px : α → Prop} {Kp Cl : World → World → Prop} {S Sp : List α → Prop} {N : Nat} {w0 : World} (hseq : SeqCl F (n - 1) P gf lb encs Px Kp Cl S Sp N w0)
    (hKt : ∀ {A B C : World}, Kp A B → Kp B C → Kp A C) (hKb : ∀ (W : World) (l : Nat) (o o' : Obj), w.heap.size ≤ l → W.heap[l]? = some o → o.isCells = false → o.isWalk = false → Kp W (W.putObj l o'))
    (hCl : ∀ A B, Cl A B → KeepsFrom w.heap.size A B) (hb0 : Below w0.heap.size w0 w) (hps : ∀ x, (encs x).size = ps.size)
    (I : List α → World → Prop) (Ix : Code → List α → World → Prop) (hI : OwnFrom w.heap.size I) (hIx : ∀ c, OwnFrom w.heap.size (Ix c))
    (hIc : ∀ p A B, I p A → Cl A B → I p B) (hIxc : ∀ c p A B, Ix c p A → Cl A B → Ix c p B) (h0 : I [] w) (a₁ : α → Act)
    (hassign : ∀ (l : Nat) (x : α) (W : World) (K : Act → World → Prop), K (a₁ x) W →
      assign.wpIn (F.inRound l) (n - 1 - 1) P (Exit.then K (fun _ _ _ => False)) { tmps := (ps.zip (encs x)).foldl (fun t (p, v) => t.setIfInBounds p v) a.tmps, defers := [] } W)
    (hbody : ∀ (l : Nat) (pre : List α) (x : α) (W : World), Px x → I pre W → pre.length < N → body.wpIn (F.inRound l) (n - 1 - 1) P (ownPostG w.heap.size Kp I Ix (pre ++ [x]) W) (a₁ x) W)
    (hdone : ∀ (D : Nat) (xs : List α) (W : World), w.heap.size ≤ D → S xs → I xs W → W.heap[D]? = some (.deferred (some [])) → Q .normal { a with defers := { target := .collected D, args := #[] } :: a.defers } W)
    (hstop : ∀ (D : Nat) (c : Code) (pre : List α) (W : World), w.heap.size ≤ D → Sp pre → Ix c pre W → W.heap[D]? = some (.deferred (some [])) → c.wpIn F n P Q { a with defers := { target := .collected D, args := #[] } :: a.defers } W) :
    (Code.rangeFunc g ps assign body).wpIn F n P Q a w := by
  refine wpIn_rangeFunc fun fn hfn => ?_
  rw [hro]
  -- the loop's record and the block for deferred calls
  obtain ⟨mk, hmk⟩ : ∃ mk : LoopState → Option Code → Loop, mk = fun st pe => { state := st, pending := pe, fn, tmps := a.tmps, params := ps, assign, body, defers := w.heap.size } := ⟨_, rfl⟩
  generalize hV : (w.alloc (.deferred (some []))).alloc (.loop (mk .ready none)) = V
  have vL : V.heap[w.heap.size + 1]? = some (.loop (mk .ready none)) := by
    have := World.alloc_heap_new (w.alloc (.deferred (some []))) (.loop (mk .ready none))
    rw [World.size_alloc] at this
    rw [← hV]; exact this
  have vD : V.heap[w.heap.size]? = some (.deferred (some [])) := by rw [← hV]; exact (Below.heap_alloc _ _ _ (by simp)).trans (World.alloc_heap_new w _)
  have vI : I [] V := by rw [← hV]; exact hI.alloc _ (hI.alloc _ h0)
  have vB : Below w0.heap.size w0 V := by
    rw [← hV]; exact hb0.trans ((((Below.refl _ w).alloc (Nat.le_refl _) _).alloc (by simp) _).mono hb0.size)
  refine ⟨w.heap.size + 1, [{ target := .collected w.heap.size, args := #[] }], V, { target := .fn (.func gf) lb, args := #[.func (.yield (w.heap.size + 1)) #[] #[]] }, V, gf,
    #[.func (.yield (w.heap.size + 1)) #[] #[]] ++ lb, V, ?_, ?_, ?_, ?_, fun _ => h1, ?_⟩
  · rw [← hV, hmk]; exact run_enterLoop_outer _ _ _ _ _
  · simp only [resolve, hg]
    simp [go_sem]
  · intro f' hf'; simp [Target.leads] at hf'; subst hf'; exact hFg
  · simp [invoke, go_sem, eg]
  have keep : ∀ {A B : World} {o o2 : Obj}, Cl A B → A.heap[w.heap.size + 1]? = some o → o.isCells = false → A.heap[w.heap.size]? = some o2 → o2.isCells = false → B.heap[w.heap.size + 1]? = some o ∧ B.heap[w.heap.size]? = some o2 :=
    fun hc ha ho hb ho2 => ⟨(hCl _ _ hc).same _ _ (by omega) ha ho, (hCl _ _ hc).same _ _ (Nat.le_refl _) hb ho2⟩
  refine (hseq (w.heap.size + 1)
    (fun pre W => I pre W ∧ W.heap[w.heap.size + 1]? = some (.loop (mk .ready none)) ∧ W.heap[w.heap.size]? = some (.deferred (some [])))
    (fun pre W => ∃ c, Ix c pre W ∧ W.heap[w.heap.size + 1]? = some (.loop (mk .done (some c))) ∧ W.heap[w.heap.size]? = some (.deferred (some [])))
    V vB (fun p A B hs hc => ⟨hIc p A B hs.1 hc, keep hc hs.2.1 rfl hs.2.2 rfl⟩)
    (fun p A B ⟨c, hc1, hc2, hc3⟩ hc => ⟨c, hIxc c p A B hc1 hc, keep hc hc2 rfl hc3 rfl⟩) ?_ ⟨vI, vL, vD⟩).mono ?_
  · rintro pre x W hpx ⟨hi, hl, hk⟩ hlen
    have hlt : w.heap.size + 1 < W.heap.size := (Array.getElem?_eq_some_iff.1 hl).1
    have hy := run_yield (P := P) (args := encs x) hl (by rw [hmk]; exact hps x)
    rw [hmk] at hy
    refine ⟨fn, _, assign, body, hy, roundIn_of_wpIn hfn (hassign _ x W _ ⟨_, run_beginRound hl (by rw [hmk]), ?_⟩)⟩
    generalize hU : W.putObj (w.heap.size + 1) (.loop { mk .ready none with state := .busy }) = U
    have uL : U.heap[w.heap.size + 1]? = some (.loop { mk .ready none with state := .busy }) := by rw [← hU]; exact World.putObj_heap_same hlt
    have uD : U.heap[w.heap.size]? = some (.deferred (some [])) := by rw [← hU]; exact (World.putObj_heap_other (by omega)).trans hk
    have uK : Kp W U := by rw [← hU]; exact hKb _ _ _ _ (by omega) hl rfl rfl
    have uI : I pre U := by rw [← hU]; exact hI.putObj _ hi (by omega) hl rfl
    have close : ∀ (jump : Option Code) (W3 : World), KeepsFrom w.heap.size U W3 →
        (Instr.endRound (w.heap.size + 1) jump).run P W3 = .ok (.bool jump.isNone) (W3.putObj (w.heap.size + 1) (.loop (mk (if jump.isNone then .ready else .done) jump))) ∧
        W3.heap[w.heap.size + 1]? = some (.loop { mk .ready none with state := .busy }) ∧
        (W3.putObj (w.heap.size + 1) (.loop (mk (if jump.isNone then .ready else .done) jump))).heap[w.heap.size + 1]? = some (.loop (mk (if jump.isNone then .ready else .done) jump)) ∧
        (W3.putObj (w.heap.size + 1) (.loop (mk (if jump.isNone then .ready else .done) jump))).heap[w.heap.size]? = some (.deferred (some [])) := fun jump W3 k3 => by
      have l3 := k3.same _ _ (by omega) uL rfl
      have r3 := run_endRound (P := P) jump l3
      rw [hmk] at r3 ⊢
      exact ⟨r3, by rw [hmk] at l3; exact l3, World.putObj_heap_same (Array.getElem?_eq_some_iff.1 l3).1, (World.putObj_heap_other (by omega)).trans (k3.same _ _ (Nat.le_refl _) uD rfl)⟩
    refine wpIn_mono (hbody _ pre x U hpx uI hlen) fun e a3 W3 hp => ?_
    have leave : ∀ c : Code, KeepsFrom w.heap.size U W3 → Ix c (pre ++ [x]) W3 → ∃ c', Ix c' (pre ++ [x]) (W3.putObj (w.heap.size + 1) (.loop (mk .done (some c)))) ∧ (W3.putObj (w.heap.size + 1) (.loop (mk .done (some c)))).heap[w.heap.size + 1]? = some (.loop (mk .done (some c'))) ∧ (W3.putObj (w.heap.size + 1) (.loop (mk .done (some c)))).heap[w.heap.size]? = some (.deferred (some [])) := fun c k3 hx => by
      obtain ⟨_, l3, l4, d4⟩ := close (some c) W3 k3
      exact ⟨c, (hIx _).putObj _ hx (by omega) l3 rfl, l4, d4⟩
    cases e with
    | normal =>
      obtain ⟨k3, p3, i3⟩ := hp
      obtain ⟨r3, l3, l4, d4⟩ := close none W3 k3
      exact ⟨_, _, r3, .inl ⟨rfl, ⟨hI.putObj _ i3 (by omega) l3 rfl, l4, d4⟩, hKt (hKt uK p3) (hKb _ _ _ _ (by omega) l3 rfl rfl)⟩⟩
    | ret => exact ⟨_, _, (close (some .ret) W3 hp.1).1, .inr ⟨rfl, leave .ret hp.1 hp.2⟩⟩
    | exit id => exact ⟨_, _, (close (some (.exit id)) W3 hp.1).1, .inr ⟨rfl, leave (.exit id) hp.1 hp.2⟩⟩
    | goto t => exact ⟨_, _, (close (some (.goto t)) W3 hp.1).1, .inr ⟨rfl, leave (.goto t) hp.1 hp.2⟩⟩
    | panic ch => exact hp.elim
    | outgrown => exact hp.elim
  · rintro e W2 ⟨⟨v, rfl⟩, (⟨xs, hS, hi, hl, hk⟩ | ⟨pre, hSp, c, hi, hl, hk⟩)⟩
    · refine ⟨none, _, by have := run_endLoop (P := P) hl (by rw [hmk]; simp); rw [hmk] at this; exact this, hdone _ xs _ (Nat.le_refl _) hS (hI.putObj _ hi (by omega) hl rfl) ((World.putObj_heap_other (by omega)).trans hk)⟩
    · refine ⟨some c, _, by have := run_endLoop (P := P) hl (by rw [hmk]; simp); rw [hmk] at this; exact this, hstop _ c pre _ (Nat.le_refl _) hSp ((hIx c).putObj _ hi (by omega) hl rfl) ((World.putObj_heap_other (by omega)).trans hk)⟩
end Go.Proofs.YtmcgddlblhinlaaGreatDoor

/- read, the line of a node. -/
import Derived.Test.YtgnlanfpholdaaaDoorF12
import Derived.Deep.DrawnRows
import Derived.Test.YtgnlanfpholdaaaDoorRK
namespace Go.Proofs.YtgnlanfpholdaaaDoor
open Go.RowKit
attribute [local go_sem ↓] Go.wp_at_zero Go.wp_at_succ
theorem rd_new (w : World) (x : ByteArray) (t : List ByteArray) (ht : t.length ≤ 8192) (A : Option Addr) (hA : 0 < t.length → A = some ⟨w.heap.size, 1, none⟩) :
    Rd ((w.alloc (.cells ((x :: t).map Value.string).toArray 9)).alloc (.cells #[.slice A t.length t.length, .bool false] 97)) (w.heap.size + 1) t false := by
  have e0 : ((w.alloc (.cells ((x :: t).map Value.string).toArray 9)).alloc (.cells #[.slice A t.length t.length, .bool false] 97)).heap[w.heap.size]? = some (.cells ((x :: t).map Value.string).toArray 9) := by
    show ((w.heap.push _).push _)[w.heap.size]? = _
    simp [Array.getElem?_push]
  refine ⟨A, t.length, ?_, Nat.le_refl _, by unfold maxLen; omega, fun hp => ⟨w.heap.size, 1, hA hp, by omega, by simp; omega, fun j hj => ?_⟩⟩
  · show ((w.heap.push _).push _)[w.heap.size + 1]? = _
    rw [Array.getElem?_push, if_pos (by simp)]
  · unfold World.cell?
    simp only [e0]
    simp [List.getD, Nat.add_comm 1 j, hj]
theorem readL_node1 {Q : List Int} {C : List Con} {s x : ByteArray} {t rest : List ByteArray} {r : Int} {bad : Bool} (hw : wordsOf s = x :: t) (hx : (x.toList == [110, 111, 100, 101]) = true) (g : Got t 1 [r] rest bad) (h : r ≠ Q.length ∨ C ≠ []) : readL Q C s = none := by
  rw [ByteArray.toList_eq] at hx
  unfold readL
  rw [hw]
  simp only [beq_iff_eq.1 hx, if_true]
  split
  · rename_i a q hn
    rw [if_neg]
    rintro ⟨h1, h2⟩
    rcases h with h | h
    · apply h
      cases hb : bad with
      | true => have := g.fell hb _ hn; simp at this
      | false =>
        obtain ⟨_, e2, _⟩ := g.good hb
        cases t with
        | nil => cases hn
        | cons y t' =>
          simp only [List.take_succ_cons, List.take_zero] at e2
          unfold numsOf at hn e2
          split at hn
          · rename_i v l hv hl
            rw [hv] at e2
            simp only [numsOf, Option.some.injEq, List.cons.injEq] at e2 hn
            rw [← e2.1, hn.1, h1]
          · cases hn
    · exact h h2
  · rfl
theorem readL_node2 {Q : List Int} {C : List Con} {s x : ByteArray} {t rest : List ByteArray} {r q : Int} {bad : Bool} (hw : wordsOf s = x :: t) (hx : (x.toList == [110, 111, 100, 101]) = true) (g : Got t 2 [r, q] rest bad) (hr : r = Q.length) (hC : C = []) :
    (bad = false ∧ rest = [] → readL Q C s = some (Q ++ [q], C)) ∧ (bad = true ∨ rest ≠ [] → readL Q C s = none) := by
  rw [ByteArray.toList_eq] at hx
  unfold readL
  rw [hw]
  simp only [beq_iff_eq.1 hx, if_true]
  refine ⟨fun h => ?_, fun h => ?_⟩
  · rw [g.whole h.1 h.2]
    simp only
    rw [if_pos ⟨hr, hC⟩]
  · split
    · rename_i a q hn
      exact absurd rfl (g.not h _ hn)
    · rfl
theorem own_ne_own {w : World} {B : Nat} {e1 e2 : TypeId} {s1 s2 : Nat} {v1 v2 : Value} {n1 n2 : Nat} {x1 x2 : List Value} (h1 : w.ownsRow B e1 s1 v1 n1 x1) (h2 : w.ownsRow B e2 s2 v2 n2 x2) (ne : e1 ≠ e2) : v1.ownBlock = none ∨ v1.ownBlock ≠ v2.ownBlock := by
  cases hv : v1.ownBlock with
  | none => exact .inl rfl
  | some g =>
    right; intro e
    obtain ⟨c, fz, k1⟩ := Lib.ownsRow_kind h1 g hv
    obtain ⟨c', fz', k2⟩ := Lib.ownsRow_kind h2 g e.symm
    rw [k1] at k2; cases k2; exact ne rfl
theorem Frm.set (B pb i : Nat) (v : Value) (w : World) {cs : Array Value} {t : TypeId} {z : Nat × Nat} (h : w.heap[pb]? = some (.cells cs t z)) : Frm B pb w (w.setCell ⟨pb, i, none⟩ v) :=
  ⟨rfl, rfl, rfl, by simp [World.setCell], fun k _ hn => Below.heap_setCell w ⟨pb, i, none⟩ v k (by simpa using hn),
   fun k o hk ho => (Below.heap_setCell w ⟨pb, i, none⟩ v k (by show k ≠ pb; intro e; subst e; rw [h] at hk; cases hk; cases ho)).trans hk⟩
/-- a quota appended -/
theorem PSt.appQ {w w1 : World} {B pb : Nat} {Q : List Int} {C : List Con} {VQ VC V : Value} {q : Int} {o : Obj} (h : PSt w B pb Q C VQ VC) (hg : (w.alloc o).grownBy w1 VQ.ownBlock) (hr : w1.ownsRow B 3 1 V (Q.length + 1) (intCells Q ++ [.int .i64 q])) :
    w1.heap[pb]? = some (.cells #[VQ, VC] 25 (0, 0)) ∧ PSt (w1.setCell ⟨pb, 0, none⟩ V) B pb (Q ++ [q]) C V VC ∧ Frm B pb w (w1.setCell ⟨pb, 0, none⟩ V) ∧
    ∀ k, k < w.heap.size → VQ.ownBlock ≠ some k → k ≠ pb → (w1.setCell ⟨pb, 0, none⟩ V).heap[k]? = w.heap[k]? := by
  have hlt : pb < w.heap.size := Nat.lt_of_lt_of_le h.lt h.le
  have hne : VQ.ownBlock ≠ some pb := own_ne_lt h.rq (.inl h.lt)
  have old : ∀ k, k < w.heap.size → VQ.ownBlock ≠ some k → w1.heap[k]? = w.heap[k]? := fun k hk hn => (hg.block k (by simp; omega) (fun e => hn e.symm)).trans (Below.heap_alloc _ _ _ hk)
  have hb := (old pb hlt hne).trans h.blk
  have rc := (h.rc.alloc o).kept hg (own_ne_own (h.rc.alloc o) (h.rq.alloc o) (by decide))
  have hz : w.heap.size ≤ w1.heap.size := Nat.le_trans (by simp) hg.size
  have e := heap_set hb (i := 0) V
  refine ⟨hb, ⟨h.lt, by have := h.le; simp [World.setCell]; omega, by simpa using e, own_hit (ownsRow_setCell_below hr h.lt _), ownsRow_setCell_below rc h.lt _⟩, ?_, fun k hk hn hp => ?_⟩
  · exact ((Frm.of_below ((Below.refl w.heap.size w).alloc (Nat.le_refl _) o) h.le).trans (Frm.of_grown hg (by have := h.le; simp; omega) (fun k e => .inl (h.rq.lt k e).1) (fun k e => by obtain ⟨c, fz, k1⟩ := Lib.ownsRow_kind (h.rq.alloc o) k e; exact ⟨_, _, _, k1⟩))).trans (Frm.set B pb 0 V w1 hb)
  · exact (Below.heap_setCell w1 ⟨pb, 0, none⟩ V k (by simpa using hp)).trans (old k hk hn)

theorem own_shape {w : World} {B : Nat} {e : TypeId} {size : Nat} {v : Value} {n : Nat} {xs : List Value} (h : w.ownsRow B e size v n xs) : ∃ A c, v = .slice A n c := by
  rcases h.2 with ⟨h1, h2⟩ | ⟨g, cap, cur, h1, _⟩
  · subst h2; exact ⟨_, _, h1⟩
  · exact ⟨_, _, h1⟩
set_option maxHeartbeats 8000000 in
set_option maxRecDepth 100000 in
theorem read_node (pb B : Nat) (s : ByteArray) (Q : List Int) (C : List Con) (VQ VC : Value) (w : World) (hP : PSt w B pb Q C VQ VC) (hs : s.size ≤ 8192) (hG : Glob w) (_hp8 : 8 ≤ pb) (hlQ : Q.length ≤ 10000) (x : ByteArray) (t : List ByteArray) (hw : wordsOf s = x :: t)
    (h1 : (x.toList == [110, 111, 100, 101]) = true) : Calls Tryd.prog 56 #[.pointer (some ⟨pb, 0, none⟩), .string s] w (ReadPost w B pb Q C s) := by
  have HW := Lib.hid hw
  have hlen : (wordsOf s).length = t.length + 1 := by rw [hw]; rfl
  have hcnt := words_len s
  have hcl := Lib.countB_le ⟨#[32]⟩ (by decide) s.size s (Nat.le_refl _)
  have ht : t.length ≤ 8192 := by omega
  have hws : ∀ y ∈ t, y.size ≤ 8192 := fun y hy => Nat.le_trans (words_size (s := s) (by rw [hw]; exact List.mem_cons_of_mem _ hy)) hs
  have p2 : (1 : Int) ≤ (t.length : Int) + 1 := by omega
  have p1 : (0 : Int) < (t.length : Int) + 1 := by omega
  have p4 : (t.length : Int) + 1 ≤ 8193 := by omega
  have HS := Lib.hid hws
  clear hcnt hcl hw hws
  obtain ⟨AQ, cQ, rfl⟩ := own_shape hP.rq
  obtain ⟨AC, cC, rfl⟩ := own_shape hP.rc
  go_enter Tryd.func56, Tryd.ntmps56
  go_wp2_with (go_at_call 68; refine (split_any s hs _ hG).mono ?_; rintro e w1 ⟨rfl, rfl⟩; rw [hlen, HW.out])
  all_goals
    have hR := rd_new w x t ht (if t = [] then some ⟨w.heap.size, 0, none⟩ else some ⟨w.heap.size, 1, none⟩) (fun hp => if_neg (fun e => by rw [e] at hp; cases hp))
    have hb : Below w.heap.size w ((w.alloc (.cells ((x :: t).map Value.string).toArray 9)).alloc (.cells #[.slice (if t = [] then some ⟨w.heap.size, 0, none⟩ else some ⟨w.heap.size, 1, none⟩) t.length t.length, .bool false] 97)) := ((Below.refl _ w).alloc (Nat.le_refl _) _).alloc (by simp) _
    simp only [h, if_true, if_false, List.map_cons, List.map_nil, List.length_nil] at hR hb
    generalize hW : World.alloc _ _ = w2 at hR hb ⊢
  all_goals
    (try subst h)
    clear hW
    have hbd : Below w.heap.size w w2.drew := Below.drew hb
    have hP2 := hP.below hbd
    have hG2 : Glob w2.drew := hG.below hbd (by have := hG.1; omega)
    have hR2 : Rd w2.drew (w.heap.size + 1) _ false := hR
    have F2 : Frm B pb w w2.drew := Frm.of_below hbd hP.le
    have hpl : pb < w.heap.size := Nat.lt_of_lt_of_le hP.lt hP.le
    have d0 := cell_blk hP2.blk 0
    have d1 := cell_blk hP2.blk 1
    simp only [List.getElem?_toArray, List.getElem?_cons_zero, List.getElem?_cons_succ] at d0 d1
    clear hR hb hbd
    refine wp_region_held_drew (S := fun w' => w'.cell? ⟨pb, 0, none⟩ = some (.slice AQ Q.length cQ) ∧ w'.cell? ⟨pb, 1, none⟩ = some (.slice AC C.length cC)) (by kernel_rfl) ⟨d0, d1⟩ (fun hHeld => ?_)
    (refine wpAnyH_take (i := 0) (v := ?_) rfl (by kernel_rfl) (by kernel_rfl) (by kernel_rfl) (fun _ _ _ h => h) (Or.inl ⟨by kernel_rfl, fun w0 hSw => ?_⟩) hHeld ?_; rotate_left; (focus ((try dsimp only at hSw); simp only [List.getElem_toArray, List.getElem_cons_zero]; (first | (go_simp; done) | (go_simp; with_reducible rfl)))); (try simp only [List.getElem_toArray, List.getElem_cons_zero, Act.put, List.setIfInBounds_toArray, List.set_cons_zero, List.set_cons_succ]))
    (refine wpAnyH_take (i := 2) (v := ?_) rfl (by kernel_rfl) (by kernel_rfl) (by kernel_rfl) (fun _ _ _ h => h) (Or.inl ⟨by kernel_rfl, fun w0 hSw => ?_⟩) hHeld ?_; rotate_left; (focus ((try dsimp only at hSw); simp only [List.getElem_toArray, List.getElem_cons_zero, List.getElem_cons_succ]; (first | (go_simp; done) | (go_simp; with_reducible rfl)))); (try simp only [List.getElem_toArray, List.getElem_cons_zero, List.getElem_cons_succ, Act.put, List.setIfInBounds_toArray, List.set_cons_zero, List.set_cons_succ]))
    (refine wpAnyH_take (i := 3) (v := ?_) rfl (by kernel_rfl) (by kernel_rfl) (by kernel_rfl) (fun _ _ _ h => h) (Or.inl ⟨by kernel_rfl, fun w0 hSw => ?_⟩) hHeld ?_; rotate_left; (focus ((try dsimp only at hSw); simp only [List.getElem_toArray, List.getElem_cons_zero, List.getElem_cons_succ]; (first | (go_simp; done) | (go_simp; with_reducible rfl)))); (try simp only [List.getElem_toArray, List.getElem_cons_zero, List.getElem_cons_succ, Act.put, List.setIfInBounds_toArray, List.set_cons_zero, List.set_cons_succ]))
    (refine wpAnyH_take (i := 4) (v := ?_) rfl (by kernel_rfl) (by kernel_rfl) (by kernel_rfl) (fun _ _ _ h => h) (Or.inl ⟨by kernel_rfl, fun w0 hSw => ?_⟩) hHeld ?_; rotate_left; (focus ((try dsimp only at hSw); simp only [List.getElem_toArray, List.getElem_cons_zero, List.getElem_cons_succ]; (first | (go_simp; done) | (go_simp; with_reducible rfl)))); (try simp only [List.getElem_toArray, List.getElem_cons_zero, List.getElem_cons_succ, Act.put, List.setIfInBounds_toArray, List.set_cons_zero, List.set_cons_succ]))
    (refine wpAnyH_take (i := 5) (v := ?_) rfl (by kernel_rfl) (by kernel_rfl) (by kernel_rfl) (fun _ _ _ h => h) (Or.inl ⟨by kernel_rfl, fun w0 hSw => ?_⟩) hHeld ?_; rotate_left; (focus ((try dsimp only at hSw); simp only [List.getElem_toArray, List.getElem_cons_zero, List.getElem_cons_succ]; (first | (go_simp; done) | (go_simp; with_reducible rfl)))); (try simp only [List.getElem_toArray, List.getElem_cons_zero, List.getElem_cons_succ, Act.put, List.setIfInBounds_toArray, List.set_cons_zero, List.set_cons_succ]))
    (refine wpAnyH_take (i := 6) (v := ?_) rfl (by kernel_rfl) (by kernel_rfl) (by kernel_rfl) (fun _ _ _ h => h) (Or.inl ⟨by kernel_rfl, fun w0 hSw => ?_⟩) hHeld ?_; rotate_left; (focus ((try dsimp only at hSw); simp only [List.getElem_toArray, List.getElem_cons_zero, List.getElem_cons_succ]; (first | (go_simp; done) | (go_simp; with_reducible rfl)))); (try simp only [List.getElem_toArray, List.getElem_cons_zero, List.getElem_cons_succ, Act.put, List.setIfInBounds_toArray, List.set_cons_zero, List.set_cons_succ]))
    refine wpAnyH_ready (rs := [1]) (by kernel_rfl) (by simp) ?_
    refine AllReadyH.cons rfl (fun K hK => ?_) AllReadyH.nil
    simp only [List.getElem_toArray, List.getElem_cons_zero, List.getElem_cons_succ]
    go_simp
    refine (num_any (w.heap.size + 1) _ false _ hR2 (by first | exact HS.out | simp) hG2).mono ?_
    rintro e w3 ⟨r, bad1, rfl, hR3, hg3, n1, n2, n3⟩
    have g1 := Lib.hid ((Got.start _).step n1 n2 n3)
    obtain ⟨_, _, hrb, _⟩ := hR2
    have hP3 := hP2.kept hg3 (by omega) (own_ne_kind hP2.rq hrb (by decide)) (own_ne_kind hP2.rc hrb (by decide))
    have F3 := F2.trans (Frm.of_grown (pb := pb) hg3 hP2.le (fun k e => .inl (by cases e; have := hP.le; omega)) (fun k e => by cases e; exact ⟨_, _, _, hrb⟩))
    have hG3 := hG2.grown hg3 (by have := hG.1; omega)
    have i0 := cell_blk hP3.blk 0
    have i1 := cell_blk hP3.blk 1
    simp only [List.getElem?_toArray, List.getElem?_cons_zero, List.getElem?_cons_succ] at i0 i1
    clear n1 n2 n3 hrb hHeld d0 d1 hg3
    go_wp2_with fail
    refine hK.out _ _ ⟨i0, i1⟩ (fun hHeld => ?_)
    clear hK K
    (try simp only [List.getElem_toArray, List.getElem_cons_zero, List.getElem_cons_succ, Act.put, List.setIfInBounds_toArray, List.set_cons_zero, List.set_cons_succ])
    by_cases hq : r = Q.length
    case neg =>
      (refine wpAnyH_take (i := 7) (v := .bool true) rfl (by kernel_rfl) (by kernel_rfl) (by kernel_rfl) (fun _ _ _ h => h) (Or.inl ⟨by kernel_rfl, fun w0 hSw => ?_⟩) hHeld ?_; (focus (simp only [List.getElem_toArray, List.getElem_cons_zero, List.getElem_cons_succ]; (first | (go_simp; done) | (go_simp; with_reducible rfl) | (simp [*, go_sem]; done)))); (try simp only [List.getElem_toArray, List.getElem_cons_zero, List.getElem_cons_succ, Act.put, List.setIfInBounds_toArray, List.set_cons_zero, List.set_cons_succ]))
      (refine wpAnyH_take (i := 8) (v := ?_) rfl (by kernel_rfl) (by kernel_rfl) (by kernel_rfl) (fun _ _ _ h => h) (Or.inl ⟨by kernel_rfl, fun w0 hSw => ?_⟩) hHeld ?_; rotate_left; (focus ((try dsimp only at hSw); simp only [List.getElem_toArray, List.getElem_cons_zero, List.getElem_cons_succ]; (first | (go_simp; done) | (go_simp; with_reducible rfl)))); (try simp only [List.getElem_toArray, List.getElem_cons_zero, List.getElem_cons_succ, Act.put, List.setIfInBounds_toArray, List.set_cons_zero, List.set_cons_succ]))
      (refine wpAnyH_take (i := 9) rfl (by kernel_rfl) (by kernel_rfl) (by kernel_rfl) (fun _ _ _ h => h) (Or.inr ⟨by kernel_rfl, rfl⟩) hHeld ?_; (try simp only [List.getElem_toArray, List.getElem_cons_zero, List.getElem_cons_succ, Act.put, List.setIfInBounds_toArray, List.set_cons_zero, List.set_cons_succ]))
      (refine wpAnyH_take (i := 10) rfl (by kernel_rfl) (by kernel_rfl) (by kernel_rfl) (fun _ _ _ h => h) (Or.inr ⟨by kernel_rfl, rfl⟩) hHeld ?_; (try simp only [List.getElem_toArray, List.getElem_cons_zero, List.getElem_cons_succ, Act.put, List.setIfInBounds_toArray, List.set_cons_zero, List.set_cons_succ]))
      (refine wpAnyH_take (i := 11) rfl (by kernel_rfl) (by kernel_rfl) (by kernel_rfl) (fun _ _ _ h => h) (Or.inr ⟨by kernel_rfl, rfl⟩) hHeld ?_; (try simp only [List.getElem_toArray, List.getElem_cons_zero, List.getElem_cons_succ, Act.put, List.setIfInBounds_toArray, List.set_cons_zero, List.set_cons_succ]))
      (refine wpAnyH_take (i := 12) rfl (by kernel_rfl) (by kernel_rfl) (by kernel_rfl) (fun _ _ _ h => h) (Or.inr ⟨by kernel_rfl, rfl⟩) hHeld ?_; (try simp only [List.getElem_toArray, List.getElem_cons_zero, List.getElem_cons_succ, Act.put, List.setIfInBounds_toArray, List.set_cons_zero, List.set_cons_succ]))
      (refine wpAnyH_take (i := 13) rfl (by kernel_rfl) (by kernel_rfl) (by kernel_rfl) (fun _ _ _ h => h) (Or.inr ⟨by kernel_rfl, rfl⟩) hHeld ?_; (try simp only [List.getElem_toArray, List.getElem_cons_zero, List.getElem_cons_succ, Act.put, List.setIfInBounds_toArray, List.set_cons_zero, List.set_cons_succ]))
      (refine wpAnyH_take (i := 14) rfl (by kernel_rfl) (by kernel_rfl) (by kernel_rfl) (fun _ _ _ h => h) (Or.inr ⟨by kernel_rfl, rfl⟩) hHeld ?_; (try simp only [List.getElem_toArray, List.getElem_cons_zero, List.getElem_cons_succ, Act.put, List.setIfInBounds_toArray, List.set_cons_zero, List.set_cons_succ]))
      (refine wpAnyH_take (i := 15) (v := ?_) rfl (by kernel_rfl) (by kernel_rfl) (by kernel_rfl) (fun _ _ _ h => h) (Or.inl ⟨by kernel_rfl, fun w0 hSw => ?_⟩) hHeld ?_; rotate_left; (focus ((try dsimp only at hSw); simp only [List.getElem_toArray, List.getElem_cons_zero, List.getElem_cons_succ]; (first | (go_simp; done) | (go_simp; with_reducible rfl)))); (try simp only [List.getElem_toArray, List.getElem_cons_zero, List.getElem_cons_succ, Act.put, List.setIfInBounds_toArray, List.set_cons_zero, List.set_cons_succ]))
      refine wpAnyH_done (by kernel_rfl) ?_ _
      go_wp2_with fail
      refine bodyPost_ret (by (simp [results, Tryd.results56, go_sem, *]; try rfl)) rfl ?_
      exact ⟨false, rfl, F3, fun _ => readL_node1 HW.out h1 g1.out (.inl hq), fun h => by cases h⟩
    case pos =>
      by_cases hc : C = []
      case neg =>
        have hcl : 0 < C.length := List.length_pos_iff.2 hc
        (refine wpAnyH_take (i := 7) (v := .bool false) rfl (by kernel_rfl) (by kernel_rfl) (by kernel_rfl) (fun _ _ _ h => h) (Or.inl ⟨by kernel_rfl, fun w0 hSw => ?_⟩) hHeld ?_; (focus (simp only [List.getElem_toArray, List.getElem_cons_zero, List.getElem_cons_succ]; (first | (go_simp; done) | (go_simp; with_reducible rfl) | (simp [*, go_sem]; done)))); (try simp only [List.getElem_toArray, List.getElem_cons_zero, List.getElem_cons_succ, Act.put, List.setIfInBounds_toArray, List.set_cons_zero, List.set_cons_succ]))
        (refine wpAnyH_take (i := 8) (v := ?_) rfl (by kernel_rfl) (by kernel_rfl) (by kernel_rfl) (fun _ _ _ h => h) (Or.inl ⟨by kernel_rfl, fun w0 hSw => ?_⟩) hHeld ?_; rotate_left; (focus ((try dsimp only at hSw); simp only [List.getElem_toArray, List.getElem_cons_zero, List.getElem_cons_succ]; (first | (go_simp; done) | (go_simp; with_reducible rfl)))); (try simp only [List.getElem_toArray, List.getElem_cons_zero, List.getElem_cons_succ, Act.put, List.setIfInBounds_toArray, List.set_cons_zero, List.set_cons_succ]))
        (refine wpAnyH_take (i := 9) (v := ?_) rfl (by kernel_rfl) (by kernel_rfl) (by kernel_rfl) (fun _ _ _ h => h) (Or.inl ⟨by kernel_rfl, fun w0 hSw => ?_⟩) hHeld ?_; rotate_left; (focus ((try dsimp only at hSw); simp only [List.getElem_toArray, List.getElem_cons_zero, List.getElem_cons_succ]; (first | (go_simp; done) | (go_simp; with_reducible rfl)))); (try simp only [List.getElem_toArray, List.getElem_cons_zero, List.getElem_cons_succ, Act.put, List.setIfInBounds_toArray, List.set_cons_zero, List.set_cons_succ]))
        (refine wpAnyH_take (i := 10) (v := ?_) rfl (by kernel_rfl) (by kernel_rfl) (by kernel_rfl) (fun _ _ _ h => h) (Or.inl ⟨by kernel_rfl, fun w0 hSw => ?_⟩) hHeld ?_; rotate_left; (focus ((try dsimp only at hSw); simp only [List.getElem_toArray, List.getElem_cons_zero, List.getElem_cons_succ]; (first | (go_simp; done) | (go_simp; with_reducible rfl)))); (try simp only [List.getElem_toArray, List.getElem_cons_zero, List.getElem_cons_succ, Act.put, List.setIfInBounds_toArray, List.set_cons_zero, List.set_cons_succ]))
        (refine wpAnyH_take (i := 11) (v := ?_) rfl (by kernel_rfl) (by kernel_rfl) (by kernel_rfl) (fun _ _ _ h => h) (Or.inl ⟨by kernel_rfl, fun w0 hSw => ?_⟩) hHeld ?_; rotate_left; (focus ((try dsimp only at hSw); simp only [List.getElem_toArray, List.getElem_cons_zero, List.getElem_cons_succ]; (first | (go_simp; done) | (go_simp; with_reducible rfl)))); (try simp only [List.getElem_toArray, List.getElem_cons_zero, List.getElem_cons_succ, Act.put, List.setIfInBounds_toArray, List.set_cons_zero, List.set_cons_succ]))
        (refine wpAnyH_take (i := 12) (v := ?_) rfl (by kernel_rfl) (by kernel_rfl) (by kernel_rfl) (fun _ _ _ h => h) (Or.inl ⟨by kernel_rfl, fun w0 hSw => ?_⟩) hHeld ?_; rotate_left; (focus ((try dsimp only at hSw); simp only [List.getElem_toArray, List.getElem_cons_zero, List.getElem_cons_succ]; (first | (go_simp; done) | (go_simp; with_reducible rfl)))); (try simp only [List.getElem_toArray, List.getElem_cons_zero, List.getElem_cons_succ, Act.put, List.setIfInBounds_toArray, List.set_cons_zero, List.set_cons_succ]))
        (refine wpAnyH_take (i := 13) (v := ?_) rfl (by kernel_rfl) (by kernel_rfl) (by kernel_rfl) (fun _ _ _ h => h) (Or.inl ⟨by kernel_rfl, fun w0 hSw => ?_⟩) hHeld ?_; rotate_left; (focus ((try dsimp only at hSw); simp only [List.getElem_toArray, List.getElem_cons_zero, List.getElem_cons_succ]; (first | (go_simp; done) | (go_simp; with_reducible rfl)))); (try simp only [List.getElem_toArray, List.getElem_cons_zero, List.getElem_cons_succ, Act.put, List.setIfInBounds_toArray, List.set_cons_zero, List.set_cons_succ]))
        (refine wpAnyH_take (i := 14) (v := .bool true) rfl (by kernel_rfl) (by kernel_rfl) (by kernel_rfl) (fun _ _ _ h => h) (Or.inl ⟨by kernel_rfl, fun w0 hSw => ?_⟩) hHeld ?_; (focus (simp only [List.getElem_toArray, List.getElem_cons_zero, List.getElem_cons_succ]; (first | (go_simp; done) | (go_simp; with_reducible rfl) | (simp [*, go_sem]; done)))); (try simp only [List.getElem_toArray, List.getElem_cons_zero, List.getElem_cons_succ, Act.put, List.setIfInBounds_toArray, List.set_cons_zero, List.set_cons_succ]))
        (refine wpAnyH_take (i := 15) (v := ?_) rfl (by kernel_rfl) (by kernel_rfl) (by kernel_rfl) (fun _ _ _ h => h) (Or.inl ⟨by kernel_rfl, fun w0 hSw => ?_⟩) hHeld ?_; rotate_left; (focus ((try dsimp only at hSw); simp only [List.getElem_toArray, List.getElem_cons_zero, List.getElem_cons_succ]; (first | (go_simp; done) | (go_simp; with_reducible rfl)))); (try simp only [List.getElem_toArray, List.getElem_cons_zero, List.getElem_cons_succ, Act.put, List.setIfInBounds_toArray, List.set_cons_zero, List.set_cons_succ]))
        refine wpAnyH_done (by kernel_rfl) ?_ _
        go_wp2_with fail
        refine bodyPost_ret (by (simp [results, Tryd.results56, go_sem, *]; try rfl)) rfl ?_
        exact ⟨false, rfl, F3, fun _ => readL_node1 HW.out h1 g1.out (.inr hc), fun h => by cases h⟩
      case pos =>
        have hcl : ¬ 0 < C.length := by rw [hc]; simp
        (refine wpAnyH_take (i := 7) (v := .bool false) rfl (by kernel_rfl) (by kernel_rfl) (by kernel_rfl) (fun _ _ _ h => h) (Or.inl ⟨by kernel_rfl, fun w0 hSw => ?_⟩) hHeld ?_; (focus (simp only [List.getElem_toArray, List.getElem_cons_zero, List.getElem_cons_succ]; (first | (go_simp; done) | (go_simp; with_reducible rfl) | (simp [*, go_sem]; done)))); (try simp only [List.getElem_toArray, List.getElem_cons_zero, List.getElem_cons_succ, Act.put, List.setIfInBounds_toArray, List.set_cons_zero, List.set_cons_succ]))
        (refine wpAnyH_take (i := 8) (v := ?_) rfl (by kernel_rfl) (by kernel_rfl) (by kernel_rfl) (fun _ _ _ h => h) (Or.inl ⟨by kernel_rfl, fun w0 hSw => ?_⟩) hHeld ?_; rotate_left; (focus ((try dsimp only at hSw); simp only [List.getElem_toArray, List.getElem_cons_zero, List.getElem_cons_succ]; (first | (go_simp; done) | (go_simp; with_reducible rfl)))); (try simp only [List.getElem_toArray, List.getElem_cons_zero, List.getElem_cons_succ, Act.put, List.setIfInBounds_toArray, List.set_cons_zero, List.set_cons_succ]))
        (refine wpAnyH_take (i := 9) (v := ?_) rfl (by kernel_rfl) (by kernel_rfl) (by kernel_rfl) (fun _ _ _ h => h) (Or.inl ⟨by kernel_rfl, fun w0 hSw => ?_⟩) hHeld ?_; rotate_left; (focus ((try dsimp only at hSw); simp only [List.getElem_toArray, List.getElem_cons_zero, List.getElem_cons_succ]; (first | (go_simp; done) | (go_simp; with_reducible rfl)))); (try simp only [List.getElem_toArray, List.getElem_cons_zero, List.getElem_cons_succ, Act.put, List.setIfInBounds_toArray, List.set_cons_zero, List.set_cons_succ]))
        (refine wpAnyH_take (i := 10) (v := ?_) rfl (by kernel_rfl) (by kernel_rfl) (by kernel_rfl) (fun _ _ _ h => h) (Or.inl ⟨by kernel_rfl, fun w0 hSw => ?_⟩) hHeld ?_; rotate_left; (focus ((try dsimp only at hSw); simp only [List.getElem_toArray, List.getElem_cons_zero, List.getElem_cons_succ]; (first | (go_simp; done) | (go_simp; with_reducible rfl)))); (try simp only [List.getElem_toArray, List.getElem_cons_zero, List.getElem_cons_succ, Act.put, List.setIfInBounds_toArray, List.set_cons_zero, List.set_cons_succ]))
        (refine wpAnyH_take (i := 11) (v := ?_) rfl (by kernel_rfl) (by kernel_rfl) (by kernel_rfl) (fun _ _ _ h => h) (Or.inl ⟨by kernel_rfl, fun w0 hSw => ?_⟩) hHeld ?_; rotate_left; (focus ((try dsimp only at hSw); simp only [List.getElem_toArray, List.getElem_cons_zero, List.getElem_cons_succ]; (first | (go_simp; done) | (go_simp; with_reducible rfl)))); (try simp only [List.getElem_toArray, List.getElem_cons_zero, List.getElem_cons_succ, Act.put, List.setIfInBounds_toArray, List.set_cons_zero, List.set_cons_succ]))
        (refine wpAnyH_take (i := 12) (v := ?_) rfl (by kernel_rfl) (by kernel_rfl) (by kernel_rfl) (fun _ _ _ h => h) (Or.inl ⟨by kernel_rfl, fun w0 hSw => ?_⟩) hHeld ?_; rotate_left; (focus ((try dsimp only at hSw); simp only [List.getElem_toArray, List.getElem_cons_zero, List.getElem_cons_succ]; (first | (go_simp; done) | (go_simp; with_reducible rfl)))); (try simp only [List.getElem_toArray, List.getElem_cons_zero, List.getElem_cons_succ, Act.put, List.setIfInBounds_toArray, List.set_cons_zero, List.set_cons_succ]))
        (refine wpAnyH_take (i := 13) (v := ?_) rfl (by kernel_rfl) (by kernel_rfl) (by kernel_rfl) (fun _ _ _ h => h) (Or.inl ⟨by kernel_rfl, fun w0 hSw => ?_⟩) hHeld ?_; rotate_left; (focus ((try dsimp only at hSw); simp only [List.getElem_toArray, List.getElem_cons_zero, List.getElem_cons_succ]; (first | (go_simp; done) | (go_simp; with_reducible rfl)))); (try simp only [List.getElem_toArray, List.getElem_cons_zero, List.getElem_cons_succ, Act.put, List.setIfInBounds_toArray, List.set_cons_zero, List.set_cons_succ]))
        (refine wpAnyH_take (i := 14) (v := .bool false) rfl (by kernel_rfl) (by kernel_rfl) (by kernel_rfl) (fun _ _ _ h => h) (Or.inl ⟨by kernel_rfl, fun w0 hSw => ?_⟩) hHeld ?_; (focus (simp only [List.getElem_toArray, List.getElem_cons_zero, List.getElem_cons_succ]; (first | (go_simp; done) | (go_simp; with_reducible rfl) | (simp [*, go_sem]; done)))); (try simp only [List.getElem_toArray, List.getElem_cons_zero, List.getElem_cons_succ, Act.put, List.setIfInBounds_toArray, List.set_cons_zero, List.set_cons_succ]))
        (refine wpAnyH_take (i := 15) (v := ?_) rfl (by kernel_rfl) (by kernel_rfl) (by kernel_rfl) (fun _ _ _ h => h) (Or.inl ⟨by kernel_rfl, fun w0 hSw => ?_⟩) hHeld ?_; rotate_left; (focus ((try dsimp only at hSw); simp only [List.getElem_toArray, List.getElem_cons_zero, List.getElem_cons_succ]; (first | (go_simp; done) | (go_simp; with_reducible rfl)))); (try simp only [List.getElem_toArray, List.getElem_cons_zero, List.getElem_cons_succ, Act.put, List.setIfInBounds_toArray, List.set_cons_zero, List.set_cons_succ]))
        refine wpAnyH_done (by kernel_rfl) ?_ _
        have HQ := Lib.hid hq
        have HC := Lib.hid hc
        clear hq hc hcl hHeld
        go_wp2_with fail
        have hP4 : PSt w3.drew B pb Q C (.slice AQ Q.length cQ) (.slice AC C.length cC) := hP3.below (Below.drew (Below.refl _ _))
        have hR4 : Rd w3.drew (w.heap.size + 1) _ bad1 := hR3
        have hG4 : Glob w3.drew := hG3.below (Below.drew (Below.refl w3.heap.size _)) hG3.1
        refine wp_region_last (fun w' => w'.cell? ⟨pb, 0, none⟩ = some (.slice AQ Q.length cQ)) 11 (by kernel_rfl) (by simpa [go_sem] using i0) (fun hHeld => ?_)
        (refine wpAnyK_take (i := 0) (v := ?_) rfl rfl (by kernel_rfl) (by kernel_rfl) (by kernel_rfl) (by kernel_rfl) (fun _ _ _ h => h) (Or.inl ⟨by kernel_rfl, fun w0 hSw => ?_⟩) hHeld ?_; rotate_left; (focus ((try dsimp only at hSw); simp only [List.getElem_toArray, List.getElem_cons_zero]; (first | (go_simp; done) | (go_simp; with_reducible rfl)))); (try simp only [List.getElem_toArray, List.getElem_cons_zero, Act.put, List.setIfInBounds_toArray, List.set_cons_zero, List.set_cons_succ]))
        (refine wpAnyK_take (i := 1) (v := ?_) rfl rfl (by kernel_rfl) (by kernel_rfl) (by kernel_rfl) (by kernel_rfl) (fun _ _ _ h => h) (Or.inl ⟨by kernel_rfl, fun w0 hSw => ?_⟩) hHeld ?_; rotate_left; (focus ((try dsimp only at hSw); simp only [List.getElem_toArray, List.getElem_cons_zero, List.getElem_cons_succ]; (first | (go_simp; done) | (go_simp; with_reducible rfl)))); (try simp only [List.getElem_toArray, List.getElem_cons_zero, List.getElem_cons_succ, Act.put, List.setIfInBounds_toArray, List.set_cons_zero, List.set_cons_succ]))
        (refine wpAnyK_take (i := 2) (v := ?_) rfl rfl (by kernel_rfl) (by kernel_rfl) (by kernel_rfl) (by kernel_rfl) (fun _ _ _ h => h) (Or.inl ⟨by kernel_rfl, fun w0 hSw => ?_⟩) hHeld ?_; rotate_left; (focus ((try dsimp only at hSw); simp only [List.getElem_toArray, List.getElem_cons_zero, List.getElem_cons_succ]; (first | (go_simp; done) | (go_simp; with_reducible rfl)))); (try simp only [List.getElem_toArray, List.getElem_cons_zero, List.getElem_cons_succ, Act.put, List.setIfInBounds_toArray, List.set_cons_zero, List.set_cons_succ]))
        (refine wpAnyK_take (i := 3) (v := ?_) rfl rfl (by kernel_rfl) (by kernel_rfl) (by kernel_rfl) (by kernel_rfl) (fun _ _ _ h => h) (Or.inl ⟨by kernel_rfl, fun w0 hSw => ?_⟩) hHeld ?_; rotate_left; (focus ((try dsimp only at hSw); simp only [List.getElem_toArray, List.getElem_cons_zero, List.getElem_cons_succ]; (first | (go_simp; done) | (go_simp; with_reducible rfl)))); (try simp only [List.getElem_toArray, List.getElem_cons_zero, List.getElem_cons_succ, Act.put, List.setIfInBounds_toArray, List.set_cons_zero, List.set_cons_succ]))
        (refine wpAnyK_take (i := 4) (v := ?_) rfl rfl (by kernel_rfl) (by kernel_rfl) (by kernel_rfl) (by kernel_rfl) (fun _ _ _ h => h) (Or.inl ⟨by kernel_rfl, fun w0 hSw => ?_⟩) hHeld ?_; rotate_left; (focus ((try dsimp only at hSw); simp only [List.getElem_toArray, List.getElem_cons_zero, List.getElem_cons_succ]; (first | (go_simp; done) | (go_simp; with_reducible rfl)))); (try simp only [List.getElem_toArray, List.getElem_cons_zero, List.getElem_cons_succ, Act.put, List.setIfInBounds_toArray, List.set_cons_zero, List.set_cons_succ]))
        (refine wpAnyK_take (i := 5) (v := ?_) rfl rfl (by kernel_rfl) (by kernel_rfl) (by kernel_rfl) (by kernel_rfl) (fun _ _ _ h => h) (Or.inl ⟨by kernel_rfl, fun w0 hSw => ?_⟩) hHeld ?_; rotate_left; (focus ((try dsimp only at hSw); simp only [List.getElem_toArray, List.getElem_cons_zero, List.getElem_cons_succ]; (first | (go_simp; done) | (go_simp; with_reducible rfl)))); (try simp only [List.getElem_toArray, List.getElem_cons_zero, List.getElem_cons_succ, Act.put, List.setIfInBounds_toArray, List.set_cons_zero, List.set_cons_succ]))
        (refine wpAnyK_one (j := 6) (by kernel_rfl) rfl (fun K hK => ?_); (try simp only [List.getElem_toArray, List.getElem_cons_zero, List.getElem_cons_succ]))
        go_simp
        refine (num_any (w.heap.size + 1) _ bad1 _ hR4 (fun y hy => HS.out y (g1.out.sub y hy)) hG4).mono ?_
        rintro e w5 ⟨q, bad2, rfl, hR5, hg5, n1, n2, n3⟩
        have g2 := Lib.hid (g1.out.step n1 n2 n3)
        obtain ⟨_, _, hrb, _⟩ := hR4
        have hP5 := hP4.kept hg5 (by omega) (own_ne_kind hP4.rq hrb (by decide)) (own_ne_kind hP4.rc hrb (by decide))
        have F5 := (F3.trans (Frm.of_below (Below.drew (Below.refl w3.heap.size w3)) hP3.le)).trans (Frm.of_grown (pb := pb) hg5 hP4.le (fun k e => .inl (by cases e; have := hP.le; omega)) (fun k e => by cases e; exact ⟨_, _, _, hrb⟩))
        have j0 := cell_blk hP5.blk 0
        have hpl5 : pb < w5.heap.size := Nat.lt_of_lt_of_le hP5.lt hP5.le
        obtain ⟨i0', hi, hz0, hz1, hz2⟩ := info_parts info3
        have HI : Hid ((Tryd.prog.info? 3 = some i0') ∧ i0'.zero = some (.int .i64 0) ∧ i0'.size = 1 ∧ i0'.bytes = 8) := ⟨hi, hz0, hz1, hz2⟩
        clear hi hz0 hz1 hz2
        simp only [List.getElem?_toArray, List.getElem?_cons_zero] at j0
        clear n1 n2 n3 hrb hHeld hg5
        generalize (if bad1 = true then _ else _ : List ByteArray) = rest at hR5 g2
        go_wp2_with fail
        refine hK.out _ _ (.inr j0) ?_
        clear hK K
        (try simp only [List.getElem_toArray, List.getElem_cons_zero, List.getElem_cons_succ, Act.put, List.setIfInBounds_toArray, List.set_cons_zero, List.set_cons_succ])
        (refine wpAnyK_one (j := 7) (by kernel_rfl) rfl (fun K hK => ?_); (try simp only [List.getElem_toArray, List.getElem_cons_zero, List.getElem_cons_succ]))
        go_simp
        refine hK.out _ _ (.inr (by simpa [go_sem, hpl5] using j0)) ?_
        clear hK K
        (try simp only [List.getElem_toArray, List.getElem_cons_zero, List.getElem_cons_succ, Act.put, List.setIfInBounds_toArray, List.set_cons_zero, List.set_cons_succ])
        (refine wpAnyK_one (j := 8) (by kernel_rfl) rfl (fun K hK => ?_); (try simp only [List.getElem_toArray, List.getElem_cons_zero, List.getElem_cons_succ]))
        rw [if_pos (by simp [Region.wanted])]
        refine wp_append_lies (w5.alloc (.cells #[.int .i64 q] 3)) (.tmp 44) (.tmp 47) 22 rfl B 3 i0' (.int .i64 0) 1 8 Tryd.underlying22 HI.out.1 HI.out.2.1 HI.out.2.2.1 HI.out.2.2.2 rfl (by decide) (.slice AQ Q.length cQ) Q.length (intCells Q) (by kernel_rfl) (hP5.rq.alloc _) ⟨w5.heap.size, 0, none⟩ 1 1 [.int .i64 q] (by kernel_rfl) rfl (cell_one_new _ _ _) (by simp [Value.oneCell']) (by decide) (by unfold maxLen; omega) (by omega) (by have := hP5.le; simp; omega) (w5.heap.size + 1) (by simp) ?_
        intro g cap w6 hown6 hgrow6 _ hlt6
        obtain ⟨b6, hP7, F7, old7⟩ := hP5.appQ hgrow6 hown6
        have k0 := cell_blk b6 0
        have kf := frozen_blk b6 0
        simp only [List.getElem?_toArray, List.getElem?_cons_zero] at k0
        refine hK.out _ _ (.inr k0) ?_
        clear hK K
        (try simp only [Act.put, List.setIfInBounds_toArray, List.set_cons_zero, List.set_cons_succ])
        (refine wpAnyK_one (j := 9) (by kernel_rfl) rfl (fun K hK => ?_); (try simp only [List.getElem_toArray, List.getElem_cons_zero, List.getElem_cons_succ]))
        go_simp
        refine hK.out _ _ (.inr k0) ?_
        clear hK K
        (try simp only [List.getElem_toArray, List.getElem_cons_zero, List.getElem_cons_succ, Act.put, List.setIfInBounds_toArray, List.set_cons_zero, List.set_cons_succ])
        (refine wpAnyK_one (j := 10) (by kernel_rfl) rfl (fun K hK => ?_); (try simp only [List.getElem_toArray, List.getElem_cons_zero, List.getElem_cons_succ]))
        go_simp
        refine hK.out _ _ (.inr k0) ?_
        clear hK K
        (try simp only [List.getElem_toArray, List.getElem_cons_zero, List.getElem_cons_succ, Act.put, List.setIfInBounds_toArray, List.set_cons_zero, List.set_cons_succ])
        (refine wpAnyK_one (j := 11) (by kernel_rfl) rfl (fun K hK => ?_); (try simp only [List.getElem_toArray, List.getElem_cons_zero, List.getElem_cons_succ]))
        go_simp
        refine hK.out _ _ (.inl rfl) ?_
        clear hK K
        refine wpAnyK_done (by kernel_rfl) ?_ _
        obtain ⟨A5, c5, hrb5, hl5, hc5, _⟩ := hR5
        have e7 := (old7 (w.heap.size + 1) (Array.getElem?_eq_some_iff.1 hrb5).1 (own_ne_kind hP5.rq hrb5 (by decide)) (by omega)).trans hrb5
        have m0 := cell_blk e7 0
        have m1 := cell_blk e7 1
        simp only [List.getElem?_toArray, List.getElem?_cons_zero, List.getElem?_cons_succ] at m0 m1
        have F8 := F5.trans F7
        clear k0 kf b6 old7 hgrow6 hown6 e7 F7 hrb5
        generalize w6.setCell _ _ = w7 at m0 m1 F8 hP7 ⊢
        have post := readL_node2 HW.out h1 g2.out HQ.out HC.out
        cases bad2 with
        | true =>
          have HP := Lib.hid (post.2 (.inl rfl))
          clear post
          go_wp2_with fail
          refine bodyPost_ret (by (simp [results, Tryd.results56, go_sem, *]; try rfl)) rfl ?_
          exact ⟨false, rfl, F8, fun _ => HP.out, fun h => by cases h⟩
        | false =>
          by_cases hr : rest = []
          · have hr0 : rest.length = 0 := by rw [hr]; rfl
            rw [hr0] at m0 hl5
            have HP := Lib.hid (post.1 ⟨rfl, hr⟩)
            clear post hr hr0
            go_wp2_with fail
            refine bodyPost_ret (by (simp [results, Tryd.results56, go_sem, *]; try rfl)) rfl ?_
            exact ⟨true, rfl, F8, (fun h => by cases h), fun _ => ⟨_, _, _, _, HP.out, hP7⟩⟩
          · have hr0 : 0 < rest.length := List.length_pos_iff.2 hr
            have hr1 : ¬ ((rest.length : Int) = 0) := by omega
            have HP := Lib.hid (post.2 (.inr hr))
            clear post hr
            go_wp2_with fail
            refine bodyPost_ret (by (simp [results, Tryd.results56, go_sem, *]; try rfl)) rfl ?_
            exact ⟨false, (congrArg (fun b => Ending.returned (Value.bool b)) (beq_false_of_ne (by omega))), F8, fun _ => HP.out, fun h => by cases h⟩
end Go.Proofs.YtgnlanfpholdaaaDoor

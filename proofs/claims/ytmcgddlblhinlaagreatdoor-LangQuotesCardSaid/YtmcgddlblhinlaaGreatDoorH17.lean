/- Orders are printed. -/
import Derived.Test.YtmcgddlblhinlaaGreatDoorH16
import Derived.Test.YtmcgddlblhinlaaGreatDoorP4
import Derived.Laws.EntriesVeiled
namespace Go.Proofs.YtmcgddlblhinlaaGreatDoor
open Go.RowKit
def ordArgs (x : Bun) : List Arg := (bunNums x).map .num ++ [.str (quoteS x.py)]
def blkArgs (b : Blk) : List Arg := [.num b.k, .num b.f, .str (quoteS b.d)]
theorem quoteS_size (s : ByteArray) : (quoteS s).size ≤ 4 * s.size + 2 := by
  have h1 := quoteL_len s.data.toList
  have h2 := (qsL_len s.data.toList).2
  have h3 : s.data.toList.length = s.size := rfl
  show (quoteL s.data.toList).length ≤ _
  omega
theorem quoteR_le {s : ByteArray} (h : s.size ≤ 4096) : (quoteR s).1 = quoteS s := by
  unfold quoteR; rw [if_neg (by omega)]; rfl
theorem nums_args (l : List Int) : (l.map Arg.num).map Arg.s = l.map itoaS := by simp [Arg.s, Function.comp_def]
theorem line_eq (word : ByteArray) (l : List ByteArray) : joinS word l ++ ⟨#[10]⟩ = ⟨(joinW word l ++ [10]).toArray⟩ := by
  refine bs_ext ?_
  simp [joinS]
theorem ord_line (x : Bun) : joinS ordS ((ordArgs x).map Arg.s) ++ ⟨#[10]⟩ = ⟨(lineI (.ord { x with bl := [] })).toArray⟩ := by
  rw [line_eq]; simp [ordArgs, lineI, Item.text, Item.kind, wordK, Item.rest, bunNums, Arg.s]
theorem blk_line (b : Blk) : joinS blkS ((blkArgs b).map Arg.s) ++ ⟨#[10]⟩ = ⟨(lineI (.blk b)).toArray⟩ := by
  rw [line_eq]; simp [blkArgs, lineI, Item.text, Item.kind, wordK, Item.rest, Arg.s]
theorem ordArgs_ok {x : Bun} (h : OrdOk x) : ∀ a ∈ ordArgs x, a.ok := by
  intro a ha
  simp only [ordArgs, List.mem_append, List.mem_map, List.mem_singleton] at ha
  rcases ha with ⟨n, hn, rfl⟩ | rfl
  · exact h.n n hn
  · have := quoteS_size x.py; have := h.py; show (quoteS x.py).size ≤ 70000; omega
theorem blkArgs_ok {b : Blk} (h : InR [b.k, b.f]) (hd : b.d.size ≤ 1024) : ∀ a ∈ blkArgs b, a.ok := by
  intro a ha
  simp only [blkArgs, List.mem_cons, List.not_mem_nil, or_false] at ha
  rcases ha with rfl | rfl | rfl
  · exact h b.k (by simp)
  · exact h b.f (by simp)
  · have := quoteS_size b.d; show (quoteS b.d).size ≤ 70000; omega
theorem args_new (W : World) (l : List Arg) (cs : Array Value) (hc : cs = (l.map Arg.val).toArray) (hl : l.length ≤ 1000) (n : Nat) (hn : n = l.length) : Args (W.alloc (.cells cs 20)) (W.alloc (.cells cs 20)).heap.size (.slice (some ⟨W.heap.size, 0, none⟩) n n) l := by
  subst hn hc
  refine ⟨_, l.length, rfl, Nat.le_refl _, by unfold maxLen; omega, fun _ => ⟨W.heap.size, 0, rfl, by simp, fun j hj => ?_⟩⟩
  simp [go_sem, List.getD, hj]
/-- an order's lines, its first k blocks' -/
def ordT (x : Bun) (k : Nat) : List UInt8 := lineI (.ord { x with bl := [] }) ++ (x.bl.take k).flatMap fun b => lineI (.blk b)
theorem ordT_all (x : Bun) : ordT x x.bl.length = linesL (ordItems x) := by
  simp [ordT, linesL, ordItems, List.flatMap_map]
theorem ordT_succ (x : Bun) (k : Nat) (hk : k < x.bl.length) : ordT x (k + 1) = ordT x k ++ lineI (.blk (x.bl.getD k Blk.zero)) := by
  rw [ordT, take_get x.bl Blk.zero k hk]; simp [ordT]
theorem line_sz {word : ByteArray} (hw : word.size ≤ 20) {l : List Arg} (h : ∀ a ∈ l, a.ok) (hl : l.length ≤ 10) {t : List UInt8} (e : joinS word (l.map Arg.s) ++ ⟨#[10]⟩ = ⟨t.toArray⟩) : t.length ≤ 800000 := by
  have h1 := joinS_size word l h
  have h2 : (joinS word (l.map Arg.s) ++ ⟨#[10]⟩).size = t.length := by rw [e]; rfl
  rw [ByteArray.size_append] at h2
  have h3 : (⟨#[10]⟩ : ByteArray).size = 1 := rfl
  omega
theorem ordT_sz {x : Bun} (h : OrdOk x) : ∀ k, k ≤ x.bl.length → (ordT x k).length ≤ 800000 + 800000 * k
  | 0, _ => by
    have := line_sz (by decide) (ordArgs_ok h) (by simp [ordArgs, bunNums]) (ord_line x)
    simpa [ordT] using this
  | k + 1, hk => by
    have h1 := ordT_sz h k (by omega)
    have hm : x.bl.getD k Blk.zero ∈ x.bl := by simp [List.getD, show k < x.bl.length by omega]
    have h2 := line_sz (by decide) (blkArgs_ok (h.b _ hm).1 (h.b _ hm).2) (by simp [blkArgs]) (blk_line (x.bl.getD k Blk.zero))
    rw [ordT_succ x k (by omega), List.length_append]
    omega
theorem bytes_cat (a b : List UInt8) : (⟨a.toArray⟩ : ByteArray) ++ ⟨b.toArray⟩ = ⟨(a ++ b).toArray⟩ := ByteArray.mk_append_mk a b
set_option maxHeartbeats 8000000 in
set_option maxRecDepth 100000 in
theorem order_pr (x : Bun) (hx : OrdOk x) (V : Value) (w : World) (hV : Blks w w.heap.size V x.bl) (hG : Glob w) : Calls Tryz.prog 33 #[.agg #[.int .i64 x.s, .int .i64 x.c, .int .i64 x.q, .int .i64 x.o, .int .i64 x.t, .int .i64 x.dk, .int .i64 x.dn, .int .i64 x.lf, .int .i64 x.pr, .int .i64 x.fl, V, .string x.py]] w fun e w' => e = .returned (.string ⟨(linesL (ordItems x)).toArray⟩) ∧ Below w.heap.size w w' := by
  have HX := Lib.hid hx
  have HV := Lib.hid hV
  have HG := Lib.hid hG
  obtain ⟨A, c, rfl, hc, hm, hA⟩ := hV
  have HA := Lib.hid hA
  have hl8 := hx.bl
  have hpy := hx.py
  clear hA hx hG
  unfold maxLen at hm
  go_enter Tryz.func33, Tryz.ntmps33
  go_wp2_with fail
  have m0 : (w.alloc (.cells #[.int .i64 x.s, .int .i64 x.c, .int .i64 x.q, .int .i64 x.o, .int .i64 x.t, .int .i64 x.dk, .int .i64 x.dn, .int .i64 x.lf, .int .i64 x.pr, .int .i64 x.fl, .slice A x.bl.length c, .string x.py] 50)).cell? ⟨w.heap.size, 0, none⟩ = some (.int .i64 x.s) := by simp [go_sem]
  have m1 : (w.alloc (.cells #[.int .i64 x.s, .int .i64 x.c, .int .i64 x.q, .int .i64 x.o, .int .i64 x.t, .int .i64 x.dk, .int .i64 x.dn, .int .i64 x.lf, .int .i64 x.pr, .int .i64 x.fl, .slice A x.bl.length c, .string x.py] 50)).cell? ⟨w.heap.size, 1, none⟩ = some (.int .i64 x.c) := by simp [go_sem]
  have m2 : (w.alloc (.cells #[.int .i64 x.s, .int .i64 x.c, .int .i64 x.q, .int .i64 x.o, .int .i64 x.t, .int .i64 x.dk, .int .i64 x.dn, .int .i64 x.lf, .int .i64 x.pr, .int .i64 x.fl, .slice A x.bl.length c, .string x.py] 50)).cell? ⟨w.heap.size, 2, none⟩ = some (.int .i64 x.q) := by simp [go_sem]
  have m3 : (w.alloc (.cells #[.int .i64 x.s, .int .i64 x.c, .int .i64 x.q, .int .i64 x.o, .int .i64 x.t, .int .i64 x.dk, .int .i64 x.dn, .int .i64 x.lf, .int .i64 x.pr, .int .i64 x.fl, .slice A x.bl.length c, .string x.py] 50)).cell? ⟨w.heap.size, 3, none⟩ = some (.int .i64 x.o) := by simp [go_sem]
  have m4 : (w.alloc (.cells #[.int .i64 x.s, .int .i64 x.c, .int .i64 x.q, .int .i64 x.o, .int .i64 x.t, .int .i64 x.dk, .int .i64 x.dn, .int .i64 x.lf, .int .i64 x.pr, .int .i64 x.fl, .slice A x.bl.length c, .string x.py] 50)).cell? ⟨w.heap.size, 4, none⟩ = some (.int .i64 x.t) := by simp [go_sem]
  have m5 : (w.alloc (.cells #[.int .i64 x.s, .int .i64 x.c, .int .i64 x.q, .int .i64 x.o, .int .i64 x.t, .int .i64 x.dk, .int .i64 x.dn, .int .i64 x.lf, .int .i64 x.pr, .int .i64 x.fl, .slice A x.bl.length c, .string x.py] 50)).cell? ⟨w.heap.size, 5, none⟩ = some (.int .i64 x.dk) := by simp [go_sem]
  have m6 : (w.alloc (.cells #[.int .i64 x.s, .int .i64 x.c, .int .i64 x.q, .int .i64 x.o, .int .i64 x.t, .int .i64 x.dk, .int .i64 x.dn, .int .i64 x.lf, .int .i64 x.pr, .int .i64 x.fl, .slice A x.bl.length c, .string x.py] 50)).cell? ⟨w.heap.size, 6, none⟩ = some (.int .i64 x.dn) := by simp [go_sem]
  have m7 : (w.alloc (.cells #[.int .i64 x.s, .int .i64 x.c, .int .i64 x.q, .int .i64 x.o, .int .i64 x.t, .int .i64 x.dk, .int .i64 x.dn, .int .i64 x.lf, .int .i64 x.pr, .int .i64 x.fl, .slice A x.bl.length c, .string x.py] 50)).cell? ⟨w.heap.size, 7, none⟩ = some (.int .i64 x.lf) := by simp [go_sem]
  have m8 : (w.alloc (.cells #[.int .i64 x.s, .int .i64 x.c, .int .i64 x.q, .int .i64 x.o, .int .i64 x.t, .int .i64 x.dk, .int .i64 x.dn, .int .i64 x.lf, .int .i64 x.pr, .int .i64 x.fl, .slice A x.bl.length c, .string x.py] 50)).cell? ⟨w.heap.size, 8, none⟩ = some (.int .i64 x.pr) := by simp [go_sem]
  have m9 : (w.alloc (.cells #[.int .i64 x.s, .int .i64 x.c, .int .i64 x.q, .int .i64 x.o, .int .i64 x.t, .int .i64 x.dk, .int .i64 x.dn, .int .i64 x.lf, .int .i64 x.pr, .int .i64 x.fl, .slice A x.bl.length c, .string x.py] 50)).cell? ⟨w.heap.size, 9, none⟩ = some (.int .i64 x.fl) := by simp [go_sem]
  have m10 : (w.alloc (.cells #[.int .i64 x.s, .int .i64 x.c, .int .i64 x.q, .int .i64 x.o, .int .i64 x.t, .int .i64 x.dk, .int .i64 x.dn, .int .i64 x.lf, .int .i64 x.pr, .int .i64 x.fl, .slice A x.bl.length c, .string x.py] 50)).cell? ⟨w.heap.size, 10, none⟩ = some (.slice A x.bl.length c) := by simp [go_sem]
  have m11 : (w.alloc (.cells #[.int .i64 x.s, .int .i64 x.c, .int .i64 x.q, .int .i64 x.o, .int .i64 x.t, .int .i64 x.dk, .int .i64 x.dn, .int .i64 x.lf, .int .i64 x.pr, .int .i64 x.fl, .slice A x.bl.length c, .string x.py] 50)).cell? ⟨w.heap.size, 11, none⟩ = some (.string x.py) := by simp [go_sem]
  have hb0 : Below w.heap.size w (w.alloc (.cells #[.int .i64 x.s, .int .i64 x.c, .int .i64 x.q, .int .i64 x.o, .int .i64 x.t, .int .i64 x.dk, .int .i64 x.dn, .int .i64 x.lf, .int .i64 x.pr, .int .i64 x.fl, .slice A x.bl.length c, .string x.py] 50)) := (Below.refl _ w).alloc (Nat.le_refl _) _
  have hz0 : (w.alloc (.cells #[.int .i64 x.s, .int .i64 x.c, .int .i64 x.q, .int .i64 x.o, .int .i64 x.t, .int .i64 x.dk, .int .i64 x.dn, .int .i64 x.lf, .int .i64 x.pr, .int .i64 x.fl, .slice A x.bl.length c, .string x.py] 50)).heap.size = w.heap.size + 1 := by simp
  generalize w.alloc (.cells #[.int .i64 x.s, .int .i64 x.c, .int .i64 x.q, .int .i64 x.o, .int .i64 x.t, .int .i64 x.dk, .int .i64 x.dn, .int .i64 x.lf, .int .i64 x.pr, .int .i64 x.fl, .slice A x.bl.length c, .string x.py] 50) = v0 at *
  have HS0 : Hid (∀ W, Below v0.heap.size v0 W → W.cell? ⟨w.heap.size, 0, none⟩ = some (.int .i64 x.s) ∧ W.cell? ⟨w.heap.size, 1, none⟩ = some (.int .i64 x.c) ∧ W.cell? ⟨w.heap.size, 2, none⟩ = some (.int .i64 x.q) ∧ W.cell? ⟨w.heap.size, 3, none⟩ = some (.int .i64 x.o) ∧ W.cell? ⟨w.heap.size, 4, none⟩ = some (.int .i64 x.t) ∧ W.cell? ⟨w.heap.size, 5, none⟩ = some (.int .i64 x.dk) ∧ W.cell? ⟨w.heap.size, 6, none⟩ = some (.int .i64 x.dn) ∧ W.cell? ⟨w.heap.size, 7, none⟩ = some (.int .i64 x.lf) ∧ W.cell? ⟨w.heap.size, 8, none⟩ = some (.int .i64 x.pr) ∧ W.cell? ⟨w.heap.size, 9, none⟩ = some (.int .i64 x.fl) ∧ W.cell? ⟨w.heap.size, 10, none⟩ = some (.slice A x.bl.length c) ∧ W.cell? ⟨w.heap.size, 11, none⟩ = some (.string x.py)) := fun W h => by
    have e : ∀ k, W.cell? ⟨w.heap.size, k, none⟩ = v0.cell? ⟨w.heap.size, k, none⟩ := fun k => h.cell (p := ⟨w.heap.size, k, none⟩) (by show w.heap.size < v0.heap.size; omega)
    exact ⟨(e _).trans m0, (e _).trans m1, (e _).trans m2, (e _).trans m3, (e _).trans m4, (e _).trans m5, (e _).trans m6, (e _).trans m7, (e _).trans m8, (e _).trans m9, (e _).trans m10, (e _).trans m11⟩
  clear m0 m1 m2 m3 m4 m5 m6 m7 m8 m9 m10 m11
  have hbd : Below v0.heap.size v0 v0.drew := Below.drew (Below.refl _ _)
  refine wp_region_held_drew (S := fun w' => w'.cell? ⟨w.heap.size, 0, none⟩ = some (.int .i64 x.s) ∧ w'.cell? ⟨w.heap.size, 1, none⟩ = some (.int .i64 x.c) ∧ w'.cell? ⟨w.heap.size, 2, none⟩ = some (.int .i64 x.q) ∧ w'.cell? ⟨w.heap.size, 3, none⟩ = some (.int .i64 x.o) ∧ w'.cell? ⟨w.heap.size, 4, none⟩ = some (.int .i64 x.t) ∧ w'.cell? ⟨w.heap.size, 5, none⟩ = some (.int .i64 x.dk) ∧ w'.cell? ⟨w.heap.size, 6, none⟩ = some (.int .i64 x.dn) ∧ w'.cell? ⟨w.heap.size, 7, none⟩ = some (.int .i64 x.lf) ∧ w'.cell? ⟨w.heap.size, 8, none⟩ = some (.int .i64 x.pr) ∧ w'.cell? ⟨w.heap.size, 9, none⟩ = some (.int .i64 x.fl) ∧ w'.cell? ⟨w.heap.size, 10, none⟩ = some (.slice A x.bl.length c) ∧ w'.cell? ⟨w.heap.size, 11, none⟩ = some (.string x.py)) (by kernel_rfl) (HS0.out _ hbd) (fun hHeld => ?_)
  (refine wpAnyH_take (i := 0) (v := ?_) rfl (by kernel_rfl) (by kernel_rfl) (by kernel_rfl) (fun _ _ _ h => h) (Or.inl ⟨by kernel_rfl, fun w0 hSw => ?_⟩) hHeld ?_; rotate_left; (focus ((try dsimp only at hSw); simp only [List.getElem_toArray, List.getElem_cons_zero]; (first | (go_simp; done) | (go_simp; with_reducible rfl)))); (try simp only [List.getElem_toArray, List.getElem_cons_zero, Act.put, List.setIfInBounds_toArray, List.set_cons_zero, List.set_cons_succ]))
  (refine wpAnyH_take (i := 1) (v := ?_) rfl (by kernel_rfl) (by kernel_rfl) (by kernel_rfl) (fun _ _ _ h => h) (Or.inl ⟨by kernel_rfl, fun w0 hSw => ?_⟩) hHeld ?_; rotate_left; (focus ((try dsimp only at hSw); simp only [List.getElem_toArray, List.getElem_cons_zero, List.getElem_cons_succ]; (first | (go_simp; done) | (go_simp; with_reducible rfl)))); (try simp only [List.getElem_toArray, List.getElem_cons_zero, List.getElem_cons_succ, Act.put, List.setIfInBounds_toArray, List.set_cons_zero, List.set_cons_succ]))
  (refine wpAnyH_take (i := 2) (v := ?_) rfl (by kernel_rfl) (by kernel_rfl) (by kernel_rfl) (fun _ _ _ h => h) (Or.inl ⟨by kernel_rfl, fun w0 hSw => ?_⟩) hHeld ?_; rotate_left; (focus ((try dsimp only at hSw); simp only [List.getElem_toArray, List.getElem_cons_zero, List.getElem_cons_succ]; (first | (go_simp; done) | (go_simp; with_reducible rfl)))); (try simp only [List.getElem_toArray, List.getElem_cons_zero, List.getElem_cons_succ, Act.put, List.setIfInBounds_toArray, List.set_cons_zero, List.set_cons_succ]))
  (refine wpAnyH_take (i := 3) (v := ?_) rfl (by kernel_rfl) (by kernel_rfl) (by kernel_rfl) (fun _ _ _ h => h) (Or.inl ⟨by kernel_rfl, fun w0 hSw => ?_⟩) hHeld ?_; rotate_left; (focus ((try dsimp only at hSw); simp only [List.getElem_toArray, List.getElem_cons_zero, List.getElem_cons_succ]; (first | (go_simp; done) | (go_simp; with_reducible rfl)))); (try simp only [List.getElem_toArray, List.getElem_cons_zero, List.getElem_cons_succ, Act.put, List.setIfInBounds_toArray, List.set_cons_zero, List.set_cons_succ]))
  (refine wpAnyH_take (i := 4) (v := ?_) rfl (by kernel_rfl) (by kernel_rfl) (by kernel_rfl) (fun _ _ _ h => h) (Or.inl ⟨by kernel_rfl, fun w0 hSw => ?_⟩) hHeld ?_; rotate_left; (focus ((try dsimp only at hSw); simp only [List.getElem_toArray, List.getElem_cons_zero, List.getElem_cons_succ]; (first | (go_simp; done) | (go_simp; with_reducible rfl)))); (try simp only [List.getElem_toArray, List.getElem_cons_zero, List.getElem_cons_succ, Act.put, List.setIfInBounds_toArray, List.set_cons_zero, List.set_cons_succ]))
  (refine wpAnyH_take (i := 5) (v := ?_) rfl (by kernel_rfl) (by kernel_rfl) (by kernel_rfl) (fun _ _ _ h => h) (Or.inl ⟨by kernel_rfl, fun w0 hSw => ?_⟩) hHeld ?_; rotate_left; (focus ((try dsimp only at hSw); simp only [List.getElem_toArray, List.getElem_cons_zero, List.getElem_cons_succ]; (first | (go_simp; done) | (go_simp; with_reducible rfl)))); (try simp only [List.getElem_toArray, List.getElem_cons_zero, List.getElem_cons_succ, Act.put, List.setIfInBounds_toArray, List.set_cons_zero, List.set_cons_succ]))
  (refine wpAnyH_take (i := 6) (v := ?_) rfl (by kernel_rfl) (by kernel_rfl) (by kernel_rfl) (fun _ _ _ h => h) (Or.inl ⟨by kernel_rfl, fun w0 hSw => ?_⟩) hHeld ?_; rotate_left; (focus ((try dsimp only at hSw); simp only [List.getElem_toArray, List.getElem_cons_zero, List.getElem_cons_succ]; (first | (go_simp; done) | (go_simp; with_reducible rfl)))); (try simp only [List.getElem_toArray, List.getElem_cons_zero, List.getElem_cons_succ, Act.put, List.setIfInBounds_toArray, List.set_cons_zero, List.set_cons_succ]))
  (refine wpAnyH_take (i := 7) (v := ?_) rfl (by kernel_rfl) (by kernel_rfl) (by kernel_rfl) (fun _ _ _ h => h) (Or.inl ⟨by kernel_rfl, fun w0 hSw => ?_⟩) hHeld ?_; rotate_left; (focus ((try dsimp only at hSw); simp only [List.getElem_toArray, List.getElem_cons_zero, List.getElem_cons_succ]; (first | (go_simp; done) | (go_simp; with_reducible rfl)))); (try simp only [List.getElem_toArray, List.getElem_cons_zero, List.getElem_cons_succ, Act.put, List.setIfInBounds_toArray, List.set_cons_zero, List.set_cons_succ]))
  (refine wpAnyH_take (i := 8) (v := ?_) rfl (by kernel_rfl) (by kernel_rfl) (by kernel_rfl) (fun _ _ _ h => h) (Or.inl ⟨by kernel_rfl, fun w0 hSw => ?_⟩) hHeld ?_; rotate_left; (focus ((try dsimp only at hSw); simp only [List.getElem_toArray, List.getElem_cons_zero, List.getElem_cons_succ]; (first | (go_simp; done) | (go_simp; with_reducible rfl)))); (try simp only [List.getElem_toArray, List.getElem_cons_zero, List.getElem_cons_succ, Act.put, List.setIfInBounds_toArray, List.set_cons_zero, List.set_cons_succ]))
  (refine wpAnyH_take (i := 9) (v := ?_) rfl (by kernel_rfl) (by kernel_rfl) (by kernel_rfl) (fun _ _ _ h => h) (Or.inl ⟨by kernel_rfl, fun w0 hSw => ?_⟩) hHeld ?_; rotate_left; (focus ((try dsimp only at hSw); simp only [List.getElem_toArray, List.getElem_cons_zero, List.getElem_cons_succ]; (first | (go_simp; done) | (go_simp; with_reducible rfl)))); (try simp only [List.getElem_toArray, List.getElem_cons_zero, List.getElem_cons_succ, Act.put, List.setIfInBounds_toArray, List.set_cons_zero, List.set_cons_succ]))
  (refine wpAnyH_take (i := 10) (v := ?_) rfl (by kernel_rfl) (by kernel_rfl) (by kernel_rfl) (fun _ _ _ h => h) (Or.inl ⟨by kernel_rfl, fun w0 hSw => ?_⟩) hHeld ?_; rotate_left; (focus ((try dsimp only at hSw); simp only [List.getElem_toArray, List.getElem_cons_zero, List.getElem_cons_succ]; (first | (go_simp; done) | (go_simp; with_reducible rfl)))); (try simp only [List.getElem_toArray, List.getElem_cons_zero, List.getElem_cons_succ, Act.put, List.setIfInBounds_toArray, List.set_cons_zero, List.set_cons_succ]))
  (refine wpAnyH_take (i := 11) (v := ?_) rfl (by kernel_rfl) (by kernel_rfl) (by kernel_rfl) (fun _ _ _ h => h) (Or.inl ⟨by kernel_rfl, fun w0 hSw => ?_⟩) hHeld ?_; rotate_left; (focus ((try dsimp only at hSw); simp only [List.getElem_toArray, List.getElem_cons_zero, List.getElem_cons_succ]; (first | (go_simp; done) | (go_simp; with_reducible rfl)))); (try simp only [List.getElem_toArray, List.getElem_cons_zero, List.getElem_cons_succ, Act.put, List.setIfInBounds_toArray, List.set_cons_zero, List.set_cons_succ]))
  (refine wpAnyH_take (i := 12) (v := ?_) rfl (by kernel_rfl) (by kernel_rfl) (by kernel_rfl) (fun _ _ _ h => h) (Or.inl ⟨by kernel_rfl, fun w0 hSw => ?_⟩) hHeld ?_; rotate_left; (focus ((try dsimp only at hSw); simp only [List.getElem_toArray, List.getElem_cons_zero, List.getElem_cons_succ]; (first | (go_simp; done) | (go_simp; with_reducible rfl)))); (try simp only [List.getElem_toArray, List.getElem_cons_zero, List.getElem_cons_succ, Act.put, List.setIfInBounds_toArray, List.set_cons_zero, List.set_cons_succ]))
  (refine wpAnyH_take (i := 13) (v := ?_) rfl (by kernel_rfl) (by kernel_rfl) (by kernel_rfl) (fun _ _ _ h => h) (Or.inl ⟨by kernel_rfl, fun w0 hSw => ?_⟩) hHeld ?_; rotate_left; (focus ((try dsimp only at hSw); simp only [List.getElem_toArray, List.getElem_cons_zero, List.getElem_cons_succ]; (first | (go_simp; done) | (go_simp; with_reducible rfl)))); (try simp only [List.getElem_toArray, List.getElem_cons_zero, List.getElem_cons_succ, Act.put, List.setIfInBounds_toArray, List.set_cons_zero, List.set_cons_succ]))
  (refine wpAnyH_take (i := 14) (v := ?_) rfl (by kernel_rfl) (by kernel_rfl) (by kernel_rfl) (fun _ _ _ h => h) (Or.inl ⟨by kernel_rfl, fun w0 hSw => ?_⟩) hHeld ?_; rotate_left; (focus ((try dsimp only at hSw); simp only [List.getElem_toArray, List.getElem_cons_zero, List.getElem_cons_succ]; (first | (go_simp; done) | (go_simp; with_reducible rfl)))); (try simp only [List.getElem_toArray, List.getElem_cons_zero, List.getElem_cons_succ, Act.put, List.setIfInBounds_toArray, List.set_cons_zero, List.set_cons_succ]))
  (refine wpAnyH_take (i := 15) (v := ?_) rfl (by kernel_rfl) (by kernel_rfl) (by kernel_rfl) (fun _ _ _ h => h) (Or.inl ⟨by kernel_rfl, fun w0 hSw => ?_⟩) hHeld ?_; rotate_left; (focus ((try dsimp only at hSw); simp only [List.getElem_toArray, List.getElem_cons_zero, List.getElem_cons_succ]; (first | (go_simp; done) | (go_simp; with_reducible rfl)))); (try simp only [List.getElem_toArray, List.getElem_cons_zero, List.getElem_cons_succ, Act.put, List.setIfInBounds_toArray, List.set_cons_zero, List.set_cons_succ]))
  (refine wpAnyH_take (i := 16) (v := ?_) rfl (by kernel_rfl) (by kernel_rfl) (by kernel_rfl) (fun _ _ _ h => h) (Or.inl ⟨by kernel_rfl, fun w0 hSw => ?_⟩) hHeld ?_; rotate_left; (focus ((try dsimp only at hSw); simp only [List.getElem_toArray, List.getElem_cons_zero, List.getElem_cons_succ]; (first | (go_simp; done) | (go_simp; with_reducible rfl)))); (try simp only [List.getElem_toArray, List.getElem_cons_zero, List.getElem_cons_succ, Act.put, List.setIfInBounds_toArray, List.set_cons_zero, List.set_cons_succ]))
  (refine wpAnyH_take (i := 17) (v := ?_) rfl (by kernel_rfl) (by kernel_rfl) (by kernel_rfl) (fun _ _ _ h => h) (Or.inl ⟨by kernel_rfl, fun w0 hSw => ?_⟩) hHeld ?_; rotate_left; (focus ((try dsimp only at hSw); simp only [List.getElem_toArray, List.getElem_cons_zero, List.getElem_cons_succ]; (first | (go_simp; done) | (go_simp; with_reducible rfl)))); (try simp only [List.getElem_toArray, List.getElem_cons_zero, List.getElem_cons_succ, Act.put, List.setIfInBounds_toArray, List.set_cons_zero, List.set_cons_succ]))
  (refine wpAnyH_take (i := 18) (v := ?_) rfl (by kernel_rfl) (by kernel_rfl) (by kernel_rfl) (fun _ _ _ h => h) (Or.inl ⟨by kernel_rfl, fun w0 hSw => ?_⟩) hHeld ?_; rotate_left; (focus ((try dsimp only at hSw); simp only [List.getElem_toArray, List.getElem_cons_zero, List.getElem_cons_succ]; (first | (go_simp; done) | (go_simp; with_reducible rfl)))); (try simp only [List.getElem_toArray, List.getElem_cons_zero, List.getElem_cons_succ, Act.put, List.setIfInBounds_toArray, List.set_cons_zero, List.set_cons_succ]))
  (refine wpAnyH_take (i := 19) (v := ?_) rfl (by kernel_rfl) (by kernel_rfl) (by kernel_rfl) (fun _ _ _ h => h) (Or.inl ⟨by kernel_rfl, fun w0 hSw => ?_⟩) hHeld ?_; rotate_left; (focus ((try dsimp only at hSw); simp only [List.getElem_toArray, List.getElem_cons_zero, List.getElem_cons_succ]; (first | (go_simp; done) | (go_simp; with_reducible rfl)))); (try simp only [List.getElem_toArray, List.getElem_cons_zero, List.getElem_cons_succ, Act.put, List.setIfInBounds_toArray, List.set_cons_zero, List.set_cons_succ]))
  (refine wpAnyH_take (i := 20) (v := ?_) rfl (by kernel_rfl) (by kernel_rfl) (by kernel_rfl) (fun _ _ _ h => h) (Or.inl ⟨by kernel_rfl, fun w0 hSw => ?_⟩) hHeld ?_; rotate_left; (focus ((try dsimp only at hSw); simp only [List.getElem_toArray, List.getElem_cons_zero, List.getElem_cons_succ]; (first | (go_simp; done) | (go_simp; with_reducible rfl)))); (try simp only [List.getElem_toArray, List.getElem_cons_zero, List.getElem_cons_succ, Act.put, List.setIfInBounds_toArray, List.set_cons_zero, List.set_cons_succ]))
  (refine wpAnyH_take (i := 21) (v := ?_) rfl (by kernel_rfl) (by kernel_rfl) (by kernel_rfl) (fun _ _ _ h => h) (Or.inl ⟨by kernel_rfl, fun w0 hSw => ?_⟩) hHeld ?_; rotate_left; (focus ((try dsimp only at hSw); simp only [List.getElem_toArray, List.getElem_cons_zero, List.getElem_cons_succ]; (first | (go_simp; done) | (go_simp; with_reducible rfl)))); (try simp only [List.getElem_toArray, List.getElem_cons_zero, List.getElem_cons_succ, Act.put, List.setIfInBounds_toArray, List.set_cons_zero, List.set_cons_succ]))
  (refine wpAnyH_take (i := 22) (v := ?_) rfl (by kernel_rfl) (by kernel_rfl) (by kernel_rfl) (fun _ _ _ h => h) (Or.inl ⟨by kernel_rfl, fun w0 hSw => ?_⟩) hHeld ?_; rotate_left; (focus ((try dsimp only at hSw); simp only [List.getElem_toArray, List.getElem_cons_zero, List.getElem_cons_succ]; (first | (go_simp; done) | (go_simp; with_reducible rfl)))); (try simp only [List.getElem_toArray, List.getElem_cons_zero, List.getElem_cons_succ, Act.put, List.setIfInBounds_toArray, List.set_cons_zero, List.set_cons_succ]))
  (refine wpAnyH_take (i := 23) (v := ?_) rfl (by kernel_rfl) (by kernel_rfl) (by kernel_rfl) (fun _ _ _ h => h) (Or.inl ⟨by kernel_rfl, fun w0 hSw => ?_⟩) hHeld ?_; rotate_left; (focus ((try dsimp only at hSw); simp only [List.getElem_toArray, List.getElem_cons_zero, List.getElem_cons_succ]; (first | (go_simp; done) | (go_simp; with_reducible rfl)))); (try simp only [List.getElem_toArray, List.getElem_cons_zero, List.getElem_cons_succ, Act.put, List.setIfInBounds_toArray, List.set_cons_zero, List.set_cons_succ]))
  (refine wpAnyH_take (i := 24) (v := ?_) rfl (by kernel_rfl) (by kernel_rfl) (by kernel_rfl) (fun _ _ _ h => h) (Or.inl ⟨by kernel_rfl, fun w0 hSw => ?_⟩) hHeld ?_; rotate_left; (focus ((try dsimp only at hSw); simp only [List.getElem_toArray, List.getElem_cons_zero, List.getElem_cons_succ]; (first | (go_simp; done) | (go_simp; with_reducible rfl)))); (try simp only [List.getElem_toArray, List.getElem_cons_zero, List.getElem_cons_succ, Act.put, List.setIfInBounds_toArray, List.set_cons_zero, List.set_cons_succ]))
  (refine wpAnyH_take (i := 25) (v := ?_) rfl (by kernel_rfl) (by kernel_rfl) (by kernel_rfl) (fun _ _ _ h => h) (Or.inl ⟨by kernel_rfl, fun w0 hSw => ?_⟩) hHeld ?_; rotate_left; (focus ((try dsimp only at hSw); simp only [List.getElem_toArray, List.getElem_cons_zero, List.getElem_cons_succ]; (first | (go_simp; done) | (go_simp; with_reducible rfl)))); (try simp only [List.getElem_toArray, List.getElem_cons_zero, List.getElem_cons_succ, Act.put, List.setIfInBounds_toArray, List.set_cons_zero, List.set_cons_succ]))
  (refine wpAnyH_take (i := 26) (v := ?_) rfl (by kernel_rfl) (by kernel_rfl) (by kernel_rfl) (fun _ _ _ h => h) (Or.inl ⟨by kernel_rfl, fun w0 hSw => ?_⟩) hHeld ?_; rotate_left; (focus ((try dsimp only at hSw); simp only [List.getElem_toArray, List.getElem_cons_zero, List.getElem_cons_succ]; (first | (go_simp; done) | (go_simp; with_reducible rfl)))); (try simp only [List.getElem_toArray, List.getElem_cons_zero, List.getElem_cons_succ, Act.put, List.setIfInBounds_toArray, List.set_cons_zero, List.set_cons_succ]))
  refine wpAnyH_ready (rs := [27]) (by kernel_rfl) (by simp) ?_
  refine AllReadyH.cons rfl (fun K hK => ?_) AllReadyH.nil
  simp only [List.getElem_toArray, List.getElem_cons_zero, List.getElem_cons_succ]
  go_simp
  refine (quoted_any x.py v0.drew).mono ?_
  rw [quoteR_le hpy]
  rintro e v1 ⟨rfl, hb1⟩
  have hb1 : Below v0.heap.size v0 v1 := hbd.trans hb1
  refine hK.out _ _ (HS0.out _ hb1) (fun hH2 => ?_)
  clear hK K hHeld
  have hHeld := hH2
  clear hH2
  (try simp only [List.getElem_toArray, List.getElem_cons_zero, List.getElem_cons_succ, Act.put, List.setIfInBounds_toArray, List.set_cons_zero, List.set_cons_succ])
  (refine wpAnyH_take (i := 28) (v := ?_) rfl (by kernel_rfl) (by kernel_rfl) (by kernel_rfl) (fun _ _ _ h => h) (Or.inl ⟨by kernel_rfl, fun w0 hSw => ?_⟩) hHeld ?_; rotate_left; (focus ((try dsimp only at hSw); simp only [List.getElem_toArray, List.getElem_cons_zero, List.getElem_cons_succ]; (first | (go_simp; done) | (go_simp; with_reducible rfl)))); (try simp only [List.getElem_toArray, List.getElem_cons_zero, List.getElem_cons_succ, Act.put, List.setIfInBounds_toArray, List.set_cons_zero, List.set_cons_succ]))
  refine wpAnyH_ready (rs := [29]) (by kernel_rfl) (by simp) ?_
  refine AllReadyH.cons rfl (fun K hK => ?_) AllReadyH.nil
  simp only [List.getElem_toArray, List.getElem_cons_zero, List.getElem_cons_succ]
  go_simp
  have hb2 := hb1.alloc hb1.size (.cells #[.iface 3 (.int .i64 x.s), .iface 3 (.int .i64 x.c), .iface 3 (.int .i64 x.q), .iface 3 (.int .i64 x.dn), .iface 3 (.int .i64 x.lf), .iface 3 (.int .i64 x.pr), .iface 3 (.int .i64 x.fl), .iface 9 (.string (quoteS x.py))] 20)
  have ha2 := args_new v1 (ordArgs x) #[.iface 3 (.int .i64 x.s), .iface 3 (.int .i64 x.c), .iface 3 (.int .i64 x.q), .iface 3 (.int .i64 x.dn), .iface 3 (.int .i64 x.lf), .iface 3 (.int .i64 x.pr), .iface 3 (.int .i64 x.fl), .iface 9 (.string (quoteS x.py))] (by simp [ordArgs, bunNums, Arg.val]) (by simp [ordArgs, bunNums]) 8 rfl
  refine hK.out _ _ (HS0.out _ hb2) (fun hH2 => ?_)
  clear hK K hHeld
  have hHeld := hH2
  clear hH2
  (try simp only [List.getElem_toArray, List.getElem_cons_zero, List.getElem_cons_succ, Act.put, List.setIfInBounds_toArray, List.set_cons_zero, List.set_cons_succ])
  refine wpAnyH_ready (rs := [30]) (by kernel_rfl) (by simp) ?_
  refine AllReadyH.cons rfl (fun K hK => ?_) AllReadyH.nil
  simp only [List.getElem_toArray, List.getElem_cons_zero, List.getElem_cons_succ]
  go_simp
  refine (lline_any ordS (by decide) _ (ordArgs x) (ordArgs_ok HX.out) (by simp [ordArgs, bunNums]) _ ha2 (HG.out.gw fun j hj => ((hb0.trans (hb2.mono hb0.size)).block j (by have := HG.out.lt; omega)))).mono ?_
  rw [ord_line]
  rintro e v2 ⟨rfl, hb3⟩
  have hb3 : Below v0.heap.size v0 v2 := hb2.trans (hb3.mono hb2.size)
  refine hK.out _ _ (HS0.out _ hb3) (fun hH2 => ?_)
  clear hK K hHeld ha2 hb1 hb2
  have hHeld := hH2
  clear hH2
  (try simp only [List.getElem_toArray, List.getElem_cons_zero, List.getElem_cons_succ, Act.put, List.setIfInBounds_toArray, List.set_cons_zero, List.set_cons_succ])
  (refine wpAnyH_take (i := 31) (v := ?_) rfl (by kernel_rfl) (by kernel_rfl) (by kernel_rfl) (fun _ _ _ h => h) (Or.inl ⟨by kernel_rfl, fun w0 hSw => ?_⟩) hHeld ?_; rotate_left; (focus ((try dsimp only at hSw); simp only [List.getElem_toArray, List.getElem_cons_zero, List.getElem_cons_succ]; (first | (go_simp; done) | (go_simp; with_reducible rfl)))); (try simp only [List.getElem_toArray, List.getElem_cons_zero, List.getElem_cons_succ, Act.put, List.setIfInBounds_toArray, List.set_cons_zero, List.set_cons_succ]))
  refine wpAnyH_done (by kernel_rfl) ?_ _
  clear hHeld
  obtain ⟨-, -, -, -, -, -, -, -, -, -, p10, -⟩ := HS0.out _ hb3
  go_wp2_with fail
  go_loopw [3, 40] (fun s i wr => ∃ k : Nat, k ≤ x.bl.length ∧ i = .int .i64 k ∧ s = .string ⟨(ordT x k).toArray⟩ ∧ Below v0.heap.size v0 wr) (fun _ i _ => x.bl.length - (intOf i).toNat)
  case atStart => exact ⟨0, by omega, rfl, by simp [ordT], hb3⟩
  case round =>
    clear p10
    obtain ⟨k, hk, rfl, rfl, hB⟩ := hrel
    have hzr := hB.size
    have hBB := hb0.trans (hB.mono hb0.size)
    by_cases hlt : k < x.bl.length
    · obtain ⟨b0, o, rfl, hb, hcell⟩ := HA.out (by omega)
      obtain ⟨x0, x1, x2⟩ := (hcell k hlt).below (B' := 0) hBB hb
      have hbr : b0 < wr.heap.size := by omega
      have hsz1 := ordT_sz HX.out k hk
      have HST := Lib.hid (ordT_succ x k hlt)
      have hmem : x.bl.getD k Blk.zero ∈ x.bl := by simp [List.getD, hlt]
      have HOK := Lib.hid (HX.out.b _ hmem)
      clear hcell hmem
      generalize x.bl.getD k Blk.zero = b at *
      have hd4 : b.d.size ≤ 4096 := by have := HOK.out.2; omega
      have HSZ : Hid ((⟨(ordT x k).toArray⟩ : ByteArray).size ≤ 800000 + 800000 * k) := hsz1
      have hsz := HSZ.out
      generalize hsk : (⟨(ordT x k).toArray⟩ : ByteArray) = sk at hsz
      have hLI := line_sz (by decide) (blkArgs_ok HOK.out.1 HOK.out.2) (by simp [blkArgs]) (blk_line b)
      have hLI : (⟨(lineI (.blk b)).toArray⟩ : ByteArray).size ≤ 800000 := hLI
      generalize hlb : (⟨(lineI (.blk b)).toArray⟩ : ByteArray) = lb at hLI
      have HSK := Lib.hid hsk
      have HLB := Lib.hid hlb
      (try rw [hsk])
      clear hsk hlb
      go_wp2_with fail
      have y0 : (wr.alloc (.cells #[.int .i64 b.k, .int .i64 b.f, .string b.d] 102)).cell? ⟨wr.heap.size, 0, none⟩ = some (.int .i64 b.k) := by simp [go_sem]
      have y1 : (wr.alloc (.cells #[.int .i64 b.k, .int .i64 b.f, .string b.d] 102)).cell? ⟨wr.heap.size, 1, none⟩ = some (.int .i64 b.f) := by simp [go_sem]
      have y2 : (wr.alloc (.cells #[.int .i64 b.k, .int .i64 b.f, .string b.d] 102)).cell? ⟨wr.heap.size, 2, none⟩ = some (.string b.d) := by simp [go_sem]
      have q1 := hB.alloc hzr (.cells #[.int .i64 b.k, .int .i64 b.f, .string b.d] 102)
      have qz : (wr.alloc (.cells #[.int .i64 b.k, .int .i64 b.f, .string b.d] 102)).heap.size = wr.heap.size + 1 := by simp
      generalize wr.alloc (.cells #[.int .i64 b.k, .int .i64 b.f, .string b.d] 102) = v3 at *
      have HS1 : Hid (∀ W, Below v3.heap.size v3 W → W.cell? ⟨wr.heap.size, 0, none⟩ = some (.int .i64 b.k) ∧ W.cell? ⟨wr.heap.size, 1, none⟩ = some (.int .i64 b.f) ∧ W.cell? ⟨wr.heap.size, 2, none⟩ = some (.string b.d)) := fun W h => by
        have e : ∀ k, W.cell? ⟨wr.heap.size, k, none⟩ = v3.cell? ⟨wr.heap.size, k, none⟩ := fun k => h.cell (p := ⟨wr.heap.size, k, none⟩) (by show wr.heap.size < v3.heap.size; omega)
        exact ⟨(e _).trans y0, (e _).trans y1, (e _).trans y2⟩
      clear y0 y1 y2 x0 x1 x2
      have qd : Below v3.heap.size v3 v3.drew := Below.drew (Below.refl _ _)
      refine wp_region_held_drew (S := fun w' => w'.cell? ⟨wr.heap.size, 0, none⟩ = some (.int .i64 b.k) ∧ w'.cell? ⟨wr.heap.size, 1, none⟩ = some (.int .i64 b.f) ∧ w'.cell? ⟨wr.heap.size, 2, none⟩ = some (.string b.d)) (by kernel_rfl) (HS1.out _ qd) (fun hHeld => ?_)
      (refine wpAnyH_take (i := 0) (v := ?_) rfl (by kernel_rfl) (by kernel_rfl) (by kernel_rfl) (fun _ _ _ h => h) (Or.inl ⟨by kernel_rfl, fun w0 hSw => ?_⟩) hHeld ?_; rotate_left; (focus ((try dsimp only at hSw); simp only [List.getElem_toArray, List.getElem_cons_zero]; (first | (go_simp; done) | (go_simp; with_reducible rfl)))); (try simp only [List.getElem_toArray, List.getElem_cons_zero, Act.put, List.setIfInBounds_toArray, List.set_cons_zero, List.set_cons_succ]))
      (refine wpAnyH_take (i := 1) (v := ?_) rfl (by kernel_rfl) (by kernel_rfl) (by kernel_rfl) (fun _ _ _ h => h) (Or.inl ⟨by kernel_rfl, fun w0 hSw => ?_⟩) hHeld ?_; rotate_left; (focus ((try dsimp only at hSw); simp only [List.getElem_toArray, List.getElem_cons_zero, List.getElem_cons_succ]; (first | (go_simp; done) | (go_simp; with_reducible rfl)))); (try simp only [List.getElem_toArray, List.getElem_cons_zero, List.getElem_cons_succ, Act.put, List.setIfInBounds_toArray, List.set_cons_zero, List.set_cons_succ]))
      (refine wpAnyH_take (i := 2) (v := ?_) rfl (by kernel_rfl) (by kernel_rfl) (by kernel_rfl) (fun _ _ _ h => h) (Or.inl ⟨by kernel_rfl, fun w0 hSw => ?_⟩) hHeld ?_; rotate_left; (focus ((try dsimp only at hSw); simp only [List.getElem_toArray, List.getElem_cons_zero, List.getElem_cons_succ]; (first | (go_simp; done) | (go_simp; with_reducible rfl)))); (try simp only [List.getElem_toArray, List.getElem_cons_zero, List.getElem_cons_succ, Act.put, List.setIfInBounds_toArray, List.set_cons_zero, List.set_cons_succ]))
      (refine wpAnyH_take (i := 3) (v := ?_) rfl (by kernel_rfl) (by kernel_rfl) (by kernel_rfl) (fun _ _ _ h => h) (Or.inl ⟨by kernel_rfl, fun w0 hSw => ?_⟩) hHeld ?_; rotate_left; (focus ((try dsimp only at hSw); simp only [List.getElem_toArray, List.getElem_cons_zero, List.getElem_cons_succ]; (first | (go_simp; done) | (go_simp; with_reducible rfl)))); (try simp only [List.getElem_toArray, List.getElem_cons_zero, List.getElem_cons_succ, Act.put, List.setIfInBounds_toArray, List.set_cons_zero, List.set_cons_succ]))
      (refine wpAnyH_take (i := 4) (v := ?_) rfl (by kernel_rfl) (by kernel_rfl) (by kernel_rfl) (fun _ _ _ h => h) (Or.inl ⟨by kernel_rfl, fun w0 hSw => ?_⟩) hHeld ?_; rotate_left; (focus ((try dsimp only at hSw); simp only [List.getElem_toArray, List.getElem_cons_zero, List.getElem_cons_succ]; (first | (go_simp; done) | (go_simp; with_reducible rfl)))); (try simp only [List.getElem_toArray, List.getElem_cons_zero, List.getElem_cons_succ, Act.put, List.setIfInBounds_toArray, List.set_cons_zero, List.set_cons_succ]))
      (refine wpAnyH_take (i := 5) (v := ?_) rfl (by kernel_rfl) (by kernel_rfl) (by kernel_rfl) (fun _ _ _ h => h) (Or.inl ⟨by kernel_rfl, fun w0 hSw => ?_⟩) hHeld ?_; rotate_left; (focus ((try dsimp only at hSw); simp only [List.getElem_toArray, List.getElem_cons_zero, List.getElem_cons_succ]; (first | (go_simp; done) | (go_simp; with_reducible rfl)))); (try simp only [List.getElem_toArray, List.getElem_cons_zero, List.getElem_cons_succ, Act.put, List.setIfInBounds_toArray, List.set_cons_zero, List.set_cons_succ]))
      (refine wpAnyH_take (i := 6) (v := ?_) rfl (by kernel_rfl) (by kernel_rfl) (by kernel_rfl) (fun _ _ _ h => h) (Or.inl ⟨by kernel_rfl, fun w0 hSw => ?_⟩) hHeld ?_; rotate_left; (focus ((try dsimp only at hSw); simp only [List.getElem_toArray, List.getElem_cons_zero, List.getElem_cons_succ]; (first | (go_simp; done) | (go_simp; with_reducible rfl)))); (try simp only [List.getElem_toArray, List.getElem_cons_zero, List.getElem_cons_succ, Act.put, List.setIfInBounds_toArray, List.set_cons_zero, List.set_cons_succ]))
      (refine wpAnyH_take (i := 7) (v := ?_) rfl (by kernel_rfl) (by kernel_rfl) (by kernel_rfl) (fun _ _ _ h => h) (Or.inl ⟨by kernel_rfl, fun w0 hSw => ?_⟩) hHeld ?_; rotate_left; (focus ((try dsimp only at hSw); simp only [List.getElem_toArray, List.getElem_cons_zero, List.getElem_cons_succ]; (first | (go_simp; done) | (go_simp; with_reducible rfl)))); (try simp only [List.getElem_toArray, List.getElem_cons_zero, List.getElem_cons_succ, Act.put, List.setIfInBounds_toArray, List.set_cons_zero, List.set_cons_succ]))
      (refine wpAnyH_take (i := 8) (v := ?_) rfl (by kernel_rfl) (by kernel_rfl) (by kernel_rfl) (fun _ _ _ h => h) (Or.inl ⟨by kernel_rfl, fun w0 hSw => ?_⟩) hHeld ?_; rotate_left; (focus ((try dsimp only at hSw); simp only [List.getElem_toArray, List.getElem_cons_zero, List.getElem_cons_succ]; (first | (go_simp; done) | (go_simp; with_reducible rfl)))); (try simp only [List.getElem_toArray, List.getElem_cons_zero, List.getElem_cons_succ, Act.put, List.setIfInBounds_toArray, List.set_cons_zero, List.set_cons_succ]))
      refine wpAnyH_ready (rs := [9]) (by kernel_rfl) (by simp) ?_
      refine AllReadyH.cons rfl (fun K hK => ?_) AllReadyH.nil
      simp only [List.getElem_toArray, List.getElem_cons_zero, List.getElem_cons_succ]
      go_simp
      refine (quoted_any b.d v3.drew).mono ?_
      rw [quoteR_le hd4]
      rintro e v4 ⟨rfl, qb⟩
      have qb : Below v3.heap.size v3 v4 := qd.trans qb
      refine hK.out _ _ (HS1.out _ qb) (fun hH2 => ?_)
      clear hK K hHeld
      have hHeld := hH2
      clear hH2
      (try simp only [List.getElem_toArray, List.getElem_cons_zero, List.getElem_cons_succ, Act.put, List.setIfInBounds_toArray, List.set_cons_zero, List.set_cons_succ])
      (refine wpAnyH_take (i := 10) (v := ?_) rfl (by kernel_rfl) (by kernel_rfl) (by kernel_rfl) (fun _ _ _ h => h) (Or.inl ⟨by kernel_rfl, fun w0 hSw => ?_⟩) hHeld ?_; rotate_left; (focus ((try dsimp only at hSw); simp only [List.getElem_toArray, List.getElem_cons_zero, List.getElem_cons_succ]; (first | (go_simp; done) | (go_simp; with_reducible rfl)))); (try simp only [List.getElem_toArray, List.getElem_cons_zero, List.getElem_cons_succ, Act.put, List.setIfInBounds_toArray, List.set_cons_zero, List.set_cons_succ]))
      refine wpAnyH_ready (rs := [11]) (by kernel_rfl) (by simp) ?_
      refine AllReadyH.cons rfl (fun K hK => ?_) AllReadyH.nil
      simp only [List.getElem_toArray, List.getElem_cons_zero, List.getElem_cons_succ]
      go_simp
      have qb2 := qb.alloc qb.size (.cells #[.iface 3 (.int .i64 b.k), .iface 3 (.int .i64 b.f), .iface 9 (.string (quoteS b.d))] 20)
      have ha2 := args_new v4 (blkArgs b) #[.iface 3 (.int .i64 b.k), .iface 3 (.int .i64 b.f), .iface 9 (.string (quoteS b.d))] (by simp [blkArgs, Arg.val]) (by simp [blkArgs]) 3 rfl
      refine hK.out _ _ (HS1.out _ qb2) (fun hH2 => ?_)
      clear hK K hHeld
      have hHeld := hH2
      clear hH2
      (try simp only [List.getElem_toArray, List.getElem_cons_zero, List.getElem_cons_succ, Act.put, List.setIfInBounds_toArray, List.set_cons_zero, List.set_cons_succ])
      refine wpAnyH_ready (rs := [12]) (by kernel_rfl) (by simp) ?_
      refine AllReadyH.cons rfl (fun K hK => ?_) AllReadyH.nil
      simp only [List.getElem_toArray, List.getElem_cons_zero, List.getElem_cons_succ]
      go_simp
      refine (lline_any blkS (by decide) _ (blkArgs b) (blkArgs_ok HOK.out.1 HOK.out.2) (by simp [blkArgs]) _ ha2 (HG.out.gw fun j hj => (((hb0.trans (q1.mono hb0.size)).trans (qb2.mono (by omega))).block j (by have := HG.out.lt; omega)))).mono ?_
      rw [blk_line, HLB.out]
      rintro e v5 ⟨rfl, qb3⟩
      have qb3 : Below v3.heap.size v3 v5 := qb2.trans (qb3.mono qb2.size)
      refine hK.out _ _ (HS1.out _ qb3) (fun hH2 => ?_)
      clear hK K hHeld ha2 qb qb2
      have hHeld := hH2
      clear hH2
      (try simp only [List.getElem_toArray, List.getElem_cons_zero, List.getElem_cons_succ, Act.put, List.setIfInBounds_toArray, List.set_cons_zero, List.set_cons_succ])
      have hcat : ¬ 9223372036854775807 < sk.size + lb.size := by omega
      refine wpAnyH_ready (rs := [13]) (by kernel_rfl) (by simp) ?_
      refine AllReadyH.cons rfl (fun K hK => ?_) AllReadyH.nil
      simp only [List.getElem_toArray, List.getElem_cons_zero, List.getElem_cons_succ]
      go_simp
      (try simp only [hcat, if_false, ite_false])
      refine hK.out _ _ hHeld (fun _ => ?_)
      clear hK K
      (try simp only [List.getElem_toArray, List.getElem_cons_zero, List.getElem_cons_succ, Act.put, List.setIfInBounds_toArray, List.set_cons_zero, List.set_cons_succ])
      (refine wpAnyH_take (i := 14) (v := ?_) rfl (by kernel_rfl) (by kernel_rfl) (by kernel_rfl) (fun _ _ _ h => h) (Or.inl ⟨by kernel_rfl, fun w0 hSw => ?_⟩) hHeld ?_; rotate_left; (focus ((try dsimp only at hSw); simp only [List.getElem_toArray, List.getElem_cons_zero, List.getElem_cons_succ]; (first | (go_simp; done) | (go_simp; with_reducible rfl)))); (try simp only [List.getElem_toArray, List.getElem_cons_zero, List.getElem_cons_succ, Act.put, List.setIfInBounds_toArray, List.set_cons_zero, List.set_cons_succ]))
      refine wpAnyH_done (by kernel_rfl) ?_ _
      clear hHeld
      have hB5 : Below v0.heap.size v0 v5 := q1.trans (qb3.mono (by omega))
      go_wp2_with fail
      go_roundw
      case rel => exact ⟨k + 1, by omega, by go_num, by rw [HST.out, ← bytes_cat, HSK.out, HLB.out], hB5⟩
      case measure => simp [intOf]; omega
    · obtain rfl : k = x.bl.length := by omega
      go_wp2_with fail
      go_ret
      exact ⟨by rw [← ordT_all]; rfl, hBB⟩
end Go.Proofs.YtmcgddlblhinlaaGreatDoor

/- Events as rows of cells; slices.Clone over events (68), slices.Insert of one event (67). -/
import Derived.Test.YtclkjjdfdndplaaGreatDoorA3
import Derived.Test.YtclkjjdfdndplaaGreatDoorX4
namespace Go.Proofs.YtclkjjdfdndplaaGreatDoor
open Go.RowKit
/-- the cells of an event -/
def evVals (x : Ev) : List Value := [.int .i64 x.t, .int .i64 x.k, .int .i64 x.n]
def evCells (l : List Ev) : List Value := l.flatMap evVals
theorem evCells_cons (x : Ev) (l : List Ev) : evCells (x :: l) = evVals x ++ evCells l := by simp [evCells]
theorem evCells_app (l l' : List Ev) : evCells (l ++ l') = evCells l ++ evCells l' := by simp [evCells]
theorem evCells_len (l : List Ev) : (evCells l).length = l.length * 3 := by
  induction l with
  | nil => rfl
  | cons c t ih => rw [evCells_cons, List.length_append, ih]; simp [evVals]; omega
theorem evCells_get : ∀ (l : List Ev) (j k : Nat), j < l.length → k < 3 → (evCells l)[j * 3 + k]? = (evVals (l.getD j Ev.zero))[k]?
  | [], j, k, h, _ => by simp at h
  | c :: t, 0, k, _, hk => by
    rw [evCells_cons, List.getElem?_append_left (by simp [evVals]; omega)]
    simp
  | c :: t, j + 1, k, h, hk => by
    have ih := evCells_get t j k (by simpa using h) hk
    rw [evCells_cons, List.getElem?_append_right (by simp [evVals]; omega)]
    have e : (j + 1) * 3 + k - (evVals c).length = j * 3 + k := by simp [evVals]; omega
    rw [e, ih]
    simp
theorem evCells_one (l : List Ev) : ∀ u ∈ evCells l, u.oneCell' = true := by
  intro u hu
  unfold evCells at hu
  obtain ⟨c, _, hc⟩ := List.mem_flatMap.1 hu
  simp only [evVals, List.mem_cons, List.not_mem_nil, or_false] at hc
  rcases hc with rfl | rfl | rfl <;> rfl
theorem evCells_take (l : List Ev) (i : Nat) : (evCells l).take (i * 3) = evCells (l.take i) := by
  have h : evCells l = evCells (l.take i) ++ evCells (l.drop i) := by rw [← evCells_app, List.take_append_drop]
  rcases Nat.lt_or_ge l.length i with h' | h'
  · rw [List.take_of_length_le (by rw [evCells_len]; omega), List.take_of_length_le (by omega)]
  · rw [h, List.take_append_of_le_length (by rw [evCells_len, List.length_take]; omega), List.take_of_length_le (by rw [evCells_len, List.length_take]; omega)]
theorem evCells_drop (l : List Ev) (i : Nat) : (evCells l).drop (i * 3) = evCells (l.drop i) := by
  have h : evCells l = evCells (l.take i) ++ evCells (l.drop i) := by rw [← evCells_app, List.take_append_drop]
  rcases Nat.lt_or_ge l.length i with h' | h'
  · rw [List.drop_of_length_le (by rw [evCells_len]; omega), List.drop_of_length_le (by omega)]; rfl
  · rw [h, List.drop_append_of_le_length (by rw [evCells_len, List.length_take]; omega), List.drop_of_length_le (by rw [evCells_len, List.length_take]; omega), List.nil_append]
theorem evVals_at {w : World} {B b o : Nat} {c : Ev} (h : EvAt w B b o c) : ∀ k u, (evVals c)[k]? = some u → w.cell? ⟨b, o + k, none⟩ = some u := by
  obtain ⟨h0, h1, h2⟩ := h
  intro k u hu
  match k, hu with
  | 0, hu => simpa [evVals, ← hu] using h0
  | 1, hu => simpa [evVals, ← hu] using h1
  | 2, hu => simpa [evVals, ← hu] using h2
  | n + 3, hu => simp [evVals] at hu
theorem evs_cells {w : World} {B b o : Nat} {l : List Ev} (h : ∀ j, j < l.length → EvAt w B b (o + j * 3) (l.getD j Ev.zero)) : ∀ j u, (evCells l)[j]? = some u → w.cell? ((⟨b, o, none⟩ : Addr).add j) = some u := fun j u hu => by
  have hj : j < l.length * 3 := by have := (List.getElem?_eq_some_iff.1 hu).1; rwa [evCells_len] at this
  have hd : j / 3 * 3 + j % 3 = j := by omega
  have hg := evCells_get l (j / 3) (j % 3) (by omega) (by omega)
  rw [hd, hu] at hg
  have := evVals_at (h (j / 3) (by omega)) (j % 3) u hg.symm
  rw [addr_lit]
  rwa [show o + j / 3 * 3 + j % 3 = o + j by omega] at this
theorem evs_of_cells {w : World} {B b o c : Nat} {l : List Ev} (hb : b < B) (hc : l.length ≤ c) (hm : c ≤ maxLen) (h : ∀ j u, (evCells l)[j]? = some u → w.cell? ⟨b, o + j, none⟩ = some u) : Evs w B (.slice (some ⟨b, o, none⟩) l.length c) l := by
  refine ⟨_, c, rfl, hc, hm, fun _ => ⟨b, o, rfl, hb, fun j hj => ?_⟩⟩
  have go : ∀ k v, k < 3 → (evVals (l.getD j Ev.zero))[k]? = some v → w.cell? ⟨b, o + j * 3 + k, none⟩ = some v := fun k v hk hv => by
    have := h (j * 3 + k) v ((evCells_get l j k hj hk).trans hv)
    rw [Nat.add_assoc]; exact this
  exact ⟨go 0 _ (by omega) rfl, go 1 _ (by omega) rfl, go 2 _ (by omega) rfl⟩
theorem evs_of_own {w : World} {base : Nat} {v : Value} {l : List Ev} (h : w.ownsRow base 49 3 v l.length (evCells l)) : Evs w w.heap.size v l := by
  rcases h.2 with ⟨rfl, h0⟩ | ⟨g, cap, cur, rfl, hb, hg, hn, hm, hs, ht⟩
  · obtain rfl : l = [] := List.eq_nil_of_length_eq_zero h0
    exact Sl.nil _ _ _ _ _
  · refine evs_of_cells (Array.getElem?_eq_some_iff.1 hg).1 hn hm fun j u hu => ?_
    have := h.cells (g := g) rfl j u hu
    rw [addr_lit] at this
    exact this
theorem infoEv : ∃ i0, Tryz.prog.info? 49 = some i0 ∧ i0.zero = some (.agg #[.int .i64 0, .int .i64 0, .int .i64 0]) ∧ i0.size = 3 ∧ i0.bytes = 24 := by
  obtain ⟨j, hj, hjs⟩ := Option.map_eq_some_iff.1 infoE2
  injection hjs with hz hjs; injection hjs with hs hby
  exact ⟨j, hj, hz, hs, hby⟩
def EvClPost (l : List Ev) (w : World) (e : Ending) (w' : World) : Prop := ∃ v', e = .returned v' ∧ w'.ownsRow w.heap.size 49 3 v' l.length (evCells l) ∧ Below w.heap.size w w'
set_option maxRecDepth 100000 in
theorem evclone_some (a : Addr) (n c : Nat) (l : List Ev) (w : World) (hn : n = l.length) (hl : l.length ≤ 1000) (hc : ∀ j u, (evCells l)[j]? = some u → w.cell? (a.add j) = some u) : Calls Tryz.prog 68 #[.slice (some a) n c] w (EvClPost l w) := by
  obtain ⟨i0, hi, hz0, hz1, hz2⟩ := infoEv
  have HI : Hid ((Tryz.prog.info? 49 = some i0) ∧ i0.zero = some (.agg #[.int .i64 0, .int .i64 0, .int .i64 0]) ∧ i0.size = 3 ∧ i0.bytes = 24) := ⟨hi, hz0, hz1, hz2⟩
  clear hi hz0 hz1 hz2
  have hc' : ∀ (o : Obj) (j : Nat) (u : Value), (evCells l)[j]? = some u → (w.alloc o).cell? (a.add j) = some u := fun o j u hu => by
    have := hc j u hu
    rw [World.cell?_alloc_lt _ _ _ (World.block_lt_of_cell? _ _ this)]; exact this
  have HC := Lib.hid hc'
  have HN := Lib.hid hn
  have HLE : Hid (n ≤ 1000) := by show _ ≤ _; omega
  clear hc hc' hn hl
  have he : ∀ w, (binOp .eql 39 (.slice (some a) n c) (.slice none 0 0)).run Tryz.prog w = .ok (.bool false) w := fun w => Lib.run_eql_slice_nil (P := Tryz.prog) w 39 49 (some a) n c 0 0 Tryz.underlying39
  go_enter Tryz.func68, Tryz.ntmps68
  go_wp2_with (at_builtin; refine wpList_append_own _ rfl _ _ 39 rfl w.heap.size 49 i0 _ 3 24 Tryz.underlying39 HI.out.1 HI.out.2.1 HI.out.2.2.1 HI.out.2.2.2 rfl (by decide) _ _ _ rfl (World.ownsRow_lit (e := 49) (size := 3) w #[] 0 (Nat.le_refl _) (by simp [maxLen]) rfl) a n c (evCells l) rfl ?c0 ?c1 ?c2 ?c3 ?c4 ?c5 ?_)
  case c0 => rw [evCells_len, HN.out]
  case c1 => exact HC.out _
  case c2 => exact evCells_one l
  case c3 => have := HLE.out; unfold maxLen; omega
  case c4 => have := HLE.out; omega
  case c5 => simp
  intro v' w1 hown hgrow _
  have HO := Lib.hid hown
  have hB1 : Below w.heap.size w w1 := ((Below.refl _ w).alloc (Nat.le_refl _) _).grown hgrow (by simp) (fun j e => by simp [Value.ownBlock] at e; omega)
  clear hown hgrow
  go_wp2_with fail
  go_ret
  refine ⟨v', rfl, ?_, hB1⟩
  have := HO.out
  rw [HN.out] at this
  simpa using this
theorem evclone_none (c : Nat) (w : World) : Calls Tryz.prog 68 #[.slice none 0 c] w (EvClPost [] w) := by
  have he : ∀ w, (binOp .eql 39 (.slice none 0 c) (.slice none 0 0)).run Tryz.prog w = .ok (.bool true) w := fun w => Lib.run_eql_slice_nil (P := Tryz.prog) w 39 49 none 0 c 0 0 Tryz.underlying39
  go_enter Tryz.func68, Tryz.ntmps68
  go_wp2_with fail
  go_ret
  exact ⟨_, rfl, World.ownsRow_nil _ _ _ _, Below.refl _ _⟩
theorem evclone_any (v : Value) (l : List Ev) (w : World) (B : Nat) (hg : Evs w B v l) (hl : l.length ≤ 1000) : Calls Tryz.prog 68 #[v] w (EvClPost l w) := by
  obtain ⟨A, c, rfl, hc, hm, hA⟩ := hg
  cases A with
  | none =>
    cases l with
    | nil => exact evclone_none c w
    | cons a t =>
      obtain ⟨b, o, e, _⟩ := hA (by simp)
      cases e
  | some a =>
    refine evclone_some a l.length c l w rfl hl ?_
    cases l with
    | nil => intro j u hu; simp [evCells] at hu
    | cons d t =>
      obtain ⟨b, o, e, _, hcell⟩ := hA (by simp)
      cases e
      exact evs_cells hcell
/-- one event is inserted -/
theorem evins_any (v : Value) (l : List Ev) (i : Nat) (hi : i ≤ l.length) (x : Ev) (B2 base : Nat) (w : World) (ho : w.ownsRow base 49 3 v l.length (evCells l)) (hlen : l.length ≤ 1000) (h2 : ∀ t u, (evVals x)[t]? = some u → w.cell? ⟨B2, t, none⟩ = some u) (hne : v.ownBlock ≠ some B2) (hB2 : B2 < w.heap.size) (hbase : base ≤ w.heap.size) :
    Calls Tryz.prog 67 #[v, .int .i64 i, .slice (some ⟨B2, 0, none⟩) 1 1] w fun e w' => ∃ v', e = .returned v' ∧ Evs w' w'.heap.size v' (l.take i ++ x :: l.drop i) ∧ (∀ k, v'.ownBlock = some k → base ≤ k) ∧ Below base w w' := by
  have hnl : (evVals x).length = 3 := rfl
  have hx1 : ∀ u ∈ evVals x, u.oneCell' = true := by
    intro u hu
    simp only [evVals, List.mem_cons, List.not_mem_nil, or_false] at hu
    rcases hu with rfl | rfl | rfl <;> rfl
  have h2' : ∀ t u, (evVals x)[t]? = some u → w.cell? ⟨B2, 0 + t, none⟩ = some u := fun t u h => by rw [Nat.zero_add]; exact h2 t u h
  have hcc : evCells (l.take i ++ x :: l.drop i) = (evCells l).take (i * 3) ++ (evVals x ++ (evCells l).drop (i * 3)) := by rw [evCells_app, evCells_cons, evCells_take, evCells_drop]
  have hll : (l.take i ++ x :: l.drop i).length = l.length + 1 := by simp; omega
  rcases Nat.lt_or_ge i l.length with hlt | hge
  · rcases ho.2 with ⟨rfl, h0⟩ | ⟨g, cap, cur, rfl, hb, hg, hn, hm, hs, ht⟩
    · omega
    · have hgl := (Array.getElem?_eq_some_iff.1 hg).1
      have hne' : B2 ≠ g := fun e => hne (by rw [e]; rfl)
      have hol : (evCells l).length = l.length * 3 := evCells_len l
      have h1 : ∀ t u, (evCells l)[t]? = some u → w.cell? ⟨g, 0 + t, none⟩ = some u := fun t u hu => by
        have := ho.cells (g := g) rfl t u hu
        rw [addr_lit] at this
        exact this
      have hin : ∀ (t : Nat) (u : Value), ((evCells l).take (i * 3))[t]? = some u → cur[0 + t]? = some u := fun t u hu => by
        rw [List.getElem?_take] at hu
        split at hu
        · have := h1 t u hu
          rw [Eng.World.cell_of hg] at this
          exact this
        · cases hu
      rcases Nat.lt_or_ge cap (l.length + 1) with hc1 | hc1
      · refine (ins_grow g 0 B2 0 l.length i cap 1 (evCells l) (evVals x) w hlt hn hc1 (by omega) hol hnl hgl hB2 h1 h2' (evCells_one l) hx1).mono ?_
        rintro e w' ⟨c', hc', hcm, cs, hcs, rfl, hcin, rfl⟩
        obtain ⟨c2, k1, k2, k3, k4, k5⟩ := Eng.two_rows (w := w.drew.alloc (.cells cs 49)) (B := w.heap.size) (q := 0) (i := i) (n := l.length) (size := 3) (e := 49) (fz := (0, 0)) (c := cs) (olds := evCells l) (news := evVals x) (heap_alloc_new w.drew _) hol hnl hi (by rw [hcs, Nat.zero_add]; exact Nat.mul_le_mul_right _ hc')
          (l1 := evVals x) (l2 := (evCells l).drop (i * 3)) (d := i * 3) (d1 := (i + 1) * 3) (w1 := ((w.drew.alloc (.cells cs 49)).setCells w.heap.size (i * 3) (evVals x)).drew) (.inr ⟨rfl, rfl, rfl, rfl⟩) (by rw [Nat.zero_add]; rfl) rfl (fun t u h => by rw [Nat.zero_add]; exact hcin t u h)
        simp only [Nat.zero_add] at k1 k3 k4 k5
        have hbb : Below base w (((w.drew.alloc (.cells cs 49)).setCells w.heap.size (i * 3) (evVals x)).drew.setCells w.heap.size ((i + 1) * 3) ((evCells l).drop (i * 3))) :=
          Eng.below_rows hbase _ _ _ (Below.drew (Eng.below_rows hbase _ _ _ ((Below.drew (Below.refl _ _)).alloc (by simpa using hbase) _)))
        have k5' : w.heap.size < (((w.drew.alloc (.cells cs 49)).setCells w.heap.size (i * 3) (evVals x)).drew.setCells w.heap.size ((i + 1) * 3) ((evCells l).drop (i * 3))).heap.size := by rw [k5]; simp
        generalize (((w.drew.alloc (.cells cs 49)).setCells w.heap.size (i * 3) (evVals x)).drew.setCells w.heap.size ((i + 1) * 3) ((evCells l).drop (i * 3))) = W at *
        refine ⟨_, rfl, ?_, fun k hk => ?_, hbb⟩
        rotate_left
        · cases hk; exact hbase
        rw [← hll]
        exact evs_of_cells k5' (by omega) hcm fun t u hu => by
          rw [hcc] at hu
          rw [Nat.zero_add, Eng.World.cell_of k1]
          exact k3 t u hu
      · refine (ins_place g 0 B2 0 l.length i cap 1 (evCells l) (evVals x) w hlt hc1 (by omega) hne' hol hnl h1 h2' (evCells_one l) hx1 hg (Nat.le_refl _) (fun t ht2 => ?_)).mono ?_
        · have : cur.size = cap * 3 := hs
          have hle : (l.length + 1) * 3 ≤ cap * 3 := Nat.mul_le_mul_right _ hc1
          refine ⟨?_, not_frozen hg (Nat.le_refl _) _⟩
          rw [Eng.World.cell_of hg, Nat.zero_add, Array.getElem?_eq_getElem (by omega)]
          rfl
        rintro e w' ⟨rfl, kk, rfl⟩
        obtain ⟨c2, k1, k2, k3, k4, k5⟩ := Eng.two_rows (w := w.drewN kk) (B := g) (q := 0) (i := i) (n := l.length) (size := 3) (e := 49) (fz := (0, 0)) (c := cur) (olds := evCells l) (news := evVals x) hg hol hnl hi (by rw [hs, Nat.zero_add]; exact Nat.mul_le_mul_right _ hc1)
          (l1 := (evCells l).drop (i * 3)) (l2 := evVals x) (d := (i + 1) * 3) (d1 := i * 3) (w1 := (w.drewN kk).setCells g (0 + (i + 1) * 3) ((evCells l).drop (i * 3))) (.inl ⟨rfl, rfl, rfl, rfl⟩) rfl rfl hin
        have hbb : Below base w (((w.drewN kk).setCells g (0 + (i + 1) * 3) ((evCells l).drop (i * 3))).setCells g (0 + i * 3) (evVals x)) :=
          Eng.below_rows hb _ _ _ (Eng.below_rows hb _ _ _ (below_drewN (Below.refl _ _) kk))
        have k5' : g < (((w.drewN kk).setCells g (0 + (i + 1) * 3) ((evCells l).drop (i * 3))).setCells g (0 + i * 3) (evVals x)).heap.size := by rw [k5]; exact hgl
        generalize (((w.drewN kk).setCells g (0 + (i + 1) * 3) ((evCells l).drop (i * 3))).setCells g (0 + i * 3) (evVals x)) = W at *
        refine ⟨_, rfl, ?_, fun k hk => ?_, hbb⟩
        rotate_left
        · cases hk; exact hb
        rw [← hll]
        exact evs_of_cells k5' (by omega) hm fun t u hu => by
          rw [hcc] at hu
          rw [Eng.World.cell_of k1]
          exact k3 t u hu
  · obtain rfl : i = l.length := by omega
    obtain ⟨i0, hi0, hz0, hz1, hz2⟩ := infoEv
    obtain ⟨g, cap, w', hr, h3, h4, h5, h6⟩ := run_append_lies (P := Tryz.prog) w 39 0 base 49 i0 (.agg #[.int .i64 0, .int .i64 0, .int .i64 0]) 3 24 Tryz.underlying39 hi0 hz0 hz1 hz2 rfl (by decide) v l.length (evCells l) ho ⟨B2, 0, none⟩ 1 1 (evVals x) rfl (fun j u hu => by rw [addr_lit]; exact h2' j u hu) hx1 (by decide) (by unfold maxLen; omega) (by omega) hbase w.heap.size rfl
    have hap : ∀ ty, (Builtin.append_ #[39, 39] ty #[v, .slice (some ⟨B2, 0, none⟩) 1 1]).run Tryz.prog w = .ok (.slice (some ⟨g, 0, none⟩) (l.length + 1) cap) w' := fun ty => by rw [Eng.append_ty (ty' := 0)]; exact hr
    have hb' : Below base w w' := (Below.refl _ w).grown h4 hbase (fun j e => (ho.lt j e).1)
    have hfin : ∃ v', Ending.returned (.slice (some ⟨g, 0, none⟩) (l.length + 1) cap) = .returned v' ∧ Evs w' w'.heap.size v' (l.take l.length ++ x :: l.drop l.length) ∧ (∀ k, v'.ownBlock = some k → base ≤ k) ∧ Below base w w' := by
      refine ⟨_, rfl, ?_, fun k hk => (h3.lt k hk).1, hb'⟩
      rw [List.take_length, List.drop_length]
      refine evs_of_own (base := base) ?_
      rw [List.length_append, evCells_app, evCells_cons]
      simpa [evCells] using h3
    rcases ho.2 with ⟨rfl, h0⟩ | ⟨g', cap', cur, rfl, hb, hg, hn, hm, hs, ht⟩
    · rw [h0] at hap hfin ⊢
      refine (ins_nil _ _ w _ _ hap).mono ?_
      rintro e w'' ⟨rfl, rfl⟩
      exact hfin
    · refine (ins_end g' 0 l.length cap' _ _ w hn (by omega) _ _ hap).mono ?_
      rintro e w'' ⟨rfl, rfl⟩
      exact hfin
end Go.Proofs.YtclkjjdfdndplaaGreatDoor

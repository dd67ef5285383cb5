/- New of a valid mission. -/
import Derived.Test.YtclkjjdfdndplaaGreatDoorA9
namespace Go.Proofs.YtclkjjdfdndplaaGreatDoor
open Go.RowKit
theorem ev_ok {t k n : Int} (h1 : 0 ≤ t) (h2 : t ≤ 1099511627776) (h3 : 0 ≤ k) (h4 : k ≤ 100) (h5 : 0 ≤ n) (h6 : n ≤ 100) : evV ⟨t, k, n⟩ = true :=
  evV_iff.2 ⟨h1, h2, h3, (by show k ≤ 1152921504606846976; omega), h5, (by show n ≤ 1152921504606846976; omega)⟩
/-- the agenda behind orders -/
def agO (l : List Ev) : Nat → List Bun → List Ev
  | _, [] => l
  | i, b :: t => agO (addL l ⟨b.c, 7, i⟩) (i + 1) t
def agF1 (l : List Ev) (i : Nat) (f : Flt) : List Ev := if f.u ≠ -1 then addL (addL l ⟨f.a, 9, i⟩) ⟨f.u, 1, i⟩ else addL l ⟨f.a, 9, i⟩
/-- the agenda behind faults -/
def agF (l : List Ev) : Nat → List Flt → List Ev
  | _, [] => l
  | i, f :: t => agF (agF1 l i f) (i + 1) t
def agL (m : Mis) : List Ev := agF (agO [] 0 m.os) 0 m.fs
theorem agO_step (l : List Ev) (os : List Bun) (k : Nat) (h : k < os.length) : agO l k (os.drop k) = agO (addL l ⟨(os.getD k Bun.zero).c, 7, k⟩) (k + 1) (os.drop (k + 1)) := by
  rw [drop_get os Bun.zero k h, agO]
theorem agF_step (l : List Ev) (fs : List Flt) (k : Nat) (h : k < fs.length) : agF l k (fs.drop k) = agF (agF1 l k (fs.getD k Flt.zero)) (k + 1) (fs.drop (k + 1)) := by
  rw [drop_get fs Flt.zero k h, agF]
/-- what is known of a valid mission -/
structure MisOk1 (m : Mis) : Prop where
  plan : planE m.q m.cs = 0
  nq : m.q.length ≤ 16
  qs : ∀ k, k < m.q.length → 0 ≤ m.q.getD k 0 ∧ m.q.getD k 0 ≤ 1073741824
  no : m.os.length ≤ 8
  oc : ∀ k, k < m.os.length → 0 ≤ (m.os.getD k Bun.zero).c ∧ (m.os.getD k Bun.zero).c ≤ 1099511627776
  nf : m.fs.length ≤ 8
  fa : ∀ k, k < m.fs.length → 0 ≤ (m.fs.getD k Flt.zero).a ∧ (m.fs.getD k Flt.zero).a ≤ 1099511627776
  fu : ∀ k, k < m.fs.length → (m.fs.getD k Flt.zero).u = -1 ∨ (0 ≤ (m.fs.getD k Flt.zero).u ∧ (m.fs.getD k Flt.zero).u ≤ 1099511627776)
theorem quE_all : ∀ (qs : List Int), quE qs = 0 → ∀ k, k < qs.length → 0 ≤ qs.getD k 0 ∧ qs.getD k 0 ≤ 1073741824
  | [], _, k, hk => by simp at hk
  | q :: t, h, k, hk => by
    rw [quE] at h
    split at h
    · cases h
    · rename_i hq
      cases k with
      | zero => show 0 ≤ q ∧ q ≤ 1073741824; omega
      | succ k =>
        have := quE_all t h k (by simpa using hk)
        simpa using this
theorem ordsE_all (n : Int) : ∀ (os pre : List Bun), ordsE n pre os = 0 → ∀ k, k < os.length → bunE (os.getD k Bun.zero) = 0
  | [], _, _, k, hk => by simp at hk
  | x :: t, pre, h, k, hk => by
    rw [ordsE] at h
    split at h
    · rename_i hx; exact absurd h hx
    · rename_i hx
      have hx : ordE pre n x = 0 := by simpa using hx
      cases k with
      | zero =>
        show bunE x = 0
        unfold ordE at hx
        split at hx
        · rename_i hb; exact absurd hx hb
        · rename_i hb; simpa using hb
      | succ k =>
        have := ordsE_all n t (pre ++ [x]) h k (by simpa using hk)
        simpa using this
theorem bunE_c {x : Bun} (h : bunE x = 0) : 0 ≤ x.c ∧ x.c ≤ 1099511627776 := by
  have hi : idE x.s x.c x.q x.o x.t = 0 := by
    unfold bunE at h
    split at h
    · rename_i hb; exact absurd h hb
    · rename_i hb; simpa using hb
  have := idE_ok hi
  omega
theorem fltB_ok {n : Int} {f : Flt} (h : fltB n f = false) : 0 ≤ f.a ∧ f.a ≤ 1099511627776 ∧ (f.u = -1 ∨ (f.a < f.u ∧ f.u ≤ 1099511627776)) := by
  unfold fltB at h
  simp only [decide_eq_false_iff_not] at h
  omega
theorem mis_ok1 {m : Mis} (h : misE m = 0) : MisOk1 m := by
  unfold misE at h
  split at h
  · rename_i hp; exact absurd h hp
  rename_i hp
  have hp : planE m.q m.cs = 0 := by simpa using hp
  split at h
  · cases h
  rename_i hl
  split at h
  · rename_i ho; exact absurd h ho
  rename_i ho
  have ho : ordsE m.q.length [] m.os = 0 := by simpa using ho
  split at h
  · cases h
  rename_i hf
  have hf : m.fs.any (fltB m.q.length) = false := by simpa using hf
  have hpl : m.q.length ≤ 16 ∧ quE m.q = 0 := by
    unfold planE at hp
    split at hp
    · cases hp
    rename_i h1
    split at hp
    · cases hp
    rename_i h2
    exact ⟨by omega, by simpa using h2⟩
  have hfl : ∀ k, k < m.fs.length → fltB m.q.length (m.fs.getD k Flt.zero) = false := fun k hk => by
    have := List.any_eq_false.1 hf _ (List.getElem_mem hk)
    simpa [List.getD, List.getElem?_eq_getElem hk] using this
  exact ⟨hp, hpl.1, quE_all m.q hpl.2, by omega, fun k hk => bunE_c (ordsE_all _ _ _ ho k hk), by omega, fun k hk => by have := fltB_ok (hfl k hk); omega, fun k hk => by have := fltB_ok (hfl k hk); omega⟩
theorem own_slice {w : World} {base : Nat} {e : TypeId} {size : Nat} {v : Value} {n : Nat} {xs : List Value} (h : w.ownsRow base e size v n xs) : ∃ A c, v = .slice A n c := by
  rcases h.2 with ⟨rfl, h0⟩ | ⟨g, cap, cur, rfl, -⟩
  · exact ⟨none, 0, by rw [h0]⟩
  · exact ⟨_, cap, rfl⟩
theorem own_frb {w w' : World} {B base pb : Nat} {e : TypeId} {size : Nat} {v : Value} {n : Nat} {xs : List Value} (h : w.ownsRow base e size v n xs) (hf : Frb B pb w w') (hB : w.heap.size ≤ B) (hn : pb < base) : w'.ownsRow base e size v n xs :=
  h.kept (row := some pb) ⟨hf.os, hf.tape, hf.output, hf.size, fun j hj hne => hf.block j (by omega) (fun e => hne (by rw [e]))⟩ (.inr fun e => by have := (h.lt pb e).1; omega)
theorem ints_frb {w w' : World} {B B' pb : Nat} {v : Value} {xs : List Int} (h : Ints w B v xs) (hn : NotAt pb v) (hB : B ≤ B') (hf : Frb B' pb w w') : Ints w' B v xs := by
  obtain ⟨A, c, rfl, h1, h2, h3⟩ := h
  refine ⟨A, c, rfl, h1, h2, fun hp => ?_⟩
  obtain ⟨b, o, rfl, h4, h5⟩ := h3 hp
  exact ⟨b, o, rfl, h4, fun j hj => (World.cell?_of_block (a := ⟨b, o + j, none⟩) (hf.block b (by omega) (hn b rfl))).trans (h5 j hj)⟩
theorem infoNd : ∃ i0, Tryz.prog.info? 69 = some i0 ∧ i0.zero = some (.agg #[.int .i64 0, .int .i64 0, .bool false, .string ⟨#[]⟩, .int .i64 0, .slice none 0 0, .slice none 0 0, .slice none 0 0]) ∧ i0.size = 8 ∧ i0.bytes = 120 := by
  have h : (Tryz.prog.info? 69).map (fun i => (i.zero, i.size, i.bytes)) = some (some (.agg #[.int .i64 0, .int .i64 0, .bool false, .string ⟨#[]⟩, .int .i64 0, .slice none 0 0, .slice none 0 0, .slice none 0 0]), 8, 120) := by kernel_rfl
  obtain ⟨j, hj, hjs⟩ := Option.map_eq_some_iff.1 h
  injection hjs with hz hjs; injection hjs with hs hby
  exact ⟨j, hj, hz, hs, hby⟩
set_option maxRecDepth 100000 in
set_option maxHeartbeats 16000000 in
theorem new_ok (VQ VC VO VF VX : Value) (m : Mis) (w : World) (hM : MisAt w w.heap.size VQ VC VO VF VX m) (hE : misE m = 0) : Calls Tryz.prog 6 #[.agg #[VQ, VC, VO, VF, VX, .bool m.bd]] w fun e w' => ∃ VN VE VA, e = .returned (.tuple #[netV VQ VC VO VF VX m.bd VN VE VA, .int .i64 0]) ∧ Nds w' w'.heap.size VN m.q ∧ Ints w' w'.heap.size VE (List.replicate m.q.length 0) ∧ Evs w' w'.heap.size VA (agL m) ∧ Below w.heap.size w w' := by
  have HM := Lib.hid hM
  have HK := Lib.hid (mis_ok1 hE)
  have HE := Lib.hid hE
  obtain ⟨⟨A1, c1, rfl, hc1, hm1, -⟩, ⟨A2, c2, rfl, hc2, hm2, -⟩, ⟨A3, c3, rfl, hc3, hm3, -⟩, ⟨A4, c4, rfl, hc4, hm4, -⟩, ⟨A5, c5, rfl, -⟩⟩ := hM
  unfold maxLen at hm1 hm2 hm3 hm4
  have hn1 := HK.out.nq
  clear hE
  go_enter Tryz.func6, Tryz.ntmps6
  go_wp2_with fail
  refine (mis_any _ _ _ _ _ m _ (HM.out.on (by (repeat' (first | (with_reducible exact Below.refl _ _) | (with_reducible refine Below.alloc ?_ ?_ _) | (with_reducible refine Below.drew ?_) | (with_reducible refine below_drewN ?_ _) | (with_reducible refine Below.setCell ?_ ?_ _) | (with_reducible refine Below.trans ?_ (Below.mono (by assumption) ?_)) | (with_reducible exact Nat.le_refl _) | omega | (simp; omega) | (simp; done)))))).mono ?_
  rw [HE.out]
  rintro e w1 ⟨rfl, hb1⟩
  have hs1 : w.heap.size + 1 + 1 ≤ w1.heap.size := Nat.le_trans (by simp) hb1.size
  have r0 : w1.heap[w.heap.size]? = some (.cells #[.slice A1 m.q.length c1, .slice A2 m.cs.length c2, .slice A3 m.os.length c3, .slice A4 m.fs.length c4, .slice A5 m.xs.length c5, .bool m.bd] 30 (0, 0)) := (hb1.block w.heap.size (by simp; omega)).trans ((Below.refl (w.heap.size + 1) _).alloc (by simp) _ |>.block w.heap.size (by omega) |>.trans (heap_alloc_last _ _))
  have r1 : w1.heap[w.heap.size + 1]? = some (.cells #[.slice none 0 0, .slice none 0 0, .slice none 0 0, .slice none 0 0, .slice none 0 0, .bool false, .int .i64 0, .int .i64 0, .slice none 0 0, .slice none 0 0, .slice none 0 0, .slice none 0 0, .slice none 0 0, .slice none 0 0, .slice none 0 0, .slice none 0 0, .slice none 0 0] 42 (0, 0)) := (hb1.block (w.heap.size + 1) (by simp)).trans (by rw [← show (w.alloc (.cells #[.slice A1 m.q.length c1, .slice A2 m.cs.length c2, .slice A3 m.os.length c3, .slice A4 m.fs.length c4, .slice A5 m.xs.length c5, .bool m.bd] 30)).heap.size = w.heap.size + 1 by simp]; exact heap_alloc_last _ _)
  have hB1 : Below w.heap.size w w1 := by (repeat' (first | (with_reducible exact Below.refl _ _) | (with_reducible refine Below.alloc ?_ ?_ _) | (with_reducible refine Below.drew ?_) | (with_reducible refine below_drewN ?_ _) | (with_reducible refine Below.setCell ?_ ?_ _) | (with_reducible refine Below.trans ?_ (Below.mono (by assumption) ?_)) | (with_reducible exact Nat.le_refl _) | omega | (simp; omega) | (simp; done)))
  have m0 := cell_blk r0 0
  have m1 := cell_blk r0 1
  simp only [List.getElem?_toArray, List.getElem?_cons_succ, List.getElem?_cons_zero] at m0 m1
  clear hb1
  have HM1 := Lib.hid (HM.out.on hB1)
  go_wp2_with fail
  refine (ledger_new _ _ m.q m.cs _ HM1.out.q HM1.out.c HK.out.plan).mono ?_
  rintro e w2 ⟨rfl, hb2⟩
  have R0 := Lib.hid ((hb2.block w.heap.size (by omega)).trans r0)
  have R1 := Lib.hid ((hb2.block (w.heap.size + 1) (by omega)).trans r1)
  have hB2 : Below w.heap.size w w2 := hB1.trans (hb2.mono (by omega))
  have hs2 : w.heap.size + 1 + 1 ≤ w2.heap.size := Nat.le_trans hs1 hb2.size
  clear r0 r1 m0 m1 hb2 HM1 hs1 hB1
  go_wp2_with fail
  have M0 : ∀ i, (w2.alloc (.cells #[.slice A1 m.q.length c1, .slice A2 m.cs.length c2, .slice none 0 0, .slice none 0 0] 36)).cell? ⟨w.heap.size, i, none⟩ = (#[.slice A1 m.q.length c1, .slice A2 m.cs.length c2, .slice A3 m.os.length c3, .slice A4 m.fs.length c4, .slice A5 m.xs.length c5, .bool m.bd] : Array Value)[i]? := fun i => (World.cell?_alloc_lt w2 _ ⟨w.heap.size, i, none⟩ (by show w.heap.size < w2.heap.size; omega)).trans (cell_blk R0.out i)
  have L0 : ∀ i, (w2.alloc (.cells #[.slice A1 m.q.length c1, .slice A2 m.cs.length c2, .slice none 0 0, .slice none 0 0] 36)).cell? ⟨w2.heap.size, i, none⟩ = (#[.slice A1 m.q.length c1, .slice A2 m.cs.length c2, .slice none 0 0, .slice none 0 0] : Array Value)[i]? := fun i => cell_blk (heap_alloc_last w2 _) i
  have hB3 : Below w.heap.size w (w2.alloc (.cells #[.slice A1 m.q.length c1, .slice A2 m.cs.length c2, .slice none 0 0, .slice none 0 0] 36)) := hB2.alloc (by omega) _
  have R0' := Lib.hid (((Below.refl w2.heap.size w2).alloc (Nat.le_refl _) (.cells #[.slice A1 m.q.length c1, .slice A2 m.cs.length c2, .slice none 0 0, .slice none 0 0] 36)).block w.heap.size (by omega) |>.trans R0.out)
  have R1' := Lib.hid (((Below.refl w2.heap.size w2).alloc (Nat.le_refl _) (.cells #[.slice A1 m.q.length c1, .slice A2 m.cs.length c2, .slice none 0 0, .slice none 0 0] 36)).block (w.heap.size + 1) (by omega) |>.trans R1.out)
  have hs3 : w2.heap.size < (w2.alloc (.cells #[.slice A1 m.q.length c1, .slice A2 m.cs.length c2, .slice none 0 0, .slice none 0 0] 36)).heap.size := by simp
  clear R0 R1
  generalize w2.alloc (.cells #[.slice A1 m.q.length c1, .slice A2 m.cs.length c2, .slice none 0 0, .slice none 0 0] 36) = w3 at *
  have a0 := M0 0
  have a1 := M0 1
  have a2 := M0 2
  have a3 := M0 3
  have a4 := M0 4
  have a5 := M0 5
  have b0 := L0 0
  have b1 := L0 1
  have b2 := L0 2
  have b3 := L0 3
  simp only [List.getElem?_toArray, List.getElem?_cons_succ, List.getElem?_cons_zero] at a0 a1 a2 a3 a4 a5 b0 b1 b2 b3
  clear M0 L0
  refine wp_region_last (fun w' => w'.cell? ⟨w.heap.size, 0, none⟩ = some (.slice A1 m.q.length c1) ∧ w'.cell? ⟨w.heap.size, 1, none⟩ = some (.slice A2 m.cs.length c2) ∧ w'.cell? ⟨w.heap.size, 2, none⟩ = some (.slice A3 m.os.length c3) ∧ w'.cell? ⟨w.heap.size, 3, none⟩ = some (.slice A4 m.fs.length c4) ∧ w'.cell? ⟨w.heap.size, 4, none⟩ = some (.slice A5 m.xs.length c5) ∧ w'.cell? ⟨w.heap.size, 5, none⟩ = some (.bool m.bd) ∧ w'.cell? ⟨w2.heap.size, 0, none⟩ = some (.slice A1 m.q.length c1) ∧ w'.cell? ⟨w2.heap.size, 1, none⟩ = some (.slice A2 m.cs.length c2) ∧ w'.cell? ⟨w2.heap.size, 2, none⟩ = some (.slice none 0 0) ∧ w'.cell? ⟨w2.heap.size, 3, none⟩ = some (.slice none 0 0)) 10 (by kernel_rfl) ⟨a0, a1, a2, a3, a4, a5, b0, b1, b2, b3⟩ (fun hHeld => ?_)
  (refine wpAnyK_take (i := 0) (v := ?_) rfl rfl (by kernel_rfl) (by kernel_rfl) (by kernel_rfl) (by kernel_rfl) (fun _ _ _ h => h) (Or.inl ⟨by kernel_rfl, fun w0 hSw => ?_⟩) hHeld ?_; rotate_left; (focus ((try dsimp only at hSw); (try obtain ⟨s0, s1, s2, s3, s4, s5, s6, s7, s8, s9⟩ := hSw); (try obtain ⟨s0, s1, s2, s3, s4, s5, s6, s7, s8⟩ := hSw); simp only [List.getElem_toArray, List.getElem_cons_zero]; (first | (go_simp; done) | (go_simp; with_reducible rfl)))); (try simp only [List.getElem_toArray, List.getElem_cons_zero, Act.put, List.setIfInBounds_toArray, List.set_cons_zero, List.set_cons_succ]))
  (refine wpAnyK_take (i := 1) (v := ?_) rfl rfl (by kernel_rfl) (by kernel_rfl) (by kernel_rfl) (by kernel_rfl) (fun _ _ _ h => h) (Or.inl ⟨by kernel_rfl, fun w0 hSw => ?_⟩) hHeld ?_; rotate_left; (focus ((try dsimp only at hSw); (try obtain ⟨s0, s1, s2, s3, s4, s5, s6, s7, s8, s9⟩ := hSw); (try obtain ⟨s0, s1, s2, s3, s4, s5, s6, s7, s8⟩ := hSw); simp only [List.getElem_toArray, List.getElem_cons_zero, List.getElem_cons_succ]; (first | (go_simp; done) | (go_simp; with_reducible rfl)))); (try simp only [List.getElem_toArray, List.getElem_cons_zero, List.getElem_cons_succ, Act.put, List.setIfInBounds_toArray, List.set_cons_zero, List.set_cons_succ]))
  (refine wpAnyK_take (i := 2) (v := ?_) rfl rfl (by kernel_rfl) (by kernel_rfl) (by kernel_rfl) (by kernel_rfl) (fun _ _ _ h => h) (Or.inl ⟨by kernel_rfl, fun w0 hSw => ?_⟩) hHeld ?_; rotate_left; (focus ((try dsimp only at hSw); (try obtain ⟨s0, s1, s2, s3, s4, s5, s6, s7, s8, s9⟩ := hSw); (try obtain ⟨s0, s1, s2, s3, s4, s5, s6, s7, s8⟩ := hSw); simp only [List.getElem_toArray, List.getElem_cons_zero, List.getElem_cons_succ]; (first | (go_simp; done) | (go_simp; with_reducible rfl)))); (try simp only [List.getElem_toArray, List.getElem_cons_zero, List.getElem_cons_succ, Act.put, List.setIfInBounds_toArray, List.set_cons_zero, List.set_cons_succ]))
  (refine wpAnyK_take (i := 3) (v := ?_) rfl rfl (by kernel_rfl) (by kernel_rfl) (by kernel_rfl) (by kernel_rfl) (fun _ _ _ h => h) (Or.inl ⟨by kernel_rfl, fun w0 hSw => ?_⟩) hHeld ?_; rotate_left; (focus ((try dsimp only at hSw); (try obtain ⟨s0, s1, s2, s3, s4, s5, s6, s7, s8, s9⟩ := hSw); (try obtain ⟨s0, s1, s2, s3, s4, s5, s6, s7, s8⟩ := hSw); simp only [List.getElem_toArray, List.getElem_cons_zero, List.getElem_cons_succ]; (first | (go_simp; done) | (go_simp; with_reducible rfl)))); (try simp only [List.getElem_toArray, List.getElem_cons_zero, List.getElem_cons_succ, Act.put, List.setIfInBounds_toArray, List.set_cons_zero, List.set_cons_succ]))
  (refine wpAnyK_take (i := 4) (v := ?_) rfl rfl (by kernel_rfl) (by kernel_rfl) (by kernel_rfl) (by kernel_rfl) (fun _ _ _ h => h) (Or.inl ⟨by kernel_rfl, fun w0 hSw => ?_⟩) hHeld ?_; rotate_left; (focus ((try dsimp only at hSw); (try obtain ⟨s0, s1, s2, s3, s4, s5, s6, s7, s8, s9⟩ := hSw); (try obtain ⟨s0, s1, s2, s3, s4, s5, s6, s7, s8⟩ := hSw); simp only [List.getElem_toArray, List.getElem_cons_zero, List.getElem_cons_succ]; (first | (go_simp; done) | (go_simp; with_reducible rfl)))); (try simp only [List.getElem_toArray, List.getElem_cons_zero, List.getElem_cons_succ, Act.put, List.setIfInBounds_toArray, List.set_cons_zero, List.set_cons_succ]))
  (refine wpAnyK_take (i := 5) (v := ?_) rfl rfl (by kernel_rfl) (by kernel_rfl) (by kernel_rfl) (by kernel_rfl) (fun _ _ _ h => h) (Or.inl ⟨by kernel_rfl, fun w0 hSw => ?_⟩) hHeld ?_; rotate_left; (focus ((try dsimp only at hSw); (try obtain ⟨s0, s1, s2, s3, s4, s5, s6, s7, s8, s9⟩ := hSw); (try obtain ⟨s0, s1, s2, s3, s4, s5, s6, s7, s8⟩ := hSw); simp only [List.getElem_toArray, List.getElem_cons_zero, List.getElem_cons_succ]; (first | (go_simp; done) | (go_simp; with_reducible rfl)))); (try simp only [List.getElem_toArray, List.getElem_cons_zero, List.getElem_cons_succ, Act.put, List.setIfInBounds_toArray, List.set_cons_zero, List.set_cons_succ]))
  have HSS : Hid (∀ W, Below w3.heap.size w3 W → W.cell? ⟨w.heap.size, 0, none⟩ = some (.slice A1 m.q.length c1) ∧ W.cell? ⟨w.heap.size, 1, none⟩ = some (.slice A2 m.cs.length c2) ∧ W.cell? ⟨w.heap.size, 2, none⟩ = some (.slice A3 m.os.length c3) ∧ W.cell? ⟨w.heap.size, 3, none⟩ = some (.slice A4 m.fs.length c4) ∧ W.cell? ⟨w.heap.size, 4, none⟩ = some (.slice A5 m.xs.length c5) ∧ W.cell? ⟨w.heap.size, 5, none⟩ = some (.bool m.bd) ∧ W.cell? ⟨w2.heap.size, 0, none⟩ = some (.slice A1 m.q.length c1) ∧ W.cell? ⟨w2.heap.size, 1, none⟩ = some (.slice A2 m.cs.length c2) ∧ W.cell? ⟨w2.heap.size, 2, none⟩ = some (.slice none 0 0) ∧ W.cell? ⟨w2.heap.size, 3, none⟩ = some (.slice none 0 0)) := fun W h =>
    have e1 : ∀ i, W.cell? ⟨w.heap.size, i, none⟩ = w3.cell? ⟨w.heap.size, i, none⟩ := fun i => h.cell (p := ⟨w.heap.size, i, none⟩) (by show w.heap.size < w3.heap.size; omega)
    have e2 : ∀ i, W.cell? ⟨w2.heap.size, i, none⟩ = w3.cell? ⟨w2.heap.size, i, none⟩ := fun i => h.cell (p := ⟨w2.heap.size, i, none⟩) hs3
    ⟨(e1 _).trans a0, (e1 _).trans a1, (e1 _).trans a2, (e1 _).trans a3, (e1 _).trans a4, (e1 _).trans a5, (e2 _).trans b0, (e2 _).trans b1, (e2 _).trans b2, (e2 _).trans b3⟩
  (refine wpAnyK_one (j := 6) (by kernel_rfl) rfl (fun K hK => ?_); (try simp only [List.getElem_toArray, List.getElem_cons_zero, List.getElem_cons_succ]))
  rw [if_pos (by simp [Region.wanted])]
  refine wp_make_ints (.tmp 33) (.tmp 33) rfl m.q.length rfl rfl (by omega) ?_
  intro w4 hown4 hb4
  have h4 : Below w3.heap.size w3 w4 := (Below.drew (Below.refl _ _)).trans hb4
  have hz4 : w3.heap.size < w4.heap.size := by
    rcases hown4.2 with ⟨e, _⟩ | ⟨g, cap, cur, e, _, hg, _⟩
    · cases e
    · cases e; exact blk_lt hg
  have HOW4 := Lib.hid hown4
  refine hK.out _ _ (.inr (HSS.out _ h4)) ?_
  clear hK K hown4 hb4
  (try simp only [Act.put, List.setIfInBounds_toArray, List.set_cons_zero, List.set_cons_succ])
  (refine wpAnyK_one (j := 7) (by kernel_rfl) rfl (fun K hK => ?_); (try simp only [List.getElem_toArray, List.getElem_cons_zero, List.getElem_cons_succ]))
  go_simp
  refine hK.out _ _ (.inr (HSS.out _ h4)) ?_
  clear hK K
  (try simp only [List.getElem_toArray, List.getElem_cons_zero, List.getElem_cons_succ, Act.put, List.setIfInBounds_toArray, List.set_cons_zero, List.set_cons_succ])
  (refine wpAnyK_one (j := 8) (by kernel_rfl) rfl (fun K hK => ?_); (try simp only [List.getElem_toArray, List.getElem_cons_zero, List.getElem_cons_succ]))
  go_simp
  refine hK.out _ _ (.inr (HSS.out _ h4)) ?_
  clear hK K
  (try simp only [List.getElem_toArray, List.getElem_cons_zero, List.getElem_cons_succ, Act.put, List.setIfInBounds_toArray, List.set_cons_zero, List.set_cons_succ])
  (refine wpAnyK_one (j := 9) (by kernel_rfl) rfl (fun K hK => ?_); (try simp only [List.getElem_toArray, List.getElem_cons_zero, List.getElem_cons_succ]))
  go_simp
  have h5 : Below w3.heap.size w3 (w4.alloc (.cells #[.slice A1 m.q.length c1, .slice A2 m.cs.length c2, .slice A3 m.os.length c3, .slice A4 m.fs.length c4, .slice A5 m.xs.length c5, .bool m.bd, .int .i64 0, .int .i64 0, .slice A1 m.q.length c1, .slice A2 m.cs.length c2, .slice none 0 0, .slice none 0 0, .slice none 0 0, .slice (some ⟨w3.heap.size, 0, none⟩) m.q.length m.q.length, .slice none 0 0, .slice none 0 0, .slice none 0 0, .slice none 0 0] 81)) := h4.alloc h4.size _
  refine hK.out _ _ (.inr (HSS.out _ h5)) ?_
  clear hK K
  (try simp only [List.getElem_toArray, List.getElem_cons_zero, List.getElem_cons_succ, Act.put, List.setIfInBounds_toArray, List.set_cons_zero, List.set_cons_succ])
  (refine wpAnyK_one (j := 10) (by kernel_rfl) rfl (fun K hK => ?_); (try simp only [List.getElem_toArray, List.getElem_cons_zero, List.getElem_cons_succ]))
  go_simp
  refine hK.out _ _ (.inl rfl) ?_
  clear hK K
  (try simp only [List.getElem_toArray, List.getElem_cons_zero, List.getElem_cons_succ, Act.put, List.setIfInBounds_toArray, List.set_cons_zero, List.set_cons_succ])
  refine wpAnyK_done (by kernel_rfl) ?_ _
  have RM := Lib.hid (heap_alloc_last w4 (.cells #[.slice A1 m.q.length c1, .slice A2 m.cs.length c2, .slice A3 m.os.length c3, .slice A4 m.fs.length c4, .slice A5 m.xs.length c5, .bool m.bd, .int .i64 0, .int .i64 0, .slice A1 m.q.length c1, .slice A2 m.cs.length c2, .slice none 0 0, .slice none 0 0, .slice none 0 0, .slice (some ⟨w3.heap.size, 0, none⟩) m.q.length m.q.length, .slice none 0 0, .slice none 0 0, .slice none 0 0, .slice none 0 0] 81))
  have hz5 : (w4.alloc (.cells #[.slice A1 m.q.length c1, .slice A2 m.cs.length c2, .slice A3 m.os.length c3, .slice A4 m.fs.length c4, .slice A5 m.xs.length c5, .bool m.bd, .int .i64 0, .int .i64 0, .slice A1 m.q.length c1, .slice A2 m.cs.length c2, .slice none 0 0, .slice none 0 0, .slice none 0 0, .slice (some ⟨w3.heap.size, 0, none⟩) m.q.length m.q.length, .slice none 0 0, .slice none 0 0, .slice none 0 0, .slice none 0 0] 81)).heap.size = w4.heap.size + 1 := by simp
  have HE5 := Lib.hid (ints_of_own (by simp) (own_below HOW4.out ((Below.refl w4.heap.size w4).alloc (Nat.le_refl _) (.cells #[.slice A1 m.q.length c1, .slice A2 m.cs.length c2, .slice A3 m.os.length c3, .slice A4 m.fs.length c4, .slice A5 m.xs.length c5, .bool m.bd, .int .i64 0, .int .i64 0, .slice A1 m.q.length c1, .slice A2 m.cs.length c2, .slice none 0 0, .slice none 0 0, .slice none 0 0, .slice (some ⟨w3.heap.size, 0, none⟩) m.q.length m.q.length, .slice none 0 0, .slice none 0 0, .slice none 0 0, .slice none 0 0] 81))))
  have R0 := Lib.hid ((h5.block w.heap.size (by omega)).trans R0'.out)
  have R1 := Lib.hid ((h5.block (w.heap.size + 1) (by omega)).trans R1'.out)
  have hB5 : Below w.heap.size w (w4.alloc (.cells #[.slice A1 m.q.length c1, .slice A2 m.cs.length c2, .slice A3 m.os.length c3, .slice A4 m.fs.length c4, .slice A5 m.xs.length c5, .bool m.bd, .int .i64 0, .int .i64 0, .slice A1 m.q.length c1, .slice A2 m.cs.length c2, .slice none 0 0, .slice none 0 0, .slice none 0 0, .slice (some ⟨w3.heap.size, 0, none⟩) m.q.length m.q.length, .slice none 0 0, .slice none 0 0, .slice none 0 0, .slice none 0 0] 81)) := hB3.trans (h5.mono (by omega))
  clear R0' R1' HSS a0 a1 a2 a3 a4 a5 b0 b1 b2 b3 HOW4 h5 hHeld hB2 hB3
  generalize w4.alloc (.cells #[.slice A1 m.q.length c1, .slice A2 m.cs.length c2, .slice A3 m.os.length c3, .slice A4 m.fs.length c4, .slice A5 m.xs.length c5, .bool m.bd, .int .i64 0, .int .i64 0, .slice A1 m.q.length c1, .slice A2 m.cs.length c2, .slice none 0 0, .slice none 0 0, .slice none 0 0, .slice (some ⟨w3.heap.size, 0, none⟩) m.q.length m.q.length, .slice none 0 0, .slice none 0 0, .slice none 0 0, .slice none 0 0] 81) = w5 at *
  have q0 := cell_blk R0.out 0
  simp only [List.getElem?_toArray, List.getElem?_cons_zero] at q0
  have hle : w.heap.size ≤ w4.heap.size := by omega
  have hlw5 : w.heap.size ≤ w5.heap.size := by omega
  go_wp2_with fail
  clear q0
  go_loopw [42] (fun i wr => ∃ (k : Nat) (VN : Value), k ≤ m.q.length ∧ i = .int .i64 k ∧ wr.heap[w4.heap.size]? = some (.cells #[.slice A1 m.q.length c1, .slice A2 m.cs.length c2, .slice A3 m.os.length c3, .slice A4 m.fs.length c4, .slice A5 m.xs.length c5, .bool m.bd, .int .i64 0, .int .i64 0, .slice A1 m.q.length c1, .slice A2 m.cs.length c2, .slice none 0 0, .slice none 0 0, VN, .slice (some ⟨w3.heap.size, 0, none⟩) m.q.length m.q.length, .slice none 0 0, .slice none 0 0, .slice none 0 0, .slice none 0 0] 81 (0, 0)) ∧ wr.ownsRow w5.heap.size 69 8 VN k (ndCells 0 (m.q.take k)) ∧ Frb w5.heap.size w4.heap.size w5 wr) (fun i _ => m.q.length - (intOf i).toNat)
  case atStart => exact ⟨0, _, by omega, rfl, RM.out, World.ownsRow_nil _ _ _ _, Frb.refl _ _ _⟩
  case round =>
    obtain ⟨k, VN, hk, rfl, hrm, hown, hF⟩ := hrel
    have hBw : Below w.heap.size w wr := hF.below hB5 hle hlw5
    have hzr := hF.size
    by_cases hlt : k < m.q.length
    · obtain ⟨A0, c0, e0, -, -, hA0⟩ := (HM.out.below hBw).q
      obtain ⟨b, o, rfl, hb, hcell⟩ : ∃ b o, A1 = some ⟨b, o, none⟩ ∧ b < w.heap.size ∧ ∀ j, j < m.q.length → wr.cell? ⟨b, o + j, none⟩ = some (.int .i64 (m.q.getD j 0)) := by
        injection e0 with e0
        subst e0
        exact hA0 (by omega)
      have hx := hcell k hlt
      have HQ := Lib.hid (HK.out.qs k hlt)
      have htk : m.q.take (k + 1) = m.q.take k ++ [m.q.getD k 0] := take_get m.q 0 k hlt
      have htl : (m.q.take k).length = k := by rw [List.length_take]; omega
      have HCC : Hid (ndCells 0 (m.q.take (k + 1)) = ndCells 0 (m.q.take k) ++ ndVals k (m.q.getD k 0)) := by show _ = _; rw [htk, ndCells_snoc, htl, Nat.zero_add]
      have HRM := Lib.hid hrm
      have HOW := Lib.hid hown
      clear hcell htk htl e0 hA0 hrm hown
      generalize m.q.getD k 0 = q at *
      go_wp2_with fail
      refine (node_new k q (by omega) (by omega) HQ.out.1 HQ.out.2 wr).mono ?_
      rintro e w6 ⟨rfl, hb6⟩
      dsimp only [nodeV]
      have hz6 := hb6.size
      go_wp2_with fail
      have hb7 : Below wr.heap.size wr (w6.alloc (.cells (ndVals k q).toArray 69)) := hb6.alloc hz6 _
      have L7 : ∀ i, (w6.alloc (.cells (ndVals k q).toArray 69)).cell? ⟨w6.heap.size, i, none⟩ = (ndVals k q)[i]? := fun i => (cell_blk (heap_alloc_last w6 _) i).trans (by simp)
      have hz7 : w6.heap.size < (w6.alloc (.cells (ndVals k q).toArray 69)).heap.size := by simp
      dsimp only [ndVals] at L7 hb7 hz7
      generalize w6.alloc (.cells _ 69) = w7 at *
      have l0 := L7 0
      have l1 := L7 1
      have l2 := L7 2
      have l3 := L7 3
      have l4 := L7 4
      have l5 := L7 5
      have l6 := L7 6
      have l7 := L7 7
      simp only [List.getElem?_cons_succ, List.getElem?_cons_zero] at l0 l1 l2 l3 l4 l5 l6 l7
      have hmb : w4.heap.size < wr.heap.size := blk_lt HRM.out
      have HR7 := Lib.hid ((hb7.block w4.heap.size hmb).trans HRM.out)
      have HO7 := Lib.hid (own_below HOW.out hb7)
      obtain ⟨AN, cN, rfl⟩ := own_slice HOW.out
      have y12 := cell_blk HR7.out 12
      simp only [List.getElem?_toArray, List.getElem?_cons_succ, List.getElem?_cons_zero] at y12
      have HOL : Hid (∀ j, (Value.slice AN k cN).ownBlock = some j → w5.heap.size ≤ j ∧ j < wr.heap.size) := fun j hj => HOW.out.lt j hj
      clear L7 HRM HOW
      refine wp_region_last (fun w' => w'.cell? ⟨w4.heap.size, 12, none⟩ = some (.slice AN k cN) ∧ w'.cell? ⟨w6.heap.size, 0, none⟩ = some (.int .i64 k) ∧ w'.cell? ⟨w6.heap.size, 1, none⟩ = some (.int .i64 q) ∧ w'.cell? ⟨w6.heap.size, 2, none⟩ = some (.bool true) ∧ w'.cell? ⟨w6.heap.size, 3, none⟩ = some (.string ⟨#[]⟩) ∧ w'.cell? ⟨w6.heap.size, 4, none⟩ = some (.int .i64 0) ∧ w'.cell? ⟨w6.heap.size, 5, none⟩ = some (.slice none 0 0) ∧ w'.cell? ⟨w6.heap.size, 6, none⟩ = some (.slice none 0 0) ∧ w'.cell? ⟨w6.heap.size, 7, none⟩ = some (.slice none 0 0)) 12 (by kernel_rfl) ⟨y12, l0, l1, l2, l3, l4, l5, l6, l7⟩ (fun hHeld => ?_)
      (refine wpAnyK_take (i := 0) (v := ?_) rfl rfl (by kernel_rfl) (by kernel_rfl) (by kernel_rfl) (by kernel_rfl) (fun _ _ _ h => h) (Or.inl ⟨by kernel_rfl, fun w0 hSw => ?_⟩) hHeld ?_; rotate_left; (focus ((try dsimp only at hSw); (try obtain ⟨s0, s1, s2, s3, s4, s5, s6, s7, s8, s9⟩ := hSw); (try obtain ⟨s0, s1, s2, s3, s4, s5, s6, s7, s8⟩ := hSw); simp only [List.getElem_toArray, List.getElem_cons_zero]; (first | (go_simp; done) | (go_simp; with_reducible rfl)))); (try simp only [List.getElem_toArray, List.getElem_cons_zero, Act.put, List.setIfInBounds_toArray, List.set_cons_zero, List.set_cons_succ]))
      (refine wpAnyK_take (i := 1) (v := ?_) rfl rfl (by kernel_rfl) (by kernel_rfl) (by kernel_rfl) (by kernel_rfl) (fun _ _ _ h => h) (Or.inl ⟨by kernel_rfl, fun w0 hSw => ?_⟩) hHeld ?_; rotate_left; (focus ((try dsimp only at hSw); (try obtain ⟨s0, s1, s2, s3, s4, s5, s6, s7, s8, s9⟩ := hSw); (try obtain ⟨s0, s1, s2, s3, s4, s5, s6, s7, s8⟩ := hSw); simp only [List.getElem_toArray, List.getElem_cons_zero, List.getElem_cons_succ]; (first | (go_simp; done) | (go_simp; with_reducible rfl)))); (try simp only [List.getElem_toArray, List.getElem_cons_zero, List.getElem_cons_succ, Act.put, List.setIfInBounds_toArray, List.set_cons_zero, List.set_cons_succ]))
      (refine wpAnyK_take (i := 2) (v := ?_) rfl rfl (by kernel_rfl) (by kernel_rfl) (by kernel_rfl) (by kernel_rfl) (fun _ _ _ h => h) (Or.inl ⟨by kernel_rfl, fun w0 hSw => ?_⟩) hHeld ?_; rotate_left; (focus ((try dsimp only at hSw); (try obtain ⟨s0, s1, s2, s3, s4, s5, s6, s7, s8, s9⟩ := hSw); (try obtain ⟨s0, s1, s2, s3, s4, s5, s6, s7, s8⟩ := hSw); simp only [List.getElem_toArray, List.getElem_cons_zero, List.getElem_cons_succ]; (first | (go_simp; done) | (go_simp; with_reducible rfl)))); (try simp only [List.getElem_toArray, List.getElem_cons_zero, List.getElem_cons_succ, Act.put, List.setIfInBounds_toArray, List.set_cons_zero, List.set_cons_succ]))
      (refine wpAnyK_take (i := 3) (v := ?_) rfl rfl (by kernel_rfl) (by kernel_rfl) (by kernel_rfl) (by kernel_rfl) (fun _ _ _ h => h) (Or.inl ⟨by kernel_rfl, fun w0 hSw => ?_⟩) hHeld ?_; rotate_left; (focus ((try dsimp only at hSw); (try obtain ⟨s0, s1, s2, s3, s4, s5, s6, s7, s8, s9⟩ := hSw); (try obtain ⟨s0, s1, s2, s3, s4, s5, s6, s7, s8⟩ := hSw); simp only [List.getElem_toArray, List.getElem_cons_zero, List.getElem_cons_succ]; (first | (go_simp; done) | (go_simp; with_reducible rfl)))); (try simp only [List.getElem_toArray, List.getElem_cons_zero, List.getElem_cons_succ, Act.put, List.setIfInBounds_toArray, List.set_cons_zero, List.set_cons_succ]))
      (refine wpAnyK_take (i := 4) (v := ?_) rfl rfl (by kernel_rfl) (by kernel_rfl) (by kernel_rfl) (by kernel_rfl) (fun _ _ _ h => h) (Or.inl ⟨by kernel_rfl, fun w0 hSw => ?_⟩) hHeld ?_; rotate_left; (focus ((try dsimp only at hSw); (try obtain ⟨s0, s1, s2, s3, s4, s5, s6, s7, s8, s9⟩ := hSw); (try obtain ⟨s0, s1, s2, s3, s4, s5, s6, s7, s8⟩ := hSw); simp only [List.getElem_toArray, List.getElem_cons_zero, List.getElem_cons_succ]; (first | (go_simp; done) | (go_simp; with_reducible rfl)))); (try simp only [List.getElem_toArray, List.getElem_cons_zero, List.getElem_cons_succ, Act.put, List.setIfInBounds_toArray, List.set_cons_zero, List.set_cons_succ]))
      (refine wpAnyK_take (i := 5) (v := ?_) rfl rfl (by kernel_rfl) (by kernel_rfl) (by kernel_rfl) (by kernel_rfl) (fun _ _ _ h => h) (Or.inl ⟨by kernel_rfl, fun w0 hSw => ?_⟩) hHeld ?_; rotate_left; (focus ((try dsimp only at hSw); (try obtain ⟨s0, s1, s2, s3, s4, s5, s6, s7, s8, s9⟩ := hSw); (try obtain ⟨s0, s1, s2, s3, s4, s5, s6, s7, s8⟩ := hSw); simp only [List.getElem_toArray, List.getElem_cons_zero, List.getElem_cons_succ]; (first | (go_simp; done) | (go_simp; with_reducible rfl)))); (try simp only [List.getElem_toArray, List.getElem_cons_zero, List.getElem_cons_succ, Act.put, List.setIfInBounds_toArray, List.set_cons_zero, List.set_cons_succ]))
      (refine wpAnyK_take (i := 6) (v := ?_) rfl rfl (by kernel_rfl) (by kernel_rfl) (by kernel_rfl) (by kernel_rfl) (fun _ _ _ h => h) (Or.inl ⟨by kernel_rfl, fun w0 hSw => ?_⟩) hHeld ?_; rotate_left; (focus ((try dsimp only at hSw); (try obtain ⟨s0, s1, s2, s3, s4, s5, s6, s7, s8, s9⟩ := hSw); (try obtain ⟨s0, s1, s2, s3, s4, s5, s6, s7, s8⟩ := hSw); simp only [List.getElem_toArray, List.getElem_cons_zero, List.getElem_cons_succ]; (first | (go_simp; done) | (go_simp; with_reducible rfl)))); (try simp only [List.getElem_toArray, List.getElem_cons_zero, List.getElem_cons_succ, Act.put, List.setIfInBounds_toArray, List.set_cons_zero, List.set_cons_succ]))
      have HSS : Hid (∀ W, Below w7.heap.size w7 W → W.cell? ⟨w4.heap.size, 12, none⟩ = some (.slice AN k cN) ∧ W.cell? ⟨w6.heap.size, 0, none⟩ = some (.int .i64 k) ∧ W.cell? ⟨w6.heap.size, 1, none⟩ = some (.int .i64 q) ∧ W.cell? ⟨w6.heap.size, 2, none⟩ = some (.bool true) ∧ W.cell? ⟨w6.heap.size, 3, none⟩ = some (.string ⟨#[]⟩) ∧ W.cell? ⟨w6.heap.size, 4, none⟩ = some (.int .i64 0) ∧ W.cell? ⟨w6.heap.size, 5, none⟩ = some (.slice none 0 0) ∧ W.cell? ⟨w6.heap.size, 6, none⟩ = some (.slice none 0 0) ∧ W.cell? ⟨w6.heap.size, 7, none⟩ = some (.slice none 0 0)) := fun W h =>
        have e1 : ∀ i, W.cell? ⟨w6.heap.size, i, none⟩ = w7.cell? ⟨w6.heap.size, i, none⟩ := fun i => h.cell (p := ⟨w6.heap.size, i, none⟩) hz7
        ⟨(h.cell (p := ⟨w4.heap.size, 12, none⟩) (by show w4.heap.size < w7.heap.size; omega)).trans y12, (e1 _).trans l0, (e1 _).trans l1, (e1 _).trans l2, (e1 _).trans l3, (e1 _).trans l4, (e1 _).trans l5, (e1 _).trans l6, (e1 _).trans l7⟩
      obtain ⟨i0, hi, hz0, hz1, hz2⟩ := infoNd
      have HI : Hid ((Tryz.prog.info? 69 = some i0) ∧ i0.zero = some (.agg #[.int .i64 0, .int .i64 0, .bool false, .string ⟨#[]⟩, .int .i64 0, .slice none 0 0, .slice none 0 0, .slice none 0 0]) ∧ i0.size = 8 ∧ i0.bytes = 120) := ⟨hi, hz0, hz1, hz2⟩
      clear hi hz0 hz1 hz2
      (refine wpAnyK_one (j := 7) (by kernel_rfl) rfl (fun K hK => ?_); (try simp only [List.getElem_toArray, List.getElem_cons_zero, List.getElem_cons_succ]))
      go_simp
      have h8 : Below w7.heap.size w7 (w7.alloc (.cells #[.int .i64 k, .int .i64 q, .bool true, .string ⟨#[]⟩, .int .i64 0, .slice none 0 0, .slice none 0 0, .slice none 0 0] 69)).drew := Below.drew ((Below.refl _ _).alloc (Nat.le_refl _) _)
      have HO8 : Hid ((w7.alloc (.cells #[.int .i64 k, .int .i64 q, .bool true, .string ⟨#[]⟩, .int .i64 0, .slice none 0 0, .slice none 0 0, .slice none 0 0] 69)).drew.ownsRow w5.heap.size 69 8 (.slice AN k cN) k (ndCells 0 (m.q.take k))) := own_below HO7.out h8
      have HN8 : Hid (∀ j u, (ndVals k q)[j]? = some u → (w7.alloc (.cells #[.int .i64 k, .int .i64 q, .bool true, .string ⟨#[]⟩, .int .i64 0, .slice none 0 0, .slice none 0 0, .slice none 0 0] 69)).drew.cell? ((⟨w7.heap.size, 0, none⟩ : Addr).add j) = some u) := World.news_of_block (heap_alloc_last w7 (.cells #[.int .i64 k, .int .i64 q, .bool true, .string ⟨#[]⟩, .int .i64 0, .slice none 0 0, .slice none 0 0, .slice none 0 0] 69))
      have hs8 : w7.heap.size ≤ (w7.alloc (.cells #[.int .i64 k, .int .i64 q, .bool true, .string ⟨#[]⟩, .int .i64 0, .slice none 0 0, .slice none 0 0, .slice none 0 0] 69)).drew.heap.size := h8.size
      have HS8 : Hid ((w7.alloc (.cells #[.int .i64 k, .int .i64 q, .bool true, .string ⟨#[]⟩, .int .i64 0, .slice none 0 0, .slice none 0 0, .slice none 0 0] 69)).drew.heap.size = w7.heap.size + 1) := by show _ = _; show (w7.alloc (.cells #[.int .i64 k, .int .i64 q, .bool true, .string ⟨#[]⟩, .int .i64 0, .slice none 0 0, .slice none 0 0, .slice none 0 0] 69)).heap.size = _; simp
      refine hK.out _ _ (.inr (HSS.out _ h8)) ?_
      clear hK K
      (try simp only [List.getElem_toArray, List.getElem_cons_zero, List.getElem_cons_succ, Act.put, List.setIfInBounds_toArray, List.set_cons_zero, List.set_cons_succ])
      (refine wpAnyK_one (j := 8) (by kernel_rfl) rfl (fun K hK => ?_); (try simp only [List.getElem_toArray, List.getElem_cons_zero, List.getElem_cons_succ]))
      rw [if_pos (by simp [Region.wanted])]
      refine wp_append_lies (w7.alloc (.cells #[.int .i64 k, .int .i64 q, .bool true, .string ⟨#[]⟩, .int .i64 0, .slice none 0 0, .slice none 0 0, .slice none 0 0] 69)).drew (.tmp 58) (.tmp 60) 37 rfl w5.heap.size 69 i0 (.agg #[.int .i64 0, .int .i64 0, .bool false, .string ⟨#[]⟩, .int .i64 0, .slice none 0 0, .slice none 0 0, .slice none 0 0]) 8 120 Tryz.underlying37 HI.out.1 HI.out.2.1 HI.out.2.2.1 HI.out.2.2.2 rfl (by decide) (.slice AN k cN) k (ndCells 0 (m.q.take k)) (by kernel_rfl) HO8.out ⟨w7.heap.size, 0, none⟩ 1 1 (ndVals k q) (by kernel_rfl) rfl HN8.out (ndVals_one k q) (by decide) (by unfold maxLen; omega) (by omega) (by rw [HS8.out]; have := hb7.size; omega) (w7.heap.size + 1) HS8.out ?_
      intro g cap w9 hown9 hgrow9 hat9 hlt9
      have S8 := HSS.out _ h8
      have nr : ∀ b', (b' < w5.heap.size ∨ wr.heap.size ≤ b') → some b' ≠ (Value.slice AN k cN).ownBlock := fun b' hb' e => by have := HOL.out b' e.symm; omega
      have k9 : ∀ i u, (w7.alloc (.cells #[.int .i64 k, .int .i64 q, .bool true, .string ⟨#[]⟩, .int .i64 0, .slice none 0 0, .slice none 0 0, .slice none 0 0] 69)).drew.cell? ⟨w6.heap.size, i, none⟩ = some u → w9.cell? ⟨w6.heap.size, i, none⟩ = some u := fun i u h => hgrow9.cell h (nr _ (.inr hz6))
      have y9 : w9.cell? ⟨w4.heap.size, 12, none⟩ = some (.slice AN k cN) := hgrow9.cell S8.1 (nr w4.heap.size (.inl (by omega)))
      have S9 : Hid (w9.cell? ⟨w4.heap.size, 12, none⟩ = some (.slice AN k cN) ∧ w9.cell? ⟨w6.heap.size, 0, none⟩ = some (.int .i64 k) ∧ w9.cell? ⟨w6.heap.size, 1, none⟩ = some (.int .i64 q) ∧ w9.cell? ⟨w6.heap.size, 2, none⟩ = some (.bool true) ∧ w9.cell? ⟨w6.heap.size, 3, none⟩ = some (.string ⟨#[]⟩) ∧ w9.cell? ⟨w6.heap.size, 4, none⟩ = some (.int .i64 0) ∧ w9.cell? ⟨w6.heap.size, 5, none⟩ = some (.slice none 0 0) ∧ w9.cell? ⟨w6.heap.size, 6, none⟩ = some (.slice none 0 0) ∧ w9.cell? ⟨w6.heap.size, 7, none⟩ = some (.slice none 0 0)) :=
        ⟨y9, k9 _ _ S8.2.1, k9 _ _ S8.2.2.1, k9 _ _ S8.2.2.2.1, k9 _ _ S8.2.2.2.2.1, k9 _ _ S8.2.2.2.2.2.1, k9 _ _ S8.2.2.2.2.2.2.1, k9 _ _ S8.2.2.2.2.2.2.2.1, k9 _ _ S8.2.2.2.2.2.2.2.2⟩
      have HF9 : Hid (Frb w5.heap.size w4.heap.size w5 w9) := hF.trans ((Frb.of_below ((hb7.trans (h8.mono hb7.size)).mono hzr)).trans ⟨hgrow9.os, hgrow9.tape, hgrow9.output, hgrow9.size, fun j hj _ => hgrow9.block j (by rw [HS8.out]; have := hb7.size; omega) (nr j (.inl hj))⟩)
      have HM9 := Lib.hid ((hgrow9.block w4.heap.size (by rw [HS8.out]; have := hb7.size; omega) (nr w4.heap.size (.inl (by omega)))).trans ((h8.block w4.heap.size (by have := hb7.size; omega)).trans HR7.out))
      have f9 : w9.frozen? ⟨w4.heap.size, 12, none⟩ = false := frozen_blk HM9.out 12
      have HO9 : Hid (w9.ownsRow w5.heap.size 69 8 (.slice (some ⟨g, 0, none⟩) (k + 1) cap) (k + 1) (ndCells 0 (m.q.take (k + 1)))) := by show World.ownsRow _ _ _ _ _ _ _; rw [HCC.out]; exact hown9
      clear hown9 hgrow9 hat9 k9 nr S8 HO8 HN8 HI HSS h8 hs8 HOL HO7 HR7 l0 l1 l2 l3 l4 l5 l6 l7 y12
      refine hK.out _ _ (.inr S9.out) ?_
      clear hK K
      (try simp only [Act.put, List.setIfInBounds_toArray, List.set_cons_zero, List.set_cons_succ])
      (refine wpAnyK_one (j := 9) (by kernel_rfl) rfl (fun K hK => ?_); (try simp only [List.getElem_toArray, List.getElem_cons_zero, List.getElem_cons_succ]))
      go_simp
      refine hK.out _ _ (.inr S9.out) ?_
      clear hK K
      (try simp only [List.getElem_toArray, List.getElem_cons_zero, List.getElem_cons_succ, Act.put, List.setIfInBounds_toArray, List.set_cons_zero, List.set_cons_succ])
      (refine wpAnyK_one (j := 10) (by kernel_rfl) rfl (fun K hK => ?_); (try simp only [List.getElem_toArray, List.getElem_cons_zero, List.getElem_cons_succ]))
      go_simp
      refine hK.out _ _ (.inr S9.out) ?_
      clear hK K
      (try simp only [List.getElem_toArray, List.getElem_cons_zero, List.getElem_cons_succ, Act.put, List.setIfInBounds_toArray, List.set_cons_zero, List.set_cons_succ])
      (refine wpAnyK_one (j := 11) (by kernel_rfl) rfl (fun K hK => ?_); (try simp only [List.getElem_toArray, List.getElem_cons_zero, List.getElem_cons_succ]))
      go_simp
      refine hK.out _ _ (.inr S9.out) ?_
      clear hK K
      (try simp only [List.getElem_toArray, List.getElem_cons_zero, List.getElem_cons_succ, Act.put, List.setIfInBounds_toArray, List.set_cons_zero, List.set_cons_succ])
      (refine wpAnyK_one (j := 12) (by kernel_rfl) rfl (fun K hK => ?_); (try simp only [List.getElem_toArray, List.getElem_cons_zero, List.getElem_cons_succ]))
      go_simp
      refine hK.out _ _ (.inl rfl) ?_
      clear hK K
      (try simp only [List.getElem_toArray, List.getElem_cons_zero, List.getElem_cons_succ, Act.put, List.setIfInBounds_toArray, List.set_cons_zero, List.set_cons_succ])
      refine wpAnyK_done (by kernel_rfl) ?_ _
      have hm10 := heap_set HM9.out (i := 12) (.slice (some ⟨g, 0, none⟩) (k + 1) cap)
      simp only [List.setIfInBounds_toArray, List.set_cons_succ, List.set_cons_zero] at hm10
      have HM10 := Lib.hid hm10
      have HO10 := Lib.hid (ownsRow_setCell_below HO9.out (a := ⟨w4.heap.size, 12, none⟩) (by show w4.heap.size < w5.heap.size; omega) (.slice (some ⟨g, 0, none⟩) (k + 1) cap))
      have HF10 := Lib.hid (HF9.out.trans (frb_setCell w5.heap.size w9 w4.heap.size 12 (.slice (some ⟨g, 0, none⟩) (k + 1) cap)))
      clear hm10 HM9 HO9 HF9 S9 y9 f9 hHeld hF hBw
      generalize w9.setCell ⟨w4.heap.size, 12, none⟩ (.slice (some ⟨g, 0, none⟩) (k + 1) cap) = w10 at *
      go_wp2_with fail
      go_roundw
      case rel => exact ⟨k + 1, _, by omega, by go_num, HM10.out, HO10.out, HF10.out⟩
      case measure => simp [intOf]; omega
    · obtain rfl : k = m.q.length := by omega
      obtain ⟨w6, rfl⟩ : ∃ w6 : World, w6 = wr := ⟨_, rfl⟩
      have HO6 : Hid (w6.ownsRow w5.heap.size 69 8 VN m.q.length (ndCells 0 m.q)) := by show World.ownsRow _ _ _ _ _ _ _; rw [List.take_length] at hown; exact hown
      have HMC := Lib.hid hrm
      have HF6 := Lib.hid hF
      have HB6 := Lib.hid hBw
      have hz6 := hzr
      have p2 := (hF.cell (b := w.heap.size) (by omega) (by omega) 2).trans (cell_blk R0.out 2)
      have p3 := (hF.cell (b := w.heap.size) (by omega) (by omega) 3).trans (cell_blk R0.out 3)
      simp only [List.getElem?_toArray, List.getElem?_cons_succ, List.getElem?_cons_zero] at p2 p3
      have P3 := Lib.hid p3
      have hn2 := HK.out.no
      have hmb6 : w4.heap.size < w6.heap.size := blk_lt hrm
      clear hown hrm hF hBw hzr p3 RM hlt
      go_wp2_with fail
      clear p2
      go_loopw [69] (fun i wr => ∃ (k : Nat) (l : List Ev) (VA : Value), k ≤ m.os.length ∧ i = .int .i64 k ∧ wr.heap[w4.heap.size]? = some (.cells #[.slice A1 m.q.length c1, .slice A2 m.cs.length c2, .slice A3 m.os.length c3, .slice A4 m.fs.length c4, .slice A5 m.xs.length c5, .bool m.bd, .int .i64 0, .int .i64 0, .slice A1 m.q.length c1, .slice A2 m.cs.length c2, .slice none 0 0, .slice none 0 0, VN, .slice (some ⟨w3.heap.size, 0, none⟩) m.q.length m.q.length, .slice none 0 0, VA, .slice none 0 0, .slice none 0 0] 81 (0, 0)) ∧ Evs wr wr.heap.size VA l ∧ Aft w4.heap.size VA ∧ AgOk l ∧ l.length ≤ k ∧ Hid (agO l k (m.os.drop k) = agO [] 0 m.os) ∧ Frb w6.heap.size w4.heap.size w6 wr) (fun i _ => m.os.length - (intOf i).toNat)
      case atStart => exact ⟨0, [], _, by omega, rfl, HMC.out, Sl.nil _ _ _ _ _, fun _ h => (by cases h), ⟨by simp, fun i hi => by simp at hi, fun i hi => by simp at hi⟩, by simp, rfl, Frb.refl _ _ _⟩
      case round =>
        obtain ⟨k, l, VA, hk, rfl, hrm, hev, haf, hag, hll, hgo, hF⟩ := hrel
        have hBw : Below w.heap.size w wr := hF.below HB6.out hle (by omega)
        have hzr := hF.size
        by_cases hlt : k < m.os.length
        · obtain ⟨A0, c0, e0, -, -, hA0⟩ := (HM.out.below hBw).o
          obtain ⟨b, o, rfl, hb, hcell⟩ : ∃ b o, A3 = some ⟨b, o, none⟩ ∧ b < w.heap.size ∧ ∀ j, j < m.os.length → BunAt wr w.heap.size b (o + j * 12) (m.os.getD j Bun.zero) := by
            injection e0 with e0
            subst e0
            exact hA0 (by omega)
          obtain ⟨x0, x1, x2, x3, x4, x5, x6, x7, x8, x9, ⟨V, x10, hV⟩, x11⟩ := hcell k hlt
          have HQ := Lib.hid (HK.out.oc k hlt)
          have HST := Lib.hid (agO_step l m.os k hlt)
          have HRM := Lib.hid hrm
          have HEV := Lib.hid hev
          have HAF := Lib.hid haf
          have HAG := Lib.hid hag
          have hone : V.oneCell' = true := by obtain ⟨A9, c9, rfl, -⟩ := hV; rfl
          obtain ⟨AV, cV, rfl, -⟩ := hV
          clear hcell e0 hA0 hrm hev haf hag hone
          generalize m.os.getD k Bun.zero = d at *
          go_wp2_with fail
          have h7 : Below wr.heap.size wr (wr.alloc (.cells #[.int .i64 d.s, .int .i64 d.c, .int .i64 d.q, .int .i64 d.o, .int .i64 d.t, .int .i64 d.dk, .int .i64 d.dn, .int .i64 d.lf, .int .i64 d.pr, .int .i64 d.fl, .slice AV d.bl.length cV, .string d.py] 59)) := (Below.refl _ _).alloc (Nat.le_refl _) _
          generalize wr.alloc (.cells _ 59) = w7 at *
          have hmr : w4.heap.size < wr.heap.size := blk_lt HRM.out
          refine (sched_any w4.heap.size _ _ _ _ _ _ _ _ _ _ _ _ _ _ _ VA _ _ l d.c 7 k w7 ((h7.block _ hmr).trans HRM.out) ((HEV.out.below h7).more h7.size) HAF.out HAG.out (ev_ok HQ.out.1 HQ.out.2 (by decide) (by decide) (by omega) (by omega)) (by omega)).mono ?_
          rintro e w8 ⟨VA', r, rfl, hm8, hev8, haf8, hf8⟩
          have HM8 := Lib.hid hm8
          have HEV8 := Lib.hid hev8
          have HAF8 := Lib.hid haf8
          have HAG8 := Lib.hid (ag_add HAG.out (x := ⟨d.c, 7, k⟩) (ev_ok HQ.out.1 HQ.out.2 (by decide) (by decide) (by omega) (by omega)) (by omega))
          have hl8 := addL_len l ⟨d.c, 7, k⟩
          have HF8 := Lib.hid (hF.trans (((Frb.of_below h7).less hzr).trans (hf8.less (Nat.le_trans hzr h7.size))))
          have HG8 : Hid (agO (addL l ⟨d.c, 7, k⟩) (k + 1) (m.os.drop (k + 1)) = agO [] 0 m.os) := by show _ = _; rw [← hgo.out, HST.out]
          clear hm8 hev8 haf8 hf8 h7 hF hgo HST HEV HAF HAG HRM hBw x0 x1 x2 x3 x4 x5 x6 x7 x8 x9 x10 x11
          go_wp2_with fail
          go_roundw
          case rel => exact ⟨k + 1, _, _, by omega, by go_num, HM8.out, HEV8.out, HAF8.out, HAG8.out, by omega, HG8, HF8.out⟩
          case measure => simp [intOf]; omega
        · obtain rfl : k = m.os.length := by omega
          obtain ⟨w7, rfl⟩ : ∃ w7 : World, w7 = wr := ⟨_, rfl⟩
          have HG7 : Hid (l = agO [] 0 m.os) := by show _ = _; rw [← hgo.out, List.drop_of_length_le (by omega)]; rfl
          have HMD := Lib.hid hrm
          have HV7 := Lib.hid hev
          have HA7 := Lib.hid haf
          have HP7 := Lib.hid hag
          have HF7 := Lib.hid hF
          have HB7 := Lib.hid hBw
          have hz7 := hzr
          have hl7 : l.length ≤ 8 := by omega
          have p3 := (hF.cell (b := w.heap.size) (by omega) (by omega) 3).trans P3.out
          have hn3 := HK.out.nf
          have hmb7 : w4.heap.size < w7.heap.size := blk_lt hrm
          clear hrm hev haf hag hF hBw hzr hlt hgo hll hk P3
          go_wp2_with fail
          clear p3
          go_loopw [84] (fun i wr => ∃ (k : Nat) (l' : List Ev) (VA : Value), k ≤ m.fs.length ∧ i = .int .i64 k ∧ wr.heap[w4.heap.size]? = some (.cells #[.slice A1 m.q.length c1, .slice A2 m.cs.length c2, .slice A3 m.os.length c3, .slice A4 m.fs.length c4, .slice A5 m.xs.length c5, .bool m.bd, .int .i64 0, .int .i64 0, .slice A1 m.q.length c1, .slice A2 m.cs.length c2, .slice none 0 0, .slice none 0 0, VN, .slice (some ⟨w3.heap.size, 0, none⟩) m.q.length m.q.length, .slice none 0 0, VA, .slice none 0 0, .slice none 0 0] 81 (0, 0)) ∧ Evs wr wr.heap.size VA l' ∧ Aft w4.heap.size VA ∧ AgOk l' ∧ l'.length ≤ 8 + 2 * k ∧ Hid (agF l' k (m.fs.drop k) = agF l 0 m.fs) ∧ Frb w7.heap.size w4.heap.size w7 wr) (fun i _ => m.fs.length - (intOf i).toNat)
          case atStart => exact ⟨0, l, _, by omega, rfl, HMD.out, HV7.out, HA7.out, HP7.out, by omega, rfl, Frb.refl _ _ _⟩
          case round =>
            obtain ⟨k, l', VA', hk, rfl, hrm, hev, haf, hag, hll, hgo, hF⟩ := hrel
            have hBw : Below w.heap.size w wr := hF.below HB7.out hle (by omega)
            have hzr := hF.size
            by_cases hlt : k < m.fs.length
            · obtain ⟨A0, c0, e0, -, -, hA0⟩ := (HM.out.below hBw).f
              obtain ⟨b, o, rfl, hb, hcell⟩ : ∃ b o, A4 = some ⟨b, o, none⟩ ∧ b < w.heap.size ∧ ∀ j, j < m.fs.length → FltAt wr w.heap.size b (o + j * 4) (m.fs.getD j Flt.zero) := by
                injection e0 with e0
                subst e0
                exact hA0 (by omega)
              obtain ⟨x0, x1, x2, x3⟩ := hcell k hlt
              have HQ := Lib.hid (HK.out.fa k hlt)
              have HU := Lib.hid (HK.out.fu k hlt)
              have HST := Lib.hid (agF_step l' m.fs k hlt)
              have HRM := Lib.hid hrm
              have HEV := Lib.hid hev
              have HAF := Lib.hid haf
              have HAG := Lib.hid hag
              clear hcell e0 hA0 hrm hev haf hag
              generalize m.fs.getD k Flt.zero = d at *
              go_wp2_with fail
              have h8 : Below wr.heap.size wr (wr.alloc (.cells #[.int .i64 d.n, .int .i64 d.a, .int .i64 d.k, .int .i64 d.u] 86)) := (Below.refl _ _).alloc (Nat.le_refl _) _
              have d3 : (wr.alloc (.cells #[.int .i64 d.n, .int .i64 d.a, .int .i64 d.k, .int .i64 d.u] 86)).cell? ⟨wr.heap.size, 3, none⟩ = some (.int .i64 d.u) := by simp [go_sem]
              have hz8 : wr.heap.size < (wr.alloc (.cells #[.int .i64 d.n, .int .i64 d.a, .int .i64 d.k, .int .i64 d.u] 86)).heap.size := by simp
              generalize wr.alloc (.cells #[.int .i64 d.n, .int .i64 d.a, .int .i64 d.k, .int .i64 d.u] 86) = w8 at *
              have hmr : w4.heap.size < wr.heap.size := blk_lt HRM.out
              refine (sched_any w4.heap.size _ _ _ _ _ _ _ _ _ _ _ _ _ _ _ VA' _ _ l' d.a 9 k w8 ((h8.block _ hmr).trans HRM.out) ((HEV.out.below h8).more h8.size) HAF.out HAG.out (ev_ok HQ.out.1 HQ.out.2 (by decide) (by decide) (by omega) (by omega)) (by omega)).mono ?_
              rintro e w9 ⟨VB, r, rfl, hm9, hev9, haf9, hf9⟩
              have HM9 := Lib.hid hm9
              have HEV9 := Lib.hid hev9
              have HAF9 := Lib.hid haf9
              have HAG9 := Lib.hid (ag_add HAG.out (x := ⟨d.a, 9, k⟩) (ev_ok HQ.out.1 HQ.out.2 (by decide) (by decide) (by omega) (by omega)) (by omega))
              have hl9 := addL_len l' ⟨d.a, 9, k⟩
              have HF9 := Lib.hid (hF.trans (((Frb.of_below h8).less hzr).trans (hf9.less (Nat.le_trans hzr h8.size))))
              have e3 := (hf9.cell (b := wr.heap.size) hz8 (by omega) 3).trans d3
              have hz9 := HF9.out.size
              have hmb9 := blk_lt hm9
              clear hm9 hev9 haf9 hf9 h8 hF HEV HAF HAG HRM hBw x0 x1 x2 x3 d3 hz8
              by_cases hu : d.u = -1
              · have HG9 : Hid (agF (addL l' ⟨d.a, 9, k⟩) (k + 1) (m.fs.drop (k + 1)) = agF l 0 m.fs) := by show _ = _; rw [← hgo.out, HST.out, agF1, if_neg (by simp [hu])]
                have qu : (d.u != -1) = false := by simpa using hu
                clear hgo HST hu
                go_wp2_with fail
                go_roundw
                case rel => exact ⟨k + 1, _, _, by omega, by go_num, HM9.out, HEV9.out, HAF9.out, HAG9.out, by omega, HG9, HF9.out⟩
                case measure => simp [intOf]; omega
              · have HG9 : Hid (agF (addL (addL l' ⟨d.a, 9, k⟩) ⟨d.u, 1, k⟩) (k + 1) (m.fs.drop (k + 1)) = agF l 0 m.fs) := by show _ = _; rw [← hgo.out, HST.out, agF1, if_pos hu]
                have qu : (d.u != -1) = true := by simpa using hu
                have HU2 : Hid (0 ≤ d.u ∧ d.u ≤ 1099511627776) := HU.out.resolve_left hu
                clear hgo HST hu
                go_wp2_with fail
                refine (sched_any w4.heap.size _ _ _ _ _ _ _ _ _ _ _ _ _ _ _ VB _ _ (addL l' ⟨d.a, 9, k⟩) d.u 1 k w9 HM9.out HEV9.out HAF9.out HAG9.out (ev_ok HU2.out.1 HU2.out.2 (by decide) (by decide) (by omega) (by omega)) (by omega)).mono ?_
                rintro e w10 ⟨VC, r2, rfl, hm10, hev10, haf10, hf10⟩
                have HM10 := Lib.hid hm10
                have HEV10 := Lib.hid hev10
                have HAF10 := Lib.hid haf10
                have HAG10 := Lib.hid (ag_add HAG9.out (x := ⟨d.u, 1, k⟩) (ev_ok HU2.out.1 HU2.out.2 (by decide) (by decide) (by omega) (by omega)) (by omega))
                have hl10 := addL_len (addL l' ⟨d.a, 9, k⟩) ⟨d.u, 1, k⟩
                have HF10 := Lib.hid (HF9.out.trans (hf10.less hz9))
                clear hm10 hev10 haf10 hf10 e3 HM9 HEV9 HAF9 HAG9 HF9
                go_wp2_with fail
                go_roundw
                case rel => exact ⟨k + 1, _, _, by omega, by go_num, HM10.out, HEV10.out, HAF10.out, HAG10.out, by omega, HG9, HF10.out⟩
                case measure => simp [intOf]; omega
            · obtain rfl : k = m.fs.length := by omega
              obtain ⟨w8, rfl⟩ : ∃ w8 : World, w8 = wr := ⟨_, rfl⟩
              have HG8 : Hid (l' = agL m) := by show _ = _; rw [agL, ← HG7.out, ← hgo.out, List.drop_of_length_le (by omega)]; rfl
              have HN8 : Hid (w8.ownsRow w5.heap.size 69 8 VN m.q.length (ndCells 0 m.q)) := own_frb (own_frb HO6.out HF7.out (by omega) (by omega)) hF (by omega) (by omega)
              have HE8 : Hid (Ints w8 w5.heap.size (.slice (some ⟨w3.heap.size, 0, none⟩) m.q.length m.q.length) (List.replicate m.q.length 0)) :=
                have hnn : NotAt w4.heap.size (.slice (some ⟨w3.heap.size, 0, none⟩) m.q.length m.q.length) := fun j hj => by cases hj; show w3.heap.size ≠ _; omega
                ints_frb (ints_frb (ints_frb HE5.out hnn (Nat.le_refl _) HF6.out) hnn hz6 HF7.out) hnn (by omega) hF
              have R8 := (hF.block (w.heap.size + 1) (by omega) (by omega)).trans ((HF7.out.block (w.heap.size + 1) (by omega) (by omega)).trans ((HF6.out.block (w.heap.size + 1) (by omega) (by omega)).trans R1.out))
              obtain ⟨AN, cN, rfl⟩ := own_slice HN8.out
              have HV8 := Lib.hid hev
              have HA8 := Lib.hid haf
              obtain ⟨AA, cA, rfl, -⟩ := hev
              have HRM := Lib.hid hrm
              clear hrm haf hag hlt hgo hll hk HO6 HMC HMD HV7 HA7 HP7 HG7
              have hml : w8.rangeAt w4.heap.size 0 (#[.slice A1 m.q.length c1, .slice A2 m.cs.length c2, .slice A3 m.os.length c3, .slice A4 m.fs.length c4, .slice A5 m.xs.length c5, .bool m.bd, .int .i64 0, .int .i64 0, .slice A1 m.q.length c1, .slice A2 m.cs.length c2, .slice none 0 0, .slice none 0 0, .slice AN m.q.length cN, .slice (some ⟨w3.heap.size, 0, none⟩) m.q.length m.q.length, .slice none 0 0, .slice AA l'.length cA, .slice none 0 0] : Array Value).toList := fun j v hv => by
                rw [Nat.zero_add, cell_blk HRM.out]
                match j, hv with
                | 0, hv => simpa using hv
                | 1, hv => simpa using hv
                | 2, hv => simpa using hv
                | 3, hv => simpa using hv
                | 4, hv => simpa using hv
                | 5, hv => simpa using hv
                | 6, hv => simpa using hv
                | 7, hv => simpa using hv
                | 8, hv => simpa using hv
                | 9, hv => simpa using hv
                | 10, hv => simpa using hv
                | 11, hv => simpa using hv
                | 12, hv => simpa using hv
                | 13, hv => simpa using hv
                | 14, hv => simpa using hv
                | 15, hv => simpa using hv
                | 16, hv => simpa using hv
                | n + 17, hv => simp at hv
              go_wp2_with (first | (refine wpList_load_mid rfl 42 (.tmp 105) rfl w4.heap.size 0 rfl (#[.slice A1 m.q.length c1, .slice A2 m.cs.length c2, .slice A3 m.os.length c3, .slice A4 m.fs.length c4, .slice A5 m.xs.length c5, .bool m.bd, .int .i64 0, .int .i64 0, .slice A1 m.q.length c1, .slice A2 m.cs.length c2, .slice none 0 0, .slice none 0 0, .slice AN m.q.length cN, .slice (some ⟨w3.heap.size, 0, none⟩) m.q.length m.q.length, .slice none 0 0, .slice AA l'.length cA, .slice none 0 0] : Array Value).toList _ hml Tryz.underlying42 rfl (by kernel_rfl) ?_) | refine wpList_store_row rfl 42 (.tmp 2) (.tmp 106) rfl (w.heap.size + 1) #[.slice A1 m.q.length c1, .slice A2 m.cs.length c2, .slice A3 m.os.length c3, .slice A4 m.fs.length c4, .slice A5 m.xs.length c5, .bool m.bd, .int .i64 0, .int .i64 0, .slice A1 m.q.length c1, .slice A2 m.cs.length c2, .slice none 0 0, .slice none 0 0, .slice AN m.q.length cN, .slice (some ⟨w3.heap.size, 0, none⟩) m.q.length m.q.length, .slice none 0 0, .slice AA l'.length cA, .slice none 0 0] rfl rfl 42 _ R8 (by kernel_rfl) (by kernel_rfl) (by simp [Value.oneCell']) ?_)
              have hr := setRow_heap w8 (w.heap.size + 1) _ #[.slice A1 m.q.length c1, .slice A2 m.cs.length c2, .slice A3 m.os.length c3, .slice A4 m.fs.length c4, .slice A5 m.xs.length c5, .bool m.bd, .int .i64 0, .int .i64 0, .slice A1 m.q.length c1, .slice A2 m.cs.length c2, .slice none 0 0, .slice none 0 0, .slice AN m.q.length cN, .slice (some ⟨w3.heap.size, 0, none⟩) m.q.length m.q.length, .slice none 0 0, .slice AA l'.length cA, .slice none 0 0] 42 (0, 0) R8
              have hfr := frb_setRow w8.heap.size w8 (w.heap.size + 1) #[.slice A1 m.q.length c1, .slice A2 m.cs.length c2, .slice A3 m.os.length c3, .slice A4 m.fs.length c4, .slice A5 m.xs.length c5, .bool m.bd, .int .i64 0, .int .i64 0, .slice A1 m.q.length c1, .slice A2 m.cs.length c2, .slice none 0 0, .slice none 0 0, .slice AN m.q.length cN, .slice (some ⟨w3.heap.size, 0, none⟩) m.q.length m.q.length, .slice none 0 0, .slice AA l'.length cA, .slice none 0 0]
              have HN9 := Lib.hid (nds_of_own rfl (own_frb HN8.out hfr (Nat.le_refl _) (by omega)))
              have HE9 := Lib.hid ((ints_frb HE8.out (fun j hj => by cases hj; show w3.heap.size ≠ _; omega) (by omega) hfr).more (Nat.le_trans (show w5.heap.size ≤ w8.heap.size by omega) hfr.size))
              have HV9 := Lib.hid (Evs.fr HV8.out (HA8.out.notAt (by omega)) hfr)
              have HB9 := Lib.hid (below_setRow hBw (g := w.heap.size + 1) (by omega) #[.slice A1 m.q.length c1, .slice A2 m.cs.length c2, .slice A3 m.os.length c3, .slice A4 m.fs.length c4, .slice A5 m.xs.length c5, .bool m.bd, .int .i64 0, .int .i64 0, .slice A1 m.q.length c1, .slice A2 m.cs.length c2, .slice none 0 0, .slice none 0 0, .slice AN m.q.length cN, .slice (some ⟨w3.heap.size, 0, none⟩) m.q.length m.q.length, .slice none 0 0, .slice AA l'.length cA, .slice none 0 0])
              have HR9 := Lib.hid hr
              clear hr hfr R8 HRM HN8 HE8 HV8 HA8 hml
              generalize w8.setRow (w.heap.size + 1) #[.slice A1 m.q.length c1, .slice A2 m.cs.length c2, .slice A3 m.os.length c3, .slice A4 m.fs.length c4, .slice A5 m.xs.length c5, .bool m.bd, .int .i64 0, .int .i64 0, .slice A1 m.q.length c1, .slice A2 m.cs.length c2, .slice none 0 0, .slice none 0 0, .slice AN m.q.length cN, .slice (some ⟨w3.heap.size, 0, none⟩) m.q.length m.q.length, .slice none 0 0, .slice AA l'.length cA, .slice none 0 0] = w9 at *
              go_wp2_with fail
              refine bodyPost_ret (results_row_tmp rfl _ _ _ (w.heap.size + 1) 42 #[.slice A1 m.q.length c1, .slice A2 m.cs.length c2, .slice A3 m.os.length c3, .slice A4 m.fs.length c4, .slice A5 m.xs.length c5, .bool m.bd, .int .i64 0, .int .i64 0, .slice A1 m.q.length c1, .slice A2 m.cs.length c2, .slice none 0 0, .slice none 0 0, .slice AN m.q.length cN, .slice (some ⟨w3.heap.size, 0, none⟩) m.q.length m.q.length, .slice none 0 0, .slice AA l'.length cA, .slice none 0 0] (0, 0) _ rfl HR9.out Tryz.underlying42 rfl (by kernel_rfl) _ rfl) rfl ⟨_, _, _, rfl, HN9.out, HE9.out, ?_, HB9.out⟩
              rw [← HG8.out]
              exact HV9.out
end Go.Proofs.YtclkjjdfdndplaaGreatDoor

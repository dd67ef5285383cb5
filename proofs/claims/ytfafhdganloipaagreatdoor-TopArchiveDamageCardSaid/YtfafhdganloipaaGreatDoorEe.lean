/- What is appended. -/
import Derived.Test.YtfafhdganloipaaGreatDoorEd
import Derived.Deep.AppendSrc
import Derived.Laws.MakeOwn
namespace Go.Proofs.YtfafhdganloipaaGreatDoor.Eng
open Go.RowKit
variable {P : Program} {nG sz base : Nat} {w0 : World} {o : Oper}
theorem elemT_some {t : Option TypeId} {e size : Nat} (h : elemT P t = some (e, size)) : ∃ t' j z, t = some t' ∧ P.underlying t' = some (.slice e) ∧ P.info? e = some j ∧ j.zero = some z ∧ j.size = size ∧ z.cells.size = size ∧ j.bytes ≤ 1000000 := by
  unfold elemT at h
  split at h <;> first | (cases h; done) | skip
  rename_i t'
  split at h <;> first | (cases h; done) | skip
  rename_i e' hu
  split at h <;> first | (cases h; done) | skip
  rename_i j hj
  split at h <;> first | (cases h; done) | skip
  rename_i z hz
  split at h <;> first | (cases h; done) | skip
  rename_i hc
  rw [Bool.and_eq_true, Nat.beq_eq, Nat.ble_eq] at hc
  obtain ⟨rfl, rfl⟩ := Prod.mk.inj (Option.some.inj h)
  exact ⟨t', j, z, rfl, hu, hj, hz, rfl, hc.1, hc.2⟩
theorem byteCells_eq (l : List UInt8) : Eng.byteCells l = l.map fun b => Value.int .u8 b.toNat := mapL_eq _ _
theorem plain_byteCells (l : List UInt8) : plainL (Eng.byteCells l) = true := by
  rw [byteCells_eq]
  induction l with
  | nil => rfl
  | cons b l ih => simp only [List.map_cons, plainL, plainV, ih, Bool.and_self]
theorem VRs.ones {J : Inj} {l l' : List Value} (h : VRs J l l') (ho : ∀ v ∈ l, oneC v = true) : ∀ v ∈ l', v.oneCell' = true := by
  induction l generalizing l' with
  | nil => cases h; intro v hv; cases hv
  | cons a l ih => cases h with
    | cons _ a' _ l' ha hl =>
      intro v hv
      rcases List.mem_cons.1 hv with rfl | hv
      · exact ha.one (ho a (by simp))
      · exact ih hl (fun v hv => ho v (by simp [hv])) v hv
theorem lenV_slice {b : Option Addr} {n c m : Nat} (h : lenV (.slice b n c) = some m) : m = n := (Option.some.inj h).symm
theorem src_sound {J : Inj} {H : AH} {w : World} (h : WR P nG base w0 J H w) {tx : Option TypeId} {size m : Nat} {x x' : Value} {new : List Value} (hk : srcOk P tx size x = true) (hl : lenV x = some m) (hf : firstC H size m x = some new)
    (ho : ∀ v ∈ new, oneC v = true) (hx : VR J x x') : ∃ tx' news, tx = some tx' ∧ VRs J new news ∧ Src P size tx' x' m news w := by
  unfold srcOk at hk
  split at hk <;> first | (cases hk; done) | skip
  rename_i t
  split at hk <;> first | (cases hk; done) | skip
  · rename_i e' b n c hu
    obtain rfl := lenV_slice hl
    unfold firstC at hf
    split at hf <;> first | (cases hf; done) | skip
    · rename_i b p n c hc
      injection hc with h1 h2 h3
      subst h1 h2 h3
      obtain ⟨o', c', y, hJ, rfl, hn, ho', -⟩ := hx.slice_inv
      split at hf
      · obtain rfl := Option.some.inj hf
        exact ⟨t, [], rfl, .nil, Src.ofSlice w hu _ _ _ [] (by simp) (fun j u hj => by simp at hj) (fun _ h => by cases h)⟩
      · rename_i k
        obtain ⟨l', h1, h2, h3⟩ := h.read hf hJ
        obtain rfl : o' = y.d + p := ho'.resolve_right (by omega)
        exact ⟨t, l', rfl, h1, Src.ofSlice w hu _ _ _ l' h2 h3 (h1.ones ho)⟩
    · rename_i n c hc
      injection hc with h1 h2 h3
      subst h1 h2 h3
      obtain rfl := Option.some.inj hf
      cases hx
      exact ⟨t, [], rfl, .nil, Src.ofNil w hu _⟩
    · rename_i hc; cases hc
  · rename_i s hu
    obtain ⟨⟨l⟩⟩ := s
    have hm : m = l.length := by have := Option.some.inj hl; rw [lenL_eq] at this; exact this.symm
    subst hm
    obtain rfl := Option.some.inj hf
    have e1 := VR.plain hx rfl
    subst e1
    rw [Nat.beq_eq] at hk
    subst hk
    have htk : takeL l.length l = l := by rw [takeL_eq, List.take_length]
    rw [htk] at ho ⊢
    refine ⟨t, Eng.byteCells l, rfl, VRs.of_plain (plain_byteCells l), ?_⟩
    have := Src.ofString (P := P) w hu ⟨⟨l⟩⟩
    rw [byteCells_eq]
    exact this
theorem growBy_le (n : Nat) : ∀ (r c : Nat), c < n → Builtin.growBy n r c ≤ 2 * n + 200 := by
  intro r
  induction r with
  | zero => intro c h; simp [Builtin.growBy]; omega
  | succ r ih =>
    intro c h
    unfold Builtin.growBy
    split
    · omega
    · by_cases hc : c + (c + 768) / 4 < n
      · exact ih _ hc
      · cases r with
        | zero => simp [Builtin.growBy]; omega
        | succ r =>
          unfold Builtin.growBy
          rw [if_pos (by omega)]; omega
theorem next_le {n c : Nat} (h : c < n) : Builtin.nextslicecap n c ≤ 2 * n + 200 := by
  unfold Builtin.nextslicecap
  split
  · omega
  · split
    · omega
    · exact growBy_le n 4 c h
theorem zeroCells_size (z : Array Value) (n : Nat) : (Builtin.zeroCells z n).size = n * z.size := by simp [Builtin.zeroCells]
theorem first_sound {J : Inj} {H : AH} {w : World} (h : WR P nG base w0 J H w) {size n c : Nat} {b : Option Addr} {s' : Value} {old : List Value} (hf : firstC H size n (.slice b n c) = some old) (hs : VR J (.slice b n c) s') :
    ∃ b' c' olds, s' = .slice b' n c' ∧ VRs J old olds ∧ (Builtin.firstCells size n s').run P w.drew = .ok olds.toArray w.drew ∧ old.length = n * size := by
  unfold firstC at hf
  split at hf <;> first | (cases hf; done) | skip
  · rename_i b p n c hc
    injection hc with h1 h2 h3
    subst h1 h2 h3
    obtain ⟨o', c', y, hJ, rfl, hn, ho', -⟩ := hs.slice_inv
    split at hf
    · obtain rfl := Option.some.inj hf
      refine ⟨_, _, [], rfl, .nil, ?_, by simp⟩
      simp [Builtin.firstCells, loadCells, loadCellsFrom]
    · rename_i k
      obtain ⟨l', h1, h2, h3⟩ := h.read hf hJ
      obtain rfl : o' = y.d + p := ho'.resolve_right (by omega)
      refine ⟨_, _, l', rfl, h1, ?_, ?_⟩
      · exact run_firstCells_some w.drew size _ _ _ _ l' h2 (by simpa using h3)
      · rw [h1.length]; exact h2
  · rename_i n c hc
    injection hc with h1 h2 h3
    subst h1 h2 h3
    obtain rfl := Option.some.inj hf
    cases hs
    refine ⟨_, _, [], rfl, .nil, ?_, by simp⟩
    simp [Builtin.firstCells]
  · rename_i hc; cases hc
end Go.Proofs.YtfafhdganloipaaGreatDoor.Eng
namespace Go.Proofs.YtfafhdganloipaaGreatDoor.Eng
open Go.RowKit
variable {P : Program} {nG sz base : Nat} {w0 : World} {o : Oper}
theorem setCells_heap {B : Nat} {e : TypeId} {fz : Nat × Nat} : ∀ (vs : List Value) (o : Nat) (w : World) (c : Array Value), w.heap[B]? = some (.cells c e fz) → o + vs.length ≤ c.size →
    ∃ c2, (w.setCells B o vs).heap[B]? = some (.cells c2 e fz) ∧ c2.size = c.size ∧ (∀ i, i < o → c2[i]? = c[i]?) ∧ (∀ (j : Nat) (v : Value), vs[j]? = some v → c2[o + j]? = some v) ∧
      (∀ k, k ≠ B → (w.setCells B o vs).heap[k]? = w.heap[k]?) ∧ (w.setCells B o vs).heap.size = w.heap.size ∧ (∀ n a, n ≤ B → Below n a w → Below n a (w.setCells B o vs))
  | [], o, w, c, h, _ => ⟨c, h, rfl, fun _ _ => rfl, fun j v hj => by simp at hj, fun _ _ => rfl, rfl, fun _ _ _ h => h⟩
  | v :: vs, o, w, c, h, hl => by
    simp only [List.length_cons] at hl
    have h1 := heap_setCell_cells h o v
    obtain ⟨c2, g1, g2, g3, g4, g5, g6, g7⟩ := setCells_heap vs (o + 1) (w.setCell ⟨B, o, none⟩ v) _ h1 (by rw [Array.size_setIfInBounds]; omega)
    refine ⟨c2, g1, by rw [g2, Array.size_setIfInBounds], fun i hi => ?_, fun j u hj => ?_, fun k hk => ?_, ?_, fun n a hn hb => ?_⟩
    · rw [g3 i (by omega), Array.getElem?_setIfInBounds_ne (by omega)]
    · cases j with
      | zero =>
        simp at hj; subst hj
        rw [Nat.add_zero, g3 o (by omega), Array.getElem?_setIfInBounds_self_of_lt (by omega)]
      | succ j =>
        have := g4 j u (by simpa using hj)
        rw [show o + (j + 1) = o + 1 + j by omega]; exact this
    · show ((w.setCell ⟨B, o, none⟩ v).setCells B (o + 1) vs).heap[k]? = _
      rw [g5 k hk]; exact Below.heap_setCell w ⟨B, o, none⟩ v k hk
    · show ((w.setCell ⟨B, o, none⟩ v).setCells B (o + 1) vs).heap.size = _
      rw [g6]; simp [World.setCell]
    · exact g7 n a hn (hb.setCell hn v)
theorem WR.grow {J : Inj} {H : AH} {w : World} (h : WR P nG base w0 J H w) (hr : H.next + 1 ≤ 65536) {t tx ty e : TypeId} {j : TypeInfo} {z : Value} {size : Nat} (ht : P.underlying t = some (.slice e)) (hj : P.info? e = some j) (hz : j.zero = some z) (hs : j.size = size)
    (hzs : z.cells.size = size) (hby : j.bytes ≤ 1000000) (h1 : 1 ≤ size) {b : Option Addr} {n m c : Nat} {x' : Value} {old new olds news : List Value} (ho : VRs J old olds) (hn : VRs J new news) (hold : (Builtin.firstCells size n (.slice b n c)).run P w.drew = .ok olds.toArray w.drew)
    (hsrc : Src P size tx x' m news w) (holen : old.length = n * size) (hg : c < n + m) (hle : n + m ≤ 1000000) :
    ∃ (J' : Inj) (v' : Value) (w' : World), VR J' (.slice (some ⟨H.next, 0, none⟩) (n + m) (unk size (n + m))) v' ∧ (Builtin.append_ #[t, tx] ty #[.slice b n c, x']).run P w = .ok v' w' ∧
      WR P nG base w0 J' (H.new (.cells (old ++ new) e)) w' ∧ Ev H.next J H w J' (H.new (.cells (old ++ new) e)) w' := by
  subst hs
  have hnl := next_le hg
  have hfit : Builtin.nextslicecap (n + m) c * j.bytes ≤ 281474976710656 := by
    have : Builtin.nextslicecap (n + m) c * j.bytes ≤ (2 * (n + m) + 200) * 1000000 := Nat.mul_le_mul hnl hby
    omega
  have run := run_append_grow_src (P := P) w t tx ty e j z ht hj hz b n c olds hold x' m news hsrc hg (by omega) hfit
  have hge := grownCap_ge w (n + m) c e
  generalize grownCap w (n + m) c e = g at run hge
  have hd := h.drew
  have hsz : w.drew.heap.size = w.heap.size := rfl
  have hor : OR P nG (J.add H.next ⟨w.drew.heap.size, 0, j.size, g⟩) (w.drew.alloc (.cells ((olds ++ news).toArray ++ Builtin.zeroCells z.cells (g - (n + m))) e)) ⟨w.drew.heap.size, 0, j.size, g⟩ (.cells (old ++ new) e) := by
    have hlen : (olds ++ news).length = (n + m) * j.size := by
      rw [List.length_append, ← ho.length, holen, hsrc.newsLen, Nat.add_mul]
    refine ⟨_, (0, 0), World.alloc_heap_new _ _, .inl (Nat.le_refl _), fun i v hi => ?_, fun _ => ⟨by simp [hj], ?_⟩, Nat.zero_mod _⟩
    · obtain ⟨v', a1, a2⟩ := (ho.append hn).get hi
      have hlt := (List.getElem?_eq_some_iff.1 a1).1
      refine ⟨v', ?_, a2.mono (Inj.le_add h.fresh)⟩
      rw [Nat.zero_add, Array.getElem?_append_left (by simpa using hlt)]
      simpa using a1
    · rw [Nat.zero_add, Array.size_append, zeroCells_size, hzs]
      simp only [List.size_toArray, hlen]
      rw [← Nat.add_mul]
      have : n + m + (g - (n + m)) = g := by omega
      rw [this]; exact Nat.le_refl _
  obtain ⟨k1, k2⟩ := WR.alloc (P := P) (show WR P nG base w0 J H w.drew from hd) hr (.cells (old ++ new) e) (.cells ((olds ++ news).toArray ++ Builtin.zeroCells z.cells (g - (n + m))) e) j.size g hor
  refine ⟨_, _, _, ?_, run, k1, ?_⟩
  · refine .slice H.next 0 _ _ 0 _ ⟨w.drew.heap.size, 0, j.size, g⟩ (Inj.add_same _ _ _) hge (.inl rfl) (.inr ⟨n + m, 0, rfl, ?_, h1, hge, by simp, rfl⟩)
    exact Nat.lt_of_le_of_lt hle (by decide)
  · exact (Ev.heap_eq (N := H.next) (J := J) (H := H) (w := w) (w' := w.drew) rfl).trans h.ids k2
end Go.Proofs.YtfafhdganloipaaGreatDoor.Eng
namespace Go.Proofs.YtfafhdganloipaaGreatDoor.Eng
open Go.RowKit
variable {P : Program} {nG sz base : Nat} {w0 : World} {o : Oper}
theorem WR.upon {J : Inj} {H : AH} {w : World} (h : WR P nG base w0 J H w) (hr : H.next + 1 ≤ 65536) {t tx ty e : TypeId} {j : TypeInfo} (ht : P.underlying t = some (.slice e)) (hj : P.info? e = some j)
    {b p k n m c' : Nat} {x : Tg} {cs0 : List Value} {x' : Value} {old new news : List Value} (hb : H.get b = some (.cells cs0 e)) (hJ : J b = some x) (hnb : nG ≤ b) (hs : j.size = x.s) (h1 : 0 < x.s) (hp : p = k * x.s) (hC : c' + k = x.C)
    (hold : old = (cs0.drop p).take (n * x.s)) (holen : old.length = n * x.s) (hn : VRs J new news) (hsrc : Src P j.size tx x' m news w) (hfit : n + m ≤ c') (hle : n + m < big) :
    ∃ (J' : Inj) (v' : Value) (w' : World), VR J' (.slice (some ⟨H.next, 0, none⟩) (n + m) (unk x.s (n + m))) v' ∧ (Builtin.append_ #[t, tx] ty #[.slice (some ⟨x.B, x.d + p, none⟩) n c', x']).run P w = .ok v' w' ∧
      WR P nG base w0 J' ((H.put b none).new (.cells (old ++ new) e)) w' ∧ Ev H.next J H w J' ((H.put b none).new (.cells (old ++ new) e)) w' := by
  obtain ⟨cs', fz, a1, a2, a3, a4⟩ := h.obj b _ x hb hJ
  obtain ⟨-, a5⟩ := a4.1 (by omega)
  have hb6 := h.small hJ
  have hnl : news.length = m * x.s := by rw [hsrc.newsLen, hs]
  have hend : x.d + p + n * x.s + news.length ≤ cs'.size := by
    have : (k + (n + m)) * x.s ≤ x.C * x.s := Nat.mul_le_mul_right _ (by omega)
    rw [Nat.add_mul, Nat.add_mul] at this
    omega
  have hcell : ∀ i, i < news.length → (w.cell? ⟨x.B, x.d + p + n * x.s + i, none⟩).isSome = true := fun i hi => by
    rw [World.cell_of a1, Array.getElem?_eq_getElem (by omega)]; rfl
  have hfroz : ∀ i, i < news.length → w.frozen? ⟨x.B, x.d + p + n * x.s + i, none⟩ = false := fun i hi => by
    obtain ⟨lo, hi'⟩ := fz
    simp only [World.frozen?, a1]
    rcases a2 with a2 | a2 <;> simp only at a2 <;> simp <;> omega
  have run := run_append_room_src (P := P) w t tx ty e j ht hj x.B (x.d + p) n c' x' m news hsrc hfit (by rw [hs]; exact hcell) (by rw [hs]; exact hfroz)
  rw [hs] at run
  obtain ⟨c2, g1, g2, g3, g4, g5, g6, g7⟩ := setCells_heap (e := e) news (x.d + p + n * x.s) w cs' a1 hend
  have hB := h.own b x hJ hnb
  have hf := h.fresh
  have hd := (h.drop hb6).skip (m := 1) (by simpa using hr)
  have hle' := Inj.le_add (x := (⟨x.B, x.d + p, x.s, c'⟩ : Tg)) hf
  have hlt := h.lt b x hJ
  refine ⟨J.add H.next ⟨x.B, x.d + p, x.s, c'⟩, _, _, ?_, run, ?_, ?_⟩
  · exact .slice H.next 0 _ _ (x.d + p) _ ⟨x.B, x.d + p, x.s, c'⟩ (Inj.add_same _ _ _) hfit (.inl rfl) (.inr ⟨n + m, 0, rfl, hle, h1, hfit, by simp, rfl⟩)
  · rw [AH.new_eq]
    refine hd.place (b := H.next) hf (by simp) (.cells (old ++ new) e) ⟨x.B, x.d + p, x.s, c'⟩ (by rw [g6]; exact Nat.le_refl _) (by rw [g6]; exact hlt) hB (g7 _ _ hB h.below) (fun q _ hq => g5 q hq) ?_ ?_
    · intro b2 y hl2 hj2 he
      have hb2 := h.small hj2
      rw [AH.get_skip, AH.get_put H _ hb6 hb2] at hl2
      split at hl2
      · cases hl2
      · rename_i hne
        exact hne (h.inj b2 b y x hl2 (by rw [hb]; rfl) hj2 hJ he)
    · refine ⟨c2, fz, g1, by rw [g2]; exact a2, fun i v hi => ?_, fun _ => ⟨by simp [hj, hs], ?_⟩, by show (x.d + p) % x.s = 0; rw [hp, Nat.add_mul_mod_self_right]; exact a4.2⟩
      · rw [List.getElem?_append] at hi
        split at hi
        · rename_i hi2
          rw [hold, List.getElem?_take] at hi
          rw [holen] at hi2
          rw [if_pos hi2, List.getElem?_drop] at hi
          obtain ⟨v', b1, b2⟩ := a3 (p + i) v hi
          refine ⟨v', ?_, b2.mono hle'⟩
          rw [g3 _ (by show x.d + p + i < _; omega)]
          show cs'[x.d + p + i]? = some v'
          rw [Nat.add_assoc]; exact b1
        · rename_i hi2
          rw [holen] at hi2 hi
          obtain ⟨v', b1, b2⟩ := hn.get hi
          refine ⟨v', ?_, b2.mono hle'⟩
          have := g4 _ _ b1
          show c2[x.d + p + i]? = some v'
          rw [show x.d + p + i = x.d + p + n * x.s + (i - n * x.s) by omega]; exact this
      · show x.d + p + c' * x.s ≤ c2.size
        rw [g2]
        have : (k + c') * x.s = x.C * x.s := by rw [← hC, Nat.add_comm]
        rw [Nat.add_mul] at this
        omega
  · refine ⟨hle', fun b2 y hn2 hy => ?_, Nat.le_succ _, fun B hB2 hnot => g5 B (fun e2 => hnot b x (by rw [hb]; rfl) hJ e2.symm), fun b2 y hn2 hy => ?_, by rw [g6]; exact Nat.le_refl _, fun b2 hb2 hl2 => ?_⟩
    · rcases Inj.add_inv hy with ⟨rfl, _⟩ | ⟨_, hy⟩
      · exact Nat.le_refl _
      · rw [hn2] at hy; cases hy
    · rcases Inj.add_inv hy with ⟨_, rfl⟩ | ⟨_, hy⟩
      · exact .inr ⟨b, x, by rw [hb]; rfl, hJ, rfl⟩
      · rw [hn2] at hy; cases hy
    · have := h.top
      rw [AH.get_new _ _ (by simp; omega) (by omega), if_neg (by simp; omega), AH.get_put H _ hb6 (by omega)] at hl2
      split at hl2
      · cases hl2
      · exact hl2
theorem appN_sound {J : Inj} {H H' : AH} {w : World} (h : WR P nG base w0 J H w) {ts : List TypeId} {ty e : TypeId} {size n m c : Nat} {b : Option Addr} {s' x' v : Value} {old new news : List Value} (hT : elemT P (nth ts 0) = some (e, size)) {tx : TypeId} (htx : nth ts 1 = some tx)
    (ho : firstC H size n (.slice b n c) = some old) (hv : appN nG e size n m c b old new H = .ok v H') (hnot : low c < n + m) (hs : VR J (.slice b n c) s') (hn : VRs J new news) (hsrc : Src P size tx x' m news w) :
    ∃ (J' : Inj) (v' : Value) (w' : World), VR J' v v' ∧ (∀ (A : Array TypeId), A[0]? = nth ts 0 → A[1]? = nth ts 1 → (Builtin.append_ A ty #[s', x']).run P w = .ok v' w') ∧ WR P nG base w0 J' H' w' ∧ Ev H.next J H w J' H' w' := by
  obtain ⟨t, j, z, e0, ht, hj, hz, rfl, hzs, hby⟩ := elemT_some hT
  have hA : ∀ (A : Array TypeId), A[0]? = nth ts 0 → A[1]? = nth ts 1 → (Builtin.append_ A ty #[s', x']).run P w = (Builtin.append_ #[t, tx] ty #[s', x']).run P w := by
    intro A h0 h1
    rw [e0] at h0
    rw [htx] at h1
    unfold Builtin.append_
    simp only [h0, h1]
    rfl
  obtain ⟨b', c', olds, rfl, hol, hofirst, holen⟩ := first_sound h ho hs
  unfold appN at hv
  split at hv <;> first | (cases hv; done) | skip
  · rename_i b p hcond hbig
    rw [Bool.and_eq_true, Bool.and_eq_true, Nat.ble_eq, Nat.ble_eq] at hcond
    obtain ⟨⟨hle, hsz⟩, hroom⟩ := hcond
    have hle : n + m ≤ 1000000 := hle
    unfold AH.room at hroom
    rw [Nat.ble_eq] at hroom
    split at hv <;> first | (cases hv; done) | skip
    rename_i hc2
    rw [Bool.and_eq_true, Bool.and_eq_true, Nat.ble_eq, Nat.beq_eq] at hc2
    obtain ⟨⟨hnb, hstr⟩, hel⟩ := hc2
    rw [appL_eq] at hv
    obtain ⟨rfl, rfl⟩ : _ ∧ _ := by injection hv with h1 h2; exact ⟨h1, h2⟩
    obtain ⟨o', c2, x, hJ, hsl, hnc, ho', hcc⟩ := hs.slice_inv
    injection hsl with q1 q2 q3
    subst q1 q3
    have hlive : ∃ cs0, H.get b = some (.cells cs0 e) := by
      cases hg : H.get b with
      | none => rw [hg] at hel; cases hel
      | some ob =>
        cases ob with
        | cells cs0 e' =>
          rw [hg] at hel
          have hel : Nat.beq e e' = true := hel
          rw [Nat.beq_eq] at hel
          exact ⟨cs0, by rw [hel]⟩
        | map _ => rw [hg] at hel; cases hel
        | loop _ _ _ _ _ => rw [hg] at hel; cases hel
    obtain ⟨cs0, hb⟩ := hlive
    have hb6 := h.small hJ
    rcases hcc with ⟨hc, rfl⟩ | ⟨m0, k, rfl, hm0, hxs, hmc, hpk, hC⟩
    · rw [Nat.ble_eq] at hbig; omega
    rw [stride_unk hm0] at hstr
    rcases Nat.lt_or_ge c' (n + m) with hlt | hge
    · -- a new row
      obtain ⟨J', v', w', r1, r2, r3, r4⟩ := (h.drop hb6).grow (by simpa using hroom) ht hj hz rfl hzs hby hsz hol hn hofirst hsrc holen hlt hle (ty := ty)
      refine ⟨J', v', w', r1, fun A h0 h1 => by rw [hA A h0 h1]; exact r2, r3, ?_⟩
      exact (Ev.drop h (by have := h.top; omega) hb6).trans h.ids r4
    · rw [low_unk hxs hm0] at hnot
      obtain rfl : o' = x.d + p := ho'.resolve_right (by omega)
      have hold : old = (cs0.drop p).take (n * x.s) := by
        unfold firstC at ho
        dsimp only at ho
        split at ho
        · obtain rfl := Option.some.inj ho; simp
        · rename_i k'
          obtain ⟨cs1, e1, hb1, rfl, -, -⟩ := cellsAt_some ho
          rw [hb] at hb1
          injection hb1 with hb1
          injection hb1 with hb1 _
          rw [hb1, hstr]; rfl
      obtain ⟨J', v', w', r1, r2, r3, r4⟩ := h.upon hroom ht hj hb hJ hnb hstr.symm hxs hpk hC hold (by rw [holen, hstr]) hn hsrc hge (Nat.lt_of_le_of_lt hle (by decide)) (ty := ty)
      refine ⟨J', v', w', ?_, fun A h0 h1 => by rw [hA A h0 h1]; exact r2, r3, r4⟩
      rw [← hstr]; exact r1
  · rename_i hcond hbig
    rw [Bool.and_eq_true, Bool.and_eq_true, Nat.ble_eq, Nat.ble_eq] at hcond
    obtain ⟨⟨hle, hsz⟩, hroom⟩ := hcond
    have hle : n + m ≤ 1000000 := hle
    unfold AH.room at hroom
    rw [Nat.ble_eq] at hroom
    rw [appL_eq] at hv
    obtain ⟨rfl, rfl⟩ : _ ∧ _ := by injection hv with h1 h2; exact ⟨h1, h2⟩
    have hcs := ble_false hbig
    have hlt : c' < n + m := by
      rw [low_small hcs] at hnot
      cases hs with
      | snil => omega
      | slice _ _ _ _ _ _ _ _ _ _ hcc =>
        rcases hcc with ⟨_, rfl⟩ | ⟨m0, k, rfl, hm0, hxs, -⟩
        · exact hnot
        · have := unk_ge (m := m0) hxs; omega
    obtain ⟨J', v', w', r1, r2, r3, r4⟩ := h.grow hroom ht hj hz rfl hzs hby hsz hol hn hofirst hsrc holen hlt hle (ty := ty)
    exact ⟨J', v', w', r1, fun A h0 h1 => by rw [hA A h0 h1]; exact r2, r3, r4⟩
end Go.Proofs.YtfafhdganloipaaGreatDoor.Eng
namespace Go.Proofs.YtfafhdganloipaaGreatDoor.Eng
open Go.RowKit
variable {P : Program} {nG sz base : Nat} {w0 : World} {o : Oper}
theorem Ev.next_le {N : Nat} {J J' : Inj} {H H' : AH} {w w' : World} (h : Ev N J H w J' H' w') : H.next ≤ H'.next := h.next
theorem r_fits {t tx ty e : TypeId} {j : TypeInfo} (ht : P.underlying t = some (.slice e)) (hj : P.info? e = some j) {B p n m c : Nat} {x' : Value} {news : List Value} {w w' : World} (hs : Src P j.size tx x' m news w) (hroom : n + m ≤ c)
    (hst : (storeCells ⟨B, p + n * j.size, none⟩ news).run P w = .ok () w') :
    (Builtin.append_ #[t, tx] ty #[.slice (some ⟨B, p, none⟩) n c, x']).run P w = .ok (.slice (some ⟨B, p, none⟩) (n + m) c) w' := by
  rcases hs.kind with ⟨e', hk⟩ | hk <;> simp [Builtin.append_, run_underlying ht, run_underlying hk, sizeOf, typeInfo, hj, hs.len, hroom, hs.cells, Addr.add_lit, hst]
theorem r_fitsNil {t tx ty e : TypeId} {j : TypeInfo} (ht : P.underlying t = some (.slice e)) (hj : P.info? e = some j) {n m c : Nat} {x' : Value} {news : List Value} {w : World} (hs : Src P j.size tx x' m news w) (hroom : n + m ≤ c) :
    (Builtin.append_ #[t, tx] ty #[.slice none n c, x']).run P w = .ok (.slice none (n + m) c) w := by
  rcases hs.kind with ⟨e', hk⟩ | hk <;> simp [Builtin.append_, run_underlying ht, run_underlying hk, sizeOf, typeInfo, hj, hs.len, hroom, hs.cells]
theorem VR.low_le {J : Inj} {b : Addr} {n c n' c' : Nat} {b' : Option Addr} (h : VR J (.slice (some b) n c) (.slice b' n' c')) : low c ≤ c' := by
  cases h with
  | slice _ _ _ _ _ _ _ _ _ _ hc =>
    rcases hc with ⟨h6, rfl⟩ | ⟨m, k, rfl, hm, hs, hle, -, -⟩
    · rw [low_small h6]; exact Nat.le_refl _
    · rw [low_unk hs hm]; exact hle
theorem appV_sound {J : Inj} {H H' : AH} {w : World} (h : WR P nG base w0 J H w) {ts : List TypeId} {ty e : TypeId} {size : Nat} {s s' x x' v : Value} (hT : elemT P (nth ts 0) = some (e, size)) (hk : srcOk P (nth ts 1) size x = true)
    (hv : appV nG e size s x H = .ok v H') (hs : VR J s s') (hx : VR J x x') :
    ∃ (J' : Inj) (v' : Value) (w' : World), VR J' v v' ∧ (∀ (A : Array TypeId), A[0]? = nth ts 0 → A[1]? = nth ts 1 → (Builtin.append_ A ty #[s', x']).run P w = .ok v' w') ∧ WR P nG base w0 J' H' w' ∧ Ev H.next J H w J' H' w' := by
  unfold appV at hv
  split at hv <;> first | (cases hv; done) | skip
  rename_i b n c m hlen
  split at hv <;> first | (cases hv; done) | skip
  rename_i new hnew
  split at hv <;> first | (cases hv; done) | skip
  · rename_i hone hfit
    rw [Nat.ble_eq] at hfit
    have hfit : n + m ≤ low c := hfit
    obtain ⟨tx, news, htx, hn, hsrc⟩ := src_sound h hk hlen hnew (allOne_all hone) hx
    obtain ⟨t, j, z, e0, ht, hj, hz, rfl, hzs, hby⟩ := elemT_some hT
    have hA : ∀ (A : Array TypeId), A[0]? = nth ts 0 → A[1]? = nth ts 1 → (Builtin.append_ A ty #[s', x']).run P w = (Builtin.append_ #[t, tx] ty #[s', x']).run P w := by
      intro A h0 h1
      rw [e0] at h0
      rw [htx] at h1
      unfold Builtin.append_
      simp only [h0, h1]
      rfl
    split at hv <;> first | (cases hv; done) | skip
    · obtain ⟨rfl, rfl⟩ : _ ∧ _ := by injection hv with h1 h2; exact ⟨h1, h2⟩
      cases hs with
      | snil =>
        have e00 : low 0 = 0 := by decide
        rw [e00] at hfit
        obtain rfl : m = 0 := by omega
        refine ⟨J, _, w, .snil, fun A h0 h1 => ?_, h, Ev.refl _ J H w⟩
        rw [hA A h0 h1, r_fitsNil ht hj hsrc (Nat.le_refl _)]
    · rename_i b p
      obtain ⟨rfl, rfl⟩ : _ ∧ _ := by injection hv with h1 h2; exact ⟨h1, h2⟩
      obtain ⟨o', c', y, hJ, rfl, hnc, ho', hcc⟩ := hs.slice_inv
      have hlow := hs.low_le
      cases hn
      refine ⟨J, _, w, .slice b p _ c o' c' y hJ (show n + m ≤ c' by omega) ho' hcc, fun A h0 h1 => ?_, h, Ev.refl _ J H w⟩
      rw [hA A h0 h1, r_fits ht hj hsrc (show n + m ≤ c' by omega) (w' := w) rfl]
      rfl
    · rename_i b p hne
      split at hv <;> first | (cases hv; done) | skip
      rename_i H2 hst
      obtain ⟨rfl, rfl⟩ : _ ∧ _ := by injection hv with h1 h2; exact ⟨h1, h2⟩
      obtain ⟨o', c', y, hJ, rfl, hnc, ho', hcc⟩ := hs.slice_inv
      have hlow := hs.low_le
      have hc0 : c' ≠ 0 := by
        rintro rfl
        have hm0 : m = 0 := by omega
        subst hm0
        have : news = [] := List.eq_nil_of_length_eq_zero (by rw [hsrc.newsLen]; simp)
        subst this
        cases hn
        exact hne rfl
      obtain rfl : o' = y.d + p := ho'.resolve_right hc0
      obtain ⟨w', hr, r1, r2⟩ := storeL_sound h hst hJ hn
      refine ⟨J, _, w', .slice b p _ c _ c' y hJ (show n + m ≤ c' by omega) (.inl rfl) hcc, fun A h0 h1 => ?_, r1, r2⟩
      rw [hA A h0 h1, r_fits ht hj hsrc (show n + m ≤ c' by omega) (w' := w') (by rw [Nat.add_assoc]; exact hr)]
      rfl
  · rename_i hone hfit
    have hnot := ble_false hfit
    obtain ⟨tx, news, htx, hn, hsrc⟩ := src_sound h hk hlen hnew (allOne_all hone) hx
    split at hv <;> first | (cases hv; done) | skip
    rename_i old hold
    exact appN_sound h hT htx hold hv hnot hs hn hsrc
theorem two_args {c : Call} {x y : Operand} (ha : c.args.toList = [x, y]) (a : Act) : c.args.map a.eval = #[a.eval x, a.eval y] := by
  rw [map_arr ha]; rfl
theorem types_nth (c : Call) (i : Nat) : c.argTypes[i]? = nth c.argTypes.toList i := by
  rw [nth_eq]; simp
theorem Gives.of {s : Sem Value} {a : Act} {w w' : World} {v' : Value} (he : execOp a.eval o = (do pure (Next.value (← s)) : Sem Next)) (h : s.run P w = .ok v' w') : Gives P o a w v' w' :=
  .inl (by rw [he]; exact r_v h)
theorem a_append {c : Call} {x y : Operand} {e size : Nat} (hT : elemT P (nth c.argTypes.toList 0) = some (e, size)) (ho : o.op = .call c) (hb : c.callee = .builtin .append) (ha : c.args.toList = [x, y]) (hx : okO sz nG x = true) (hy : okO sz nG y = true) :
    Actor P nG sz o (fun fr H => match srcOk P (nth c.argTypes.toList 1) size (ev y fr) with | true => appV nG e size (ev x fr) (ev y fr) H | false => .bad) := by
  intro base w0 J fr a H w v H' hat hw hf
  dsimp only at hf
  split at hf <;> first | (cases hf; done) | skip
  rename_i hk
  obtain ⟨J', v', w', r1, r2, r3, r4⟩ := appV_sound (ty := o.type) hw hT hk hf (hat.ev hx) (hat.ev hy)
  refine ⟨J', v', w', r1, Gives.of (s := Builtin.append_ c.argTypes o.type (c.args.map a.eval)) (exec_builtin ho hb a) ?_, r3, r4⟩
  rw [two_args ha]
  exact r2 _ (types_nth c 0) (types_nth c 1)
end Go.Proofs.YtfafhdganloipaaGreatDoor.Eng

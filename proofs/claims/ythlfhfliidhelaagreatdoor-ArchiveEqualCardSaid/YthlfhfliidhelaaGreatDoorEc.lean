/- What is appended. -/
import Derived.Test.YthlfhfliidhelaaGreatDoorEb
import Derived.Deep.AppendSrc
import Derived.Laws.MakeOwn
import Derived.Lib.Builder
import Derived.Lib.UnsafeStr
set_option linter.unusedSimpArgs false
set_option linter.unusedVariables false
set_option linter.all false
namespace Go.Proofs.YthlfhfliidhelaaGreatDoor.Eng
open Go.RowKit
variable {P : Program} {nG sz base : Nat} {w0 : World} {o : Oper}
theorem elemT_some {t : Option TypeId} {e size : Nat} (h : elemT P t = some (e, size)) : ∃ t' j z, t = some t' ∧ P.underlying t' = some (.slice e) ∧ P.info? e = some j ∧ j.zero = some z ∧ j.size = size ∧ z.cells.size = size ∧ j.bytes ≤ 1000000 := by
  unfold elemT at h
  split at h <;> first | (cases h; done) | skip
  rename_i t'
  split at h <;> first | (cases h; done) | skip
  rename_i e' hu
  split at h <;> first | (cases h; done) | skip
  rename_i j hj
  split at h <;> first | (cases h; done) | skip
  rename_i z hz
  split at h <;> first | (cases h; done) | skip
  rename_i hc
  rw [Bool.and_eq_true, Nat.beq_eq, Nat.ble_eq] at hc
  obtain ⟨rfl, rfl⟩ := Prod.mk.inj (Option.some.inj h)
  exact ⟨t', j, z, rfl, hu, hj, hz, rfl, hc.1, hc.2⟩
theorem byteCells_eq (l : List UInt8) : Eng.byteCells l = l.map fun b => Value.int .u8 b.toNat := mapL_eq _ _
theorem plain_byteCells (l : List UInt8) : plainL (Eng.byteCells l) = true := by
  rw [byteCells_eq]
  induction l with
  | nil => rfl
  | cons b l ih => simp only [List.map_cons, plainL, plainV, ih, Bool.and_self]
theorem VRs.ones {J : Inj} {l l' : List Value} (h : VRs J l l') (ho : ∀ v ∈ l, oneC v = true) : ∀ v ∈ l', v.oneCell' = true := by
  induction l generalizing l' with
  | nil => cases h; intro v hv; cases hv
  | cons a l ih => cases h with
    | cons _ a' _ l' ha hl =>
      intro v hv
      rcases List.mem_cons.1 hv with rfl | hv
      · exact ha.one (ho a (by simp))
      · exact ih hl (fun v hv => ho v (by simp [hv])) v hv
theorem lenV_slice {b : Option Addr} {n c m : Nat} (h : lenV (.slice b n c) = some m) : m = n := (Option.some.inj h).symm
theorem src_sound {J : Inj} {H : AH} {w : World} (h : WR P nG base w0 J H w) {tx : Option TypeId} {size m : Nat} {x x' : Value} {new : List Value} (hk : srcOk P tx size x = true) (hl : lenV x = some m) (hf : firstC H size m x = some new)
    (ho : ∀ v ∈ new, oneC v = true) (hx : VR J x x') : ∃ tx' news, tx = some tx' ∧ VRs J new news ∧ Src P size tx' x' m news w := by
  unfold srcOk at hk
  split at hk <;> first | (cases hk; done) | skip
  rename_i t
  split at hk <;> first | (cases hk; done) | skip
  · rename_i e' b n c hu
    obtain rfl := lenV_slice hl
    unfold firstC at hf
    split at hf <;> first | (cases hf; done) | skip
    · rename_i b p n c hc
      injection hc with h1 h2 h3
      subst h1 h2 h3
      obtain ⟨o', c', y, hJ, rfl, hn, ho', -⟩ := hx.slice_inv
      split at hf
      · obtain rfl := Option.some.inj hf
        exact ⟨t, [], rfl, .nil, Src.ofSlice w hu _ _ _ [] (by simp) (fun j u hj => by simp at hj) (fun _ h => by cases h)⟩
      · rename_i k
        obtain ⟨l', h1, h2, h3⟩ := h.read hf hJ
        obtain rfl : o' = y.d + p := ho'.resolve_right (by omega)
        exact ⟨t, l', rfl, h1, Src.ofSlice w hu _ _ _ l' h2 h3 (h1.ones ho)⟩
    · rename_i n c hc
      injection hc with h1 h2 h3
      subst h1 h2 h3
      obtain rfl := Option.some.inj hf
      cases hx
      exact ⟨t, [], rfl, .nil, Src.ofNil w hu _⟩
    · rename_i hc; cases hc
  · rename_i s hu
    obtain ⟨⟨l⟩⟩ := s
    have hm : m = l.length := by have := Option.some.inj hl; rw [lenL_eq] at this; exact this.symm
    subst hm
    obtain rfl := Option.some.inj hf
    have e1 := VR.plain hx rfl
    subst e1
    rw [Nat.beq_eq] at hk
    subst hk
    have htk : takeL l.length l = l := by rw [takeL_eq, List.take_length]
    rw [htk] at ho ⊢
    refine ⟨t, Eng.byteCells l, rfl, VRs.of_plain (plain_byteCells l), ?_⟩
    have := Src.ofString (P := P) w hu ⟨⟨l⟩⟩
    rw [byteCells_eq]
    exact this
theorem growBy_le (n : Nat) : ∀ (r c : Nat), c < n → Builtin.growBy n r c ≤ 2 * n + 200 := by
  intro r
  induction r with
  | zero => intro c h; simp [Builtin.growBy]; omega
  | succ r ih =>
    intro c h
    unfold Builtin.growBy
    split
    · omega
    · by_cases hc : c + (c + 768) / 4 < n
      · exact ih _ hc
      · cases r with
        | zero => simp [Builtin.growBy]; omega
        | succ r =>
          unfold Builtin.growBy
          rw [if_pos (by omega)]; omega
theorem next_le {n c : Nat} (h : c < n) : Builtin.nextslicecap n c ≤ 2 * n + 200 := by
  unfold Builtin.nextslicecap
  split
  · omega
  · split
    · omega
    · exact growBy_le n 4 c h
theorem zeroCells_size (z : Array Value) (n : Nat) : (Builtin.zeroCells z n).size = n * z.size := by simp [Builtin.zeroCells]
theorem first_sound {J : Inj} {H : AH} {w : World} (h : WR P nG base w0 J H w) {size n c : Nat} {b : Option Addr} {s' : Value} {old : List Value} (hf : firstC H size n (.slice b n c) = some old) (hs : VR J (.slice b n c) s') :
    ∃ b' c' olds, s' = .slice b' n c' ∧ VRs J old olds ∧ (Builtin.firstCells size n s').run P w.drew = .ok olds.toArray w.drew ∧ old.length = n * size := by
  unfold firstC at hf
  split at hf <;> first | (cases hf; done) | skip
  · rename_i b p n c hc
    injection hc with h1 h2 h3
    subst h1 h2 h3
    obtain ⟨o', c', y, hJ, rfl, hn, ho', -⟩ := hs.slice_inv
    split at hf
    · obtain rfl := Option.some.inj hf
      refine ⟨_, _, [], rfl, .nil, ?_, by simp⟩
      simp [Builtin.firstCells, loadCells, loadCellsFrom]
    · rename_i k
      obtain ⟨l', h1, h2, h3⟩ := h.read hf hJ
      obtain rfl : o' = y.d + p := ho'.resolve_right (by omega)
      refine ⟨_, _, l', rfl, h1, ?_, ?_⟩
      · exact run_firstCells_some w.drew size _ _ _ _ l' h2 (by simpa using h3)
      · rw [h1.length]; exact h2
  · rename_i n c hc
    injection hc with h1 h2 h3
    subst h1 h2 h3
    obtain rfl := Option.some.inj hf
    cases hs
    refine ⟨_, _, [], rfl, .nil, ?_, by simp⟩
    simp [Builtin.firstCells]
  · rename_i hc; cases hc
end Go.Proofs.YthlfhfliidhelaaGreatDoor.Eng
namespace Go.Proofs.YthlfhfliidhelaaGreatDoor.Eng
open Go.RowKit
variable {P : Program} {nG sz base : Nat} {w0 : World} {o : Oper}
theorem setCells_heap {B : Nat} {e : TypeId} {fz : Nat × Nat} : ∀ (vs : List Value) (o : Nat) (w : World) (c : Array Value), w.heap[B]? = some (.cells c e fz) → o + vs.length ≤ c.size →
    ∃ c2, (w.setCells B o vs).heap[B]? = some (.cells c2 e fz) ∧ c2.size = c.size ∧ (∀ i, i < o → c2[i]? = c[i]?) ∧ (∀ (j : Nat) (v : Value), vs[j]? = some v → c2[o + j]? = some v) ∧
      (∀ k, k ≠ B → (w.setCells B o vs).heap[k]? = w.heap[k]?) ∧ (w.setCells B o vs).heap.size = w.heap.size ∧ (∀ n a, n ≤ B → Below n a w → Below n a (w.setCells B o vs))
  | [], o, w, c, h, _ => ⟨c, h, rfl, fun _ _ => rfl, fun j v hj => by simp at hj, fun _ _ => rfl, rfl, fun _ _ _ h => h⟩
  | v :: vs, o, w, c, h, hl => by
    simp only [List.length_cons] at hl
    have h1 := heap_setCell_cells h o v
    obtain ⟨c2, g1, g2, g3, g4, g5, g6, g7⟩ := setCells_heap vs (o + 1) (w.setCell ⟨B, o, none⟩ v) _ h1 (by rw [Array.size_setIfInBounds]; omega)
    refine ⟨c2, g1, by rw [g2, Array.size_setIfInBounds], fun i hi => ?_, fun j u hj => ?_, fun k hk => ?_, ?_, fun n a hn hb => ?_⟩
    · rw [g3 i (by omega), Array.getElem?_setIfInBounds_ne (by omega)]
    · cases j with
      | zero =>
        simp at hj; subst hj
        rw [Nat.add_zero, g3 o (by omega), Array.getElem?_setIfInBounds_self_of_lt (by omega)]
      | succ j =>
        have := g4 j u (by simpa using hj)
        rw [show o + (j + 1) = o + 1 + j by omega]; exact this
    · show ((w.setCell ⟨B, o, none⟩ v).setCells B (o + 1) vs).heap[k]? = _
      rw [g5 k hk]; exact Below.heap_setCell w ⟨B, o, none⟩ v k hk
    · show ((w.setCell ⟨B, o, none⟩ v).setCells B (o + 1) vs).heap.size = _
      rw [g6]; simp [World.setCell]
    · exact g7 n a hn (hb.setCell hn v)
theorem WR.grow {J : Inj} {H : AH} {w : World} (h : WR P nG base w0 J H w) (hr : H.next + 1 ≤ 262144) {t tx ty e : TypeId} {j : TypeInfo} {z : Value} {size : Nat} (ht : P.underlying t = some (.slice e)) (hj : P.info? e = some j) (hz : j.zero = some z) (hs : j.size = size)
    (hzs : z.cells.size = size) (hby : j.bytes ≤ 1000000) (h1 : 1 ≤ size) {b : Option Addr} {n m c : Nat} {x' : Value} {old new olds news : List Value} (ho : VRs J old olds) (hn : VRs J new news) (hold : (Builtin.firstCells size n (.slice b n c)).run P w.drew = .ok olds.toArray w.drew)
    (hsrc : Src P size tx x' m news w) (holen : old.length = n * size) (hg : c < n + m) (hle : n + m ≤ 1000000) :
    ∃ (J' : Inj) (v' : Value) (w' : World), VR J' (.slice (some ⟨H.next, 0, none⟩) (n + m) (unk size (n + m))) v' ∧ (Builtin.append_ #[t, tx] ty #[.slice b n c, x']).run P w = .ok v' w' ∧
      WR P nG base w0 J' (H.new (.cells (old ++ new) e)) w' ∧ Ev H.next J H w J' (H.new (.cells (old ++ new) e)) w' := by
  subst hs
  have hnl := next_le hg
  have hfit : Builtin.nextslicecap (n + m) c * j.bytes ≤ 281474976710656 := by
    have : Builtin.nextslicecap (n + m) c * j.bytes ≤ (2 * (n + m) + 200) * 1000000 := Nat.mul_le_mul hnl hby
    omega
  have run := run_append_grow_src (P := P) w t tx ty e j z ht hj hz b n c olds hold x' m news hsrc hg (by omega) hfit
  have hge := grownCap_ge w (n + m) c e
  generalize grownCap w (n + m) c e = g at run hge
  have hd := h.drew
  have hsz : w.drew.heap.size = w.heap.size := rfl
  have hor : OR P nG (J.add H.next ⟨w.drew.heap.size, 0, j.size, g⟩) (w.drew.alloc (.cells ((olds ++ news).toArray ++ Builtin.zeroCells z.cells (g - (n + m))) e)) ⟨w.drew.heap.size, 0, j.size, g⟩ (.cells (old ++ new) e) := by
    have hlen : (olds ++ news).length = (n + m) * j.size := by
      rw [List.length_append, ← ho.length, holen, hsrc.newsLen, Nat.add_mul]
    refine ⟨_, (0, 0), World.alloc_heap_new _ _, .inl (Nat.le_refl _), fun i v hi => ?_, fun _ => ⟨by simp [hj], ?_⟩, Nat.zero_mod _⟩
    · obtain ⟨v', a1, a2⟩ := (ho.append hn).get hi
      have hlt := (List.getElem?_eq_some_iff.1 a1).1
      refine ⟨v', ?_, a2.mono (Inj.le_add h.fresh)⟩
      rw [Nat.zero_add, Array.getElem?_append_left (by simpa using hlt)]
      simpa using a1
    · rw [Nat.zero_add, Array.size_append, zeroCells_size, hzs]
      simp only [List.size_toArray, hlen]
      rw [← Nat.add_mul]
      have : n + m + (g - (n + m)) = g := by omega
      rw [this]; exact Nat.le_refl _
  obtain ⟨k1, k2⟩ := WR.alloc (P := P) (show WR P nG base w0 J H w.drew from hd) hr (.cells (old ++ new) e) (.cells ((olds ++ news).toArray ++ Builtin.zeroCells z.cells (g - (n + m))) e) j.size g hor
  refine ⟨_, _, _, ?_, run, k1, ?_⟩
  · refine .slice H.next 0 _ _ 0 _ ⟨w.drew.heap.size, 0, j.size, g⟩ (Inj.add_same _ _ _) hge (.inl rfl) (.inr ⟨n + m, 0, rfl, ?_, h1, hge, by simp, rfl⟩)
    exact Nat.lt_of_le_of_lt hle (by decide)
  · exact (Ev.heap_eq (N := H.next) (J := J) (H := H) (w := w) (w' := w.drew) rfl).trans h.ids k2
end Go.Proofs.YthlfhfliidhelaaGreatDoor.Eng
namespace Go.Proofs.YthlfhfliidhelaaGreatDoor.Eng
open Go.RowKit
variable {P : Program} {nG sz base : Nat} {w0 : World} {o : Oper}
theorem WR.upon {J : Inj} {H : AH} {w : World} (h : WR P nG base w0 J H w) (hr : H.next + 1 ≤ 262144) {t tx ty e : TypeId} {j : TypeInfo} (ht : P.underlying t = some (.slice e)) (hj : P.info? e = some j)
    {b p k n m c' : Nat} {x : Tg} {cs0 : List Value} {x' : Value} {old new news : List Value} (hb : H.get b = some (.cells cs0 e)) (hJ : J b = some x) (hnb : nG ≤ b) (hs : j.size = x.s) (h1 : 0 < x.s) (hp : p = k * x.s) (hC : c' + k = x.C)
    (hold : old = (cs0.drop p).take (n * x.s)) (holen : old.length = n * x.s) (hn : VRs J new news) (hsrc : Src P j.size tx x' m news w) (hfit : n + m ≤ c') (hle : n + m < big) :
    ∃ (J' : Inj) (v' : Value) (w' : World), VR J' (.slice (some ⟨H.next, 0, none⟩) (n + m) (unk x.s (n + m))) v' ∧ (Builtin.append_ #[t, tx] ty #[.slice (some ⟨x.B, x.d + p, none⟩) n c', x']).run P w = .ok v' w' ∧
      WR P nG base w0 J' ((H.put b none).new (.cells (old ++ new) e)) w' ∧ Ev H.next J H w J' ((H.put b none).new (.cells (old ++ new) e)) w' := by
  obtain ⟨cs', fz, a1, a2, a3, a4⟩ := h.obj b _ x hb hJ
  obtain ⟨-, a5⟩ := a4.1 (by omega)
  have hb6 := h.small hJ
  have hnl : news.length = m * x.s := by rw [hsrc.newsLen, hs]
  have hend : x.d + p + n * x.s + news.length ≤ cs'.size := by
    have : (k + (n + m)) * x.s ≤ x.C * x.s := Nat.mul_le_mul_right _ (by omega)
    rw [Nat.add_mul, Nat.add_mul] at this
    omega
  have hcell : ∀ i, i < news.length → (w.cell? ⟨x.B, x.d + p + n * x.s + i, none⟩).isSome = true := fun i hi => by
    rw [World.cell_of a1, Array.getElem?_eq_getElem (by omega)]; rfl
  have hfroz : ∀ i, i < news.length → w.frozen? ⟨x.B, x.d + p + n * x.s + i, none⟩ = false := fun i hi => by
    obtain ⟨lo, hi'⟩ := fz
    simp only [World.frozen?, a1]
    rcases a2 with a2 | a2 <;> simp only at a2 <;> simp <;> omega
  have run := run_append_room_src (P := P) w t tx ty e j ht hj x.B (x.d + p) n c' x' m news hsrc hfit (by rw [hs]; exact hcell) (by rw [hs]; exact hfroz)
  rw [hs] at run
  obtain ⟨c2, g1, g2, g3, g4, g5, g6, g7⟩ := setCells_heap (e := e) news (x.d + p + n * x.s) w cs' a1 hend
  have hB := h.own b x hJ hnb
  have hf := h.fresh
  have hd := (h.drop hb6).skip (m := 1) (by simpa using hr)
  have hle' := Inj.le_add (x := (⟨x.B, x.d + p, x.s, c'⟩ : Tg)) hf
  have hlt := h.lt b x hJ
  refine ⟨J.add H.next ⟨x.B, x.d + p, x.s, c'⟩, _, _, ?_, run, ?_, ?_⟩
  · exact .slice H.next 0 _ _ (x.d + p) _ ⟨x.B, x.d + p, x.s, c'⟩ (Inj.add_same _ _ _) hfit (.inl rfl) (.inr ⟨n + m, 0, rfl, hle, h1, hfit, by simp, rfl⟩)
  · rw [AH.new_eq]
    refine hd.place (b := H.next) hf (by simp) (.cells (old ++ new) e) ⟨x.B, x.d + p, x.s, c'⟩ (by rw [g6]; exact Nat.le_refl _) (by rw [g6]; exact hlt) hB (g7 _ _ hB h.below) (fun q _ hq => g5 q hq) ?_ ?_
    · intro b2 y hl2 hj2 he
      have hb2 := h.small hj2
      rw [AH.get_skip, AH.get_put H _ hb6 hb2] at hl2
      split at hl2
      · cases hl2
      · rename_i hne
        exact hne (h.inj b2 b y x hl2 (by rw [hb]; rfl) hj2 hJ he)
    · refine ⟨c2, fz, g1, by rw [g2]; exact a2, fun i v hi => ?_, fun _ => ⟨by simp [hj, hs], ?_⟩, by show (x.d + p) % x.s = 0; rw [hp, Nat.add_mul_mod_self_right]; exact a4.2⟩
      · rw [List.getElem?_append] at hi
        split at hi
        · rename_i hi2
          rw [hold, List.getElem?_take] at hi
          rw [holen] at hi2
          rw [if_pos hi2, List.getElem?_drop] at hi
          obtain ⟨v', b1, b2⟩ := a3 (p + i) v hi
          refine ⟨v', ?_, b2.mono hle'⟩
          rw [g3 _ (by show x.d + p + i < _; omega)]
          show cs'[x.d + p + i]? = some v'
          rw [Nat.add_assoc]; exact b1
        · rename_i hi2
          rw [holen] at hi2 hi
          obtain ⟨v', b1, b2⟩ := hn.get hi
          refine ⟨v', ?_, b2.mono hle'⟩
          have := g4 _ _ b1
          show c2[x.d + p + i]? = some v'
          rw [show x.d + p + i = x.d + p + n * x.s + (i - n * x.s) by omega]; exact this
      · show x.d + p + c' * x.s ≤ c2.size
        rw [g2]
        have : (k + c') * x.s = x.C * x.s := by rw [← hC, Nat.add_comm]
        rw [Nat.add_mul] at this
        omega
  · refine ⟨hle', fun b2 y hn2 hy => ?_, Nat.le_succ _, fun B hB2 hnot => g5 B (fun e2 => hnot b x (by rw [hb]; rfl) hJ e2.symm), fun b2 y hn2 hy => ?_, by rw [g6]; exact Nat.le_refl _, fun b2 hb2 hl2 => ?_⟩
    · rcases Inj.add_inv hy with ⟨rfl, _⟩ | ⟨_, hy⟩
      · exact Nat.le_refl _
      · rw [hn2] at hy; cases hy
    · rcases Inj.add_inv hy with ⟨_, rfl⟩ | ⟨_, hy⟩
      · exact .inr ⟨b, x, by rw [hb]; rfl, hJ, rfl⟩
      · rw [hn2] at hy; cases hy
    · have := h.top
      rw [AH.get_new _ _ (by simp; omega) (by omega), if_neg (by simp; omega), AH.get_put H _ hb6 (by omega)] at hl2
      split at hl2
      · cases hl2
      · exact hl2
theorem appN_sound {J : Inj} {H H' : AH} {w : World} (h : WR P nG base w0 J H w) {ts : List TypeId} {ty e : TypeId} {size n m c : Nat} {b : Option Addr} {s' x' v : Value} {old new news : List Value} (hT : elemT P (nth ts 0) = some (e, size)) {tx : TypeId} (htx : nth ts 1 = some tx)
    (ho : firstC H size n (.slice b n c) = some old) (hv : appN nG e size n m c b old new H = .ok v H') (hnot : low c < n + m) (hs : VR J (.slice b n c) s') (hn : VRs J new news) (hsrc : Src P size tx x' m news w) :
    ∃ (J' : Inj) (v' : Value) (w' : World), VR J' v v' ∧ (∀ (A : Array TypeId), A[0]? = nth ts 0 → A[1]? = nth ts 1 → (Builtin.append_ A ty #[s', x']).run P w = .ok v' w') ∧ WR P nG base w0 J' H' w' ∧ Ev H.next J H w J' H' w' := by
  obtain ⟨t, j, z, e0, ht, hj, hz, rfl, hzs, hby⟩ := elemT_some hT
  have hA : ∀ (A : Array TypeId), A[0]? = nth ts 0 → A[1]? = nth ts 1 → (Builtin.append_ A ty #[s', x']).run P w = (Builtin.append_ #[t, tx] ty #[s', x']).run P w := by
    intro A h0 h1
    rw [e0] at h0
    rw [htx] at h1
    unfold Builtin.append_
    simp only [h0, h1]
    rfl
  obtain ⟨b', c', olds, rfl, hol, hofirst, holen⟩ := first_sound h ho hs
  unfold appN at hv
  split at hv <;> first | (cases hv; done) | skip
  · rename_i b p hcond hbig
    rw [Bool.and_eq_true, Bool.and_eq_true, Nat.ble_eq, Nat.ble_eq] at hcond
    obtain ⟨⟨hle, hsz⟩, hroom⟩ := hcond
    have hle : n + m ≤ 1000000 := hle
    unfold AH.room at hroom
    rw [Nat.ble_eq] at hroom
    split at hv <;> first | (cases hv; done) | skip
    rename_i hc2
    rw [Bool.and_eq_true, Bool.and_eq_true, Nat.ble_eq, Nat.beq_eq] at hc2
    obtain ⟨⟨hnb, hstr⟩, hel⟩ := hc2
    rw [appL_eq] at hv
    obtain ⟨rfl, rfl⟩ : _ ∧ _ := by injection hv with h1 h2; exact ⟨h1, h2⟩
    obtain ⟨o', c2, x, hJ, hsl, hnc, ho', hcc⟩ := hs.slice_inv
    injection hsl with q1 q2 q3
    subst q1 q3
    have hlive : ∃ cs0, H.get b = some (.cells cs0 e) := by
      cases hg : H.get b with
      | none => rw [hg] at hel; cases hel
      | some ob =>
        cases ob with
        | cells cs0 e' =>
          rw [hg] at hel
          have hel : Nat.beq e e' = true := hel
          rw [Nat.beq_eq] at hel
          exact ⟨cs0, by rw [hel]⟩
        | map _ => rw [hg] at hel; cases hel
        | loop _ _ _ _ _ => rw [hg] at hel; cases hel
    obtain ⟨cs0, hb⟩ := hlive
    have hb6 := h.small hJ
    rcases hcc with ⟨hc, rfl⟩ | ⟨m0, k, rfl, hm0, hxs, hmc, hpk, hC⟩
    · rw [Nat.ble_eq] at hbig; omega
    rw [stride_unk hm0] at hstr
    rcases Nat.lt_or_ge c' (n + m) with hlt | hge
    · -- a new row
      obtain ⟨J', v', w', r1, r2, r3, r4⟩ := (h.drop hb6).grow (by simpa using hroom) ht hj hz rfl hzs hby hsz hol hn hofirst hsrc holen hlt hle (ty := ty)
      refine ⟨J', v', w', r1, fun A h0 h1 => by rw [hA A h0 h1]; exact r2, r3, ?_⟩
      exact (Ev.drop h (by have := h.top; omega) hb6).trans h.ids r4
    · rw [low_unk hxs hm0] at hnot
      obtain rfl : o' = x.d + p := ho'.resolve_right (by omega)
      have hold : old = (cs0.drop p).take (n * x.s) := by
        unfold firstC at ho
        dsimp only at ho
        split at ho
        · obtain rfl := Option.some.inj ho; simp
        · rename_i k'
          obtain ⟨cs1, e1, hb1, rfl, -, -⟩ := cellsAt_some ho
          rw [hb] at hb1
          injection hb1 with hb1
          injection hb1 with hb1 _
          rw [hb1, hstr]; rfl
      obtain ⟨J', v', w', r1, r2, r3, r4⟩ := h.upon hroom ht hj hb hJ hnb hstr.symm hxs hpk hC hold (by rw [holen, hstr]) hn hsrc hge (Nat.lt_of_le_of_lt hle (by decide)) (ty := ty)
      refine ⟨J', v', w', ?_, fun A h0 h1 => by rw [hA A h0 h1]; exact r2, r3, r4⟩
      rw [← hstr]; exact r1
  · rename_i hcond hbig
    rw [Bool.and_eq_true, Bool.and_eq_true, Nat.ble_eq, Nat.ble_eq] at hcond
    obtain ⟨⟨hle, hsz⟩, hroom⟩ := hcond
    have hle : n + m ≤ 1000000 := hle
    unfold AH.room at hroom
    rw [Nat.ble_eq] at hroom
    rw [appL_eq] at hv
    obtain ⟨rfl, rfl⟩ : _ ∧ _ := by injection hv with h1 h2; exact ⟨h1, h2⟩
    have hcs := ble_false hbig
    have hlt : c' < n + m := by
      rw [low_small hcs] at hnot
      cases hs with
      | snil => omega
      | slice _ _ _ _ _ _ _ _ _ _ hcc =>
        rcases hcc with ⟨_, rfl⟩ | ⟨m0, k, rfl, hm0, hxs, -⟩
        · exact hnot
        · have := unk_ge (m := m0) hxs; omega
    obtain ⟨J', v', w', r1, r2, r3, r4⟩ := h.grow hroom ht hj hz rfl hzs hby hsz hol hn hofirst hsrc holen hlt hle (ty := ty)
    exact ⟨J', v', w', r1, fun A h0 h1 => by rw [hA A h0 h1]; exact r2, r3, r4⟩
end Go.Proofs.YthlfhfliidhelaaGreatDoor.Eng
namespace Go.Proofs.YthlfhfliidhelaaGreatDoor.Eng
open Go.RowKit
variable {P : Program} {nG sz base : Nat} {w0 : World} {o : Oper}
theorem Ev.next_le {N : Nat} {J J' : Inj} {H H' : AH} {w w' : World} (h : Ev N J H w J' H' w') : H.next ≤ H'.next := h.next
theorem r_fits {t tx ty e : TypeId} {j : TypeInfo} (ht : P.underlying t = some (.slice e)) (hj : P.info? e = some j) {B p n m c : Nat} {x' : Value} {news : List Value} {w w' : World} (hs : Src P j.size tx x' m news w) (hroom : n + m ≤ c)
    (hst : (storeCells ⟨B, p + n * j.size, none⟩ news).run P w = .ok () w') :
    (Builtin.append_ #[t, tx] ty #[.slice (some ⟨B, p, none⟩) n c, x']).run P w = .ok (.slice (some ⟨B, p, none⟩) (n + m) c) w' := by
  rcases hs.kind with ⟨e', hk⟩ | hk <;> simp [Builtin.append_, run_underlying ht, run_underlying hk, sizeOf, typeInfo, hj, hs.len, hroom, hs.cells, Addr.add_lit, hst]
theorem r_fitsNil {t tx ty e : TypeId} {j : TypeInfo} (ht : P.underlying t = some (.slice e)) (hj : P.info? e = some j) {n m c : Nat} {x' : Value} {news : List Value} {w : World} (hs : Src P j.size tx x' m news w) (hroom : n + m ≤ c) :
    (Builtin.append_ #[t, tx] ty #[.slice none n c, x']).run P w = .ok (.slice none (n + m) c) w := by
  rcases hs.kind with ⟨e', hk⟩ | hk <;> simp [Builtin.append_, run_underlying ht, run_underlying hk, sizeOf, typeInfo, hj, hs.len, hroom, hs.cells]
theorem VR.low_le {J : Inj} {b : Addr} {n c n' c' : Nat} {b' : Option Addr} (h : VR J (.slice (some b) n c) (.slice b' n' c')) : low c ≤ c' := by
  cases h with
  | slice _ _ _ _ _ _ _ _ _ _ hc =>
    rcases hc with ⟨h6, rfl⟩ | ⟨m, k, rfl, hm, hs, hle, -, -⟩
    · rw [low_small h6]; exact Nat.le_refl _
    · rw [low_unk hs hm]; exact hle
theorem appV_sound {J : Inj} {H H' : AH} {w : World} (h : WR P nG base w0 J H w) {ts : List TypeId} {ty e : TypeId} {size : Nat} {s s' x x' v : Value} (hT : elemT P (nth ts 0) = some (e, size)) (hk : srcOk P (nth ts 1) size x = true)
    (hv : appV nG e size s x H = .ok v H') (hs : VR J s s') (hx : VR J x x') :
    ∃ (J' : Inj) (v' : Value) (w' : World), VR J' v v' ∧ (∀ (A : Array TypeId), A[0]? = nth ts 0 → A[1]? = nth ts 1 → (Builtin.append_ A ty #[s', x']).run P w = .ok v' w') ∧ WR P nG base w0 J' H' w' ∧ Ev H.next J H w J' H' w' := by
  unfold appV at hv
  split at hv <;> first | (cases hv; done) | skip
  rename_i b n c m hlen
  split at hv <;> first | (cases hv; done) | skip
  rename_i new hnew
  split at hv <;> first | (cases hv; done) | skip
  · rename_i hone hfit
    rw [Nat.ble_eq] at hfit
    have hfit : n + m ≤ low c := hfit
    obtain ⟨tx, news, htx, hn, hsrc⟩ := src_sound h hk hlen hnew (allOne_all hone) hx
    obtain ⟨t, j, z, e0, ht, hj, hz, rfl, hzs, hby⟩ := elemT_some hT
    have hA : ∀ (A : Array TypeId), A[0]? = nth ts 0 → A[1]? = nth ts 1 → (Builtin.append_ A ty #[s', x']).run P w = (Builtin.append_ #[t, tx] ty #[s', x']).run P w := by
      intro A h0 h1
      rw [e0] at h0
      rw [htx] at h1
      unfold Builtin.append_
      simp only [h0, h1]
      rfl
    split at hv <;> first | (cases hv; done) | skip
    · obtain ⟨rfl, rfl⟩ : _ ∧ _ := by injection hv with h1 h2; exact ⟨h1, h2⟩
      cases hs with
      | snil =>
        have e00 : low 0 = 0 := by decide
        rw [e00] at hfit
        obtain rfl : m = 0 := by omega
        refine ⟨J, _, w, .snil, fun A h0 h1 => ?_, h, Ev.refl _ J H w⟩
        rw [hA A h0 h1, r_fitsNil ht hj hsrc (Nat.le_refl _)]
    · rename_i b p
      obtain ⟨rfl, rfl⟩ : _ ∧ _ := by injection hv with h1 h2; exact ⟨h1, h2⟩
      obtain ⟨o', c', y, hJ, rfl, hnc, ho', hcc⟩ := hs.slice_inv
      have hlow := hs.low_le
      cases hn
      refine ⟨J, _, w, .slice b p _ c o' c' y hJ (show n + m ≤ c' by omega) ho' hcc, fun A h0 h1 => ?_, h, Ev.refl _ J H w⟩
      rw [hA A h0 h1, r_fits ht hj hsrc (show n + m ≤ c' by omega) (w' := w) rfl]
      rfl
    · rename_i b p hne
      split at hv <;> first | (cases hv; done) | skip
      rename_i H2 hst
      obtain ⟨rfl, rfl⟩ : _ ∧ _ := by injection hv with h1 h2; exact ⟨h1, h2⟩
      obtain ⟨o', c', y, hJ, rfl, hnc, ho', hcc⟩ := hs.slice_inv
      have hlow := hs.low_le
      have hc0 : c' ≠ 0 := by
        rintro rfl
        have hm0 : m = 0 := by omega
        subst hm0
        have : news = [] := List.eq_nil_of_length_eq_zero (by rw [hsrc.newsLen]; simp)
        subst this
        cases hn
        exact hne rfl
      obtain rfl : o' = y.d + p := ho'.resolve_right hc0
      obtain ⟨w', hr, r1, r2⟩ := storeL_sound h hst hJ hn
      refine ⟨J, _, w', .slice b p _ c _ c' y hJ (show n + m ≤ c' by omega) (.inl rfl) hcc, fun A h0 h1 => ?_, r1, r2⟩
      rw [hA A h0 h1, r_fits ht hj hsrc (show n + m ≤ c' by omega) (w' := w') (by rw [Nat.add_assoc]; exact hr)]
      rfl
  · rename_i hone hfit
    have hnot := ble_false hfit
    obtain ⟨tx, news, htx, hn, hsrc⟩ := src_sound h hk hlen hnew (allOne_all hone) hx
    split at hv <;> first | (cases hv; done) | skip
    rename_i old hold
    exact appN_sound h hT htx hold hv hnot hs hn hsrc
theorem two_args {c : Call} {x y : Operand} (ha : c.args.toList = [x, y]) (a : Act) : c.args.map a.eval = #[a.eval x, a.eval y] := by
  rw [map_arr ha]; rfl
theorem types_nth (c : Call) (i : Nat) : c.argTypes[i]? = nth c.argTypes.toList i := by
  rw [nth_eq]; simp
theorem Gives.of {s : Sem Value} {a : Act} {w w' : World} {v' : Value} (he : execOp a.eval o = (do pure (Next.value (← s)) : Sem Next)) (h : s.run P w = .ok v' w') : Gives P o a w v' w' :=
  .inl (by rw [he]; exact r_v h)
theorem a_append {c : Call} {x y : Operand} {e size : Nat} (hT : elemT P (nth c.argTypes.toList 0) = some (e, size)) (ho : o.op = .call c) (hb : c.callee = .builtin .append) (ha : c.args.toList = [x, y]) (hx : okO sz nG x = true) (hy : okO sz nG y = true) :
    Actor P nG sz o (fun fr H => match srcOk P (nth c.argTypes.toList 1) size (ev y fr) with | true => appV nG e size (ev x fr) (ev y fr) H | false => .bad) := by
  intro base w0 J fr a H w v H' hat hw hf
  dsimp only at hf
  split at hf <;> first | (cases hf; done) | skip
  rename_i hk
  obtain ⟨J', v', w', r1, r2, r3, r4⟩ := appV_sound (ty := o.type) hw hT hk hf (hat.ev hx) (hat.ev hy)
  refine ⟨J', v', w', r1, Gives.of (s := Builtin.append_ c.argTypes o.type (c.args.map a.eval)) (exec_builtin ho hb a) ?_, r3, r4⟩
  rw [two_args ha]
  exact r2 _ (types_nth c 0) (types_nth c 1)
end Go.Proofs.YthlfhfliidhelaaGreatDoor.Eng
namespace Go.Proofs.YthlfhfliidhelaaGreatDoor.Eng
open Go.RowKit
variable {P : Program} {nG sz base : Nat} {w0 : World} {o : Oper}
theorem firstN_sound {J : Inj} {H : AH} {w : World} (h : WR P nG base w0 J H w) {tx : Option TypeId} {size m n : Nat} {x x' : Value} {cs : List Value} (hk : srcOk P tx size x = true) (hl : lenV x = some m) (hnm : n ≤ m) (hf : firstC H size n x = some cs) (hx : VR J x x') :
    ∃ cs', VRs J cs cs' ∧ (∀ w1, (Builtin.lenOf x').run P w1 = .ok m w1) ∧ (Builtin.firstCells size n x').run P w = .ok ⟨cs'⟩ w := by
  unfold srcOk at hk
  split at hk <;> first | (cases hk; done) | skip
  split at hk <;> first | (cases hk; done) | skip
  · rename_i e' b k c hu
    obtain rfl := lenV_slice hl
    unfold firstC at hf
    split at hf <;> first | (cases hf; done) | skip
    · rename_i b p k c hc
      injection hc with h1 h2 h3
      subst h1 h2 h3
      obtain ⟨o', c', y, hJ, rfl, hn, ho', -⟩ := hx.slice_inv
      split at hf
      · obtain rfl := Option.some.inj hf
        refine ⟨[], .nil, fun _ => rfl, ?_⟩
        simp [Builtin.firstCells, loadCells, loadCellsFrom]
      · rename_i q
        obtain ⟨l', h1, h2, h3⟩ := h.read hf hJ
        obtain rfl : o' = y.d + p := ho'.resolve_right (by omega)
        refine ⟨l', h1, fun _ => rfl, ?_⟩
        exact run_firstCells_some w size _ _ _ _ l' h2 h3
    · rename_i k c hc
      injection hc with h1 h2 h3
      subst h1 h2 h3
      obtain rfl := Option.some.inj hf
      cases hx
      exact ⟨[], .nil, fun _ => rfl, by simp [Builtin.firstCells]⟩
    · rename_i hc; cases hc
  · rename_i s hu
    obtain ⟨⟨l⟩⟩ := s
    have hm : m = l.length := by have := Option.some.inj hl; rw [lenL_eq] at this; exact this.symm
    subst hm
    obtain rfl := Option.some.inj hf
    have e1 := VR.plain hx rfl
    subst e1
    refine ⟨Eng.byteCells (takeL n l), VRs.of_plain (plain_byteCells _), fun _ => rfl, ?_⟩
    simp only [Builtin.firstCells, ba_extract, Nat.sub_zero, List.drop_zero]
    rw [byteCells_eq, takeL_eq]
    show (pure _ : Sem _).run P w = _
    rw [Sem.run_pure]
    congr 1
    apply Array.ext'; simp
theorem copyV_sound {J : Inj} {H H' : AH} {w : World} (h : WR P nG base w0 J H w) {ts : List TypeId} {ty e : TypeId} {size : Nat} {d d' x x' v : Value} (hT : elemT P (nth ts 0) = some (e, size)) (hk : srcOk P (nth ts 1) size x = true)
    (hv : copyV nG size d x H = .ok v H') (hd : VR J d d') (hx : VR J x x') :
    ∃ (v' : Value) (w' : World), VR J v v' ∧ (∀ (A : Array TypeId), A[0]? = nth ts 0 → (Builtin.copy_ A ty #[d', x']).run P w = .ok v' w') ∧ WR P nG base w0 J H' w' ∧ Ev H.next J H w J H' w' := by
  obtain ⟨t, j, z, e0, ht, hj, hz, rfl, hzs, hby⟩ := elemT_some hT
  unfold copyV at hv
  split at hv <;> first | (cases hv; done) | skip
  rename_i b n c m hlen
  split at hv <;> first | (cases hv; done) | skip
  rename_i cs hcs
  obtain ⟨cs', hc, hl, hfirst⟩ := firstN_sound h hk hlen (Nat.min_le_left _ _) hcs hx
  have run : ∀ (A : Array TypeId), A[0]? = nth ts 0 → ∀ b' c', d' = .slice b' n c' → (Builtin.copy_ A ty #[d', x']).run P w = ((do
      if let some a := b' then storeCells a cs'
      pure (goInt (Nat.min m n)) : Sem Value)).run P w := by
    rintro A h0 b' c' rfl
    rw [e0] at h0
    simp only [Builtin.copy_, h0, List.getElem?_toArray, List.getElem?_cons_zero, List.getElem?_cons_succ, Sem.run_bind, r_under ht, Result.andThen, hl, r_size hj, hfirst]
    cases b' <;> rfl
  split at hv <;> first | (cases hv; done) | skip
  · obtain ⟨rfl, rfl⟩ : _ ∧ _ := by injection hv with h1 h2; exact ⟨h1, h2⟩
    cases hd
    exact ⟨_, w, .int .i64 _, fun A h0 => by rw [run A h0 none 0 rfl]; rfl, h, Ev.refl _ J H w⟩
  · obtain ⟨rfl, rfl⟩ : _ ∧ _ := by injection hv with h1 h2; exact ⟨h1, h2⟩
    cases hc
    cases hd
    exact ⟨_, w, .int .i64 _, fun A h0 => by rw [run A h0 _ _ rfl]; rfl, h, Ev.refl _ J H w⟩
  · rename_i b p hne
    split at hv <;> first | (cases hv; done) | skip
    rename_i H2 hst
    obtain ⟨rfl, rfl⟩ : _ ∧ _ := by injection hv with h1 h2; exact ⟨h1, h2⟩
    obtain ⟨o', c', y, hJ, rfl, hn, ho', -⟩ := hd.slice_inv
    have hc0 : c' ≠ 0 := by
      rintro rfl
      obtain rfl : n = 0 := by omega
      have h0 : Nat.min m 0 = 0 := Nat.min_zero m
      rw [h0] at hcs
      unfold firstC at hcs
      split at hcs <;> first | (cases hcs; done) | skip
      · exact hne (Option.some.inj hcs).symm
      · exact hne (Option.some.inj hcs).symm
      · exact hne (Option.some.inj hcs).symm
    obtain rfl : o' = y.d + p := ho'.resolve_right hc0
    obtain ⟨w', hr, r1, r2⟩ := storeL_sound h hst hJ hc
    refine ⟨_, w', .int .i64 _, fun A h0 => ?_, r1, r2⟩
    rw [run A h0 _ _ rfl]
    simp only [Sem.run_bind, hr, Result.andThen]; rfl
theorem a_copy {c : Call} {x y : Operand} {e size : Nat} (hT : elemT P (nth c.argTypes.toList 0) = some (e, size)) (ho : o.op = .call c) (hb : c.callee = .builtin .copy) (ha : c.args.toList = [x, y]) (hx : okO sz nG x = true) (hy : okO sz nG y = true) :
    Actor P nG sz o (fun fr H => match srcOk P (nth c.argTypes.toList 1) size (ev y fr) with | true => copyV nG size (ev x fr) (ev y fr) H | false => .bad) := by
  intro base w0 J fr a H w v H' hat hw hf
  dsimp only at hf
  split at hf <;> first | (cases hf; done) | skip
  rename_i hk
  obtain ⟨v', w', r1, r2, r3, r4⟩ := copyV_sound (ty := o.type) hw hT hk hf (hat.ev hx) (hat.ev hy)
  refine ⟨J, v', w', r1, Gives.of (s := Builtin.copy_ c.argTypes o.type (c.args.map a.eval)) (exec_builtin ho hb a) ?_, r3, r4⟩
  rw [two_args ha]
  exact r2 _ (types_nth c 0)
/-! maps -/
theorem a_map {t : TypeId} {r : Option Operand} {f : Fr → AH → RO} (hk : kMap P t r = .a f) (ho : o.op = .makeMap t r) : Actor P nG sz o f := by
  have hr : f = mapF ∧ ∀ a : Act, (Instr.makeMap t (r.map a.eval)) = (Instr.makeMap t none) ∨ ∃ k n kt et, r = some (.const (.int k n)) ∧ P.underlying t = some (.map kt et) := by
    unfold kMap at hk
    split at hk <;> first | (cases hk; done) | skip
    · injection hk with hk; exact ⟨hk.symm, fun a => .inl rfl⟩
    · rename_i k n
      split at hk <;> first | (cases hk; done) | skip
      rename_i kt et ht
      injection hk with hk
      exact ⟨hk.symm, fun a => .inr ⟨k, n, kt, et, rfl, ht⟩⟩
  obtain ⟨rfl, hr⟩ := hr
  intro base w0 J fr a H w v H' hat hw hv
  unfold mapF at hv
  split at hv <;> first | (cases hv; done) | skip
  rename_i hrm
  unfold AH.room at hrm
  rw [Nat.ble_eq] at hrm
  obtain ⟨rfl, rfl⟩ : _ ∧ _ := by injection hv with h1 h2; exact ⟨h1, h2⟩
  have hor : OR P nG (J.add H.next ⟨w.heap.size, 0, 0, 0⟩) (w.alloc (.map #[] 0)) ⟨w.heap.size, 0, 0, 0⟩ (.map []) := ⟨#[], 0, World.alloc_heap_new w _, .nil⟩
  obtain ⟨r1, r2⟩ := hw.alloc hrm (.map []) (.map #[] 0) 0 0 hor
  refine ⟨_, .map (some w.heap.size), _, .map H.next ⟨w.heap.size, 0, 0, 0⟩ (Inj.add_same _ _ _), .inl ?_, r1, r2⟩
  simp only [execOp, ho]
  refine r_v ?_
  rcases hr a with h1 | ⟨k, n, kt, et, rfl, ht⟩
  · rw [h1]; rfl
  · simp only [Option.map_some, Instr.makeMap, Sem.run_bind, r_under ht, Result.andThen]
    rfl
end Go.Proofs.YthlfhfliidhelaaGreatDoor.Eng
namespace Go.Proofs.YthlfhfliidhelaaGreatDoor.Eng
open Go.RowKit
variable {P : Program} {nG sz base : Nat} {w0 : World} {o : Oper}
theorem heap_setObj {w : World} {r : Nat} {o o' : Obj} (h : w.heap[r]? = some o) (hc : ∀ c e f, o ≠ .cells c e f) : (setObj r o').run P w = .ok () { w with heap := w.heap.setIfInBounds r o' } := by
  unfold setObj
  simp only [Sem.run, h]
theorem WR.object {J : Inj} {H : AH} {w : World} (h : WR P nG base w0 J H w) {N : Nat} (hN : N ≤ 262144) {b : Nat} {x : Tg} {o1 o2 : AO} {obj : Obj} (hb : H.get b = some o1) (hJ : J b = some x) (hn : nG ≤ b)
    (hor : ∀ w' : World, w'.heap[x.B]? = some obj → OR P nG J w' x o2) :
    WR P nG base w0 J (H.put b (some o2)) { w with heap := w.heap.setIfInBounds x.B obj } ∧ Ev N J H w J (H.put b (some o2)) { w with heap := w.heap.setIfInBounds x.B obj } := by
  have hb6 := h.small hJ
  have hlt := h.lt b x hJ
  have hsame : ∀ k, k ≠ x.B → ({ w with heap := w.heap.setIfInBounds x.B obj } : World).heap[k]? = w.heap[k]? := fun k hk => by
    show (w.heap.setIfInBounds x.B obj)[k]? = _
    rw [Array.getElem?_setIfInBounds_ne (Ne.symm hk)]
  have hself : ({ w with heap := w.heap.setIfInBounds x.B obj } : World).heap[x.B]? = some obj := by
    show (w.heap.setIfInBounds x.B obj)[x.B]? = _
    rw [Array.getElem?_setIfInBounds_self_of_lt hlt]
  have hsz : ({ w with heap := w.heap.setIfInBounds x.B obj } : World).heap.size = w.heap.size := by
    show (w.heap.setIfInBounds x.B obj).size = _
    rw [Array.size_setIfInBounds]
  have hlive : ∀ k, k < 262144 → ((H.put b (some o2)).get k).isSome = true → (H.get k).isSome = true := fun k h6 hk => by
    rw [AH.get_put H _ hb6 h6] at hk
    split at hk
    · rename_i e1; rw [e1, hb]; rfl
    · exact hk
  have hB := h.own b x hJ hn
  refine ⟨⟨h.glob, h.ids, by rw [hsz]; exact h.lt, fun b1 b2 x1 x2 l1 l2 j1 j2 => h.inj b1 b2 x1 x2 (hlive _ (h.small j1) l1) (hlive _ (h.small j2) l2) j1 j2, ?_, h.own, h.sep, h.nx, h.top, by rw [hsz]; exact h.room, ?_, ?_⟩, ⟨.refl J, ?_, Nat.le_refl _, ?_, ?_, by rw [hsz]; exact Nat.le_refl _, fun k hk => hlive k (by omega)⟩⟩
  · intro b1 o x1 hg hj
    rw [AH.get_put H _ hb6 (h.small hj)] at hg
    split at hg
    · rename_i e1; subst e1
      obtain rfl := Option.some.inj hg
      rw [hJ] at hj; obtain rfl := Option.some.inj hj
      exact hor _ hself
    · rename_i e1
      have hne : x1.B ≠ x.B := fun he => e1 (h.inj b1 b x1 x (by rw [hg]; rfl) (by rw [hb]; rfl) hj hJ he)
      exact (h.obj b1 o x1 hg hj).of_heap (.refl J) (hsame _ hne)
  · intro k h5 h6
    rw [AH.get_put H _ hb6 h6, if_neg (by rintro rfl; have := h.ids _ x hJ; simp at h5; omega)]
    exact h.clean k h5 h6
  · exact ⟨h.below.os, h.below.tape, h.below.output, by rw [hsz]; exact h.below.size, fun k hk => by rw [hsame k (by omega)]; exact h.below.block k hk⟩
  · intro b1 y h3 h4; rw [h3] at h4; cases h4
  · intro B1 _ hnot
    exact hsame B1 (by rintro rfl; exact hnot b x (by rw [hb]; rfl) hJ rfl)
  · intro b1 y h3 h4; rw [h3] at h4; cases h4
theorem putE_sound {J : Inj} {s : Value → Option Bool} {k v v' : Value} {c : Nat} (hv : VR J v v') : ∀ {es : List (Value × Value)} {es' : List MapEntry}, ME J es es' → ∀ {r : List (Value × Value)} (i : Nat), putE s k v es = some r →
    (∃ n e, findS s es' i = some (some (n + i, e)) ∧ n < es'.length ∧ Instr.sameBits 10000 (((es'[n]?).map (·.key)).getD k) k = true ∧ ME J r (es'.modify n fun e => { e with key := k, val := v' })) ∨
    (findS s es' i = some none ∧ ME J r (es' ++ [{ key := k, val := v', born := c }])) := by
  intro es es' h
  induction h with
  | nil => intro r i hf; obtain rfl := Option.some.inj hf; exact .inr ⟨rfl, .cons _ _ _ _ _ _ hv .nil⟩
  | cons a u u' n l l' hu hl ih =>
    intro r i hf
    simp only [putE] at hf
    split at hf
    · rename_i hs
      split at hf <;> first | (cases hf; done) | skip
      rename_i hsb
      obtain rfl := Option.some.inj hf
      refine .inl ⟨0, u', by simp only [findS, hs, Nat.zero_add], by simp, by simpa using hsb, ?_⟩
      exact .cons _ _ _ _ _ _ hv hl
    · rename_i hs
      split at hf <;> first | (cases hf; done) | skip
      rename_i r' hr
      obtain rfl := Option.some.inj hf
      rcases ih (i + 1) hr with ⟨m, e, h1, h2, h3, h4⟩ | ⟨h1, h2⟩
      · refine .inl ⟨m + 1, e, by simp only [findS, hs]; rw [h1]; congr 3; omega, by simpa using h2, by simpa using h3, ?_⟩
        rw [List.modify_succ_cons]
        exact .cons _ _ _ _ _ _ hu h4
      · exact .inr ⟨by simp only [findS, hs]; exact h1, .cons _ _ _ _ _ _ hu h2⟩
    · cases hf
theorem insV_sound {J : Inj} {H H' : AH} {w : World} (h : WR P nG base w0 J H w) {t : TypeId} {m m' k k' v v' u : Value} (hv : insV P t m k v H = .ok u H') (hnb : ∀ r, m = .map (some r) → nG ≤ r) (hm : VR J m m') (hk : VR J k k') (hvv : VR J v v') :
    u = undef ∧ ∃ w', (Instr.mapUpdate t m' k' v').run P w = .ok () w' ∧ WR P nG base w0 J H' w' ∧ Ev H.next J H w J H' w' := by
  unfold insV at hv
  split at hv <;> first | (cases hv; done) | skip
  rename_i kt et r ht
  split at hv <;> first | (cases hv; done) | skip
  rename_i kind es hkind hes
  obtain ⟨hkp, hck, hfd⟩ := keyKind_some hkind
  rw [VR.plain hk hkp]
  split at hv <;> first | (cases hv; done) | skip
  rename_i es2 hput
  obtain ⟨rfl, rfl⟩ : _ ∧ _ := by injection hv with h1 h2; exact ⟨h1, h2⟩
  refine ⟨rfl, ?_⟩
  rcases entries_some h hes hm with ⟨hc, -, -⟩ | ⟨b, x, es', c, hmb, hJ, rfl, hB, hme, hget⟩
  · cases hc
  injection hmb with hmb
  injection hmb with hmb
  subst hmb
  have hN := h.top
  rcases putE_sound (c := c) hvv hme 0 hput with ⟨n, e, h1, h2, h3, h4⟩ | ⟨h1, h2⟩
  · obtain ⟨r1, r2⟩ := h.object (N := H.next) hN (o2 := .map es2) (obj := .map (es'.modify n fun e => { e with key := k, val := v' }) c) hget hJ (hnb r rfl) (fun w' hw' => ⟨_, c, hw', by simpa using h4⟩)
    refine ⟨_, ?_, r1, r2⟩
    rw [Nat.add_zero] at h1
    have hkey : ((es'[n]?).map (·.key)).getD k = ((es'.toList[n]?).map (·.key)).getD k := by simp
    rw [← hkey] at h3
    simp only [Instr.mapUpdate, Sem.run_bind, r_under ht, Result.andThen, r_getObj hB (fun _ _ _ h => by cases h), hck _, hfd _ _ _ h1, Sem.run_pure, Instr.keyThatStays, h3, if_true, heap_setObj hB (fun _ _ _ h => by cases h)]
  · obtain ⟨r1, r2⟩ := h.object (N := H.next) hN (o2 := .map es2) (obj := .map (es'.push { key := k, val := v', born := c }) (c + 1)) hget hJ (hnb r rfl) (fun w' hw' => ⟨_, c + 1, hw', by simpa using h2⟩)
    refine ⟨_, ?_, r1, r2⟩
    simp only [Instr.mapUpdate, Sem.run_bind, r_under ht, Result.andThen, r_getObj hB (fun _ _ _ h => by cases h), hck _, hfd _ _ _ h1, heap_setObj hB (fun _ _ _ h => by cases h)]
end Go.Proofs.YthlfhfliidhelaaGreatDoor.Eng
namespace Go.Proofs.YthlfhfliidhelaaGreatDoor.Eng
open Go.RowKit
variable {P : Program} {nG sz base : Nat} {w0 : World} {o : Oper}
theorem a_insert {t : TypeId} {m k x : Operand} (ho : o.op = .insert t m k x ∨ o.op = .mapUpdate t m k x) (hm : okO sz nG m = true) (hk : okO sz nG k = true) (hx : okO sz nG x = true) : Actor P nG sz o (insF P nG t m k x) := by
  intro base w0 J fr a H w v H' hat hw hf
  unfold insF at hf
  split at hf <;> first | (cases hf; done) | skip
  rename_i hown
  obtain ⟨rfl, w', h1, h2, h3⟩ := insV_sound hw hf (fun r hr => by rw [hr] at hown; simpa [ownMap, Nat.ble_eq] using hown) (hat.ev hm) (hat.ev hk) (hat.ev hx)
  refine ⟨J, undef, w', VR.undef J, .inr ⟨?_, rfl⟩, h2, h3⟩
  rcases ho with ho | ho <;> (simp only [execOp, ho, Sem.run_bind, h1, Result.andThen]; rfl)
theorem madeCells_eq {z : Value} {n s : Nat} (_hz : z.cells.toList.length = s) : Builtin.zeroCells z.cells n = ⟨repL n z.cells.toList⟩ := by
  subst _hz
  rcases Nat.eq_zero_or_pos z.cells.toList.length with h0 | h0
  · apply Array.ext'
    have hz : z.cells.size = 0 := by simpa using h0
    simp only [Builtin.zeroCells, hz, Nat.mul_zero]
    have : repL n z.cells.toList = [] := List.eq_nil_of_length_eq_zero (by rw [repL_len, h0, Nat.mul_zero])
    rw [this]; simp
  · have := rangeCells n z.cells.toList h0
    unfold Builtin.zeroCells
    rw [show (⟨z.cells.toList⟩ : Array Value) = z.cells from rfl] at this
    simpa using this
theorem a_make {t : TypeId} {l c : Operand} (ho : o.op = .makeSlice t l c) (hl : okO sz nG l = true) (hc : okO sz nG c = true) : Actor P nG sz o (makeF P t l c) := by
  intro base w0 J fr a H w v H' hat hw hf
  unfold makeF at hf
  split at hf <;> first | (cases hf; done) | skip
  rename_i cs e hms hrm
  obtain ⟨rfl, rfl⟩ : _ ∧ _ := by injection hf with h1 h2; exact ⟨h1, h2⟩
  have e1 := hat.ev hl
  have e2 := hat.ev hc
  unfold makeSl at hms
  split at hms <;> first | (cases hms; done) | skip
  rename_i e' k1 n k2 m ht hX hY
  rw [hX] at e1
  rw [hY] at e2
  split at hms <;> first | (cases hms; done) | skip
  rename_i z j hz hj hnm hm
  split at hms <;> first | (cases hms; done) | skip
  rename_i hcond
  rw [Bool.and_eq_true, Nat.beq_eq, Nat.ble_eq, lenL_eq] at hcond
  rw [Nat.ble_eq] at hnm hm
  obtain ⟨rfl, rfl⟩ := Prod.mk.inj (Option.some.inj hms)
  obtain ⟨i, zz, hi, hzz, rfl, hzr⟩ := zeroC_some hz
  rw [hj] at hi; obtain rfl := Option.some.inj hi
  unfold AH.room at hrm
  rw [Nat.ble_eq] at hrm
  have hn1 : natV (ev l fr) = n := by rw [hX]; rfl
  have hn2 : natV (ev c fr) = m := by rw [hY]; rfl
  rw [hn1, hn2]
  obtain ⟨r1, r2⟩ := hw.alloc hrm (.cells (repL m zz.cells.toList) e') (.cells ⟨repL m zz.cells.toList⟩ e') 0 0 ((OR.row ((hzr _).rep m) e'))
  refine ⟨_, .slice (some ⟨w.heap.size, 0, none⟩) n m, _, ?_, Gives.of (s := Instr.makeSlice t (a.eval l) (a.eval c)) (by simp only [execOp, ho]) ?_, r1, r2⟩
  · exact .slice H.next 0 n m 0 m ⟨w.heap.size, 0, 0, 0⟩ (Inj.add_same _ _ _) hnm (.inl rfl) (.inl ⟨Nat.lt_of_le_of_lt hm (by decide), rfl⟩)
  · rw [VR.plain e1 rfl, VR.plain e2 rfl]
    have hb : (j.bytes : Int) * ((m : Nat) : Int) ≤ 281474976710656 := by
      have h1 : j.bytes * m ≤ 1000000 * 262144 := Nat.mul_le_mul hcond.2 hm
      have h2 : ((j.bytes * m : Nat) : Int) ≤ 281474976710656 := by omega
      rwa [Int.natCast_mul] at h2
    have := run_make (P := P) w t e' j zz ht hj hzz k1 k2 (n : Int) (m : Int) (by omega) (by omega) hb (by omega)
    simp only [Int.toNat_natCast] at this
    show (Instr.makeSlice t (.int k1 (n : Int)) (.int k2 (m : Int))).run P w = _
    rw [this]
    congr 3
    have hmc : madeCells zz.cells (m * j.size) = Builtin.zeroCells zz.cells m := by
      unfold madeCells Builtin.zeroCells
      have : zz.cells.size = j.size := by simpa using hcond.1
      rw [this]
    rw [hmc, madeCells_eq rfl]
theorem n_make {t : TypeId} {l c : Operand} {s : Nat} (ho : o.op = .makeSlice t l c) (hlc : sameOp l c = true) (hs : slSize P t = s + 1) (hl : okO sz nG l = true) : Maker P nG sz o (fun fr => makeSl P t (ev l fr) (ev c fr)) (rowS (s + 1)) := by
  have hlc' : l = c := by
    unfold sameOp at hlc
    split at hlc
    · rw [Nat.beq_eq] at hlc; rw [hlc]
    · cases hlc
  subst hlc'
  intro J fr a cs e h hms
  dsimp only at hms
  have e1 := h.ev hl
  unfold makeSl at hms
  split at hms <;> first | (cases hms; done) | skip
  rename_i e' k1 n k2 m ht hX hY
  rw [hX] at hY
  injection hY with hk1 hnm0
  injection hnm0 with hnm0
  subst hk1 hnm0
  rw [hX] at e1
  split at hms <;> first | (cases hms; done) | skip
  rename_i z j hz hj hnm hm
  split at hms <;> first | (cases hms; done) | skip
  rename_i hcond
  rw [Bool.and_eq_true, Nat.beq_eq, Nat.ble_eq, lenL_eq] at hcond
  rw [Nat.ble_eq] at hm
  obtain ⟨rfl, rfl⟩ := Prod.mk.inj (Option.some.inj hms)
  obtain ⟨i, zz, hi, hzz, rfl, hzr⟩ := zeroC_some hz
  rw [hj] at hi; obtain rfl := Option.some.inj hi
  have hj2 : j.size = s + 1 := by
    unfold slSize at hs
    rw [ht] at hs
    dsimp only at hs
    rw [hj] at hs
    exact hs
  have hlen : Nat.div (lenL (repL n zz.cells.toList)) (s + 1) = n := by
    rw [lenL_eq, repL_len, hcond.1, hj2]
    exact Nat.mul_div_cancel n (Nat.succ_pos s)
  refine ⟨repL n zz.cells.toList, fun B => .slice (some ⟨B, 0, none⟩) n n, (hzr J).rep n, fun w => ?_, fun J' b B hb => ?_⟩
  · simp only [execOp, ho]
    refine r_v ?_
    rw [VR.plain e1 rfl]
    have hb : (j.bytes : Int) * ((n : Nat) : Int) ≤ 281474976710656 := by
      have h1 : j.bytes * n ≤ 1000000 * 262144 := Nat.mul_le_mul hcond.2 hm
      have h2 : ((j.bytes * n : Nat) : Int) ≤ 281474976710656 := by omega
      rwa [Int.natCast_mul] at h2
    have := run_make (P := P) w t e' j zz ht hj hzz k1 k1 (n : Int) (n : Int) (by omega) (by omega) hb (by omega)
    simp only [Int.toNat_natCast] at this
    show (Instr.makeSlice t (.int k1 (n : Int)) (.int k1 (n : Int))).run P w = _
    rw [this]
    congr 3
    have hmc : madeCells zz.cells (n * j.size) = Builtin.zeroCells zz.cells n := by
      unfold madeCells Builtin.zeroCells
      have : zz.cells.size = j.size := by simpa using hcond.1
      rw [this]
    rw [hmc, madeCells_eq rfl]
  · unfold rowS
    rw [hlen]
    exact .slice b 0 n n 0 n ⟨B, 0, 0, 0⟩ hb (Nat.le_refl _) (.inl rfl) (.inl ⟨Nat.lt_of_le_of_lt hm (by decide), rfl⟩)
theorem a_clear {c : Call} {x : Operand} (ho : o.op = .call c) (hb : c.callee = .builtin .clear) (ha : c.args.toList = [x]) (hx : okO sz nG x = true) : Actor P nG sz o (clearF P nG (nth c.argTypes.toList 0) x) := by
  intro base w0 J fr a H w v H' hat hw hf
  have hargs : (c.args.map a.eval)[0]? = some (a.eval x) := by rw [map_arr ha]; rfl
  have e1 := hat.ev hx
  have hgives : ∀ w', (Builtin.clear_ c.argTypes o.type (c.args.map a.eval)).run P w = .ok (.tuple #[]) w' → Gives P o a w undef w' := fun w' h => Gives.of (exec_builtin ho hb a) h
  unfold clearF at hf
  split at hf <;> first | (cases hf; done) | skip
  · rename_i q b cc hT hX
    obtain ⟨e, size⟩ := q
    obtain ⟨t, j, z, e0, ht, hj, hz, rfl, hzs, hby⟩ := elemT_some hT
    obtain ⟨rfl, rfl⟩ : _ ∧ _ := by injection hf with h1 h2; exact ⟨h1, h2⟩
    rw [hX] at e1
    have h0 : c.argTypes[0]? = some t := by rw [types_nth]; exact e0
    refine ⟨J, undef, w, VR.undef J, hgives w ?_, hw, Ev.refl _ J H w⟩
    generalize a.eval x = X' at *
    cases e1 <;> (simp only [Builtin.clear_, h0, hargs, Sem.run_bind, r_under ht, Result.andThen]; rfl)
  · rename_i e size b p n cc hne hT hX
    obtain ⟨t, j, z, e0, ht, hj, hz, rfl, hzs, hby⟩ := elemT_some hT
    have h0 : c.argTypes[0]? = some t := by rw [types_nth]; exact e0
    split at hf <;> first | (cases hf; done) | skip
    rename_i zl hzl
    obtain ⟨i, zz, hi, hzz, rfl, hzr⟩ := zeroC_some hzl
    rw [hj] at hi; obtain rfl := Option.some.inj hi
    rw [hz] at hzz; obtain rfl := Option.some.inj hzz
    split at hf <;> first | (cases hf; done) | skip
    rename_i H2 hst
    obtain ⟨rfl, rfl⟩ : _ ∧ _ := by injection hf with h1 h2; exact ⟨h1, h2⟩
    rw [hX] at e1
    obtain ⟨o', c', y, hJ, hX', hn, ho', -⟩ := e1.slice_inv
    have hn0 : n ≠ 0 := fun h => hne (by first | exact h | (rw [hX, h]))
    obtain rfl : o' = y.d + p := ho'.resolve_right (by omega)
    obtain ⟨w', hr, r1, r2⟩ := storeL_sound hw hst hJ ((hzr J).rep n)
    refine ⟨J, undef, w', VR.undef J, hgives w' ?_, r1, r2⟩
    rw [hX'] at hargs
    have hzc : (Builtin.zeroCells z.cells n).toList = repL n z.cells.toList := by rw [madeCells_eq rfl]
    cases n with
    | zero => exact absurd rfl hn0
    | succ n =>
      simp only [Builtin.clear_, h0, hargs, Sem.run_bind, r_under ht, Result.andThen, r_zero hj hz, hzc, hr]
      rfl
end Go.Proofs.YthlfhfliidhelaaGreatDoor.Eng
namespace Go.Proofs.YthlfhfliidhelaaGreatDoor.Eng
open Go.RowKit
variable {P : Program} {nG sz base : Nat} {w0 : World} {o : Oper}
theorem push_modify (h : Array Obj) (o : Obj) (f : Obj → Obj) : (h.push o).modify h.size f = h.push (f o) := by
  apply Array.ext_getElem?
  intro i
  rw [Array.getElem?_modify, Array.getElem?_push, Array.getElem?_push]
  by_cases hi : h.size = i
  · subst hi; simp
  · rw [if_neg hi, if_neg (Ne.symm hi), if_neg (Ne.symm hi)]
theorem r_s2b {e : TypeId} {l : List UInt8} {w : World} : (Conv.stringToBytes e ⟨⟨l⟩⟩).run P w =
    .ok (.slice (some ⟨w.heap.size, 0, none⟩) l.length (grownCap w l.length 0 e)) (w.drew.alloc (.cells (⟨Eng.byteCells l⟩ ++ Array.replicate (grownCap w l.length 0 e - l.length) (.int .u8 0)) e ((⟨Eng.byteCells l⟩ ++ Array.replicate (grownCap w l.length 0 e - l.length) (Value.int .u8 0)).size, (⟨Eng.byteCells l⟩ ++ Array.replicate (grownCap w l.length 0 e - l.length) (Value.int .u8 0)).size + 1))) := by
  have hsz : (⟨⟨l⟩⟩ : ByteArray).size = l.length := rfl
  have hmap : (⟨⟨l⟩⟩ : ByteArray).data.map (fun b => Value.int .u8 b.toNat) = ⟨Eng.byteCells l⟩ := by
    rw [byteCells_eq]; apply Array.ext'; simp
  unfold Conv.stringToBytes
  simp only [hsz, hmap, Sem.run_bind, choose, Sem.run, Question.forced, Bool.false_eq_true, if_false, Result.andThen]
  show _ = Result.ok _ _
  simp only [newRow, newObj, Sem.run_bind, Sem.run, Result.andThen, Sem.run_pure, markStringish, shape, freeze]
  simp only [World.shape?, Array.getElem?_push_size, Sem.run, World.freeze]
  simp only [Nat.one_ne_zero, if_false, push_modify]
  rfl
theorem a_s2b {src dst e : TypeId} {j : TypeInfo} {x : Operand} (ho : o.op = .convert src dst x) (hs : P.underlying src = some .string) (hd : P.underlying dst = some (.slice e)) (he : P.underlying e = some (.int .u8)) (hj : P.info? e = some j) (h1 : j.size = 1) (hx : okO sz nG x = true) :
    Actor P nG sz o (s2bF e x) := by
  intro base w0 J fr a H w v H' hat hw hf
  have e1 := hat.ev hx
  unfold s2bF at hf
  split at hf <;> first | (cases hf; done) | skip
  rename_i l hX hrm
  split at hf <;> first | (cases hf; done) | skip
  rename_i hle
  rw [Nat.ble_eq, lenL_eq] at hle
  rw [lenL_eq] at hf
  obtain ⟨rfl, rfl⟩ : _ ∧ _ := by injection hf with h1 h2; exact ⟨h1, h2⟩
  unfold AH.room at hrm
  rw [Nat.ble_eq] at hrm
  rw [hX] at e1
  have e1 := VR.plain e1 rfl
  have hge := grownCap_ge w l.length 0 e
  have run : (convert src dst (a.eval x)).run P w = (Conv.stringToBytes e ⟨⟨l⟩⟩).run P w := by
    rw [e1]
    simp only [convert, Sem.run_bind, r_under hs, r_under hd, r_under he, Result.andThen]
  rw [r_s2b] at run
  generalize grownCap w l.length 0 e = g at *
  have hcl : (Eng.byteCells l).length = l.length := by rw [byteCells_eq, List.length_map]
  have hor : OR P nG (J.add H.next ⟨w.drew.heap.size, 0, 1, g⟩) (w.drew.alloc (.cells (⟨Eng.byteCells l⟩ ++ Array.replicate (g - l.length) (.int .u8 0)) e ((⟨Eng.byteCells l⟩ ++ Array.replicate (g - l.length) (Value.int .u8 0)).size, (⟨Eng.byteCells l⟩ ++ Array.replicate (g - l.length) (Value.int .u8 0)).size + 1))) ⟨w.drew.heap.size, 0, 1, g⟩ (.cells (Eng.byteCells l) e) := by
    refine ⟨_, _, World.alloc_heap_new _ _, .inr ⟨Nat.le_refl _, rfl⟩, fun i v hi => ?_, fun _ => ⟨by simp [hj, h1], ?_⟩, Nat.zero_mod _⟩
    · have hlt := (List.getElem?_eq_some_iff.1 hi).1
      refine ⟨v, ?_, ?_⟩
      · rw [Nat.zero_add, Array.getElem?_append_left (by simpa using hlt)]
        simpa using hi
      · obtain ⟨v', h1, h2⟩ := (VRs.of_plain (J := J.add H.next ⟨w.drew.heap.size, 0, 1, g⟩) (plain_byteCells l)).get hi
        rw [hi] at h1
        rw [Option.some.inj h1] at h2 ⊢
        exact h2
    · simp [hcl]; omega
  obtain ⟨k1, k2⟩ := WR.alloc (P := P) (show WR P nG base w0 J H w.drew from hw.drew) hrm (.cells (Eng.byteCells l) e) _ 1 g hor
  refine ⟨_, _, _, ?_, Gives.of (s := convert src dst (a.eval x)) (by simp only [execOp, ho]) run, k1, ?_⟩
  · refine .slice H.next 0 _ _ 0 _ ⟨w.drew.heap.size, 0, 1, g⟩ (Inj.add_same _ _ _) hge (.inl rfl) (.inr ⟨l.length, 0, rfl, ?_, Nat.one_pos, hge, by simp, rfl⟩)
    exact Nat.lt_of_le_of_lt hle (by decide)
  · exact (Ev.heap_eq (N := H.next) (J := J) (H := H) (w := w) (w' := w.drew) rfl).trans hw.ids k2
/-! pointers of no type -/
theorem liesAt_off {e : TypeId} {s count off n : Nat} (hc : P.cellsOf e = s) (hs : s ≠ 0) (ho : off % s = 0) (hn : off / s + n ≤ count) : liesAt P P.depth e count off e n = true := by
  have hd : P.depth = (2 * (P.types.size + Made.depth) + 1) + 1 := rfl
  rw [hd]
  simp only [liesAt, Bool.or_eq_true]
  left
  rw [hd]
  simp [rowAt, hc, hn, hs, ho, sameLayout]
theorem cellsOf_eq {t : TypeId} {i : TypeInfo} (h : P.info? t = some i) : P.cellsOf t = i.size := by simp [Program.cellsOf, h]
theorem r_toU {src dst t : TypeId} {i : TypeInfo} {x : Operand} (ho : o.op = .convert src dst x) (hs : P.underlying src = some (.pointer t)) (hd : P.underlying dst = some .unsafePointer) (hi : P.info? t = some i) (h0 : i.size ≠ 0) (hx : okO sz nG x = true) : Reader P nG sz o (toUF x) := by
  refine Reader.of_run (s := fun a => convert src dst (a.eval x)) (fun a => by simp only [execOp, ho]) ?_
  intro base w0 J fr a H w v ha hw hf
  obtain ⟨b, p, hv, hf⟩ := vPtr_some hf
  obtain ⟨cs, e, hb, hf⟩ := aoCells_some hf
  have hr := ha.ev hx
  rw [hv] at hr hf
  obtain ⟨y, hJ, hy⟩ := hr.ptr_inv
  split at hf
  · rename_i hlt
    obtain rfl := Option.some.inj hf
    rw [Nat.ble_eq, lenL_eq] at hlt
    obtain ⟨cs', fz, c1, c2, c3, -⟩ := hw.obj b _ y hb hJ
    obtain ⟨v', c4, -⟩ := c3 p _ (List.getElem?_eq_getElem hlt)
    have hlt' := (Array.getElem?_eq_some_iff.1 c4).1
    refine ⟨_, hr, ?_⟩
    rw [hy]
    exact Lib.run_to_unsafe (e := e) (cells := cs'.size) w _ hs hd hi h0 (by simp [World.shape?, c1]) hlt'
  · cases hf
theorem r_fromU {src dst u : TypeId} {i : TypeInfo} {x : Operand} (ho : o.op = .convert src dst x) (hs : P.underlying src = some .unsafePointer) (hd : P.underlying dst = some (.pointer u)) (hi : P.info? u = some i) (h0 : i.size ≠ 0) (hx : okO sz nG x = true) : Reader P nG sz o (fromUF u i.size x) := by
  refine Reader.of_run (s := fun a => convert src dst (a.eval x)) (fun a => by simp only [execOp, ho]) ?_
  intro base w0 J fr a H w v ha hw hf
  obtain ⟨b, p, hv, hf⟩ := vPtr_some hf
  obtain ⟨cs, e, hb, hf⟩ := aoCells_some hf
  have hr := ha.ev hx
  rw [hv] at hr hf
  obtain ⟨y, hJ, hy⟩ := hr.ptr_inv
  split at hf
  · rename_i hlt
    obtain rfl := Option.some.inj hf
    rw [Bool.and_eq_true, Bool.and_eq_true, Nat.beq_eq, Nat.beq_eq, Nat.ble_eq, lenL_eq] at hlt
    obtain ⟨rfl, hm, hle⟩ := hlt
    have hm : p % i.size = 0 := hm
    have hle : p + i.size ≤ cs.length := hle
    obtain ⟨cs', fz, c1, c2, c3, c5, c6⟩ := hw.obj b _ y hb hJ
    obtain ⟨v', c4, -⟩ := c3 (p + i.size - 1) _ (List.getElem?_eq_getElem (show p + i.size - 1 < cs.length by omega))
    have hlt' := (Array.getElem?_eq_some_iff.1 c4).1
    have hd0 : y.d % i.size = 0 := by
      by_cases hz : y.s = 0
      · rw [hz, Nat.mod_zero] at c6; rw [c6]; exact Nat.zero_mod _
      · have := (c5 hz).1
        rw [hi] at this
        have : i.size = y.s := by simpa using this
        rw [this]; exact c6
    have hmm : (y.d + p) % i.size = 0 := by rw [Nat.add_mod, hd0, hm]; simp
    refine ⟨_, hr, ?_⟩
    rw [hy]
    refine Lib.run_from_unsafe (e := e) (cells := cs'.size) w _ hs hd hi (by simp [World.shape?, c1]) ?_
    refine liesAt_off (s := i.size) (cellsOf_eq hi) h0 hmm ?_
    rw [cellsOf_eq hi]
    have h1 : (y.d + p) / i.size + 1 = (y.d + p + i.size) / i.size := by rw [Nat.add_div_right _ (by omega)]
    show (y.d + p) / i.size + 1 ≤ cs'.size / i.size
    rw [h1]
    exact Nat.div_le_div_right (by omega)
  · cases hf
theorem run_loadBytesI : ∀ (ns : List Int) (w : World) (a : Addr) (acc : ByteArray), (∀ (j : Nat) (v : Int), ns[j]? = some v → w.cell? (a.add j) = some (.int .u8 v)) →
    (loadBytes a acc ns.length).run P w = .ok ⟨acc.data ++ (ns.map fun n => UInt8.ofNat n.toNat).toArray⟩ w
  | [], w, a, acc, _ => by simp [loadBytes]
  | x :: l, w, a, acc, h => by
    have h0 : w.cell? a = some (.int .u8 x) := by
      have := h 0 x rfl
      simpa [Addr.add] using this
    have ih := run_loadBytesI l w (a.add 1) (acc.push x.toNat.toUInt8) (fun j y hy => by
      have := h (j + 1) y (by simpa using hy)
      have e : (a.add 1).add j = a.add (j + 1) := by
        unfold Addr.add
        by_cases hj : j = 0
        · subst hj; simp
        · simp [hj]; omega
      rw [e]; exact this)
    simp only [List.length_cons, loadBytes, Sem.run_bind, r_load h0, Result.andThen]
    rw [ih]
    congr 1
    apply ByteArray.ext
    simp [ByteArray.push]
theorem run_unsafeString_off (w : World) (pt it ty e : TypeId) (hp : P.underlying pt = some (.pointer e)) (hc : P.cellsOf e = 1) (a : Addr) (_ha : a.spot = none) (cells : Nat) (hsh : w.shape? a.block = some (e, cells)) (ns : List Int) (h0 : ns ≠ []) (hn : a.off + ns.length ≤ cells) (h63 : ns.length ≤ 9223372036854775807)
    (hcell : ∀ (j : Nat) (v : Int), ns[j]? = some v → w.cell? (a.add j) = some (.int .u8 v)) :
    (Builtin.unsafeString_ #[pt, it] ty #[.pointer (some a), .int .i64 ns.length]).run P w = .ok (.string ⟨⟨ns.map fun n => UInt8.ofNat n.toNat⟩⟩) (w.freeze a ns.length) := by
  have hl : ns.length ≠ 0 := by simpa using h0
  have hlb := run_loadBytesI (P := P) ns w a .empty hcell
  have hlies := liesAt_off (P := P) (e := e) (s := 1) (count := cells / P.cellsOf e) (off := a.off) (n := ns.length) hc (by omega) (Nat.mod_one _) (by rw [hc]; simpa using hn)
  have h63' : ¬ (9223372036854775807 : Int) < (ns.length : Int) := by omega
  have hdef : Builtin.unsafeString_ #[pt, it] ty #[.pointer (some a), .int .i64 ns.length] =
      (do
        let n ← asInt (.int .i64 ns.length)
        if n < 0 then runtimePanic (.error "unsafe.String: len out of range")
        if n > IntKind.i64.max then unsupported (.unsafePointer "String: a length above the largest int")
        if n = 0 then pure (.string .empty)
        else if ← variablesAt a (← elemOf pt) n.toNat then do
          let s ← loadBytes a .empty n.toNat
          freeze a n.toNat
          pure (.string s)
        else unsupported (.unsafePointer "String: not so many bytes at ptr")) := rfl
  rw [hdef]
  have hmax : IntKind.i64.max = 9223372036854775807 := rfl
  have hneg : ¬ (ns.length : Int) < 0 := by omega
  simp [asInt, asIntOf, hmax, h63', hneg, hl, variablesAt, hsh, elemOf, run_underlying hp, hlies, hlb]
theorem freeze_other (w : World) (a : Addr) (n k : Nat) (h : k ≠ a.block) : (w.freeze a n).heap[k]? = w.heap[k]? := by
  unfold World.freeze
  split
  · rfl
  · simp only [Array.getElem?_modify]
    rw [if_neg (by omega)]
theorem freeze_size (w : World) (a : Addr) (n : Nat) : (w.freeze a n).heap.size = w.heap.size := by
  unfold World.freeze
  split <;> simp
theorem WR.beside {J : Inj} {H : AH} {w w' : World} (h : WR P nG base w0 J H w) {B : Nat} (hn : ∀ b x, (H.get b).isSome = true → J b = some x → x.B ≠ B) (hsz : w'.heap.size = w.heap.size) (ho : ∀ k, k ≠ B → w'.heap[k]? = w.heap[k]?) (hb : Below base w0 w') : WR P nG base w0 J H w' :=
  ⟨h.glob, h.ids, by rw [hsz]; exact h.lt, h.inj, fun b o' x hg hj => (h.obj b o' x hg hj).of_heap (.refl J) (ho _ (hn b x (by rw [hg]; rfl) hj)), h.own, h.sep, h.nx, h.top, by rw [hsz]; exact h.room, h.clean, hb⟩
theorem q_sd {c : Call} {x : Operand} (ho : o.op = .call c) (hb : c.callee = .builtin .unsafeSliceData) (ha : c.args.toList = [x]) (hx : okO sz nG x = true) : Quiet P nG sz o (sdF x) := by
  refine Quiet.of_run (s := fun a => Builtin.unsafeSliceData_ c.argTypes o.type (c.args.map a.eval)) (fun a => exec_builtin ho hb a) ?_
  intro J fr a v h hf
  have e1 := h.ev hx
  have hargs : c.args.map a.eval = #[a.eval x] := by rw [map_arr ha]; rfl
  obtain ⟨p, n, cc, hv, hf⟩ := vSl_some hf
  rw [hv] at e1
  rw [hargs]
  split at hf
  · obtain rfl := Option.some.inj hf
    generalize a.eval x = X at *
    cases e1
    exact ⟨_, .pnil, fun w => Lib.run_unsafeSliceData_nil w _ _ _ _⟩
  · rename_i b q
    split at hf
    · rename_i hlow
      obtain rfl := Option.some.inj hf
      rw [Nat.ble_eq] at hlow
      obtain ⟨o', c', y, hJ, hX, h1, h2, h3⟩ := e1.slice_low
      have : o' = y.d + q := by rcases h3 with h3 | h3 <;> omega
      subst this
      rw [hX]
      exact ⟨_, .ptr b q y hJ, fun w => Lib.run_unsafeSliceData_row w _ _ _ _ _ (by omega)⟩
    · cases hf
  · cases hf
theorem byteT_some {t : Option TypeId} {e : TypeId} (h : byteT P t = some e) : ∃ pt j, t = some pt ∧ P.underlying pt = some (.pointer e) ∧ P.info? e = some j ∧ j.size = 1 := by
  unfold byteT at h
  split at h
  · rename_i pt
    split at h
    · rename_i e' hu
      split at h
      · rename_i j hj
        split at h
        · rename_i h1
          obtain rfl := Option.some.inj h
          rw [Nat.beq_eq] at h1
          exact ⟨pt, j, rfl, hu, hj, h1⟩
        · cases h
      · cases h
    · cases h
  · cases h
theorem usV_sound {J : Inj} {H H' : AH} {w : World} (h : WR P nG base w0 J H w) {pt it ty e : TypeId} (hp : P.underlying pt = some (.pointer e)) (hc : P.cellsOf e = 1) {p n p' n' v : Value} (hu : usV nG e p n H = .ok v H') (hpr : VR J p p') (hnr : VR J n n') :
    ∃ v' w', VR J v v' ∧ (Builtin.unsafeString_ #[pt, it] ty #[p', n']).run P w = .ok v' w' ∧ WR P nG base w0 J H' w' ∧ Ev H.next J H w J H' w' := by
  unfold usV at hu
  split at hu
  · injection hu with h1 h2; subst h1 h2
    cases hpr; cases hnr
    exact ⟨_, w, .string _, Lib.run_unsafeString_none w pt it ty none, h, Ev.refl _ _ _ _⟩
  · injection hu with h1 h2; subst h1 h2
    cases hpr; cases hnr
    exact ⟨_, w, .string _, Lib.run_unsafeString_none w pt it ty _, h, Ev.refl _ _ _ _⟩
  · rename_i b q m
    split at hu
    · rename_i cs e' hb
      split at hu
      · rename_i l hk hl
        split at hu
        · rename_i r hr
          injection hu with h1 h2; subst h1 h2
          simp only [Bool.and_eq_true, Nat.beq_eq, Nat.ble_eq] at hk
          obtain ⟨rfl, hnb, hbig⟩ := hk
          obtain ⟨hlen, rfl⟩ := takeN_some hl
          rw [dropL_eq] at hlen hr
          obtain ⟨ns, hns, rfl⟩ := bytesOf_some hr
          have hnl : ns.length = m + 1 := by
            have := congrArg List.length hns
            rw [List.length_take, List.length_map] at this; omega
          obtain ⟨y, hJ, rfl⟩ := hpr.ptr_inv
          cases hnr
          have hq : q + (m + 1) ≤ cs.length := by rw [List.length_drop] at hlen; omega
          obtain ⟨l', g1, g2, g3⟩ := h.cellsN hb hJ hq
          rw [hns] at g1
          have hl' := VRs.plain g1 (plain_bytes ns)
          subst hl'
          obtain ⟨cs', fz, c1, c2, c3, -⟩ := h.obj b _ y hb hJ
          obtain ⟨v', c4, -⟩ := c3 (q + m) _ (List.getElem?_eq_getElem (show q + m < cs.length by omega))
          have hlt' := (Array.getElem?_eq_some_iff.1 c4).1
          have hrun := run_unsafeString_off w pt it ty e' hp hc ⟨y.B, y.d + q, none⟩ rfl cs'.size (by simp [World.shape?, c1]) ns (by intro h; rw [h] at hnl; cases hnl) (by show y.d + q + ns.length ≤ _; omega) (by omega) (fun j v hv => (g3 j (.int .u8 v) (by rw [List.getElem?_map, hv]; rfl)).1)
          rw [hnl] at hrun
          have hb6 := h.small hJ
          have hlive : ∀ k z, ((H.put b none).get k).isSome = true → J k = some z → z.B ≠ y.B := fun k z hs hz he => by
            rw [AH.get_put H _ hb6 (h.small hz)] at hs
            split at hs
            · cases hs
            · rename_i hne; exact hne (h.inj k b z y hs (by rw [hb]; rfl) hz hJ he)
          have hB := h.own b y hJ hnb
          refine ⟨_, _, .string _, hrun, (h.drop hb6).beside (B := y.B) hlive (freeze_size _ _ _) (fun k hk => freeze_other _ _ _ _ hk) (Lib.below_freeze h.below (p := ⟨y.B, y.d + q, none⟩) hB _), ?_⟩
          have e1 := Ev.drop h (N := H.next) h.top hb6
          exact ⟨e1.ext, e1.fresh, e1.next, fun k hk hn => by rw [freeze_other _ _ _ _ (by rintro rfl; exact hn b y (by rw [hb]; rfl) hJ rfl)], e1.newB, by rw [freeze_size]; exact Nat.le_refl _, e1.live⟩
        · cases hu
      · cases hu
    · cases hu
  · cases hu
theorem a_us {c : Call} {p n : Operand} {e : TypeId} (hT : byteT P (nth c.argTypes.toList 0) = some e) (h2 : c.argTypes.size = 2) (ho : o.op = .call c) (hb : c.callee = .builtin .unsafeString) (ha : c.args.toList = [p, n]) (hp : okO sz nG p = true) (hn : okO sz nG n = true) :
    Actor P nG sz o (fun fr H => usV nG e (ev p fr) (ev n fr) H) := by
  intro base w0 J fr a H w v H' hat hw hf
  obtain ⟨pt, j, t1, t2, t3, t4⟩ := byteT_some hT
  obtain ⟨it, hit⟩ : ∃ it, c.argTypes = #[pt, it] := by
    rw [nth_eq] at t1
    have hl : c.argTypes.toList.length = 2 := by simpa using h2
    match hc : c.argTypes.toList, hl with
    | [u, it], _ =>
      rw [hc] at t1
      obtain rfl : u = pt := by simpa using t1
      exact ⟨it, arr_of hc⟩
  obtain ⟨v', w', r1, r2, r3, r4⟩ := usV_sound (it := it) (ty := o.type) hw t2 (by rw [cellsOf_eq t3, t4]) hf (hat.ev hp) (hat.ev hn)
  refine ⟨J, v', w', r1, Gives.of (s := Builtin.unsafeString_ c.argTypes o.type (c.args.map a.eval)) (exec_builtin ho hb a) ?_, r3, r4⟩
  rw [two_args ha, hit]
  exact r2
end Go.Proofs.YthlfhfliidhelaaGreatDoor.Eng

/- Plain: the entries of a ticket, of a beginning and of one that replaced it. -/
import Derived.Test.YtekpnphfdoplfaaDoorA7
namespace Go.Proofs.YtekpnphfdoplfaaDoor
open Go.RowKit
theorem growS_sub (S : List Int) (x : Ent) : S ⊆ growS S x := by
  unfold growS
  split
  · exact fun a h => List.mem_append_left _ h
  · exact fun a h => h
theorem growS_mono {S T : List Int} (h : S ⊆ T) (x : Ent) : growS S x ⊆ growS T x := by
  intro a ha
  unfold growS at ha
  split at ha
  · rename_i hc
    have : growS T x = T ++ [x.j] := by rw [growS, if_pos ⟨hc.1, h hc.2⟩]
    rw [this]
    rcases List.mem_append.1 ha with h1 | h1
    · exact List.mem_append_left _ (h h1)
    · exact List.mem_append_right _ h1
  · exact growS_sub T x (h ha)
theorem ofG_mono : ∀ {S T : List Int} (_ : S ⊆ T) (xs : List Ent) (y : Ent), y ∈ ofG S xs → y ∈ ofG T xs
  | _, _, _, [], y, hy => by cases hy
  | S, T, h, x :: t, y, hy => by
    rw [ofG] at hy ⊢
    have hm := growS_mono h x
    by_cases hx : x.j ∈ growS S x
    · rw [if_pos hx] at hy
      rw [if_pos (hm hx)]
      rcases List.mem_cons.1 hy with rfl | hy
      · exact List.mem_cons_self
      · exact List.mem_cons_of_mem _ (ofG_mono hm t y hy)
    · rw [if_neg hx] at hy
      have := ofG_mono hm t y hy
      split
      · exact List.mem_cons_of_mem _ this
      · exact this
theorem ofG_tail (S : List Int) (x : Ent) (t : List Ent) (y : Ent) (h : y ∈ ofG (growS S x) t) : y ∈ ofG S (x :: t) := by
  rw [ofG]
  split
  · exact List.mem_cons_of_mem _ h
  · exact h
/-- from an index on, with what was found before it or fewer -/
theorem ofG_drop : ∀ (xs : List Ent) (S T : List Int) (_ : T ⊆ S) (i : Nat) (y : Ent), y ∈ ofG T (xs.drop i) → y ∈ ofG S xs
  | xs, S, T, h, 0, y, hy => ofG_mono h xs y hy
  | [], S, T, h, i + 1, y, hy => by simp [ofG] at hy
  | x :: t, S, T, h, i + 1, y, hy => ofG_tail S x t y (ofG_drop t (growS S x) T (fun a ha => growS_sub S x (h ha)) i y (by simpa using hy))
theorem ofG_repl (S : List Int) (x : Ent) (t : List Ent) (hk : x.k = 16) (hv : x.v ∈ S) (y : Ent) (hy : y ∈ ofG [x.j] (x :: t)) : y ∈ ofG S (x :: t) := by
  have hg : growS S x = S ++ [x.j] := by rw [growS, if_pos ⟨hk, hv⟩]
  have hs : growS [x.j] x ⊆ growS S x := by
    intro a ha
    rw [hg]
    unfold growS at ha
    split at ha <;> simp at ha <;> simp [ha]
  rw [ofG, if_pos (hs (growS_sub _ _ (by simp)))]
  rw [ofG] at hy
  split at hy
  · rcases List.mem_cons.1 hy with rfl | hy
    · exact List.mem_cons_self
    · exact List.mem_cons_of_mem _ (ofG_mono hs t y hy)
  · exact List.mem_cons_of_mem _ (ofG_mono hs t y hy)
/-- what replaced a ticket is among the ticket's -/
theorem follows {xs : List Ent} {tk : Int} (h0 : 0 ≤ tk) {i : Nat} (hi : i < xs.length) (hk : (xs.getD i Ent.zero).k = 16) (hv : (xs.getD i Ent.zero).v = tk) {y : Ent} (hy : y ∈ ofL (xs.getD i Ent.zero).j (xs.drop i)) : y ∈ ofL tk xs := by
  rw [ofL, if_neg (by omega)]
  unfold ofL at hy
  split at hy
  · cases hy
  · have hd := drop_get xs Ent.zero i hi
    rw [hd] at hy
    refine ofG_drop xs [tk] [tk] (fun a h => h) i y ?_
    rw [hd]
    exact ofG_repl [tk] _ _ hk (by rw [hv]; simp) y hy
/-- the ticket's own entries are among them -/
theorem own_in {xs : List Ent} {tk : Int} (h0 : 0 ≤ tk) {i : Nat} (hi : i < xs.length) (hj : (xs.getD i Ent.zero).j = tk) : xs.getD i Ent.zero ∈ ofL tk xs := by
  rw [ofL, if_neg (by omega)]
  refine ofG_drop xs [tk] [tk] (fun a h => h) i _ ?_
  rw [drop_get xs Ent.zero i hi, ofG, if_pos (growS_sub _ _ (List.mem_singleton.2 hj))]
  exact List.mem_cons_self
theorem ofG_take : ∀ (xs : List Ent) (S : List Int) (k : Nat), ofG S (xs.take k) <+: ofG S xs
  | xs, S, 0 => by simp [ofG]
  | [], S, k + 1 => by simp
  | x :: t, S, k + 1 => by
    rw [List.take_succ_cons, ofG, ofG]
    split
    · exact List.prefix_cons_inj _ |>.2 (ofG_take t _ k)
    · exact ofG_take t _ k
theorem ofL_take (tk : Int) (xs : List Ent) (k : Nat) : ofL tk (xs.take k) <+: ofL tk xs := by
  unfold ofL
  split
  · exact List.prefix_refl _
  · exact ofG_take xs _ k
theorem ofL_first (tk : Int) (xs : List Ent) (k : Nat) : (ofL tk (xs.take k)).length ≤ (ofL tk xs).length ∧ (ofL tk xs).take (ofL tk (xs.take k)).length = ofL tk (xs.take k) :=
  ⟨(ofL_take tk xs k).length_le, ((List.prefix_iff_eq_take.1 (ofL_take tk xs k))).symm⟩
/-- a beginning of a slice -/
theorem ents_take {w : World} {B : Nat} {A : Option Addr} {n c k : Nat} {xs : List Ent} (h : Ents w B (.slice A n c) xs) (hk : k ≤ xs.length) : Ents w B (.slice A k c) (xs.take k) := by
  obtain ⟨A', c', e, h1, h2, h3⟩ := h
  injection e with e1 e2 e3
  subst e1; subst e3
  have hl : (xs.take k).length = k := by rw [List.length_take]; omega
  refine ⟨A, c, by rw [hl], by omega, h2, fun hp => ?_⟩
  obtain ⟨b, o, rfl, hlt, hc⟩ := h3 (by omega)
  refine ⟨b, o, rfl, hlt, fun j hj => ?_⟩
  have e : (xs.take k).getD j Ent.zero = xs.getD j Ent.zero := by simp [List.getD, show j < k by omega]
  rw [e]
  exact hc j (by omega)
theorem add_none (b o m : Nat) : (⟨b, o, none⟩ : Addr).add m = ⟨b, o + m, none⟩ := by unfold Addr.add; split <;> simp_all
/-- the rest of a slice -/
theorem ents_drop {w : World} {B : Nat} {A : Option Addr} {n c k : Nat} {xs : List Ent} (h : Ents w B (.slice A n c) xs) (hk : k ≤ xs.length) : Ents w B (.slice (if c = k then A else A.map (fun x => x.add (k * 6))) (xs.length - k) (c - k)) (xs.drop k) := by
  obtain ⟨A', c', e, h1, h2, h3⟩ := h
  injection e with e1 e2 e3
  subst e1; subst e3
  refine ⟨_, c - k, by rw [List.length_drop], by rw [List.length_drop]; omega, by omega, fun hp => ?_⟩
  rw [List.length_drop] at hp
  obtain ⟨b, o, rfl, hlt, hc⟩ := h3 (by omega)
  refine ⟨b, o + k * 6, by rw [if_neg (by omega)]; simp [add_none], hlt, fun j hj => ?_⟩
  rw [List.length_drop] at hj
  have e : (xs.drop k).getD j Ent.zero = xs.getD (k + j) Ent.zero := by simp [List.getD]
  have := hc (k + j) (by omega)
  rw [e]
  rwa [show o + k * 6 + j * 6 = o + (k + j) * 6 by omega]
end Go.Proofs.YtekpnphfdoplfaaDoor

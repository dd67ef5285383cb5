/- The metrics of the example: a table, its order, and the row in memory. -/
import Derived.Test.YtpcbccpobhdokaaGreatDoorM4
import Derived.Test.YtpcbccpobhdokaaGreatDoorD1
import Derived.Test.YtpcbccpobhdokaaGreatDoorEh
import Derived.Shelf.SlSortCmp.Insertion
import Derived.Sort.LotA
set_option linter.unusedSimpArgs false
set_option linter.unusedVariables false
set_option linter.all false
namespace Go.Proofs.YtpcbccpobhdokaaGreatDoor
open Go.RowKit Go.Sort Go.Shelf
open Go.Proofs.YtpcbccpobhdokaaGreatDoor.Eng
def MN : Nat → ByteArray
  | 0 => ⟨⟨[97, 99, 99, 101, 112, 116, 101, 100]⟩⟩
  | 1 => ⟨⟨[114, 101, 102, 117, 115, 101, 100]⟩⟩
  | 2 => ⟨⟨[109, 111, 118, 101, 100]⟩⟩
  | 3 => ⟨⟨[100, 114, 111, 112, 112, 101, 100]⟩⟩
  | 4 => ⟨⟨[100, 101, 108, 105, 118, 101, 114, 101, 100]⟩⟩
  | 5 => ⟨⟨[100, 117, 112, 108, 105, 99, 97, 116, 101]⟩⟩
  | 6 => ⟨⟨[114, 101, 106, 101, 99, 116, 101, 100]⟩⟩
  | 7 => ⟨⟨[109, 105, 115, 115, 101, 100]⟩⟩
  | 8 => ⟨⟨[108, 111, 115, 116]⟩⟩
  | 9 => ⟨⟨[101, 120, 112, 105, 114, 101, 100]⟩⟩
  | 10 => ⟨⟨[114, 101, 112, 108, 97, 110, 110, 101, 100]⟩⟩
  | 11 => ⟨⟨[115, 116, 117, 99, 107]⟩⟩
  | 12 => ⟨⟨[108, 97, 116, 101, 110, 99, 121]⟩⟩
  | 13 => ⟨⟨[115, 117, 99, 99, 101, 115, 115]⟩⟩
  | 14 => ⟨⟨[102, 114, 97, 109, 101, 115]⟩⟩
  | 15 => ⟨⟨[100, 105, 115, 116, 117, 114, 98, 101, 100]⟩⟩
  | 16 => ⟨⟨[117, 115, 97, 103, 101]⟩⟩
  | 17 => ⟨⟨[102, 114, 97, 109, 101, 115]⟩⟩
  | 18 => ⟨⟨[100, 105, 115, 116, 117, 114, 98, 101, 100]⟩⟩
  | 19 => ⟨⟨[117, 115, 97, 103, 101]⟩⟩
  | 20 => ⟨⟨[115, 116, 111, 114, 101, 100]⟩⟩
  | 21 => ⟨⟨[115, 116, 111, 114, 101, 100]⟩⟩
  | 22 => ⟨⟨[115, 116, 111, 114, 101, 100]⟩⟩
  | _ => ⟨⟨[]⟩⟩
def MI : Nat → Int
  | 0 => .ofNat 0
  | 1 => .ofNat 0
  | 2 => .ofNat 0
  | 3 => .ofNat 0
  | 4 => .ofNat 0
  | 5 => .ofNat 0
  | 6 => .ofNat 0
  | 7 => .ofNat 0
  | 8 => .ofNat 0
  | 9 => .ofNat 0
  | 10 => .ofNat 0
  | 11 => .ofNat 0
  | 12 => .ofNat 0
  | 13 => .ofNat 0
  | 14 => .ofNat 0
  | 15 => .ofNat 0
  | 16 => .ofNat 0
  | 17 => .ofNat 1
  | 18 => .ofNat 1
  | 19 => .ofNat 1
  | 20 => .ofNat 0
  | 21 => .ofNat 1
  | 22 => .ofNat 2
  | _ => .ofNat 0
def MA : Nat → Int
  | 0 => .ofNat 1
  | 1 => .ofNat 0
  | 2 => .ofNat 0
  | 3 => .ofNat 0
  | 4 => .ofNat 1
  | 5 => .ofNat 0
  | 6 => .ofNat 0
  | 7 => .ofNat 0
  | 8 => .ofNat 0
  | 9 => .ofNat 0
  | 10 => .ofNat 0
  | 11 => .ofNat 0
  | 12 => .ofNat 65
  | 13 => .ofNat 1
  | 14 => .ofNat 3
  | 15 => .ofNat 0
  | 16 => .ofNat 1
  | 17 => .ofNat 3
  | 18 => .ofNat 0
  | 19 => .ofNat 1
  | 20 => .ofNat 0
  | 21 => .ofNat 0
  | 22 => .ofNat 0
  | _ => .ofNat 0
def MB : Nat → Int
  | 0 => .ofNat 1
  | 1 => .ofNat 1
  | 2 => .ofNat 1
  | 3 => .ofNat 1
  | 4 => .ofNat 1
  | 5 => .ofNat 1
  | 6 => .ofNat 1
  | 7 => .ofNat 1
  | 8 => .ofNat 1
  | 9 => .ofNat 1
  | 10 => .ofNat 1
  | 11 => .ofNat 1
  | 12 => .ofNat 1
  | 13 => .ofNat 1
  | 14 => .ofNat 1
  | 15 => .ofNat 1
  | 16 => .ofNat 5
  | 17 => .ofNat 1
  | 18 => .ofNat 1
  | 19 => .ofNat 5
  | 20 => .ofNat 1
  | 21 => .ofNat 1
  | 22 => .ofNat 1
  | _ => .ofNat 0
def RK : Nat → Nat
  | 0 => 0
  | 1 => 13
  | 2 => 12
  | 3 => 4
  | 4 => 1
  | 5 => 5
  | 6 => 14
  | 7 => 11
  | 8 => 10
  | 9 => 6
  | 10 => 15
  | 11 => 19
  | 12 => 9
  | 13 => 20
  | 14 => 7
  | 15 => 2
  | 16 => 21
  | 17 => 8
  | 18 => 3
  | 19 => 22
  | 20 => 16
  | 21 => 17
  | 22 => 18
  | _ => 0
def encM (x : Fin 23) : List Value := [.string (MN x.val), .int .i64 (MI x.val), .int .i64 (MA x.val), .int .i64 (MB x.val)]
def cmpF (x y : Fin 23) : Int := cmpM (MN x.val) (MN y.val) (MI x.val) (MI y.val)
def allF (f : Fin 23 → Bool) : Bool := (List.finRange 23).all f
theorem allF_ok {f : Fin 23 → Bool} (h : allF f = true) (x : Fin 23) : f x = true := List.all_eq_true.1 h x (List.mem_finRange x)
theorem cmp_rank (x y : Fin 23) : ltOf cmpF x y = decide (RK x.val < RK y.val) := by
  have h : allF (fun x => allF (fun y => ltOf cmpF x y == decide (RK x.val < RK y.val))) = true := by kernel_rfl
  exact beq_iff_eq.1 (allF_ok (allF_ok h x) y)
theorem rank_inj (x y : Fin 23) (h : RK x.val = RK y.val) : x = y := by
  have h1 : allF (fun x => allF (fun y => !(RK x.val == RK y.val) || x == y)) = true := by kernel_rfl
  have h2 := allF_ok (allF_ok h1 x) y
  rw [h] at h2
  simpa using h2
theorem cmp_swo : SWO (ltOf cmpF) where
  irrefl x := by rw [cmp_rank]; simp
  trans x y z h1 h2 := by rw [cmp_rank] at *; simp at *; omega
  ntrans x y z h1 h2 := by rw [cmp_rank] at *; simp at *; omega
theorem cmp_total (x y : Fin 23) (h1 : ltOf cmpF x y = false) (h2 : ltOf cmpF y x = false) : x = y := by
  rw [cmp_rank] at *
  simp at h1 h2
  exact rank_inj x y (by omega)
def D0 : Array (Fin 23) := #[0, 4, 15, 18, 3, 5, 9, 14, 17, 12, 8, 7, 2, 1, 6, 10, 20, 21, 22, 11, 13, 16, 19]
theorem D0_sorted : SortedIn (ltOf cmpF) 0 23 D0 := by
  have h : ((List.range 23).all fun i => (List.range 23).all fun j => !(decide (i < j)) || !(ltOf cmpF D0[j]! D0[i]!)) = true := by kernel_rfl
  intro i j _ hij hj
  have h1 := List.all_eq_true.1 (List.all_eq_true.1 h i (by simp; omega)) j (by simp; omega)
  simpa [hij] using h1
def fin12 (i : Nat) : Fin 23 := ⟨i % 23, Nat.mod_lt _ (by decide)⟩
def rest11 : List (Fin 23) := [12, 13, 14, 15, 16, 17, 18, 19, 20, 21, 22]
def dOf (l : List Nat) : Array (Fin 23) := ⟨l.map fin12 ++ rest11⟩
theorem dOf_size {l : List Nat} (h : l.length = 12) : (dOf l).size = 23 := by simp [dOf, h, rest11]
theorem dOf_nodup {l : List Nat} (ho : Out l) : (dOf l).toList.Nodup := by
  show (l.map fin12 ++ rest11).Nodup
  rw [List.nodup_append]
  refine ⟨?_, by decide, ?_⟩
  · rw [List.Nodup, List.pairwise_map]
    refine ho.nd.imp_of_mem (fun {a b} ha hb hab e => hab ?_)
    have h1 := ho.lt a ha
    have h2 := ho.lt b hb
    have := congrArg Fin.val e
    simp [fin12] at this; omega
  · intro a ha b hb e
    obtain ⟨i, hi, rfl⟩ := List.mem_map.1 ha
    have h1 := ho.lt i hi
    have hb' : 12 ≤ b.val := by
      have : ∀ b ∈ rest11, 12 ≤ b.val := by decide
      exact this b hb
    have := congrArg Fin.val e
    simp [fin12] at this; omega
theorem nodup_len23 : ∀ {l : List (Fin 23)}, l.Nodup → l.length = 23 → ∀ x, x ∈ l := by
  intro l hn hl x
  refine Classical.byContradiction fun hx => ?_
  have h1 : ((x :: l).map Fin.val).Nodup := by
    rw [List.Nodup, List.pairwise_map]
    exact (List.nodup_cons.2 ⟨hx, hn⟩).imp (fun hab e => hab (Fin.ext e))
  have h2 := nodup_len 23 _ h1 (fun i hi => by
    obtain ⟨y, _, rfl⟩ := List.mem_map.1 hi
    exact y.isLt)
  simp [hl] at h2
theorem count_one {l : List (Fin 23)} (hn : l.Nodup) {x : Fin 23} (hx : x ∈ l) : l.count x = 1 := by
  induction l with
  | nil => cases hx
  | cons y l ih =>
    rw [List.nodup_cons] at hn
    by_cases e : y = x
    · subst e
      rw [List.count_cons_self, List.count_eq_zero.2 hn.1]
    · rw [List.count_cons_of_ne e]
      exact ih hn.2 (by rcases List.mem_cons.1 hx with h | h; exact absurd h.symm e; exact h)
theorem dOf_perm {l : List Nat} (ho : Out l) (hl : l.length = 12) : PermIn 0 23 (dOf l) D0 := by
  have hs := dOf_size hl
  refine ⟨by rw [hs]; rfl, fun i hi => ?_, ?_⟩
  · have h1 : ¬ i < (dOf l).size := by rw [hs]; omega
    have h2 : ¬ i < D0.size := by show ¬ i < 23; omega
    rw [getElem!_neg (dOf l) i h1, getElem!_neg D0 i h2]
  · have e1 : (dOf l).extract 0 23 = dOf l := by
      have h := Array.extract_size (xs := dOf l)
      rwa [hs] at h
    have e2 : D0.extract 0 23 = D0 := Array.extract_size
    rw [e1, e2, List.perm_iff_count]
    intro a
    rw [count_one (dOf_nodup ho) (nodup_len23 (dOf_nodup ho) (by simpa using hs) a), count_one (by decide) (nodup_len23 (l := D0.toList) (by decide) rfl a)]
theorem flatK_list {α : Type} [Inhabited α] (enc : α → List Value) (hk : ∀ x, (enc x).length = 4) (l : List α) : (flatK enc 4 ⟨l⟩).toList = l.flatMap enc := by
  have key : ∀ l : List α, (List.range (l.length * 4)).map (fun t => (enc (⟨l⟩ : Array α)[t / 4]!)[t % 4]!) = l.flatMap enc := by
    intro l
    induction l with
    | nil => rfl
    | cons x l ih =>
      rw [List.flatMap_cons, ← ih, show (x :: l).length * 4 = 4 + l.length * 4 by simp only [List.length_cons]; omega, List.range_add, List.map_append, List.map_map]
      congr 1
      · have h4 := hk x
        match hx : enc x, h4 with
        | [a, b, c, d], _ => simp [List.range, List.range.loop, hx]
      · apply List.map_congr_left
        intro t ht
        simp only [Function.comp]
        rw [show (4 + t) / 4 = t / 4 + 1 by omega, show (4 + t) % 4 = t % 4 by omega]
        have hlt : t / 4 < l.length := by simp at ht; omega
        rw [getElem!_pos (⟨x :: l⟩ : Array α) (t / 4 + 1) (by simp; omega), getElem!_pos (⟨l⟩ : Array α) (t / 4) (by simpa using hlt)]
        rfl
  rw [← key l]
  simp [flatK]
theorem dOf_row {l : List Nat} (ho : Out l) : (flatK encM 4 (dOf l)).toList = (l.map EV ++ Q2).flatMap cel ++ TV := by
  rw [dOf, flatK_list encM (fun _ => rfl), List.flatMap_append, List.flatMap_append, List.append_assoc]
  congr 1
  · rw [List.flatMap_map, List.flatMap_map]
    have h : ∀ i, i < 12 → encM (fin12 i) = cel (EV i) := by
      intro i hi
      match i, hi with
      | 0, _ => rfl
      | 1, _ => rfl
      | 2, _ => rfl
      | 3, _ => rfl
      | 4, _ => rfl
      | 5, _ => rfl
      | 6, _ => rfl
      | 7, _ => rfl
      | 8, _ => rfl
      | 9, _ => rfl
      | 10, _ => rfl
      | 11, _ => rfl
    revert ho
    generalize l = l'
    intro ho
    have hlt := ho.lt
    clear ho
    induction l' with
    | nil => rfl
    | cons i l' ih =>
      rw [List.flatMap_cons, List.flatMap_cons, h i (hlt i (by simp)), ih (fun j hj => hlt j (by simp [hj]))]
end Go.Proofs.YtpcbccpobhdokaaGreatDoor

/- Plain: names, and the texts of metrics. -/
import Derived.Test.YtpcbccpobhdokaaGreatDoorE7
import Derived.Lib.DecodeN
import Derived.Lib.Itoa
set_option linter.unusedSimpArgs false
set_option linter.unusedVariables false
set_option linter.all false
namespace Go.Proofs.YtpcbccpobhdokaaGreatDoor
theorem decode_big (s : ByteArray) (i : Nat) : if (s.get! i).toNat < 128 then Utf8.decode s i = ((s.get! i).toNat, 1) else 128 ≤ (Utf8.decode s i).1 := by
  rw [Lib.decode_at]
  generalize (s.get! i).toNat = b0
  unfold Lib.decodeN
  by_cases h : b0 < 128
  · rw [if_pos h, if_pos h]
  · rw [if_neg h, if_neg h]
    repeat' split
    all_goals simp only
    all_goals omega
def lowB (b : UInt8) : Prop := 97 ≤ b.toNat ∧ b.toNat ≤ 122
theorem idx_from (s : ByteArray) : ∀ (f pos : Nat), s.size ≤ pos + f → (Lib.idxFuncFrom offR true s f pos < 0 ↔ ∀ j, pos ≤ j → j < s.size → lowB (s.get! j))
  | 0, pos, h => by
    rw [Lib.idxFuncFrom]
    exact ⟨fun _ j h1 h2 => by omega, fun _ => by omega⟩
  | f + 1, pos, h => by
    rw [Lib.idxFuncFrom]
    by_cases hp : pos < s.size
    · rw [if_pos hp]
      have hd := decode_big s pos
      by_cases hb : (s.get! pos).toNat < 128
      · rw [if_pos hb] at hd
        rw [hd]
        by_cases hl : lowB (s.get! pos)
        · have ho : ¬ offR (s.get! pos).toNat = true := by
            have := hl.1; have := hl.2
            simp [offR]; omega
          rw [if_neg ho, idx_from s f (pos + 1) (by omega)]
          constructor
          · intro hh j h1 h2
            by_cases e : j = pos
            · rw [e]; exact hl
            · exact hh j (by omega) h2
          · intro hh j h1 h2
            exact hh j (by omega) h2
        · have ho : offR (s.get! pos).toNat = true := by
            unfold lowB at hl
            simp [offR]; omega
          rw [if_pos ho]
          constructor
          · intro hh; omega
          · intro hh; exact absurd (hh pos (Nat.le_refl _) hp) hl
      · rw [if_neg hb] at hd
        have ho : offR (Utf8.decode s pos).1 = true := by simp [offR]; omega
        rw [if_pos ho]
        constructor
        · intro hh; omega
        · intro hh
          have := (hh pos (Nat.le_refl _) hp).2
          omega
    · rw [if_neg hp]
      exact ⟨fun _ j h1 h2 => by omega, fun _ => by omega⟩
theorem get_mem (s : ByteArray) (b : UInt8) : b ∈ s.data.toList ↔ ∃ j, j < s.size ∧ s.get! j = b := by
  rw [List.mem_iff_getElem]
  constructor
  · rintro ⟨j, hj, rfl⟩
    have hj2 : j < s.data.size := by simpa using hj
    refine ⟨j, hj2, ?_⟩
    show s.data[j]! = _
    rw [getElem!_pos s.data j hj2]; simp
  · rintro ⟨j, hj, rfl⟩
    have hj2 : j < s.data.size := hj
    refine ⟨j, by simpa using hj2, ?_⟩
    show _ = s.data[j]!
    rw [getElem!_pos s.data j hj2]; simp
theorem idx_low (s : ByteArray) : Lib.idxFunc offR true s < 0 ↔ ∀ b ∈ s.data.toList, lowB b := by
  rw [Lib.idxFunc, idx_from s s.size 0 (by omega)]
  constructor
  · intro h b hb
    obtain ⟨j, h1, rfl⟩ := (get_mem s b).1 hb
    exact h j (Nat.zero_le _) h1
  · intro h j _ hj
    exact h _ ((get_mem s _).2 ⟨j, hj, rfl⟩)
theorem name_iff (s : ByteArray) : nameB s = true ↔ 1 ≤ s.size ∧ s.size ≤ 24 ∧ ∀ b ∈ s.data.toList, lowB b := by
  rw [← idx_low]
  simp only [nameB, Bool.and_eq_true, decide_eq_true_eq, and_assoc]
/-! ### numbers -/
theorem digits_all (u : Nat) : ∀ x ∈ Lib.decDigits u, 48 ≤ x.toNat ∧ x.toNat ≤ 57 := by
  induction u using Nat.strongRecOn with
  | _ u ih =>
    have hd : ∀ m : Nat, (UInt8.ofNat (48 + m % 10)).toNat = 48 + m % 10 := fun m => by simp; omega
    by_cases h : u < 10
    · rw [Lib.decDigits_one h]
      intro x hx
      have := hd u
      rw [Nat.mod_eq_of_lt h] at this
      rw [List.mem_singleton.1 hx, this]; omega
    · rw [Lib.decDigits, dif_neg h]
      intro x hx
      rcases List.mem_append.1 hx with hx | hx
      · exact ih (u / 10) (by omega) x hx
      · have := hd u
        rw [List.mem_singleton.1 hx, this]; omega
def valD (l : List UInt8) : Nat := l.foldl (fun n b => n * 10 + (b.toNat - 48)) 0
theorem val_digits (u : Nat) : valD (Lib.decDigits u) = u := by
  induction u using Nat.strongRecOn with
  | _ u ih =>
    have hd : ∀ m : Nat, (UInt8.ofNat (48 + m % 10)).toNat = 48 + m % 10 := fun m => by simp; omega
    by_cases h : u < 10
    · rw [Lib.decDigits_one h]
      have := hd u
      rw [Nat.mod_eq_of_lt h] at this
      simp only [valD, List.foldl_cons, List.foldl_nil, this]; omega
    · rw [Lib.decDigits, dif_neg h]
      have h1 := ih (u / 10) (by omega)
      unfold valD at h1 ⊢
      rw [List.foldl_append, h1]
      simp only [List.foldl_cons, List.foldl_nil, hd u]; omega
theorem itoa_cases (n : Int) : (0 ≤ n ∧ Lib.itoa n = Lib.decDigits n.natAbs) ∨ (n < 0 ∧ Lib.itoa n = 45 :: Lib.decDigits n.natAbs) := by
  by_cases h : 0 ≤ n
  · refine .inl ⟨h, ?_⟩
    obtain ⟨u, rfl⟩ := Int.eq_ofNat_of_zero_le h
    rw [Lib.itoa_nonneg]; simp
  · refine .inr ⟨by omega, ?_⟩
    obtain ⟨u, rfl⟩ : ∃ u : Nat, n = -(u : Int) := ⟨n.natAbs, by omega⟩
    rw [Lib.itoa_neg u (by omega)]; simp
theorem itoa_bytes (n : Int) : ∀ x ∈ Lib.itoa n, x = 45 ∨ (48 ≤ x.toNat ∧ x.toNat ≤ 57) := by
  intro x hx
  rcases itoa_cases n with ⟨_, h⟩ | ⟨_, h⟩
  · rw [h] at hx; exact .inr (digits_all _ x hx)
  · rw [h] at hx
    rcases List.mem_cons.1 hx with rfl | hx
    · exact .inl rfl
    · exact .inr (digits_all _ x hx)
theorem itoa_inj {n m : Int} (h : Lib.itoa n = Lib.itoa m) : n = m := by
  have no : ∀ u, ∀ l, Lib.decDigits u ≠ 45 :: l := fun u l e => by
    have := digits_all u 45 (by rw [e]; simp)
    simp at this
  rcases itoa_cases n with ⟨h1, e1⟩ | ⟨h1, e1⟩ <;> rcases itoa_cases m with ⟨h2, e2⟩ | ⟨h2, e2⟩
  · rw [e1, e2] at h
    have := congrArg valD h
    rw [val_digits, val_digits] at this; omega
  · rw [e1, e2] at h; exact absurd h (no _ _)
  · rw [e1, e2] at h; exact absurd h.symm (no _ _)
  · rw [e1, e2] at h
    have := congrArg valD (List.cons.inj h).2
    rw [val_digits, val_digits] at this; omega
/-! ### texts -/
theorem cut_eq {c : UInt8} : ∀ {u u' s s' : List UInt8}, c ∉ u → c ∉ u' → u ++ c :: s = u' ++ c :: s' → u = u' ∧ s = s'
  | [], [], _, _, _, _, h => ⟨rfl, (List.cons.inj h).2⟩
  | [], y :: _, _, _, _, h', h => absurd (by rw [(List.cons.inj h).1]; simp) h'
  | x :: _, [], _, _, h', _, h => absurd (by rw [← (List.cons.inj h).1]; simp) h'
  | x :: u, y :: u', s, s', h1, h2, h => by
    obtain ⟨e1, e2⟩ := List.cons.inj h
    obtain ⟨e3, e4⟩ := cut_eq (fun hm => h1 (List.mem_cons_of_mem _ hm)) (fun hm => h2 (List.mem_cons_of_mem _ hm)) e2
    exact ⟨by rw [e1, e3], e4⟩
theorem cut_no {c : UInt8} {u v w : List UInt8} (h1 : c ∉ v) (h : u ++ c :: w = v) : False := h1 (by rw [← h]; simp)
def ratL (a b : Int) : List UInt8 := if b = 1 then Lib.itoa a else Lib.itoa a ++ 47 :: Lib.itoa b
theorem ratS_list (a b : Int) : (ratS a b).data.toList = ratL a b := by
  unfold ratS ratL itoaS
  split
  · rfl
  · simp [ByteArray.data_append]
theorem itoa_no (n : Int) (c : UInt8) (h : c = 10 ∨ c = 32 ∨ c = 47) : c ∉ Lib.itoa n := fun hm => by
  rcases itoa_bytes n c hm with e | e
  · subst e; simp at h
  · rcases h with rfl | rfl | rfl <;> simp at e
theorem ratL_no (a b : Int) (c : UInt8) (h : c = 10 ∨ c = 32) : c ∉ ratL a b := by
  have h3 : c = 10 ∨ c = 32 ∨ c = 47 := by rcases h with h | h <;> simp [h]
  unfold ratL
  split
  · exact itoa_no a c h3
  · intro hm
    rcases List.mem_append.1 hm with hm | hm
    · exact itoa_no a c h3 hm
    · rcases List.mem_cons.1 hm with e | hm
      · subst e; simp at h
      · exact itoa_no b c h3 hm
theorem ratL_inj {a b a' b' : Int} (h : ratL a b = ratL a' b') : a = a' ∧ b = b' := by
  unfold ratL at h
  by_cases h1 : b = 1 <;> by_cases h2 : b' = 1
  · rw [if_pos h1, if_pos h2] at h
    exact ⟨itoa_inj h, by rw [h1, h2]⟩
  · rw [if_pos h1, if_neg h2] at h
    exact (cut_no (itoa_no a 47 (by simp)) h.symm).elim
  · rw [if_neg h1, if_pos h2] at h
    exact (cut_no (itoa_no a' 47 (by simp)) h).elim
  · rw [if_neg h1, if_neg h2] at h
    obtain ⟨e1, e2⟩ := cut_eq (itoa_no a 47 (by simp)) (itoa_no a' 47 (by simp)) h
    exact ⟨itoa_inj e1, itoa_inj e2⟩
theorem lineL_eq (x : Met) : lineL x = x.n.data.toList ++ 32 :: (Lib.itoa x.i ++ 32 :: (ratL x.a x.b ++ [10])) := by
  unfold lineL lineB
  rw [← ratS_list]
  simp [ByteArray.data_append, itoaS]
theorem name_no {x : Met} (h : MOk x) (c : UInt8) (hc : c = 10 ∨ c = 32) : c ∉ x.n.data.toList := fun hm => by
  have := ((name_iff _).1 h.1).2.2 c hm
  unfold lowB at this
  rcases hc with rfl | rfl <;> simp at this
theorem cat_inj : ∀ {l m : List Met}, (∀ x ∈ l, MOk x) → (∀ x ∈ m, MOk x) → catL l = catL m → l = m
  | [], [], _, _, _ => rfl
  | [], y :: m, _, _, h => by
    have := congrArg List.length h
    simp [catL, lineL_eq] at this
  | x :: l, [], _, _, h => by
    have := congrArg List.length h
    simp [catL, lineL_eq] at this
  | x :: l, y :: m, h1, h2, h => by
    have e : ∀ (z : Met) (t : List Met), catL (z :: t) = z.n.data.toList ++ 32 :: (Lib.itoa z.i ++ 32 :: (ratL z.a z.b ++ 10 :: catL t)) := fun z t => by
      show lineL z ++ catL t = _
      rw [lineL_eq]; simp
    rw [e, e] at h
    obtain ⟨n1, h⟩ := cut_eq (name_no (h1 x (by simp)) 32 (by simp)) (name_no (h2 y (by simp)) 32 (by simp)) h
    obtain ⟨n2, h⟩ := cut_eq (itoa_no _ 32 (by simp)) (itoa_no _ 32 (by simp)) h
    obtain ⟨n3, h⟩ := cut_eq (ratL_no _ _ 10 (by simp)) (ratL_no _ _ 10 (by simp)) h
    obtain ⟨e3, e4⟩ := ratL_inj n3
    have e1 : x.n = y.n := by
      cases hx : x.n; cases hy : y.n
      rw [hx, hy] at n1
      simpa using n1
    have exy : x = y := (Met.ext_iff' x y).2 ⟨e1, itoa_inj n2, e3, e4⟩
    rw [exy, cat_inj (fun z hz => h1 z (List.mem_cons_of_mem _ hz)) (fun z hz => h2 z (List.mem_cons_of_mem _ hz)) h]
theorem cat_count : ∀ {l : List Met}, (∀ x ∈ l, MOk x) → (catL l).count 10 = l.length
  | [], _ => rfl
  | x :: l, h => by
    show (lineL x ++ catL l).count 10 = _
    rw [List.count_append, cat_count (fun z hz => h z (List.mem_cons_of_mem _ hz)), lineL_eq]
    simp only [List.count_append, List.count_cons, List.count_nil]
    rw [List.count_eq_zero.2 (name_no (h x (by simp)) 10 (by simp)), List.count_eq_zero.2 (itoa_no x.i 10 (by simp)), List.count_eq_zero.2 (ratL_no x.a x.b 10 (by simp))]
    simp
    omega
theorem chk_all {l : List Met} (h : chkE l = 0) : ∀ x ∈ l, MOk x := fun x hx => by
  obtain ⟨k, hk, rfl⟩ := List.mem_iff_getElem.1 hx
  have := metE_ok (chk_get h hk)
  rwa [show l.getD k mz = l[k] by simp [List.getD, hk]] at this
theorem cat_size {l : List Met} (h : chkE l = 0) : (catL l).length ≤ 91000 := by
  have h1 : ∀ m : List Met, (∀ x ∈ m, MOk x) → (catL m).length ≤ 91 * m.length := by
    intro m
    induction m with
    | nil => intro _; simp [catL]
    | cons x t ih =>
      intro hm
      have := ih (fun z hz => hm z (List.mem_cons_of_mem _ hz))
      have h2 := (hm x (by simp)).bounds.2.2.2
      show (lineL x ++ catL t).length ≤ _
      rw [List.length_append, List.length_cons]; omega
  have := h1 l (chk_all h)
  have := chk_len h
  omega
end Go.Proofs.YtpcbccpobhdokaaGreatDoor

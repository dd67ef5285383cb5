/- Checksums: a byte that is changed changes the checksum. -/
import Derived.Laws.BitsAllLaws
set_option linter.unusedSimpArgs false
set_option linter.unusedVariables false
set_option linter.all false
namespace Go.Proofs.YthlfhfliidhelaaGreatDoor
theorem xor_rc {a b c : Nat} (h : a ^^^ b = c ^^^ b) : a = c := by
  have := congrArg (· ^^^ b) h
  simpa [Nat.xor_assoc] using this
theorem xor_lc {a b c : Nat} (h : a ^^^ b = a ^^^ c) : b = c := by
  rw [Nat.xor_comm a b, Nat.xor_comm a c] at h
  exact xor_rc h
def crcP : Nat := 2197175160
def crcB (r : Nat) : Nat := if r % 2 = 1 then (r / 2) ^^^ crcP else r / 2
def crcS : Nat → Nat → Nat
  | 0, r => r
  | k + 1, r => crcS k (crcB r)
def crcT (i : Nat) : Nat := crcS 8 i
def crcU (r b : Nat) : Nat := (r / 256) ^^^ crcT ((r % 256) ^^^ b)
def crcF (r : Nat) (l : List UInt8) : Nat := l.foldl (fun r b => crcU r b.toNat) r
theorem crcB_lt {r : Nat} (h : r < 4294967296) : crcB r < 4294967296 := by
  unfold crcB
  split
  · exact Nat.xor_lt_two_pow (n := 32) (by omega) (by decide)
  · omega
theorem crcS_lt : ∀ (k : Nat) {r : Nat}, r < 4294967296 → crcS k r < 4294967296
  | 0, _, h => h
  | k + 1, _, h => crcS_lt k (crcB_lt h)
theorem crcT_lt {i : Nat} (h : i < 256) : crcT i < 4294967296 := crcS_lt 8 (by omega)
theorem crcU_lt {r b : Nat} (hr : r < 4294967296) (hb : b < 256) : crcU r b < 4294967296 :=
  Nat.xor_lt_two_pow (n := 32) (by omega) (crcT_lt (Nat.xor_lt_two_pow (n := 8) (by omega) hb))
def crcI : List Nat := (List.range 256).map fun t => ((List.range 256).findIdx fun i => crcT i / 16777216 == t)
theorem crc_top : ∀ i, i < 256 → crcI[crcT i / 16777216]? = some i := by decide +kernel
theorem crcT_inj {i j : Nat} (hi : i < 256) (hj : j < 256) (h : crcT i / 16777216 = crcT j / 16777216) : i = j := by
  have a := crc_top i hi
  rw [h, crc_top j hj] at a
  exact (Option.some.inj a).symm
theorem crcU_top {r b : Nat} (hr : r < 4294967296) : crcU r b / 16777216 = crcT ((r % 256) ^^^ b) / 16777216 := by
  unfold crcU
  have e : ∀ a b : Nat, (a ^^^ b) / 16777216 = (a / 16777216) ^^^ (b / 16777216) := fun a b => by
    have := Nat.shiftRight_xor_distrib (a := a) (b := b) (i := 24)
    rwa [Nat.shiftRight_eq_div_pow, Nat.shiftRight_eq_div_pow, Nat.shiftRight_eq_div_pow] at this
  rw [e, show r / 256 / 16777216 = 0 by omega, Nat.zero_xor]
theorem crcU_inj {r r' b b' : Nat} (hr : r < 4294967296) (hr' : r' < 4294967296) (hb : b < 256) (hb' : b' < 256) (h : crcU r b = crcU r' b') : (r % 256) ^^^ b = (r' % 256) ^^^ b' ∧ r / 256 = r' / 256 := by
  have e : (r % 256) ^^^ b = (r' % 256) ^^^ b' := crcT_inj (Nat.xor_lt_two_pow (n := 8) (by omega) hb) (Nat.xor_lt_two_pow (n := 8) (by omega) hb') (by rw [← crcU_top hr, ← crcU_top hr', h])
  refine ⟨e, ?_⟩
  unfold crcU at h
  rw [e] at h
  exact xor_rc h
theorem crcU_left {r r' b : Nat} (hr : r < 4294967296) (hr' : r' < 4294967296) (hb : b < 256) (h : crcU r b = crcU r' b) : r = r' := by
  obtain ⟨h1, h2⟩ := crcU_inj hr hr' hb hb h
  have := xor_rc h1
  omega
theorem crcU_right {r b b' : Nat} (hr : r < 4294967296) (hb : b < 256) (hb' : b' < 256) (h : crcU r b = crcU r b') : b = b' := by
  obtain ⟨h1, _⟩ := crcU_inj hr hr hb hb' h
  exact xor_lc h1
theorem crcF_lt : ∀ (l : List UInt8) {r : Nat}, r < 4294967296 → crcF r l < 4294967296
  | [], _, h => h
  | b :: l, _, h => crcF_lt l (crcU_lt h b.toNat_lt)
theorem crcF_left : ∀ (l : List UInt8) {r r' : Nat}, r < 4294967296 → r' < 4294967296 → crcF r l = crcF r' l → r = r'
  | [], _, _, _, _, h => h
  | b :: l, _, _, h1, h2, h => crcU_left h1 h2 b.toNat_lt (crcF_left l (crcU_lt h1 b.toNat_lt) (crcU_lt h2 b.toNat_lt) h)
theorem crcF_one {a c : List UInt8} {x y : UInt8} {r : Nat} (hr : r < 4294967296) (h : crcF r (a ++ x :: c) = crcF r (a ++ y :: c)) : x = y := by
  unfold crcF at h
  rw [List.foldl_append, List.foldl_append, List.foldl_cons, List.foldl_cons] at h
  have ha := crcF_lt a hr
  have e := crcF_left c (crcU_lt ha x.toNat_lt) (crcU_lt ha y.toNat_lt) h
  exact UInt8.toNat_inj.1 (crcU_right ha x.toNat_lt y.toNat_lt e)
def crcN (l : List UInt8) : Nat := crcF 4294967295 l ^^^ 4294967295
def tailL (l : List UInt8) : List UInt8 := [(crcN l).toUInt8, (crcN l / 256).toUInt8, (crcN l / 65536).toUInt8, (crcN l / 16777216).toUInt8]
theorem crcN_lt (l : List UInt8) : crcN l < 4294967296 := Nat.xor_lt_two_pow (n := 32) (crcF_lt l (by decide)) (by decide)
theorem tailL_inj {a b : List UInt8} (h : tailL a = tailL b) : crcF 4294967295 a = crcF 4294967295 b := by
  have ha := crcN_lt a
  have hb := crcN_lt b
  unfold tailL at h
  simp only [List.cons.injEq, and_true, ← UInt8.toNat_inj, Nat.toUInt8, UInt8.toNat_ofNat'] at h
  have e : crcN a = crcN b := by omega
  exact xor_rc e
theorem tailL_one {a c : List UInt8} {x y : UInt8} (h : tailL (a ++ x :: c) = tailL (a ++ y :: c)) : x = y := crcF_one (by decide) (tailL_inj h)
end Go.Proofs.YthlfhfliidhelaaGreatDoor
namespace Go.Proofs.YthlfhfliidhelaaGreatDoor
def rdG : Nat → Nat → List UInt8 → Option (Nat × Nat)
  | 0, _, _ => none
  | _ + 1, _, [] => none
  | f + 1, n, b :: l => if b.toNat < 128 then some (n * 128 + b.toNat % 128, 1) else (rdG f (n * 128 + b.toNat % 128) l).map fun x => (x.1, x.2 + 1)
def unzig (v : Nat) : Int := if v % 2 = 1 then -((v / 2 : Nat) : Int) - 1 else ((v / 2 : Nat) : Int)
def readI (s : List UInt8) : Option (Int × Nat) :=
  match rdG 9 0 s with
  | none => none
  | some (v, k) => if s.head? = some 128 then none else if -1152921504606846976 ≤ unzig v ∧ unzig v ≤ 1152921504606846976 then some (unzig v, k) else none
def openE (s : List UInt8) : Option (List UInt8 × Nat) :=
  match readI s with
  | none => none
  | some (n, k) => if n < 0 ∨ 65536 < n then none else if s.length < k + n.toNat + 4 then none else if tailL (s.take (k + n.toNat)) ≠ (s.drop (k + n.toNat)).take 4 then none else some ((s.take (k + n.toNat)).drop k, k + n.toNat + 4)
def Bad (s : List UInt8) : Prop := ∀ d z, openE s = some (d, z) → z ≠ s.length
def encG : Nat → Nat → List UInt8
  | 0, _ => []
  | 1, v => [(v % 128).toUInt8]
  | k + 2, v => (v / 128 ^ (k + 1) % 128 + 128).toUInt8 :: encG (k + 1) v
def valG (n : Nat) (l : List UInt8) : Nat := l.foldl (fun n b => n * 128 + b.toNat % 128) n
theorem valG_app (n : Nat) (a b : List UInt8) : valG n (a ++ b) = valG (valG n a) b := by unfold valG; rw [List.foldl_append]
theorem valG_eq : ∀ (l : List UInt8) (n : Nat), valG n l = n * 128 ^ l.length + valG 0 l
  | [], n => by simp [valG]
  | b :: l, n => by
    have h1 := valG_eq l (n * 128 + b.toNat % 128)
    have h2 := valG_eq l (0 * 128 + b.toNat % 128)
    have e1 : valG n (b :: l) = valG (n * 128 + b.toNat % 128) l := rfl
    have e2 : valG 0 (b :: l) = valG (0 * 128 + b.toNat % 128) l := rfl
    rw [e1, e2, h1, h2, List.length_cons, Nat.pow_succ]
    rw [Nat.zero_mul, Nat.zero_add, Nat.add_mul, Nat.mul_assoc, Nat.mul_comm 128 (128 ^ l.length), Nat.add_assoc]
theorem valG_lt : ∀ l : List UInt8, valG 0 l < 128 ^ l.length
  | [] => by simp [valG]
  | b :: l => by
    have e2 : valG 0 (b :: l) = valG (0 * 128 + b.toNat % 128) l := rfl
    rw [e2, valG_eq l, List.length_cons, Nat.pow_succ]
    have := valG_lt l
    have h3 : (0 * 128 + b.toNat % 128) * 128 ^ l.length ≤ 127 * 128 ^ l.length := Nat.mul_le_mul_right _ (by omega)
    omega
theorem valG_inj : ∀ (a b : List UInt8), a.length = b.length → valG 0 a = valG 0 b → a.map (fun x => x.toNat % 128) = b.map (fun x => x.toNat % 128)
  | [], [], _, _ => rfl
  | [], _ :: _, h, _ => by simp at h
  | _ :: _, [], h, _ => by simp at h
  | x :: a, y :: b, h, e => by
    have hl : a.length = b.length := by simpa using h
    have e1 : valG 0 (x :: a) = valG (0 * 128 + x.toNat % 128) a := rfl
    have e2 : valG 0 (y :: b) = valG (0 * 128 + y.toNat % 128) b := rfl
    rw [e1, e2, valG_eq a, valG_eq b, hl, Nat.zero_mul, Nat.zero_add, Nat.zero_add] at e
    have ha := valG_lt a
    have hb := valG_lt b
    rw [hl] at ha
    have hq : x.toNat % 128 = y.toNat % 128 := by
      have p : 0 < 128 ^ b.length := Nat.pos_of_ne_zero (by simp)
      have q1 : (x.toNat % 128 * 128 ^ b.length + valG 0 a) / 128 ^ b.length = x.toNat % 128 := by
        rw [Nat.mul_comm, Nat.mul_add_div p, Nat.div_eq_of_lt ha, Nat.add_zero]
      have q2 : (y.toNat % 128 * 128 ^ b.length + valG 0 b) / 128 ^ b.length = y.toNat % 128 := by
        rw [Nat.mul_comm, Nat.mul_add_div p, Nat.div_eq_of_lt hb, Nat.add_zero]
      rw [← q1, ← q2, e]
    rw [hq] at e
    rw [List.map_cons, List.map_cons, hq, valG_inj a b hl (by omega)]
theorem rdG_shape : ∀ (f n : Nat) (l : List UInt8) {v k : Nat}, rdG f n l = some (v, k) →
    ∃ p b r, l = p ++ b :: r ∧ k = p.length + 1 ∧ k ≤ f ∧ (∀ x ∈ p, 128 ≤ x.toNat) ∧ b.toNat < 128 ∧ v = valG n (p ++ [b])
  | 0, _, _, _, _, h => by simp [rdG] at h
  | f + 1, n, [], _, _, h => by simp [rdG] at h
  | f + 1, n, b :: l, v, k, h => by
    unfold rdG at h
    split at h
    · rename_i hb
      obtain ⟨rfl, rfl⟩ : v = n * 128 + b.toNat % 128 ∧ k = 1 := by simpa [eq_comm] using h
      exact ⟨[], b, l, rfl, rfl, by omega, by simp, hb, rfl⟩
    · rename_i hb
      cases hr : rdG f (n * 128 + b.toNat % 128) l with
      | none => rw [hr] at h; simp at h
      | some x =>
        obtain ⟨v1, k1⟩ := x
        rw [hr] at h
        obtain ⟨rfl, rfl⟩ : v = v1 ∧ k = k1 + 1 := by simpa [eq_comm] using h
        obtain ⟨p, c, r, rfl, h2, h3, h4, h5, h6⟩ := rdG_shape f _ l hr
        exact ⟨b :: p, c, r, rfl, by simp [h2], by omega, by simp only [List.mem_cons, forall_eq_or_imp]; exact ⟨by omega, h4⟩, h5, h6⟩
theorem rdG_of : ∀ (p : List UInt8) (f n : Nat) (b : UInt8) (r : List UInt8), p.length < f → (∀ x ∈ p, 128 ≤ x.toNat) → b.toNat < 128 → rdG f n (p ++ b :: r) = some (valG n (p ++ [b]), p.length + 1)
  | [], f + 1, n, b, r, _, _, hb => by
    show rdG (f + 1) n (b :: r) = _
    unfold rdG
    rw [if_pos hb]
    rfl
  | x :: p, f + 1, n, b, r, hf, hp, hb => by
    show rdG (f + 1) n (x :: (p ++ b :: r)) = _
    unfold rdG
    have hx := hp x (by simp)
    rw [if_neg (by omega), rdG_of p f _ b r (by simpa using hf) (fun y hy => hp y (by simp [hy])) hb]
    rfl
  | _, 0, _, _, _, h, _, _ => by omega
structure Head (h : List UInt8) (n : Nat) : Prop where
  ex : ∃ p b, h = p ++ [b] ∧ (∀ x ∈ p, 128 ≤ x.toNat) ∧ b.toNat < 128
  val : valG 0 h = 2 * n
  len : h.length ≤ 9
  least : 2 ≤ h.length → 128 ^ (h.length - 1) ≤ 2 * n
theorem Head.read {h : List UInt8} {n : Nat} (H : Head h n) (r : List UInt8) : rdG 9 0 (h ++ r) = some (2 * n, h.length) := by
  obtain ⟨p, b, rfl, hp, hb⟩ := H.ex
  have hl := H.len
  rw [List.length_append] at hl
  rw [List.append_assoc, List.singleton_append, rdG_of p 9 0 b r (by simp at hl; omega) hp hb, H.val]
  simp
theorem Head.pos {h : List UInt8} {n : Nat} (H : Head h n) : 1 ≤ h.length := by
  obtain ⟨p, b, rfl, _, _⟩ := H.ex
  simp
theorem unzig_even (n : Nat) : unzig (2 * n) = n := by
  unfold unzig
  rw [if_neg (by omega)]
  congr 1
  omega
theorem unzig_nonneg {v : Nat} {n : Int} (h : unzig v = n) (hn : 0 ≤ n) : v = 2 * n.toNat := by
  unfold unzig at h
  split at h <;> omega
theorem Head.head {h : List UInt8} {n : Nat} (H : Head h n) (r : List UInt8) : (h ++ r).head? ≠ some 128 := by
  obtain ⟨p, b, rfl, hp, hb⟩ := H.ex
  intro e
  have hv := H.val
  have hm := H.least
  cases p with
  | nil =>
    obtain rfl : b = 128 := by simpa using e
    exact absurd hb (by decide)
  | cons x p =>
    obtain rfl : x = 128 := by simpa using e
    have h1 := hm (by simp)
    have h2 : valG 0 (128 :: p ++ [b]) = valG 0 (p ++ [b]) := rfl
    have h3 := valG_lt (p ++ [b])
    rw [h2] at hv
    rw [List.length_append, List.length_singleton] at h3
    simp only [List.length_append, List.length_cons, List.length_nil, Nat.zero_add, Nat.add_sub_cancel] at h1
    omega
theorem Head.readI {h : List UInt8} {n : Nat} (H : Head h n) (hm : n ≤ 65536) (r : List UInt8) : readI (h ++ r) = some ((n : Int), h.length) := by
  unfold Proofs.YthlfhfliidhelaaGreatDoor.readI
  rw [H.read r]
  show (if (h ++ r).head? = some 128 then none else _) = _
  rw [if_neg (H.head r), unzig_even, if_pos ⟨by omega, by omega⟩]
def sealL (h out : List UInt8) : List UInt8 := h ++ out ++ tailL (h ++ out)
theorem sealL_len (h out : List UInt8) : (sealL h out).length = h.length + out.length + 4 := by unfold sealL; rw [List.length_append, List.length_append]; rfl
theorem openE_some {s d : List UInt8} {z : Nat} (h : openE s = some (d, z)) : ∃ (n k : Nat), readI s = some ((n : Int), k) ∧ z = k + n + 4 ∧ z ≤ s.length ∧ tailL (s.take (k + n)) = (s.drop (k + n)).take 4 := by
  unfold openE at h
  cases hr : readI s with
  | none => rw [hr] at h; cases h
  | some x =>
    obtain ⟨n, k⟩ := x
    rw [hr] at h
    dsimp only at h
    split at h
    · cases h
    · rename_i h1
      split at h
      · cases h
      · rename_i h2
        split at h
        · cases h
        · rename_i h3
          obtain ⟨_, rfl⟩ : _ ∧ z = k + n.toNat + 4 := by simpa [eq_comm] using h
          refine ⟨n.toNat, k, ?_, rfl, by omega, by simpa using h3⟩
          rw [Int.toNat_of_nonneg (by omega)]
theorem readI_some {s : List UInt8} {n k : Nat} (h : readI s = some ((n : Int), k)) : rdG 9 0 s = some (2 * n, k) ∧ s.head? ≠ some 128 := by
  unfold readI at h
  cases hr : rdG 9 0 s with
  | none => rw [hr] at h; cases h
  | some x =>
    obtain ⟨v, k1⟩ := x
    rw [hr] at h
    dsimp only at h
    split at h
    · cases h
    · rename_i h1
      split at h
      · obtain ⟨h3, rfl⟩ : unzig v = n ∧ k1 = k := by simpa using h
        refine ⟨?_, h1⟩
        have := unzig_nonneg h3 (by omega)
        rw [this]
        simp
      · cases h
theorem rdG_more {f n : Nat} {l : List UInt8} {x : Nat × Nat} (h : rdG f n l = some x) (r : List UInt8) : rdG f n (l ++ r) = some x := by
  obtain ⟨v, k⟩ := x
  obtain ⟨p, b, r0, rfl, rfl, hk, hp, hb, rfl⟩ := rdG_shape f n l h
  rw [List.append_assoc, List.cons_append, rdG_of p f n b (r0 ++ r) (by omega) hp hb]
theorem bad_cut {h out : List UInt8} (H : Head h out.length) {j : Nat} (hj : j < (sealL h out).length) : Bad ((sealL h out).take j) := by
  intro d z hz e
  obtain ⟨n, k, h1, rfl, h3, h4⟩ := openE_some hz
  obtain ⟨h5, _⟩ := readI_some h1
  have h6 := rdG_more h5 ((sealL h out).drop j)
  rw [List.take_append_drop] at h6
  unfold sealL at h6
  rw [List.append_assoc, H.read] at h6
  obtain ⟨h7, h8⟩ : 2 * out.length = 2 * n ∧ h.length = k := by simpa using h6
  rw [sealL_len] at hj
  rw [List.length_take, sealL_len] at h3
  omega
theorem set_cut {l : List UInt8} {i : Nat} (hi : i < l.length) (y : UInt8) : l = l.take i ++ l[i] :: l.drop (i + 1) ∧ l.set i y = l.take i ++ y :: l.drop (i + 1) := by
  refine ⟨?_, List.set_eq_take_append_cons_drop .. |>.trans (if_pos hi)⟩
  rw [← List.drop_eq_getElem_cons hi, List.take_append_drop]
theorem bad_far {h out : List UInt8} (H : Head h out.length) {i : Nat} (hi : i < (out ++ tailL (h ++ out)).length) {y : UInt8} (hy : y ≠ (out ++ tailL (h ++ out))[i]) : Bad (h ++ (out ++ tailL (h ++ out)).set i y) := by
  intro d z hz e
  obtain ⟨n, k, h1, rfl, h3, h4⟩ := openE_some hz
  obtain ⟨h5, _⟩ := readI_some h1
  rw [H.read] at h5
  obtain ⟨h7, rfl⟩ : 2 * out.length = 2 * n ∧ h.length = k := by simpa using h5
  obtain rfl : n = out.length := by omega
  have hlt : (tailL (h ++ out)).length = 4 := rfl
  by_cases ho : i < out.length
  · rw [List.set_append_left _ _ ho] at h4
    rw [← List.append_assoc, List.take_left' (by simp), List.drop_left' (by simp)] at h4
    obtain ⟨e1, e2⟩ := set_cut ho y
    have h6 : tailL ((h ++ out.take i) ++ y :: out.drop (i + 1)) = tailL ((h ++ out.take i) ++ out[i] :: out.drop (i + 1)) := by
      rw [List.append_assoc, List.append_assoc, ← e1, ← e2, h4]
      exact List.take_of_length_le (by rw [hlt]; omega)
    rw [List.getElem_append_left ho] at hy
    exact hy (tailL_one h6)
  · rw [List.set_append_right _ _ (by omega), ← List.append_assoc, List.take_left' (by simp), List.drop_left' (by simp), List.take_of_length_le (by simp [hlt])] at h4
    rw [List.length_append, hlt] at hi
    rw [List.getElem_append_right (by omega)] at hy
    have h6 : ((tailL (h ++ out)).set (i - out.length) y)[i - out.length]? = (tailL (h ++ out))[i - out.length]? := by rw [← h4]
    rw [List.getElem?_set_self (by omega), List.getElem?_eq_getElem (by omega)] at h6
    exact hy (Option.some.inj h6)
theorem bad_near {h out : List UInt8} (H : Head h out.length) {i : Nat} (hi : i < h.length) {y : UInt8} (hy : y ≠ h[i]) (R : List UInt8) (hR : R.length = out.length + 4) : Bad (h.set i y ++ R) := by
  intro d z hz e
  obtain ⟨m, k, h1, rfl, h3, h4⟩ := openE_some hz
  obtain ⟨h5, hh⟩ := readI_some h1
  obtain ⟨p, b, r, e1, rfl, hk, hp, hb, hv⟩ := rdG_shape _ _ _ h5
  rw [List.length_append, List.length_set, hR] at e
  obtain ⟨p0, b0, e0, hp0, hb0⟩ := H.ex
  have hval := H.val
  have hlen : h.length = p0.length + 1 := by rw [e0]; simp
  have e1' : (p ++ [b]) ++ r = h.set i y ++ R := by rw [e1]; simp
  rcases Nat.lt_trichotomy (p.length + 1) h.length with hc | hc | hc
  · have h6 := H.least (by omega)
    have h7 := valG_lt (p ++ [b])
    rw [← hv, List.length_append, List.length_singleton] at h7
    have h8 : 128 ^ (p.length + 1) ≤ 128 ^ (h.length - 1) := Nat.pow_le_pow_right (by decide) (by omega)
    omega
  · obtain ⟨e2, _⟩ := List.append_inj e1' (by simp [hc])
    have hm : m = out.length := by omega
    have h6 := valG_inj (h.set i y) h (by simp) (by rw [← e2, ← hv, hval, hm])
    have h7 : ((h.set i y).map fun x => x.toNat % 128)[i]? = (h.map fun x => x.toNat % 128)[i]? := by rw [h6]
    rw [List.getElem?_map, List.getElem?_map, List.getElem?_set_self hi, List.getElem?_eq_getElem hi] at h7
    have h8 : y.toNat % 128 = h[i].toNat % 128 := by simpa using h7
    have hyi : (p ++ [b])[i]? = some y := by rw [e2, List.getElem?_set_self hi]
    have hhi : (p0 ++ [b0])[i]? = some h[i] := by rw [← e0, List.getElem?_eq_getElem hi]
    apply hy
    apply UInt8.toNat_inj.1
    have q1 := y.toNat_lt
    have q2 := h[i].toNat_lt
    by_cases hi2 : i < p0.length
    · rw [List.getElem?_append_left (by omega)] at hyi hhi
      have a1 := hp y (List.mem_of_getElem? hyi)
      have a2 := hp0 _ (List.mem_of_getElem? hhi)
      omega
    · obtain rfl : i = p0.length := by omega
      have hpl : p.length = p0.length := by omega
      rw [← hpl, List.getElem?_concat_length] at hyi
      rw [List.getElem?_concat_length] at hhi
      obtain rfl := Option.some.inj hyi
      have := Option.some.inj hhi
      rw [← this] at h8 ⊢
      omega
  · have e2 : p.take h.length = h.set i y := by
      have := congrArg (List.take h.length) e1'
      rwa [List.append_assoc, List.take_append_of_le_length (by omega), List.take_left' (by simp)] at this
    have hi2 : i = p0.length := by
      by_cases hi3 : i = p0.length
      · exact hi3
      · exfalso
        have a1 : (h.set i y)[p0.length]? = some b0 := by
          rw [List.getElem?_set_ne hi3, e0, List.getElem?_concat_length]
        rw [← e2] at a1
        have a2 := hp b0 (List.mem_of_mem_take (List.mem_of_getElem? a1))
        omega
    subst hi2
    have e3 : h.set p0.length y = p0 ++ [y] := by
      rw [e0, List.set_append_right _ _ (Nat.le_refl _), Nat.sub_self]
      rfl
    have hw : valG 0 (p0 ++ [y]) = valG 0 p0 * 128 + y.toNat % 128 := by rw [valG_app]; rfl
    have hn0 : 2 * out.length = valG 0 p0 * 128 + b0.toNat % 128 := by rw [← hval, e0, valG_app]; rfl
    have e4 : p ++ [b] = (p0 ++ [y]) ++ (p.drop h.length ++ [b]) := by rw [← e3, ← e2, ← List.append_assoc, List.take_append_drop]
    have h6 : 2 * m = valG 0 (p0 ++ [y]) * 128 ^ (p.drop h.length ++ [b]).length + valG 0 (p.drop h.length ++ [b]) := by rw [hv, e4, valG_app, valG_eq]
    have h7 : 128 ^ 1 ≤ 128 ^ (p.drop h.length ++ [b]).length := Nat.pow_le_pow_right (by decide) (by simp)
    have h8 : valG 0 (p0 ++ [y]) * 128 ≤ valG 0 (p0 ++ [y]) * 128 ^ (p.drop h.length ++ [b]).length := Nat.mul_le_mul_left _ (by simpa using h7)
    have h9 : valG 0 p0 = 0 ∧ y.toNat % 128 = 0 := by omega
    cases p0 with
    | nil =>
      have a1 : 128 ≤ y.toNat := by
        have : y ∈ p.take h.length := by rw [e2, e3]; simp
        exact hp y (List.mem_of_mem_take this)
      have a2 := y.toNat_lt
      obtain rfl : y = 128 := UInt8.toNat_inj.1 (by show y.toNat = 128; omega)
      apply hh
      rw [e3]
      rfl
    | cons x p1 =>
      have a1 := H.least (by rw [hlen]; simp)
      rw [hlen, List.length_cons, Nat.add_sub_cancel, Nat.pow_succ] at a1
      have a3 : 1 ≤ 128 ^ p1.length := Nat.one_le_pow _ _ (by decide)
      omega
theorem bad_one {h out : List UInt8} (H : Head h out.length) {i : Nat} (hi : i < (sealL h out).length) {y : UInt8} (hy : y ≠ (sealL h out)[i]) : Bad ((sealL h out).set i y) := by
  unfold sealL at hi hy ⊢
  by_cases hc : i < h.length
  · simp only [List.append_assoc] at hi hy ⊢
    rw [List.set_append_left _ _ hc]
    rw [List.getElem_append_left hc] at hy
    exact bad_near H hc hy _ (by rw [List.length_append]; rfl)
  · simp only [List.append_assoc] at hi hy ⊢
    rw [List.set_append_right _ _ (by omega)]
    rw [List.getElem_append_right (by omega)] at hy
    have := bad_far H (i := i - h.length) (by rw [List.length_append] at hi; omega) hy
    exact this
end Go.Proofs.YthlfhfliidhelaaGreatDoor
namespace Go.Proofs.YthlfhfliidhelaaGreatDoor
theorem encG_len : ∀ (k v : Nat), (encG k v).length = k
  | 0, _ => rfl
  | 1, _ => rfl
  | k + 2, v => by
    show (encG (k + 1) v).length + 1 = _
    rw [encG_len (k + 1) v]
theorem encG_shape : ∀ (k v : Nat), ∃ p b, encG (k + 1) v = p ++ [b] ∧ (∀ x ∈ p, 128 ≤ x.toNat) ∧ b.toNat < 128
  | 0, v => ⟨[], (v % 128).toUInt8, rfl, by simp, by rw [Nat.toUInt8, UInt8.toNat_ofNat']; omega⟩
  | k + 1, v => by
    obtain ⟨p, b, h1, h2, h3⟩ := encG_shape k v
    refine ⟨(v / 128 ^ (k + 1) % 128 + 128).toUInt8 :: p, b, ?_, ?_, h3⟩
    · show _ :: encG (k + 1) v = _
      rw [h1]
      rfl
    · simp only [List.mem_cons, forall_eq_or_imp]
      refine ⟨?_, h2⟩
      rw [Nat.toUInt8, UInt8.toNat_ofNat']
      omega
theorem encG_val : ∀ (k v : Nat), valG 0 (encG (k + 1) v) = v % 128 ^ (k + 1)
  | 0, v => by
    show 0 * 128 + (v % 128).toUInt8.toNat % 128 = _
    rw [Nat.toUInt8, UInt8.toNat_ofNat']
    omega
  | k + 1, v => by
    have e : valG 0 (encG (k + 1 + 1) v) = valG (0 * 128 + (v / 128 ^ (k + 1) % 128 + 128).toUInt8.toNat % 128) (encG (k + 1) v) := rfl
    rw [e, valG_eq, encG_val k v, encG_len, Nat.toUInt8, UInt8.toNat_ofNat']
    have h1 : (0 * 128 + (v / 128 ^ (k + 1) % 128 + 128) % 2 ^ 8 % 128) = v / 128 ^ (k + 1) % 128 := by omega
    rw [h1, Nat.pow_succ 128 (k + 1), Nat.mod_mul, Nat.mul_comm, Nat.add_comm]
theorem head_enc {n k : Nat} (h9 : k + 1 ≤ 9) (h1 : 2 * n < 128 ^ (k + 1)) (h2 : 1 ≤ k → 128 ^ k ≤ 2 * n) : Head (encG (k + 1) (2 * n)) n where
  ex := encG_shape k (2 * n)
  val := by rw [encG_val, Nat.mod_eq_of_lt h1]
  len := by rw [encG_len]; exact h9
  least := fun h => by rw [encG_len] at h ⊢; exact h2 (by omega)
end Go.Proofs.YthlfhfliidhelaaGreatDoor

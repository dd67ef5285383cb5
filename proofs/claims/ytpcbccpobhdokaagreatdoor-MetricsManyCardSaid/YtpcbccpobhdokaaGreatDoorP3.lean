/- Plain: the two lists of MetricsMany. -/
import Derived.Test.YtpcbccpobhdokaaGreatDoorA6
import Derived.Test.YtpcbccpobhdokaaGreatDoorP1
set_option linter.unusedSimpArgs false
set_option linter.unusedVariables false
set_option linter.all false
namespace Go.Proofs.YtpcbccpobhdokaaGreatDoor
open Go.Sort
/-- metrics x f, x f+1 .. with one value -/
def ser (v : Int) (f : Nat) : Nat → List Met
  | 0 => []
  | n + 1 => ⟨⟨#[120]⟩, (f : Int), v, 1⟩ :: ser v (f + 1) n
theorem ser_len (v : Int) : ∀ (n f : Nat), (ser v f n).length = n
  | 0, _ => rfl
  | n + 1, f => by rw [ser, List.length_cons, ser_len v n]
theorem ser_get (v : Int) : ∀ (n f i : Nat), i < n → (ser v f n).getD i mz = ⟨⟨#[120]⟩, ((f + i : Nat) : Int), v, 1⟩
  | 0, _, _, h => by omega
  | n + 1, f, 0, _ => rfl
  | n + 1, f, i + 1, h => by
    rw [ser]
    show (ser v (f + 1) n).getD i mz = _
    rw [ser_get v n (f + 1) i (by omega), show f + 1 + i = f + (i + 1) by omega]
theorem ser_snoc (v : Int) : ∀ (n f : Nat), ser v f (n + 1) = ser v f n ++ [⟨⟨#[120]⟩, ((f + n : Nat) : Int), v, 1⟩]
  | 0, f => rfl
  | n + 1, f => by
    rw [ser, ser_snoc v n (f + 1), ser, show f + 1 + n = f + (n + 1) by omega]
    rfl
theorem ser_app (v : Int) : ∀ (n m f : Nat), ser v f (n + m) = ser v f n ++ ser v (f + n) m
  | 0, m, f => by rw [Nat.zero_add]; rfl
  | n + 1, m, f => by
    rw [show n + 1 + m = (n + m) + 1 by omega, ser, ser_app v n m (f + 1), ser, show f + 1 + n = f + (n + 1) by omega]
    rfl
theorem lt_ser (i j v u : Int) (h : i < j) : ltN ⟨⟨#[120]⟩, i, v, 1⟩ ⟨⟨#[120]⟩, j, u, 1⟩ := .inr ⟨rfl, h⟩
theorem mrg_lt {x y : Met} {a b : List Met} (h : ltN x y) : mrg (x :: a) (y :: b) = (mrg a (y :: b)).map (x :: ·) := by
  rw [mrg, if_pos (cf_lt.2 h)]
theorem mrg_low (a : List Met) (y : Met) (b : List Met) : ∀ (n f : Nat), (∀ i : Nat, i < f + n → ltN ⟨⟨#[120]⟩, (i : Int), 1, 1⟩ y) → mrg (ser 1 f n ++ a) (y :: b) = (mrg a (y :: b)).map (ser 1 f n ++ ·)
  | 0, f, _ => by simp [ser]
  | n + 1, f, h => by
    rw [ser, List.cons_append, mrg_lt (h f (by omega)), mrg_low a y b n (f + 1) (fun i hi => h i (by omega)), Option.map_map]
    rfl
theorem add_one (f : Int) : addM ⟨⟨#[120]⟩, f, 1, 1⟩ ⟨⟨#[120]⟩, f, 1, 1⟩ = some ⟨⟨#[120]⟩, f, 2, 1⟩ := by
  have : addR 1 1 1 1 = some (2, 1) := by decide +kernel
  unfold addM
  show (addR 1 1 1 1).map _ = _
  rw [this]
  rfl
theorem mrg_both (c : List Met) : ∀ (n f : Nat), mrg (ser 1 f n) (ser 1 f n ++ c) = some (ser 2 f n ++ c)
  | 0, f => by simp [ser, mrg]
  | n + 1, f => by
    have hk : cfM ⟨⟨#[120]⟩, (f : Int), 1, 1⟩ ⟨⟨#[120]⟩, (f : Int), 1, 1⟩ = 0 := cf_eq.2 ⟨rfl, rfl⟩
    rw [ser, List.cons_append, mrg, if_neg (by omega), if_pos hk, add_one, Option.bind_some, mrg_both c n (f + 1)]
    rfl
theorem mrg_ser (n m k : Nat) (hm : 0 < m) : mrg (ser 1 0 (n + m)) (ser 1 n (m + k)) = some (ser 1 0 n ++ (ser 2 n m ++ ser 1 (n + m) k)) := by
  rw [ser_app 1 n m 0, ser_app 1 m k n, Nat.zero_add]
  obtain ⟨m, rfl⟩ : ∃ m', m = m' + 1 := ⟨m - 1, by omega⟩
  have hc : ser 1 n (m + 1) ++ ser 1 (n + (m + 1)) k = ⟨⟨#[120]⟩, (n : Int), 1, 1⟩ :: (ser 1 (n + 1) m ++ ser 1 (n + (m + 1)) k) := rfl
  rw [hc, mrg_low _ _ _ n 0 (fun i hi => lt_ser _ _ _ _ (by omega)), ← hc, mrg_both]
  rfl
theorem name_x : nameB ⟨#[120]⟩ = true := by
  rw [name_iff]
  refine ⟨by decide, by decide, fun b hb => ?_⟩
  obtain rfl : b = 120 := by simpa using hb
  exact ⟨by decide, by decide⟩
theorem rat_one : ratE 1 1 = 0 := by decide +kernel
theorem chk_ser : ∀ (n f : Nat) (p : Option Met), (∀ y, p = some y → ltN y ⟨⟨#[120]⟩, (f : Int), 1, 1⟩) → f + n ≤ 100000 → chkL p (ser 1 f n) = 0
  | 0, _, _, _, _ => rfl
  | n + 1, f, p, hp, hb => by
    have hm : metE p ⟨⟨#[120]⟩, (f : Int), 1, 1⟩ = 0 := by
      unfold metE
      rw [if_neg (by simp [name_x]), if_neg (by simp only; omega), if_neg (by simp [rat_one])]
      cases p with
      | none => rfl
      | some y =>
        have h := cf_lt.2 (hp y rfl)
        exact if_neg (by have : cmpM y.n ⟨#[120]⟩ y.i (f : Int) < 0 := h; simp only; omega)
    rw [ser, chkL, if_pos hm]
    exact chk_ser n (f + 1) _ (fun y hy => by obtain rfl := Option.some.inj hy; exact lt_ser _ _ _ _ (by omega)) (by omega)
theorem chkE_ser (n f : Nat) (hn : n ≤ 1000) (hf : f ≤ 5000) : chkE (ser 1 f n) = 0 := by
  unfold chkE
  rw [if_neg (by rw [ser_len]; omega)]
  exact chk_ser n f none (fun y hy => by cases hy) (by omega)
theorem many_yes : mergeE (ser 1 0 600) (ser 1 400 600) = 0 ∧ (mergeL (ser 1 0 600) (ser 1 400 600)).length = 1000 ∧ ∃ x : Met, (mergeL (ser 1 0 600) (ser 1 400 600)).getD 500 mz = x ∧ x.a = 2 ∧ x.b = 1 := by
  have h := mrg_ser 400 200 400 (by omega)
  have hl : (ser 1 0 400 ++ (ser 2 400 200 ++ ser 1 (400 + 200) 400)).length = 1000 := by simp [ser_len]
  have he : mergeE (ser 1 0 600) (ser 1 400 600) = 0 := by
    rw [mergeE, if_neg (by simp [chkE_ser])]
    show (match mrg (ser 1 0 (400 + 200)) (ser 1 400 (200 + 400)) with | none => (5 : Int) | some l => if l.length > 1000 then 4 else 0) = 0
    rw [h]
    exact if_neg (by omega)
  have hm : mergeL (ser 1 0 600) (ser 1 400 600) = ser 1 0 400 ++ (ser 2 400 200 ++ ser 1 (400 + 200) 400) := by
    rw [mergeL, if_pos he]
    show (mrg (ser 1 0 (400 + 200)) (ser 1 400 (200 + 400))).getD [] = _
    rw [h]; rfl
  refine ⟨he, by rw [hm]; exact hl, _, rfl, ?_⟩
  rw [hm]
  have e : (ser 1 0 400 ++ (ser 2 400 200 ++ ser 1 (400 + 200) 400)).getD 500 mz = (ser 2 400 200).getD 100 mz := by
    unfold List.getD
    rw [List.getElem?_append_right (by rw [ser_len]; omega), ser_len, List.getElem?_append_left (by rw [ser_len]; omega)]
  rw [e, ser_get 2 200 400 100 (by omega)]
  exact ⟨rfl, rfl⟩
theorem many_no : mergeE (ser 1 0 600) (ser 1 401 600) = 4 ∧ mergeL (ser 1 0 600) (ser 1 401 600) = [] := by
  have h := mrg_ser 401 199 401 (by omega)
  have hl : (ser 1 0 401 ++ (ser 2 401 199 ++ ser 1 (401 + 199) 401)).length = 1001 := by simp [ser_len]
  have he : mergeE (ser 1 0 600) (ser 1 401 600) = 4 := by
    rw [mergeE, if_neg (by simp [chkE_ser])]
    show (match mrg (ser 1 0 (401 + 199)) (ser 1 401 (199 + 401)) with | none => (5 : Int) | some l => if l.length > 1000 then 4 else 0) = 4
    rw [h]
    exact if_pos (by omega)
  exact ⟨he, by rw [mergeL, if_neg (by rw [he]; decide)]⟩
end Go.Proofs.YtpcbccpobhdokaaGreatDoor

/- Walks over the closures of clock.Guard and over clock.first, a binary search. -/
import Derived.Test.YtbhmmffompapdaaRows
import Derived.Test.YtbhmmffompapdaaC5
import Derived.WalkKit
import Derived.WalkSpells
import Derived.WalkLawsBesides
import Derived.Handy
import Derived.Deep.QuietTactic
import Derived.BigQuiet
import Derived.Deep.RegionHeld3
import Derived.Deep.DeepCutAuto
import Derived.Lib.Hide
namespace Go.Proofs.Ytbhmmffompapdaa
open Go.RowKit

/-- the binary search that both programs do: the first number from lo on at which p holds (for monotone p) -/
def bs (p : Int → Bool) (lo hi : Int) : Int :=
  if h : lo < hi then
    if p ((lo + hi) / 2) then bs p lo ((lo + hi) / 2) else bs p ((lo + hi) / 2 + 1) hi
  else lo
  termination_by (hi - lo).toNat
  decreasing_by all_goals omega
theorem bs_yes (p : Int → Bool) (lo hi : Int) (h : lo < hi) (hp : p ((lo + hi) / 2) = true) : bs p lo hi = bs p lo ((lo + hi) / 2) := by
  rw [bs, dif_pos h, if_pos hp]
theorem bs_no (p : Int → Bool) (lo hi : Int) (h : lo < hi) (hp : p ((lo + hi) / 2) = false) : bs p lo hi = bs p ((lo + hi) / 2 + 1) hi := by
  rw [bs, dif_pos h, if_neg (by simp [hp])]
theorem bs_end (p : Int → Bool) (lo hi : Int) (h : ¬ lo < hi) : bs p lo hi = lo := by
  rw [bs, dif_neg h]
/-- what the search finds, if p stays true -/
theorem bs_spec (p : Int → Bool) (hm : ∀ x y, x ≤ y → p x = true → p y = true) : ∀ (n : Nat) (lo hi : Int), (hi - lo).toNat ≤ n → lo ≤ hi →
    lo ≤ bs p lo hi ∧ bs p lo hi ≤ hi ∧ (∀ m, lo ≤ m → m < bs p lo hi → p m = false) ∧ (bs p lo hi < hi → p (bs p lo hi) = true)
  | 0, lo, hi, hn, hl => by
    rw [bs_end p lo hi (by omega)]
    exact ⟨by omega, by omega, fun m _ _ => by omega, fun _ => by omega⟩
  | n + 1, lo, hi, hn, hl => by
    by_cases h : lo < hi
    · cases hp : p ((lo + hi) / 2) with
      | true =>
        rw [bs_yes p lo hi h hp]
        obtain ⟨a, b, c, d⟩ := bs_spec p hm n lo ((lo + hi) / 2) (by omega) (by omega)
        refine ⟨a, by omega, c, fun hlt => ?_⟩
        by_cases hq : bs p lo ((lo + hi) / 2) < (lo + hi) / 2
        · exact d hq
        · exact hm _ _ (by omega) hp
      | false =>
        rw [bs_no p lo hi h hp]
        obtain ⟨a, b, c, d⟩ := bs_spec p hm n ((lo + hi) / 2 + 1) hi (by omega) (by omega)
        refine ⟨by omega, b, fun m h1 h2 => ?_, d⟩
        by_cases hq : (lo + hi) / 2 + 1 ≤ m
        · exact c m hq h2
        · cases hpm : p m with
          | false => rfl
          | true => exact absurd (hm m ((lo + hi) / 2) (by omega) hpm) (by simp [hp])
    · rw [bs_end p lo hi h]
      exact ⟨by omega, by omega, fun m _ _ => by omega, fun _ => by omega⟩

def gp1 (l a n1 d1 n2 d2 xf : Int) (n : Int) : Bool := decide (xf ≤ tFrom l a n1 d1 n2 d2 n)
def gp2 (l b n1 d1 xt : Int) (n : Int) : Bool := decide (xt ≤ tTo l b n1 d1 n)
theorem fld0 (x y : Int) (W : World) : (Instr.field 23 (.agg #[.int .i64 x, .int .i64 y]) 0).run Try.prog W = .ok (.int .i64 x) W := by kernel_rfl
theorem fld1 (x y : Int) (W : World) : (Instr.field 23 (.agg #[.int .i64 x, .int .i64 y]) 1).run Try.prog W = .ok (.int .i64 y) W := by kernel_rfl
set_option maxHeartbeats 1000000 in
theorem guard1_any (l a b n1 d1 n2 d2 xf n : Int) (cb xb : Nat) (w : World) (hc : ClkOk l a b n1 d1 n2 d2) (hn : l ≤ n) (hn2 : n ≤ 1099511627776)
    (h0 : w.cell? ⟨cb, 0, none⟩ = some (.int .i64 l)) (h1 : w.cell? ⟨cb, 1, none⟩ = some (.int .i64 a)) (h2 : w.cell? ⟨cb, 2, none⟩ = some (.int .i64 b)) (h3 : w.cell? ⟨cb, 3, none⟩ = some (.int .i64 n1)) (h4 : w.cell? ⟨cb, 4, none⟩ = some (.int .i64 d1)) (h5 : w.cell? ⟨cb, 5, none⟩ = some (.int .i64 n2)) (h6 : w.cell? ⟨cb, 6, none⟩ = some (.int .i64 d2))
    (h7 : w.cell? ⟨xb, 0, none⟩ = some (.int .i64 xf)) (hlc : cb < w.heap.size) (hlx : xb < w.heap.size) :
    Calls Try.prog 34 #[.int .i64 n, .pointer (some ⟨cb, 0, none⟩), .pointer (some ⟨xb, 0, none⟩)] w fun e w' => e = .returned (.bool (gp1 l a n1 d1 n2 d2 xf n)) ∧ Below w.heap.size w w' := by
  have hfl := fld0
  go_enter Try.func34, Try.ntmps34
  go_wp2_with fail
  go_region_held3 (fun w' => w'.cell? ⟨cb, 0, none⟩ = some (.int .i64 l) ∧ w'.cell? ⟨cb, 1, none⟩ = some (.int .i64 a) ∧ w'.cell? ⟨cb, 2, none⟩ = some (.int .i64 b) ∧ w'.cell? ⟨cb, 3, none⟩ = some (.int .i64 n1) ∧ w'.cell? ⟨cb, 4, none⟩ = some (.int .i64 d1) ∧ w'.cell? ⟨cb, 5, none⟩ = some (.int .i64 n2) ∧ w'.cell? ⟨cb, 6, none⟩ = some (.int .i64 d2) ∧ w'.cell? ⟨xb, 0, none⟩ = some (.int .i64 xf))
    (go_keep)
    (first
     | (go_at_call 21; refine (truth_any _ _ _ _ _ _ _ _ _ hc hn hn2).mono ?_; rintro e w1 ⟨rfl, hb⟩; have hk := bc (B := w.heap.size) hb (by (first | omega | (simp; done) | (simp; omega)))))
  go_wp2_with fail
  go_ret
  exact ⟨rfl, by (repeat' (first | (with_reducible exact Below.refl _ _) | (with_reducible refine Below.alloc ?_ ?_ _) | (with_reducible refine Below.drew ?_) | (with_reducible refine below_drewN ?_ _) | (with_reducible refine Below.setCell ?_ ?_ _) | (with_reducible refine Below.trans ?_ (Below.mono (by assumption) ?_)) | (with_reducible exact Nat.le_refl _) | omega | (simp; omega) | (simp; done)))⟩
set_option maxHeartbeats 1000000 in
theorem guard2_any (l a b n1 d1 n2 d2 xt n : Int) (cb xb : Nat) (w : World) (hc : ClkOk l a b n1 d1 n2 d2) (hn : l ≤ n) (hn2 : n ≤ 1099511627776)
    (h0 : w.cell? ⟨cb, 0, none⟩ = some (.int .i64 l)) (h1 : w.cell? ⟨cb, 1, none⟩ = some (.int .i64 a)) (h2 : w.cell? ⟨cb, 2, none⟩ = some (.int .i64 b)) (h3 : w.cell? ⟨cb, 3, none⟩ = some (.int .i64 n1)) (h4 : w.cell? ⟨cb, 4, none⟩ = some (.int .i64 d1)) (h5 : w.cell? ⟨cb, 5, none⟩ = some (.int .i64 n2)) (h6 : w.cell? ⟨cb, 6, none⟩ = some (.int .i64 d2))
    (h7 : w.cell? ⟨xb, 1, none⟩ = some (.int .i64 xt)) (hlc : cb < w.heap.size) (hlx : xb < w.heap.size) :
    Calls Try.prog 35 #[.int .i64 n, .pointer (some ⟨cb, 0, none⟩), .pointer (some ⟨xb, 0, none⟩)] w fun e w' => e = .returned (.bool (gp2 l b n1 d1 xt n)) ∧ Below w.heap.size w w' := by
  have hfl := fld1
  go_enter Try.func35, Try.ntmps35
  go_wp2_with fail
  go_region_held3 (fun w' => w'.cell? ⟨cb, 0, none⟩ = some (.int .i64 l) ∧ w'.cell? ⟨cb, 1, none⟩ = some (.int .i64 a) ∧ w'.cell? ⟨cb, 2, none⟩ = some (.int .i64 b) ∧ w'.cell? ⟨cb, 3, none⟩ = some (.int .i64 n1) ∧ w'.cell? ⟨cb, 4, none⟩ = some (.int .i64 d1) ∧ w'.cell? ⟨cb, 5, none⟩ = some (.int .i64 n2) ∧ w'.cell? ⟨cb, 6, none⟩ = some (.int .i64 d2) ∧ w'.cell? ⟨xb, 1, none⟩ = some (.int .i64 xt))
    (go_keep)
    (first
     | (go_at_call 21; refine (truth_any _ _ _ _ _ _ _ _ _ hc hn hn2).mono ?_; rintro e w1 ⟨rfl, hb⟩; have hk := bc (B := w.heap.size) hb (by (first | omega | (simp; done) | (simp; omega)))))
  go_wp2_with fail
  go_ret
  exact ⟨rfl, by (repeat' (first | (with_reducible exact Below.refl _ _) | (with_reducible refine Below.alloc ?_ ?_ _) | (with_reducible refine Below.drew ?_) | (with_reducible refine below_drewN ?_ _) | (with_reducible refine Below.setCell ?_ ?_ _) | (with_reducible refine Below.trans ?_ (Below.mono (by assumption) ?_)) | (with_reducible exact Nat.le_refl _) | omega | (simp; omega) | (simp; done)))⟩

set_option maxHeartbeats 1000000 in
theorem first1_any (l a b n1 d1 n2 d2 xf lo hi : Int) (cb xb : Nat) (w : World) (hc : ClkOk l a b n1 d1 n2 d2) (hlo : l ≤ lo) (hlh : lo ≤ hi) (hhi : hi ≤ 1099511627777)
    (h0 : w.cell? ⟨cb, 0, none⟩ = some (.int .i64 l)) (h1 : w.cell? ⟨cb, 1, none⟩ = some (.int .i64 a)) (h2 : w.cell? ⟨cb, 2, none⟩ = some (.int .i64 b)) (h3 : w.cell? ⟨cb, 3, none⟩ = some (.int .i64 n1)) (h4 : w.cell? ⟨cb, 4, none⟩ = some (.int .i64 d1)) (h5 : w.cell? ⟨cb, 5, none⟩ = some (.int .i64 n2)) (h6 : w.cell? ⟨cb, 6, none⟩ = some (.int .i64 d2)) (h7 : w.cell? ⟨xb, 0, none⟩ = some (.int .i64 xf)) (hlc : cb < w.heap.size) (hlx : xb < w.heap.size) :
    Calls Try.prog 33 #[.int .i64 lo, .int .i64 hi, .func (.func 34) #[] #[.pointer (some ⟨cb, 0, none⟩), .pointer (some ⟨xb, 0, none⟩)]] w fun e w' => e = .returned (.int .i64 (bs (gp1 l a n1 d1 n2 d2 xf) lo hi)) ∧ Below w.heap.size w w' := by
  have hl0 := hc.l0
  go_enter Try.func33, Try.ntmps33
  go_wp2_with fail
  go_loopw [0, 1] (fun x y wr => ∃ c d : Int, l ≤ c ∧ c ≤ d ∧ d ≤ 1099511627777 ∧ x = .int .i64 c ∧ y = .int .i64 d ∧ Hid (bs (gp1 l a n1 d1 n2 d2 xf) c d = bs (gp1 l a n1 d1 n2 d2 xf) lo hi) ∧ Below w.heap.size w wr) (fun x y _ => (intOf y - intOf x).toNat)
  case atStart => exact ⟨lo, hi, hlo, hlh, hhi, rfl, rfl, rfl, Below.refl _ _⟩
  case round =>
    obtain ⟨c, d, hc1, hc2, hd, rfl, rfl, hg, hb0⟩ := hrel
    by_cases hlt : c < d
    · have hm : c + d ≤ 2199023255554 := by omega
      go_wp2_with fail
      have hk := bc (B := w.heap.size) hb0 (Nat.le_refl _)
      refine (guard1_any l a b n1 d1 n2 d2 xf _ cb xb _ hc (by omega) (by omega) (by rw [hk _ _ hlc]; exact h0) (by rw [hk _ _ hlc]; exact h1) (by rw [hk _ _ hlc]; exact h2) (by rw [hk _ _ hlc]; exact h3) (by rw [hk _ _ hlc]; exact h4) (by rw [hk _ _ hlc]; exact h5) (by rw [hk _ _ hlc]; exact h6) (by rw [hk _ _ hlx]; exact h7) (Nat.lt_of_lt_of_le hlc hb0.size) (Nat.lt_of_lt_of_le hlx hb0.size)).mono ?_
      rintro e w1 ⟨rfl, hb⟩
      clear hk
      have hB : Below w.heap.size w w1 := hb0.trans (hb.mono hb0.size)
      generalize hp : gp1 l a n1 d1 n2 d2 xf ((c + d) / 2) = pv
      have HP := Lib.hid hp
      clear hp
      cases pv
      · go_wp2_with fail
        go_roundw
        case rel => exact ⟨(c + d) / 2 + 1, d, by omega, by omega, by omega, rfl, rfl, (bs_no _ _ _ hlt HP.out).symm.trans hg.out, hB⟩
        case measure => simp [intOf]; omega
      · go_wp2_with fail
        go_roundw
        case rel => exact ⟨c, (c + d) / 2, by omega, by omega, by omega, rfl, rfl, (bs_yes _ _ _ hlt HP.out).symm.trans hg.out, hB⟩
        case measure => simp [intOf]; omega
    · go_wp2_with fail
      go_ret
      refine ⟨?_, hb0⟩
      rw [← hg.out, bs_end _ _ _ (by omega)]; rfl

set_option maxHeartbeats 1000000 in
theorem first2_any (l a b n1 d1 n2 d2 xt lo hi : Int) (cb xb : Nat) (w : World) (hc : ClkOk l a b n1 d1 n2 d2) (hlo : l ≤ lo) (hlh : lo ≤ hi) (hhi : hi ≤ 1099511627777)
    (h0 : w.cell? ⟨cb, 0, none⟩ = some (.int .i64 l)) (h1 : w.cell? ⟨cb, 1, none⟩ = some (.int .i64 a)) (h2 : w.cell? ⟨cb, 2, none⟩ = some (.int .i64 b)) (h3 : w.cell? ⟨cb, 3, none⟩ = some (.int .i64 n1)) (h4 : w.cell? ⟨cb, 4, none⟩ = some (.int .i64 d1)) (h5 : w.cell? ⟨cb, 5, none⟩ = some (.int .i64 n2)) (h6 : w.cell? ⟨cb, 6, none⟩ = some (.int .i64 d2)) (h7 : w.cell? ⟨xb, 1, none⟩ = some (.int .i64 xt)) (hlc : cb < w.heap.size) (hlx : xb < w.heap.size) :
    Calls Try.prog 33 #[.int .i64 lo, .int .i64 hi, .func (.func 35) #[] #[.pointer (some ⟨cb, 0, none⟩), .pointer (some ⟨xb, 0, none⟩)]] w fun e w' => e = .returned (.int .i64 (bs (gp2 l b n1 d1 xt) lo hi)) ∧ Below w.heap.size w w' := by
  have hl0 := hc.l0
  go_enter Try.func33, Try.ntmps33
  go_wp2_with fail
  go_loopw [0, 1] (fun x y wr => ∃ c d : Int, l ≤ c ∧ c ≤ d ∧ d ≤ 1099511627777 ∧ x = .int .i64 c ∧ y = .int .i64 d ∧ Hid (bs (gp2 l b n1 d1 xt) c d = bs (gp2 l b n1 d1 xt) lo hi) ∧ Below w.heap.size w wr) (fun x y _ => (intOf y - intOf x).toNat)
  case atStart => exact ⟨lo, hi, hlo, hlh, hhi, rfl, rfl, rfl, Below.refl _ _⟩
  case round =>
    obtain ⟨c, d, hc1, hc2, hd, rfl, rfl, hg, hb0⟩ := hrel
    by_cases hlt : c < d
    · have hm : c + d ≤ 2199023255554 := by omega
      go_wp2_with fail
      have hk := bc (B := w.heap.size) hb0 (Nat.le_refl _)
      refine (guard2_any l a b n1 d1 n2 d2 xt _ cb xb _ hc (by omega) (by omega) (by rw [hk _ _ hlc]; exact h0) (by rw [hk _ _ hlc]; exact h1) (by rw [hk _ _ hlc]; exact h2) (by rw [hk _ _ hlc]; exact h3) (by rw [hk _ _ hlc]; exact h4) (by rw [hk _ _ hlc]; exact h5) (by rw [hk _ _ hlc]; exact h6) (by rw [hk _ _ hlx]; exact h7) (Nat.lt_of_lt_of_le hlc hb0.size) (Nat.lt_of_lt_of_le hlx hb0.size)).mono ?_
      rintro e w1 ⟨rfl, hb⟩
      clear hk
      have hB : Below w.heap.size w w1 := hb0.trans (hb.mono hb0.size)
      generalize hp : gp2 l b n1 d1 xt ((c + d) / 2) = pv
      have HP := Lib.hid hp
      clear hp
      cases pv
      · go_wp2_with fail
        go_roundw
        case rel => exact ⟨(c + d) / 2 + 1, d, by omega, by omega, by omega, rfl, rfl, (bs_no _ _ _ hlt HP.out).symm.trans hg.out, hB⟩
        case measure => simp [intOf]; omega
      · go_wp2_with fail
        go_roundw
        case rel => exact ⟨c, (c + d) / 2, by omega, by omega, by omega, rfl, rfl, (bs_yes _ _ _ hlt HP.out).symm.trans hg.out, hB⟩
        case measure => simp [intOf]; omega
    · go_wp2_with fail
      go_ret
      refine ⟨?_, hb0⟩
      rw [← hg.out, bs_end _ _ _ (by omega)]; rfl
end Go.Proofs.Ytbhmmffompapdaa

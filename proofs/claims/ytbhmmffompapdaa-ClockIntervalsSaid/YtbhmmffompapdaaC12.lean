/- The plain laws: the searches of clock.Guard and of the reference find the same. -/
import Derived.Test.YtbhmmffompapdaaC10
namespace Go.Proofs.Ytbhmmffompapdaa
open Go.RowKit
/-- what the search finds, if p stays true between L and H -/
theorem bs_spec2 (p : Int → Bool) (L H : Int) (hm : ∀ x y, L ≤ x → x ≤ y → y < H → p x = true → p y = true) : ∀ (n : Nat) (lo hi : Int), (hi - lo).toNat ≤ n → lo ≤ hi → L ≤ lo → hi ≤ H →
    lo ≤ bs p lo hi ∧ bs p lo hi ≤ hi ∧ (∀ m, lo ≤ m → m < bs p lo hi → p m = false) ∧ (bs p lo hi < hi → p (bs p lo hi) = true)
  | 0, lo, hi, hn, hl, _, _ => by
    rw [bs_end p lo hi (by omega)]
    exact ⟨by omega, by omega, fun m _ _ => by omega, fun _ => by omega⟩
  | n + 1, lo, hi, hn, hl, hL, hH => by
    by_cases h : lo < hi
    · cases hp : p ((lo + hi) / 2) with
      | true =>
        rw [bs_yes p lo hi h hp]
        obtain ⟨a, b, c, d⟩ := bs_spec2 p L H hm n lo ((lo + hi) / 2) (by omega) (by omega) hL (by omega)
        refine ⟨a, by omega, c, fun hlt => ?_⟩
        by_cases hq : bs p lo ((lo + hi) / 2) < (lo + hi) / 2
        · exact d hq
        · exact hm _ _ (by omega) (by omega) (by omega) hp
      | false =>
        rw [bs_no p lo hi h hp]
        obtain ⟨a, b, c, d⟩ := bs_spec2 p L H hm n ((lo + hi) / 2 + 1) hi (by omega) (by omega) (by omega) hH
        refine ⟨by omega, b, fun m h1 h2 => ?_, d⟩
        by_cases hq : (lo + hi) / 2 + 1 ≤ m
        · exact c m hq h2
        · cases hpm : p m with
          | false => rfl
          | true => exact absurd (hm m ((lo + hi) / 2) (by omega) (by omega) (by omega) hpm) (by simp [hp])
    · rw [bs_end p lo hi h]
      exact ⟨by omega, by omega, fun m _ _ => by omega, fun _ => by omega⟩
/-- two predicates that agree between lo and hi -/
theorem bs_congr (p q : Int → Bool) : ∀ (n : Nat) (lo hi : Int), (hi - lo).toNat ≤ n → (∀ x, lo ≤ x → x < hi → p x = q x) → bs p lo hi = bs q lo hi
  | 0, lo, hi, hn, _ => by rw [bs_end p lo hi (by omega), bs_end q lo hi (by omega)]
  | n + 1, lo, hi, hn, hpq => by
    by_cases h : lo < hi
    · cases hp : p ((lo + hi) / 2) with
      | true =>
        rw [bs_yes p lo hi h hp, bs_yes q lo hi h (by rw [← hpq _ (by omega) (by omega)]; exact hp)]
        exact bs_congr p q n _ _ (by omega) (fun x h1 h2 => hpq x h1 (by omega))
      | false =>
        rw [bs_no p lo hi h hp, bs_no q lo hi h (by rw [← hpq _ (by omega) (by omega)]; exact hp)]
        exact bs_congr p q n _ _ (by omega) (fun x h1 h2 => hpq x (by omega) h2)
    · rw [bs_end p lo hi h, bs_end q lo hi h]

theorem tTo_mono {l a b n1 d1 n2 d2 : Int} (hc : ClkOk l a b n1 d1 n2 d2) (x y : Int) (h : x ≤ y) : tTo l b n1 d1 x ≤ tTo l b n1 d1 y := by
  unfold tTo
  have h1 : (x - l + 1) * d1 ≤ (y - l + 1) * d1 := Int.mul_le_mul_of_nonneg_right (by omega) (by have := hc.d1lo; omega)
  have h2 := Int.ediv_le_ediv (a := (x - l + 1) * d1 + n1 - 1) (b := (y - l + 1) * d1 + n1 - 1) (c := n1) (by have := hc.n1lo; omega) (by omega)
  omega
theorem tFrom_mono {l a b n1 d1 n2 d2 : Int} (hc : ClkOk l a b n1 d1 n2 d2) (x y : Int) (h : x ≤ y) : tFrom l a n1 d1 n2 d2 x ≤ tFrom l a n1 d1 n2 d2 y := by
  have ha := hc.a0
  have hd := hc.d2lo
  have hn := hc.n2lo
  have q := div_bd (d1 + n1 - 1) n1 (by have := hc.d1lo; have := hc.n1lo; omega) hc.n1lo
  unfold tFrom
  by_cases h1 : 1 ≤ x - l
  · rw [if_pos h1, if_pos (by omega)]
    have h2 : (x - l - 1) * d2 ≤ (y - l - 1) * d2 := Int.mul_le_mul_of_nonneg_right (by omega) (by omega)
    have h3 := Int.ediv_le_ediv (a := (x - l - 1) * d2) (b := (y - l - 1) * d2) (c := n2) (by omega) h2
    omega
  · rw [if_neg h1]
    by_cases h2 : 1 ≤ y - l
    · rw [if_pos h2]
      have h3 : 0 ≤ (y - l - 1) * d2 / n2 := Int.ediv_nonneg (Int.mul_nonneg (by omega) (by omega)) (by omega)
      omega
    · rw [if_neg h2]
      exact Int.le_refl _

section
variable {l a b n1 d1 n2 d2 : Int}
theorem truthE_in (hc0 : clkE l a b n1 d1 n2 d2 = 0) (n : Int) (h1 : l ≤ n) (h2 : n ≤ 1099511627776) : truthE l a b n1 d1 n2 d2 n = if 1099511627776 < tTo l b n1 d1 n then 16 else 0 := by
  have := (clk_ok hc0).l0
  unfold truthE
  rw [if_neg (by simp [hc0]), if_neg (by omega), if_neg (by omega)]
theorem gp1_mono (hc : ClkOk l a b n1 d1 n2 d2) (xf x y : Int) (h : x ≤ y) (hp : gp1 l a n1 d1 n2 d2 xf x = true) : gp1 l a n1 d1 n2 d2 xf y = true := by
  have := tFrom_mono hc x y h
  simp [gp1] at hp ⊢
  omega
theorem gp2_mono (hc : ClkOk l a b n1 d1 n2 d2) (xt x y : Int) (h : x ≤ y) (hp : gp2 l b n1 d1 xt x = true) : gp2 l b n1 d1 xt y = true := by
  have := tTo_mono hc x y h
  simp [gp2] at hp ⊢
  omega
theorem rp1_in (hc0 : clkE l a b n1 d1 n2 d2 = 0) (xf n : Int) (h1 : l ≤ n) (h2 : n ≤ 1099511627776) : rp1 l a b n1 d1 n2 d2 xf n = (decide (1099511627776 < tTo l b n1 d1 n) || gp1 l a n1 d1 n2 d2 xf n) := by
  unfold rp1 earlyB gp1 truthF
  rw [truthE_in hc0 n h1 h2]
  by_cases h : 1099511627776 < tTo l b n1 d1 n
  · simp [h]
  · simp [h]
    rw [← decide_not, decide_eq_decide]
    omega
theorem rp2_in (hc0 : clkE l a b n1 d1 n2 d2 = 0) (xt n : Int) (hx : xt ≤ 1099511627776) (h1 : l ≤ n) (h2 : n ≤ 1099511627776) : rp2 l a b n1 d1 n2 d2 xt n = gp2 l b n1 d1 xt n := by
  unfold rp2 sureB gp2 truthT
  rw [truthE_in hc0 n h1 h2]
  by_cases h : 1099511627776 < tTo l b n1 d1 n
  · simp [h]; omega
  · simp [h]
    rw [← decide_not, decide_eq_decide]
    omega
theorem gF_spec (hc : ClkOk l a b n1 d1 n2 d2) (xf : Int) : l ≤ gF l a n1 d1 n2 d2 xf ∧ gF l a n1 d1 n2 d2 xf ≤ 1099511627777 ∧ (∀ m, l ≤ m → m < gF l a n1 d1 n2 d2 xf → gp1 l a n1 d1 n2 d2 xf m = false) ∧ (gF l a n1 d1 n2 d2 xf < 1099511627777 → gp1 l a n1 d1 n2 d2 xf (gF l a n1 d1 n2 d2 xf) = true) :=
  bs_spec2 _ l 1099511627777 (fun x y _ h _ hp => gp1_mono hc xf x y h hp) _ _ _ (Nat.le_refl _) (by have := hc.l1; omega) (by omega) (by omega)
theorem gT_spec (hc : ClkOk l a b n1 d1 n2 d2) (xt : Int) : l ≤ gT l b n1 d1 xt ∧ gT l b n1 d1 xt ≤ 1099511627777 ∧ (∀ m, l ≤ m → m < gT l b n1 d1 xt → gp2 l b n1 d1 xt m = false) ∧ (gT l b n1 d1 xt < 1099511627777 → gp2 l b n1 d1 xt (gT l b n1 d1 xt) = true) :=
  bs_spec2 _ l 1099511627777 (fun x y _ h _ hp => gp2_mono hc xt x y h hp) _ _ _ (Nat.le_refl _) (by have := hc.l1; omega) (by omega) (by omega)
theorem rgF_spec (hc0 : clkE l a b n1 d1 n2 d2 = 0) (xf : Int) : l ≤ rgF l a b n1 d1 n2 d2 xf ∧ rgF l a b n1 d1 n2 d2 xf ≤ 1099511627777 ∧ (∀ m, l ≤ m → m < rgF l a b n1 d1 n2 d2 xf → rp1 l a b n1 d1 n2 d2 xf m = false) ∧ (rgF l a b n1 d1 n2 d2 xf < 1099511627777 → rp1 l a b n1 d1 n2 d2 xf (rgF l a b n1 d1 n2 d2 xf) = true) := by
  refine bs_spec2 _ l 1099511627777 (fun x y h0 h hy hp => ?_) _ _ _ (Nat.le_refl _) (by have := (clk_ok hc0).l1; omega) (by omega) (by omega)
  rw [rp1_in hc0 xf y (by omega) (by omega)]
  rw [rp1_in hc0 xf x (by omega) (by omega)] at hp
  have h1 := tTo_mono (clk_ok hc0) x y h
  simp only [Bool.or_eq_true, decide_eq_true_eq] at hp ⊢
  rcases hp with hp | hp
  · exact .inl (by omega)
  · exact .inr (gp1_mono (clk_ok hc0) xf x y h hp)
theorem rgT_eq (hc0 : clkE l a b n1 d1 n2 d2 = 0) (xt : Int) (hx : xt ≤ 1099511627776) : rgT l a b n1 d1 n2 d2 xt = gT l b n1 d1 xt :=
  bs_congr _ _ _ _ _ (Nat.le_refl _) (fun x h1 h2 => rp2_in hc0 xt x hx h1 (by omega))
/-- the ends that the two searches find: the same, where they are not the wrong way round -/
theorem rgF_eq (hc0 : clkE l a b n1 d1 n2 d2 = 0) (xf xt : Int) (hx : xt ≤ 1099511627776) :
    (gT l b n1 d1 xt ≤ gF l a n1 d1 n2 d2 xf ∧ gT l b n1 d1 xt ≤ rgF l a b n1 d1 n2 d2 xf) ∨ (gF l a n1 d1 n2 d2 xf < gT l b n1 d1 xt ∧ rgF l a b n1 d1 n2 d2 xf = gF l a n1 d1 n2 d2 xf) := by
  have hc := clk_ok hc0
  obtain ⟨f1, f2, f3, f4⟩ := gF_spec hc xf
  obtain ⟨t1, t2, t3, t4⟩ := gT_spec hc xt
  obtain ⟨r1, r2, r3, r4⟩ := rgF_spec hc0 xf
  generalize gF l a n1 d1 n2 d2 xf = F at *
  generalize gT l b n1 d1 xt = T at *
  generalize rgF l a b n1 d1 n2 d2 xf = R at *
  have hRF : R ≤ F := by
    by_cases h : F < R
    · have h1 := r3 F f1 h
      rw [rp1_in hc0 xf F f1 (by omega), f4 (by omega)] at h1
      simp at h1
    · omega
  by_cases h : R < T
  · right
    have h1 := r4 (by omega)
    have h2 := t3 R r1 h
    rw [rp1_in hc0 xf R r1 (by omega)] at h1
    simp [gp2] at h2
    simp only [Bool.or_eq_true, decide_eq_true_eq] at h1
    have h3 : gp1 l a n1 d1 n2 d2 xf R = true := by
      rcases h1 with h1 | h1
      · omega
      · exact h1
    have h4 : F ≤ R := by
      by_cases hh : R < F
      · have := f3 R r1 hh
        rw [h3] at this
        cases this
      · omega
    omega
  · left
    omega
theorem guard_eq (l a b n1 d1 n2 d2 xf xt : Int) : rguardE l a b n1 d1 n2 d2 xf xt = guardE l a b n1 d1 n2 d2 xf xt ∧ rguardF l a b n1 d1 n2 d2 xf xt = guardF l a b n1 d1 n2 d2 xf xt ∧ rguardT l a b n1 d1 n2 d2 xf xt = guardT l a b n1 d1 n2 d2 xf xt := by
  by_cases h0 : clkE l a b n1 d1 n2 d2 = 0
  · by_cases h1 : xf < 0 ∨ xt ≤ xf ∨ 1099511627776 < xt
    · have e1 := gw2 (bne_eq_false_iff_eq.2 h0) h1
      have e2 := rgw2 (bne_eq_false_iff_eq.2 h0) h1
      simp [rguardF, rguardT, guardF, guardT, e1, e2]
    · have hT := rgT_eq h0 xt (by omega)
      rcases rgF_eq h0 xf xt (by omega) with ⟨h2, h3⟩ | ⟨h2, h3⟩
      · have e1 := gw3 (bne_eq_false_iff_eq.2 h0) h1 h2
        have e2 := rgw3 (bne_eq_false_iff_eq.2 h0) h1 (by rw [hT]; exact h3)
        simp [rguardF, rguardT, guardF, guardT, e1, e2]
      · have e1 := gw4 (bne_eq_false_iff_eq.2 h0) h1 h2
        have e2 := rgw4 (bne_eq_false_iff_eq.2 h0) h1 (by rw [hT, h3]; exact h2)
        simp [rguardF, rguardT, guardF, guardT, e1, e2, hT, h3]
  · have e1 := gw1 (xf := xf) (xt := xt) (bne_iff_ne.2 h0)
    have e2 := rgw1 (xf := xf) (xt := xt) (bne_iff_ne.2 h0)
    simp [rguardF, rguardT, guardF, guardT, e1, e2]
end
end Go.Proofs.Ytbhmmffompapdaa

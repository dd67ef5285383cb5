/- Plain: the merge of slices.SortStableFunc: exchanges of ranges, rotation, symMerge's law. -/
import Derived.Sort.Lot0
import Derived.Sort.LotA
import Derived.Test.YtpcbccpobhdokaaGreatDoorD1
import Derived.Shelf.SlSortCmp.KitK
import Derived.Sort.WalkB2
import Derived.Sort.WalkB12
import Derived.Deep.LoopGhost
set_option linter.unusedSimpArgs false
set_option linter.unusedVariables false
set_option linter.all false
namespace Go.Proofs.YtpcbccpobhdokaaGreatDoor
open Go.Sort
variable {α : Type}
def swr (f : Nat → α) (x y n : Nat) (p : Nat) : α := if x ≤ p ∧ p < x + n then f (p - x + y) else if y ≤ p ∧ p < y + n then f (p - y + x) else f p
def rt (f : Nat → α) (lo m hi : Nat) (p : Nat) : α := if p < lo ∨ hi ≤ p then f p else if p < lo + (hi - m) then f (p + (m - lo)) else f (p - (hi - m))
theorem swr_zero (f : Nat → α) (x y p : Nat) : swr f x y 0 p = f p := by
  unfold swr
  rw [if_neg (by omega), if_neg (by omega)]
theorem rt_left (f g : Nat → α) (m i j : Nat) (hi : i ≤ m) (hij : j < i) (h : ∀ p, g p = swr f (m - i) m j p) (p : Nat) : rt g (m - (i - j)) m (m + j) p = rt f (m - i) m (m + j) p := by
  unfold rt
  simp only [h]
  unfold swr
  repeat' split
  all_goals first | (exfalso; omega) | rfl | (congr 1; omega) | (congr 1; done) | congr 1
theorem rt_right (f g : Nat → α) (m i j : Nat) (hi : i ≤ m) (hij : i < j) (h : ∀ p, g p = swr f (m - i) (m + j - i) i p) (p : Nat) : rt g (m - i) m (m + (j - i)) p = rt f (m - i) m (m + j) p := by
  unfold rt
  simp only [h]
  unfold swr
  repeat' split
  all_goals first | (exfalso; omega) | rfl | (congr 1; omega) | (congr 1; done) | congr 1
theorem rt_same (f : Nat → α) (m i : Nat) (hi : i ≤ m) (p : Nat) : swr f (m - i) m i p = rt f (m - i) m (m + i) p := by
  unfold rt swr
  repeat' split
  all_goals first | (exfalso; omega) | rfl | (congr 1; omega) | (congr 1; done) | congr 1
theorem rt_none1 (f : Nat → α) (m hi p : Nat) (h : m ≤ hi) : rt f m m hi p = f p := by
  unfold rt
  repeat' split
  all_goals first | (exfalso; omega) | rfl | (congr 1; omega) | congr 1
theorem rt_none2 (f : Nat → α) (lo m p : Nat) : rt f lo m m p = f p := by
  unfold rt
  repeat' split
  all_goals first | (exfalso; omega) | rfl | (congr 1; omega) | congr 1
theorem rt_cases (f : Nat → α) {lo m hi : Nat} (_h1 : lo ≤ m) (_h2 : m ≤ hi) (p : Nat) : (p < lo ∧ rt f lo m hi p = f p) ∨ (lo ≤ p ∧ p < lo + (hi - m) ∧ rt f lo m hi p = f (p + (m - lo))) ∨ (lo + (hi - m) ≤ p ∧ p < hi ∧ rt f lo m hi p = f (p - (hi - m))) ∨ (hi ≤ p ∧ rt f lo m hi p = f p) := by
  unfold rt
  by_cases c1 : p < lo
  · exact .inl ⟨c1, by rw [if_pos (.inl c1)]⟩
  · by_cases c2 : hi ≤ p
    · exact .inr (.inr (.inr ⟨c2, by rw [if_pos (.inr c2)]⟩))
    · rw [if_neg (by omega)]
      by_cases c3 : p < lo + (hi - m)
      · exact .inr (.inl ⟨by omega, c3, by rw [if_pos c3]⟩)
      · exact .inr (.inr (.inl ⟨by omega, by omega, by rw [if_neg c3]⟩))
section
variable {lt : α → α → Bool}
theorem asym (hS : SWO lt) {x y : α} (h : lt x y = true) : lt y x = false := by
  cases h2 : lt y x with
  | false => rfl
  | true => have := hS.trans x y x h h2; rw [hS.irrefl] at this; cases this
theorem lt_of_le (hS : SWO lt) {x y z : α} (h1 : lt y x = false) (h2 : lt y z = true) : lt x z = true := by
  cases h : lt x z with
  | true => rfl
  | false => rw [hS.ntrans y x z h1 h] at h2; cases h2
theorem lt_of_lt (hS : SWO lt) {x y z : α} (h1 : lt x y = true) (h2 : lt z y = false) : lt x z = true := by
  cases h : lt x z with
  | true => rfl
  | false => rw [hS.ntrans x z y h h2] at h1; cases h1
end
variable [Inhabited α]
def gt (d : Array α) (p : Nat) : α := d[p]!
theorem gt_swp (d : Array α) (i j : Nat) (hi : i < d.size) (hj : j < d.size) (p : Nat) : gt (swp d i j) p = if p = i then gt d j else if p = j then gt d i else gt d p := by
  unfold gt
  by_cases h1 : p = i
  · subst h1
    rw [if_pos rfl]
    by_cases h2 : p = j
    · subst h2; exact swp_right d p p hi
    · exact swp_left d p j hi h2
  · rw [if_neg h1]
    by_cases h2 : p = j
    · subst h2; rw [if_pos rfl]; exact swp_right d i p hj
    · rw [if_neg h2]; exact swp_other d i j p h1 h2
theorem swr_succ (d d1 : Array α) (x y n : Nat) (hxy : x + n + 1 ≤ y) (hy : y + n < d1.size) (h : ∀ p, gt d1 p = swr (gt d) x y n p) (p : Nat) : gt (swp d1 (x + n) (y + n)) p = swr (gt d) x y (n + 1) p := by
  rw [gt_swp d1 _ _ (by omega) hy]
  simp only [h]
  unfold swr
  repeat' split
  all_goals first | (exfalso; omega) | rfl | (congr 1; omega) | (congr 1; done) | congr 1
theorem rt_step (d d1 : Array α) (a k : Nat) (hk : k + 1 < d1.size) (hak : a ≤ k) (h : ∀ p, gt d1 p = rt (gt d) a (a + 1) (k + 1) p) (p : Nat) : gt (swp d1 k (k + 1)) p = rt (gt d) a (a + 1) (k + 2) p := by
  rw [gt_swp d1 _ _ (by omega) hk]
  simp only [h]
  unfold rt
  repeat' split
  all_goals first | (exfalso; omega) | rfl | (congr 1; omega) | (congr 1; done) | congr 1
theorem rt_back (d d1 : Array α) (m k : Nat) (hk : k ≤ m) (h0 : 1 ≤ k) (hm : m < d1.size) (h : ∀ p, gt d1 p = rt (gt d) k m (m + 1) p) (p : Nat) : gt (swp d1 k (k - 1)) p = rt (gt d) (k - 1) m (m + 1) p := by
  rw [gt_swp d1 _ _ (by omega) (by omega)]
  simp only [h]
  unfold rt
  repeat' split
  all_goals first | (exfalso; omega) | rfl | (congr 1; omega) | (congr 1; done) | congr 1
variable {lt : α → α → Bool}
theorem sorted_le (hS : SWO lt) {a b : Nat} {d : Array α} (h : SortedIn lt a b d) {i j : Nat} (h1 : a ≤ i) (h2 : i ≤ j) (h3 : j < b) : lt (gt d j) (gt d i) = false := by
  by_cases e : i = j
  · subst e; exact hS.irrefl _
  · exact h i j h1 (by omega) h3
theorem rot_sorted (hS : SWO lt) {a s m e b : Nat} {d d1 : Array α} (hA : SortedIn lt a m d) (hB : SortedIn lt m b d) (h1 : a ≤ s) (h2 : s ≤ m) (h3 : m ≤ e) (h4 : e ≤ b)
    (H1 : ∀ p q, a ≤ p → p < s → m ≤ q → q < e → lt (gt d q) (gt d p) = false) (H2 : ∀ p q, s ≤ p → p < m → m ≤ q → q < e → lt (gt d p) (gt d q) = false)
    (H3 : ∀ p q, s ≤ p → p < m → e ≤ q → q < b → lt (gt d q) (gt d p) = false) (H4 : ∀ p q, a ≤ p → p < s → e ≤ q → q < b → lt (gt d q) (gt d p) = false)
    (h : ∀ p, gt d1 p = rt (gt d) s m e p) : SortedIn lt a b d1 := by
  intro p q hp hpq hq
  show lt (gt d1 q) (gt d1 p) = false
  rw [h, h]
  rcases rt_cases (gt d) h2 h3 p with ⟨c1, e1⟩ | ⟨c1, c2, e1⟩ | ⟨c1, c2, e1⟩ | ⟨c1, e1⟩ <;> rcases rt_cases (gt d) h2 h3 q with ⟨k1, e2⟩ | ⟨k1, k2, e2⟩ | ⟨k1, k2, e2⟩ | ⟨k1, e2⟩ <;> rw [e1, e2] <;> first
    | (exfalso; omega)
    | exact sorted_le hS hA (by omega) (by omega) (by omega)
    | exact sorted_le hS hB (by omega) (by omega) (by omega)
    | exact H1 _ _ (by omega) (by omega) (by omega) (by omega)
    | exact H2 _ _ (by omega) (by omega) (by omega) (by omega)
    | exact H3 _ _ (by omega) (by omega) (by omega) (by omega)
    | exact H4 _ _ (by omega) (by omega) (by omega) (by omega)
theorem merge_one (hS : SWO lt) {a b i : Nat} {d d1 : Array α} (hs : SortedIn lt (a + 1) b d) (h1 : a + 1 ≤ i) (h2 : i ≤ b)
    (hlo : i = a + 1 ∨ lt (gt d (i - 1)) (gt d a) = true) (hhi : i = b ∨ lt (gt d i) (gt d a) = false) (h : ∀ p, gt d1 p = rt (gt d) a (a + 1) i p) : SortedIn lt a b d1 := by
  refine rot_sorted hS (s := a) (m := a + 1) (e := i) (d := d) (fun p q _ _ _ => by omega) hs (Nat.le_refl _) (by omega) h1 h2 (fun p q _ _ => by omega) (fun p q c1 c2 c3 c4 => ?_) (fun p q c1 c2 c3 c4 => ?_) (fun p q _ _ => by omega) h
  · rw [show p = a by omega]
    refine asym hS ?_
    rcases hlo with hlo | hlo
    · omega
    · exact lt_of_le hS (sorted_le hS hs (by omega) (by omega : q ≤ i - 1) (by omega)) hlo
  · rw [show p = a by omega]
    rcases hhi with hhi | hhi
    · omega
    · exact hS.ntrans _ _ _ (sorted_le hS hs (by omega) c3 c4) hhi
theorem merge_last (hS : SWO lt) {a m i : Nat} {d d1 : Array α} (hs : SortedIn lt a m d) (h1 : a ≤ i) (h2 : i ≤ m)
    (hlo : i = a ∨ lt (gt d m) (gt d (i - 1)) = false) (hhi : i = m ∨ lt (gt d m) (gt d i) = true) (h : ∀ p, gt d1 p = rt (gt d) i m (m + 1) p) : SortedIn lt a (m + 1) d1 := by
  refine rot_sorted hS (s := i) (m := m) (e := m + 1) (d := d) hs (fun p q _ _ _ => by omega) h1 h2 (by omega) (Nat.le_refl _) (fun p q c1 c2 c3 c4 => ?_) (fun p q c1 c2 c3 c4 => ?_) (fun p q _ _ => by omega) (fun p q _ _ => by omega) h
  · rw [show q = m by omega]
    rcases hlo with hlo | hlo
    · omega
    · exact hS.ntrans _ _ _ hlo (sorted_le hS hs c1 (by omega : p ≤ i - 1) (by omega))
  · rw [show q = m by omega]
    refine asym hS ?_
    rcases hhi with hhi | hhi
    · omega
    · exact lt_of_lt hS hhi (sorted_le hS hs h1 c1 c2)
structure Halves (lt : α → α → Bool) (a s mid e b : Nat) (d1 : Array α) : Prop where
  l1 : SortedIn lt a s d1
  l2 : SortedIn lt s mid d1
  r1 : SortedIn lt mid e d1
  r2 : SortedIn lt e b d1
  x : ∀ p q, a ≤ p → p < mid → mid ≤ q → q < b → lt (gt d1 q) (gt d1 p) = false
theorem halves_of (hS : SWO lt) {a s m mid e b : Nat} {d d1 : Array α} (hA : SortedIn lt a m d) (hB : SortedIn lt m b d) (h1 : a ≤ s) (h2 : s ≤ m) (h3 : m ≤ e) (h4 : e ≤ b) (hn : s + e = mid + m)
    (hlo : s = a ∨ e = b ∨ lt (gt d e) (gt d (s - 1)) = false) (hhi : s = m ∨ e = m ∨ lt (gt d (e - 1)) (gt d s) = true) (h : ∀ p, gt d1 p = rt (gt d) s m e p) : Halves lt a s mid e b d1 := by
  have hm : mid = s + (e - m) := by omega
  have so : ∀ (lo hi : Nat), (∀ p q, lo ≤ p → p < q → q < hi → lt (rt (gt d) s m e q) (rt (gt d) s m e p) = false) → SortedIn lt lo hi d1 := fun lo hi hh p q c1 c2 c3 => by
    show lt (gt d1 q) (gt d1 p) = false
    rw [h, h]; exact hh p q c1 c2 c3
  refine ⟨so _ _ fun p q c1 c2 c3 => ?_, so _ _ fun p q c1 c2 c3 => ?_, so _ _ fun p q c1 c2 c3 => ?_, so _ _ fun p q c1 c2 c3 => ?_, fun p q c1 c2 c3 c4 => ?_⟩
  all_goals try rw [h, h]
  all_goals
    rcases rt_cases (gt d) h2 h3 p with ⟨k1, e1⟩ | ⟨k1, k2, e1⟩ | ⟨k1, k2, e1⟩ | ⟨k1, e1⟩ <;> rcases rt_cases (gt d) h2 h3 q with ⟨j1, e2⟩ | ⟨j1, j2, e2⟩ | ⟨j1, j2, e2⟩ | ⟨j1, e2⟩ <;> rw [e1, e2] <;> first
    | (exfalso; omega)
    | exact sorted_le hS hA (by omega) (by omega) (by omega)
    | exact sorted_le hS hB (by omega) (by omega) (by omega)
    | skip
  · rcases hlo with hlo | hlo | hlo
    · omega
    · omega
    · exact hS.ntrans _ _ _ (hS.ntrans _ _ _ (sorted_le hS hB h3 (by omega : e ≤ q) c4) hlo) (sorted_le hS hA c1 (by omega : p ≤ s - 1) (by omega))
  · rcases hhi with hhi | hhi | hhi
    · omega
    · omega
    · exact asym hS (lt_of_lt hS (lt_of_le hS (sorted_le hS hB (by omega) (by omega : p + (m - s) ≤ e - 1) (by omega)) hhi) (sorted_le hS hA h1 (by omega : s ≤ q - (e - m)) (by omega)))
theorem halves_join (_hS : SWO lt) {a mid b : Nat} {d1 d2 d3 : Array α} (hx : ∀ p q, a ≤ p → p < mid → mid ≤ q → q < b → lt (gt d1 q) (gt d1 p) = false) (ham : a ≤ mid) (hmb : mid ≤ b) (hb : b ≤ d1.size)
    (P1 : PermIn a mid d1 d2) (S1 : SortedIn lt a mid d2) (P2 : PermIn mid b d2 d3) (S2 : SortedIn lt mid b d3) : PermIn a b d1 d3 ∧ SortedIn lt a b d3 := by
  have hs2 : d2.size = d1.size := P1.1
  refine ⟨permIn_trans _ _ _ _ _ (permIn_mono _ _ _ _ a b (Nat.le_refl _) hmb hb P1) (permIn_mono _ _ _ _ a b ham (Nat.le_refl _) (by omega) P2), fun p q c1 c2 c3 => ?_⟩
  have same : ∀ r, r < mid → d3[r]! = d2[r]! := fun r hr => P2.2.1 r (.inl hr)
  have same2 : ∀ r, mid ≤ r → d2[r]! = d1[r]! := fun r hr => P1.2.1 r (.inr hr)
  by_cases k1 : q < mid
  · rw [same q k1, same p (by omega)]
    exact S1 p q c1 c2 k1
  · by_cases k2 : mid ≤ p
    · exact S2 p q k2 c2 c3
    · have A := permIn_all d1 d2 a mid (fun x => ∀ q, mid ≤ q → q < b → lt (gt d1 q) x = false) (by omega) P1 (fun i hi1 hi2 q hq1 hq2 => hx i q hi1 hi2 hq1 hq2) p c1 (by omega)
      have B := permIn_all d2 d3 mid b (fun y => lt y d2[p]! = false) (by omega) P2 (fun i hi1 hi2 => by
        have := A i hi1 hi2
        rw [same2 i hi1]; exact this) q (by omega) c3
      rw [same p (by omega)]
      exact B
end Go.Proofs.YtpcbccpobhdokaaGreatDoor
namespace Go.Proofs.YtpcbccpobhdokaaGreatDoor
open Go.Shelf Go.RowKit Go.Lib Go.Sort
variable {α : Type} [Inhabited α]
set_option maxHeartbeats 4000000 in
set_option maxRecDepth 1000000 in
theorem swap_any (k : Nat) (aE : ∀ w, (isAgg 37).run Tryz.prog w = .ok true w) (zE : ∀ w, (Go.sizeOf 37).run Tryz.prog w = .ok k w) (enc : α → List Value) (g : Nat) (cb : Array Value) (blk off cap x y n : Nat) (d0 d : Array α) (w0 w : World)
    (R : RowK enc k w0 blk off d0) (hs : d0.size = d.size) (S : SWK enc k w0 blk off d w) (hxy : x + n ≤ y) (hy : y + n ≤ d.size) (hsz : d.size < 4611686018427387904) :
    Calls Tryz.prog 193 #[.slice (some ⟨blk, off, none⟩) d.size cap, .int .i64 x, .int .i64 y, .int .i64 n, .func (.func g) #[] cb] w fun e w' => e = .returned (.tuple #[]) ∧ ∃ d', SWK enc k w0 blk off d' w' ∧ (∀ p, gt d' p = swr (gt d) x y n p) ∧ PermIn x (y + n) d d' := by
  have mixed : Tryz.prog.follows .mixedOrders = true := by kernel_rfl
  have S0 : Aside (SWK enc k w0 blk off d w) := S
  clear S
  go_enter Tryz.func193, Tryz.ntmps193
  go_wp2
  go_loopg [10] n (fun kx s10 wr => ∃ (i : Nat) (dk : Array α), s10 = .int .i64 i ∧ i ≤ n ∧ n - i ≤ kx ∧ dk.size = d.size ∧ Aside (SWK enc k w0 blk off dk wr) ∧ Hid ((∀ p, gt dk p = swr (gt d) x y i p) ∧ PermIn x (y + n) d dk))
  case atStart => exact ⟨0, d, rfl, Nat.zero_le _, Nat.le_refl _, rfl, S0, fun p => (swr_zero (gt d) x y p).symm, permIn_refl _ _ _⟩
  case round =>
    clear S0
    obtain ⟨i, dk, rfl, hin, hkx, hds, S1, HP⟩ := hrel
    by_cases hlt : i < n
    · have hltz : (i : Int) < (n : Int) := by omega
      go_wp2_with fail
      have e1a : ((x : Int) + (i : Int)).toNat = x + i := by omega
      have p1a : (0 : Int) ≤ (x : Int) + (i : Int) := by omega
      have b1a : (x : Int) + (i : Int) < (d.size : Int) := by omega
      have r1a : IntKind.i64.wrap ((x : Int) + (i : Int)) = (x : Int) + (i : Int) := by rw [IntKind.wrap_i64]; omega
      have e1c : ((y : Int) + (i : Int)).toNat = y + i := by omega
      have p1c : (0 : Int) ≤ (y : Int) + (i : Int) := by omega
      have b1c : (y : Int) + (i : Int) < (d.size : Int) := by omega
      have r1c : IntKind.i64.wrap ((y : Int) + (i : Int)) = (y : Int) + (i : Int) := by rw [IntKind.wrap_i64]; omega
      have S2 : Aside (SWK enc k w0 blk off (swp dk (x + i) (y + i)) ((wr.drew.setCells blk (off + (x + i) * k) (enc dk[y + i]!)).setCells blk (off + (y + i) * k) (enc dk[x + i]!))) := S1.out.swapped R (x + i) (y + i) (by omega) (by omega)
      have l1a := S1.out.ld1 R (by omega) Tryz.prog (x + i) (by omega)
      have l1b := S1.out.ld1 R (by omega) Tryz.prog (y + i) (by omega)
      have s1a := S1.out.st1 R (by omega) Tryz.prog (x + i) (by omega) dk[y + i]!
      have s1b := S1.out.st2 R (by omega) Tryz.prog (x + i) (y + i) (by omega) (by omega) dk[y + i]! dk[x + i]!
      have n1a : (enc dk[x + i]!).length = k := R.hk _
      have n1b : (enc dk[y + i]!).length = k := R.hk _
      generalize enc dk[x + i]! = cI1 at S2 l1a s1b n1a
      generalize enc dk[y + i]! = cJ1 at S2 l1b s1a s1b n1b
      clear S1
      go_wp2_with fail
      go_big_region_o
      clear l1a l1b s1a s1b
      generalize (wr.drew.setCells blk (off + (x + i) * k) cJ1).setCells blk (off + (y + i) * k) cI1 = w2 at S2 ⊢
      go_wp2
      go_roundg (n - (i + 1))
      case measure => omega
      case rel => exact ⟨i + 1, swp dk (x + i) (y + i), by go_num, by omega, Nat.le_refl _, by rw [size_swp]; exact hds, S2, fun p => swr_succ d dk x y i (by omega) (by omega) HP.out.1 p, permIn_trans _ _ _ _ _ HP.out.2 (swp_permIn dk x (y + n) (x + i) (y + i) (by omega) (by omega) (by omega) (by omega) (by omega))⟩
    · have hltz : ¬ (i : Int) < (n : Int) := by omega
      obtain rfl : i = n := by omega
      go_wp2
      go_end0
      exact ⟨rfl, dk, S1.out, HP.out.1, HP.out.2⟩
set_option maxHeartbeats 4000000 in
set_option maxRecDepth 1000000 in
theorem rot_any (k : Nat) (aE : ∀ w, (isAgg 37).run Tryz.prog w = .ok true w) (zE : ∀ w, (Go.sizeOf 37).run Tryz.prog w = .ok k w) (enc : α → List Value) (g : Nat) (cb : Array Value) (blk off cap a m b : Nat) (d0 d : Array α) (w0 w : World)
    (R : RowK enc k w0 blk off d0) (hs : d0.size = d.size) (S : SWK enc k w0 blk off d w) (ham : a < m) (hmb : m < b) (hb : b ≤ d.size) (hsz : d.size < 4611686018427387904) :
    Calls Tryz.prog 134 #[.slice (some ⟨blk, off, none⟩) d.size cap, .int .i64 a, .int .i64 m, .int .i64 b, .func (.func g) #[] cb] w fun e w' => e = .returned (.tuple #[]) ∧ ∃ d', SWK enc k w0 blk off d' w' ∧ (∀ p, gt d' p = rt (gt d) a m b p) ∧ PermIn a b d d' := by
  have mixed : Tryz.prog.follows .mixedOrders = true := by kernel_rfl
  have S0 : Aside (SWK enc k w0 blk off d w) := S
  clear S
  have r1 : IntKind.i64.wrap ((m : Int) - (a : Int)) = (m : Int) - (a : Int) := by rw [IntKind.wrap_i64]; omega
  have r2 : IntKind.i64.wrap ((b : Int) - (m : Int)) = (b : Int) - (m : Int) := by rw [IntKind.wrap_i64]; omega
  go_enter Tryz.func134, Tryz.ntmps134
  go_wp2
  clear r1 r2
  go_loopg [10, 11] (b - a) (fun kx s10 s11 wr => ∃ (i j : Nat) (dk : Array α), s10 = .int .i64 i ∧ s11 = .int .i64 j ∧ 1 ≤ i ∧ 1 ≤ j ∧ i + a ≤ m ∧ m + j ≤ b ∧ i + j ≤ kx ∧ dk.size = d.size ∧ Aside (SWK enc k w0 blk off dk wr) ∧ Hid ((∀ p, rt (gt dk) (m - i) m (m + j) p = rt (gt d) a m b p) ∧ PermIn a b d dk))
  case atStart => exact ⟨m - a, b - m, d, by rw [show ((m - a : Nat) : Int) = (m : Int) - (a : Int) by omega], by rw [show ((b - m : Nat) : Int) = (b : Int) - (m : Int) by omega], by omega, by omega, by omega, by omega, by omega, rfl, S0, fun p => by rw [show m - (m - a) = a by omega, show m + (b - m) = b by omega], permIn_refl _ _ _⟩
  case round =>
    clear S0
    obtain ⟨i, j, dk, rfl, rfl, hi1, hj1, hia, hjb, hkx, hds, S1, HP⟩ := hrel
    have rmi : IntKind.i64.wrap ((m : Int) - (i : Int)) = (m : Int) - (i : Int) := by rw [IntKind.wrap_i64]; omega
    by_cases heq : i = j
    · subst heq
      have hc := swap_any k aE zE enc g cb blk off cap (m - i) m i d0 dk w0 wr R (by omega) S1.out (by omega) (by omega) (by omega)
      rw [show ((m - i : Nat) : Int) = (m : Int) - (i : Int) by omega, hds] at hc
      have HCC := Lib.hid hc
      clear hc
      go_wp2_with fail
      refine HCC.out.mono ?_
      rintro e w1 ⟨rfl, d1, S2, h2, h3⟩
      go_wp2_with fail
      go_end0
      exact ⟨rfl, d1, S2, fun p => by rw [h2, ← HP.out.1]; exact rt_same (gt dk) m i (by omega) p, permIn_trans _ _ _ _ _ HP.out.2 (permIn_mono _ _ _ _ _ _ (by omega) (by omega) (by omega) h3)⟩
    · have hne : ((i : Int) != (j : Int)) = true := by simp; omega
      by_cases hgt : j < i
      · have hgz : (i : Int) > (j : Int) := by omega
        have hgz2 : (j : Int) < (i : Int) := by omega
        have rij : IntKind.i64.wrap ((i : Int) - (j : Int)) = (i : Int) - (j : Int) := by rw [IntKind.wrap_i64]; omega
        have hc := swap_any k aE zE enc g cb blk off cap (m - i) m j d0 dk w0 wr R (by omega) S1.out (by omega) (by omega) (by omega)
        rw [show ((m - i : Nat) : Int) = (m : Int) - (i : Int) by omega, hds] at hc
        have HCC := Lib.hid hc
        clear hc
        go_wp2_with (go_at_call 193; refine HCC.out.mono ?_; rintro e w1 ⟨rfl, d1, S2, h2, h3⟩; have HQ : Hid (_ ∧ _) := ⟨h2, h3⟩; have S3 : Aside _ := S2; clear h2 h3 S2)
        go_roundg (i - j + j)
        case measure => omega
        case rel => exact ⟨i - j, j, d1, by rw [show ((i - j : Nat) : Int) = (i : Int) - (j : Int) by omega], rfl, by omega, hj1, by omega, hjb, by omega, by rw [HQ.out.2.1, hds], S3, fun p => (rt_left (gt dk) (gt d1) m i j (by omega) hgt HQ.out.1 p).trans (HP.out.1 p), permIn_trans _ _ _ _ _ HP.out.2 (permIn_mono _ _ _ _ _ _ (by omega) (by omega) (by omega) HQ.out.2)⟩
      · have hgz : ¬ (i : Int) > (j : Int) := by omega
        have hgz2 : ¬ (j : Int) < (i : Int) := by omega
        have rji : IntKind.i64.wrap ((j : Int) - (i : Int)) = (j : Int) - (i : Int) := by rw [IntKind.wrap_i64]; omega
        have rmj : IntKind.i64.wrap ((m : Int) + (j : Int)) = (m : Int) + (j : Int) := by rw [IntKind.wrap_i64]; omega
        have rmji : IntKind.i64.wrap ((m : Int) + (j : Int) - (i : Int)) = (m : Int) + (j : Int) - (i : Int) := by rw [IntKind.wrap_i64]; omega
        have hc := swap_any k aE zE enc g cb blk off cap (m - i) (m + j - i) i d0 dk w0 wr R (by omega) S1.out (by omega) (by omega) (by omega)
        rw [show ((m - i : Nat) : Int) = (m : Int) - (i : Int) by omega, show ((m + j - i : Nat) : Int) = (m : Int) + (j : Int) - (i : Int) by omega, hds] at hc
        have HCC := Lib.hid hc
        clear hc
        go_wp2_with (go_at_call 193; refine HCC.out.mono ?_; rintro e w1 ⟨rfl, d1, S2, h2, h3⟩; have HQ : Hid (_ ∧ _) := ⟨h2, h3⟩; have S3 : Aside _ := S2; clear h2 h3 S2)
        go_roundg (i + (j - i))
        case measure => omega
        case rel => exact ⟨i, j - i, d1, rfl, by rw [show ((j - i : Nat) : Int) = (j : Int) - (i : Int) by omega], hi1, by omega, hia, by omega, by omega, by rw [HQ.out.2.1, hds], S3, fun p => (rt_right (gt dk) (gt d1) m i j (by omega) (by omega) HQ.out.1 p).trans (HP.out.1 p), permIn_trans _ _ _ _ _ HP.out.2 (permIn_mono _ _ _ _ _ _ (by omega) (by omega) (by omega) HQ.out.2)⟩
end Go.Proofs.YtpcbccpobhdokaaGreatDoor

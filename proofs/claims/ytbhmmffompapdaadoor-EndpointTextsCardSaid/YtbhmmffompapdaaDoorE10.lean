/- Lists of endpoints in memory; the reference Of. -/
import Derived.Test.YtbhmmffompapdaaDoorE9
import Derived.Maps.AppendAt
import Derived.Deep.AppendLies
import Derived.Laws.OwnMore
import Derived.OwnWalk
namespace Go.Proofs.YtbhmmffompapdaaDoor
open Go.RowKit
/-- a slice that reads as a list of endpoints, below block B -/
def Eps (w : World) (B : Nat) (v : Value) (l : List (Int × Int)) : Prop :=
  ∃ A c, v = .slice A l.length c ∧ l.length ≤ c ∧ c ≤ maxLen ∧ (0 < l.length → ∃ b o, A = some ⟨b, o, none⟩ ∧ b < B ∧ ∀ j, j < l.length →
    w.cell? ⟨b, o + j * 2, none⟩ = some (.int .i64 (l.getD j (0, 0)).1) ∧ w.cell? ⟨b, o + j * 2 + 1, none⟩ = some (.int .i64 (l.getD j (0, 0)).2))
theorem Eps.below {w w' : World} {B : Nat} {v : Value} {xs : List (Int × Int)} (h : Eps w B v xs) (hb : Below B w w') : Eps w' B v xs := by
  obtain ⟨A, c, e, h1, h2, h3⟩ := h
  refine ⟨A, c, e, h1, h2, fun hp => ?_⟩
  obtain ⟨b, o, e1, h4, h5⟩ := h3 hp
  exact ⟨b, o, e1, h4, fun j hj => ⟨(hb.cell (p := ⟨b, o + j * 2, none⟩) h4).trans (h5 j hj).1, (hb.cell (p := ⟨b, o + j * 2 + 1, none⟩) h4).trans (h5 j hj).2⟩⟩
theorem Eps.more {w : World} {B B' : Nat} {v : Value} {xs : List (Int × Int)} (h : Eps w B v xs) (hB : B ≤ B') : Eps w B' v xs := by
  obtain ⟨A, c, e, h1, h2, h3⟩ := h
  refine ⟨A, c, e, h1, h2, fun hp => ?_⟩
  obtain ⟨b, o, e1, h4, h5⟩ := h3 hp
  exact ⟨b, o, e1, by omega, h5⟩
theorem eps_nil (w : World) (B : Nat) : Eps w B (.slice none 0 0) [] := ⟨none, 0, rfl, by simp, by simp [maxLen], fun h => by simp at h⟩
def epCells (l : List (Int × Int)) : List Value := l.flatMap fun p => [.int .i64 p.1, .int .i64 p.2]
theorem epCells_snoc (l : List (Int × Int)) (p : Int × Int) : epCells (l ++ [p]) = epCells l ++ [.int .i64 p.1, .int .i64 p.2] := by simp [epCells]
theorem epCells_length (l : List (Int × Int)) : (epCells l).length = l.length * 2 := by
  induction l with
  | nil => rfl
  | cons a t ih => simp only [epCells, List.flatMap_cons, List.length_append, List.length_cons, List.length_nil] at ih ⊢; omega
theorem epCells_get (l : List (Int × Int)) : ∀ j, j < l.length → (epCells l)[j * 2]? = some (.int .i64 (l.getD j (0, 0)).1) ∧ (epCells l)[j * 2 + 1]? = some (.int .i64 (l.getD j (0, 0)).2) := by
  induction l with
  | nil => intro j hj; simp at hj
  | cons a t ih =>
    intro j hj
    cases j with
    | zero => simp [epCells]
    | succ j =>
      have := ih j (by simpa using hj)
      have e : ∀ n, (epCells (a :: t))[n + 2]? = (epCells t)[n]? := fun n => by simp [epCells]
      rw [show (j + 1) * 2 = j * 2 + 2 by omega, show j * 2 + 2 + 1 = j * 2 + 1 + 2 by omega, e, e]
      simpa using this
theorem eps_of_own {w : World} {base : Nat} {v : Value} {l : List (Int × Int)} (h : w.ownsRow base 23 2 v l.length (epCells l)) : Eps w w.heap.size v l := by
  rcases h.2 with ⟨rfl, h0⟩ | ⟨g, cap, cur, rfl, hb, hg, hn, hm, hs, ht⟩
  · obtain rfl : l = [] := List.eq_nil_of_length_eq_zero h0
    exact eps_nil _ _
  · refine ⟨_, cap, rfl, hn, hm, fun _ => ⟨g, 0, rfl, (Array.getElem?_eq_some_iff.1 hg).1, fun j hj => ?_⟩⟩
    have hc := h.cells (g := g) rfl
    have h2 := epCells_get l j hj
    have ha : ∀ n, (⟨g, 0, none⟩ : Addr).add n = ⟨g, 0 + n, none⟩ := fun n => by unfold Addr.add; split <;> simp_all
    have a1 := hc _ _ h2.1
    have a2 := hc _ _ h2.2
    rw [ha] at a1 a2
    exact ⟨a1, a2⟩
theorem cell_two_new (w : World) (x y : Value) (t : TypeId) : ∀ j u, [x, y][j]? = some u → (w.alloc (.cells #[x, y] t)).cell? ((⟨w.heap.size, 0, none⟩ : Addr).add j) = some u :=
  World.news_of_block (cs := #[x, y]) (heap_alloc_new w _)
/-- the endpoints of a node, those of the first k groups -/
def ofG (gs : List (List Int)) (x : Int) (k : Nat) : List (Int × Int) := (1, x) :: ((List.range k).filter fun i => hasB (gs.getD i []) x).map fun i : Nat => ((2 : Int), (i : Int))
theorem ofG_hit {gs : List (List Int)} {x : Int} {k : Nat} (h : hasB (gs.getD k []) x = true) : ofG gs x (k + 1) = ofG gs x k ++ [(2, (k : Int))] := by
  simp only [ofG, List.range_succ, List.filter_append, List.map_append, List.cons_append]
  rw [List.filter_cons, if_pos h]; rfl
theorem ofG_miss {gs : List (List Int)} {x : Int} {k : Nat} (h : hasB (gs.getD k []) x = false) : ofG gs x (k + 1) = ofG gs x k := by
  simp only [ofG, List.range_succ, List.filter_append, List.map_append]
  rw [List.filter_cons, if_neg (by rw [h]; exact Bool.false_ne_true)]; simp
theorem ofG_len (gs : List (List Int)) (x : Int) (k : Nat) : (ofG gs x k).length ≤ k + 1 := by
  have := List.length_filter_le (fun i => hasB (gs.getD i []) x) (List.range k)
  simp only [ofG, List.length_cons, List.length_map]
  simp at this ⊢; omega
def ofE (gs : List (List Int)) (x : Int) : Int := if groupsE gs ≠ 0 then 1 else if x < 0 ∨ 16 ≤ x then 2 else 0
def ofL (gs : List (List Int)) (x : Int) : List (Int × Int) := if ofE gs x ≠ 0 then [] else ofG gs x gs.length
def OfPost (gs : List (List Int)) (x : Int) (w : World) (e : Ending) (w' : World) : Prop :=
  ∃ v, e = .returned (.tuple #[v, .int .i64 (ofE gs x)]) ∧ Eps w' w'.heap.size v (ofL gs x) ∧ Below w.heap.size w w'
theorem ofE_ok {gs : List (List Int)} {x : Int} (h : ofE gs x = 0) : groupsE gs = 0 ∧ 0 ≤ x ∧ x < 16 := by
  unfold ofE at h
  split at h
  · cases h
  split at h
  · cases h
  exact ⟨by omega, by omega, by omega⟩
theorem groupsE_len {gs : List (List Int)} (h : groupsE gs = 0) : gs.length ≤ 8 := by
  unfold groupsE at h; split at h
  · cases h
  · omega
theorem info23 : (Tryd.prog.info? 23).map (fun i => (i.zero, i.size, i.bytes)) = some (some (.agg #[.int .i64 0, .int .i64 0]), 2, 16) := by kernel_rfl

theorem rof_bad (v : Value) (gs : List (List Int)) (x : Int) (w : World) (hg : Grps w w.heap.size v gs) (h : ofE gs x ≠ 0) : Calls Tryd.prog 19 #[v, .int .i64 x] w (OfPost gs x w) := by
  have HL : Hid (ofL gs x = []) := by show _ = _; rw [ofL, if_pos h]
  by_cases h1 : groupsE gs = 0
  · have h2 : x < 0 ∨ 16 ≤ x := by
      by_cases hh : x < 0 ∨ 16 ≤ x
      · exact hh
      · exact absurd (by simp only [ofE, h1, hh, if_false, ne_eq, not_true_eq_false]) h
    have HE : Hid (ofE gs x = 2) := by show _ = _; simp [ofE, h1, h2]
    have H1 := Lib.hid h1
    clear h h1
    by_cases h3 : x < 0
    all_goals
      go_enter Tryd.func19, Tryd.ntmps19
      go_wp2_with fail
      refine (rgroups_any _ gs _ w.heap.size hg).mono ?_
      rw [H1.out]
      rintro e w1 ⟨rfl, q, rfl⟩
      go_wp2_with fail
      all_goals first
        | (exfalso; omega)
        | (go_ret2
           exact ⟨_, by rw [HE.out]; rfl, by rw [HL.out]; exact eps_nil _ _, by (repeat' (first | (with_reducible exact Below.refl _ _) | (with_reducible refine Below.alloc ?_ ?_ _) | (with_reducible refine Below.drew ?_) | (with_reducible refine below_drewN ?_ _) | (with_reducible refine Below.setCell ?_ ?_ _) | (with_reducible refine Below.trans ?_ (Below.mono (by assumption) ?_)) | (with_reducible exact Nat.le_refl _) | omega | (simp; omega) | (simp; done)))⟩)
  · have HE : Hid (ofE gs x = 1) := by show _ = _; simp [ofE, h1]
    have h5 : (groupsE gs != 0) = true := by simpa using h1
    clear h h1
    go_enter Tryd.func19, Tryd.ntmps19
    go_wp2_with fail
    refine (rgroups_any _ gs _ w.heap.size hg).mono ?_
    rintro e w1 ⟨rfl, q, rfl⟩
    go_wp2_with fail
    go_ret2
    exact ⟨_, by rw [HE.out]; rfl, by rw [HL.out]; exact eps_nil _ _, by (repeat' (first | (with_reducible exact Below.refl _ _) | (with_reducible refine Below.alloc ?_ ?_ _) | (with_reducible refine Below.drew ?_) | (with_reducible refine below_drewN ?_ _) | (with_reducible refine Below.setCell ?_ ?_ _) | (with_reducible refine Below.trans ?_ (Below.mono (by assumption) ?_)) | (with_reducible exact Nat.le_refl _) | omega | (simp; omega) | (simp; done)))⟩
theorem of_hit {w1 : World} {n0 : Nat} {v' : Value} {gs : List (List Int)} {x : Int} {k : Nat} (h : hasB (gs.getD k []) x = true)
    (ho : w1.ownsRow n0 23 2 v' ((ofG gs x k).length + 1) (epCells (ofG gs x k) ++ [.int .i64 2, .int .i64 (k : Int)])) : w1.ownsRow n0 23 2 v' (ofG gs x (k + 1)).length (epCells (ofG gs x (k + 1))) := by
  rw [ofG_hit h, epCells_snoc, List.length_append]
  exact ho
set_option maxHeartbeats 1000000 in
theorem rof_ok (v : Value) (gs : List (List Int)) (x : Int) (w : World) (hg : Grps w w.heap.size v gs) (h : ofE gs x = 0) : Calls Tryd.prog 19 #[v, .int .i64 x] w (OfPost gs x w) := by
  obtain ⟨h1, h2, h3⟩ := ofE_ok h
  have HL : Hid (ofL gs x = ofG gs x gs.length) := by show _ = _; rw [ofL, if_neg (by simp [h])]
  have hl8 := groupsE_len h1
  have HE := Lib.hid h
  have H1 := Lib.hid h1
  clear h h1
  have hg2 := hg
  obtain ⟨A, c, rfl, hc, hm, hA⟩ := hg2
  unfold maxLen at hm
  have HA := Lib.hid hA
  clear hA
  obtain ⟨i0, hi, hz0, hz1, hz2⟩ := info_parts info23
  have HI : Hid ((Tryd.prog.info? 23 = some i0) ∧ i0.zero = some (.agg #[.int .i64 0, .int .i64 0]) ∧ i0.size = 2 ∧ i0.bytes = 16) := ⟨hi, hz0, hz1, hz2⟩
  clear hi hz0 hz1 hz2
  go_enter Tryd.func19, Tryd.ntmps19
  go_wp2_with fail
  refine (rgroups_any _ gs _ w.heap.size hg).mono ?_
  rw [H1.out]
  rintro e w1 ⟨rfl, q, rfl⟩
  go_wp2_with fail
  go_loopw [6, 7] (fun u i wr => ∃ k : Nat, k ≤ gs.length ∧ i = .int .i64 k ∧ wr.ownsRow w.heap.size 23 2 u (ofG gs x k).length (epCells (ofG gs x k)) ∧ Below w.heap.size w wr) (fun _ i _ => gs.length - (intOf i).toNat)
  case atStart => exact ⟨0, by omega, rfl, World.ownsRow_lit (e := 23) (size := 2) (w.drewN q) #[.int .i64 1, .int .i64 x] 1 (Nat.le_refl _) (by simp [maxLen]) rfl, by (repeat' (first | (with_reducible exact Below.refl _ _) | (with_reducible refine Below.alloc ?_ ?_ _) | (with_reducible refine Below.drew ?_) | (with_reducible refine below_drewN ?_ _) | (with_reducible refine Below.setCell ?_ ?_ _) | (with_reducible refine Below.trans ?_ (Below.mono (by assumption) ?_)) | (with_reducible exact Nat.le_refl _) | omega | (simp; omega) | (simp; done)))⟩
  case round =>
    obtain ⟨k, hk, rfl, hown, hB⟩ := hrel
    have hle := ofG_len gs x k
    by_cases hlt : k < gs.length
    · obtain ⟨b, o, rfl, hb, hcell⟩ := HA.out (by omega)
      obtain ⟨u2, hu, hi2⟩ := hcell k hlt
      clear hcell
      have hu1 : wr.cell? ⟨b, o + k, none⟩ = some u2 := (hB.cell (p := ⟨b, o + k, none⟩) hb).trans hu
      have hi3 := Lib.hid (hi2.below hB)
      clear hi2 hu
      cases hh : hasB (gs.getD k []) x
      · have HH := Lib.hid hh
        clear hh
        go_wp2_with fail
        refine (has_any _ _ _ _ _ hi3.out).mono ?_
        rw [HH.out]
        rintro e w1 ⟨rfl, rfl⟩
        go_wp2_with fail
        go_roundw
        case rel => exact ⟨k + 1, by omega, by go_num, by rw [ofG_miss HH.out]; exact hown, hB⟩
        case measure => simp [intOf]; omega
      · have HH := Lib.hid hh
        clear hh
        go_wp2_with fail
        refine (has_any _ _ _ _ _ hi3.out).mono ?_
        rw [HH.out]
        rintro e w1 ⟨rfl, rfl⟩
        go_wp2_with (at_builtin; refine wpList_append_own _ rfl _ _ 34 rfl w.heap.size 23 i0 (.agg #[.int .i64 0, .int .i64 0]) 2 16 Tryd.underlying34 HI.out.1 HI.out.2.1 HI.out.2.2.1 HI.out.2.2.2 rfl (by decide) _ _ _ rfl (hown.alloc _) ⟨wr.heap.size, 0, none⟩ 1 1 [.int .i64 2, .int .i64 (k : Int)] rfl rfl ?c1 ?c2 ?c3 ?c4 ?c5 ?_)
        case c1 => exact cell_two_new _ _ _ _
        case c2 => simp [Value.oneCell']
        case c3 => unfold maxLen; omega
        case c4 => omega
        case c5 => have := hB.size; simp; omega
        intro v' w1 hown' hgrow _
        have HO := Lib.hid (of_hit HH.out hown')
        have hB1 : Below w.heap.size w w1 := (hB.alloc hB.size _).grown hgrow (by have := hB.size; simp; omega) (fun j e => (hown.lt j e).1)
        clear hown' hgrow hown
        go_wp2_with fail
        go_roundw
        case rel => exact ⟨k + 1, by omega, by go_num, HO.out, hB1⟩
        case measure => simp [intOf]; omega
    · have hkk : Hid (k = gs.length) := by show _ = _; omega
      have HO := Lib.hid hown
      clear hown
      go_wp2_with fail
      go_ret2
      refine ⟨_, by rw [HE.out]; rfl, ?_, hB⟩
      rw [HL.out, ← hkk.out]
      exact eps_of_own HO.out
end Go.Proofs.YtbhmmffompapdaaDoor

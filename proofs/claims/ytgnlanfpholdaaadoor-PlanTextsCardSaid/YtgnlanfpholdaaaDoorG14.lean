/- The reference's Lines. -/
import Derived.Test.YtgnlanfpholdaaaDoorP6
import Derived.Test.YtgnlanfpholdaaaDoorG3
namespace Go.Proofs.YtgnlanfpholdaaaDoor
open Go.RowKit
/-- the lines of a text, and whether the last one is ended -/
def linesB (s : ByteArray) : List (Int × ByteArray) := linesF s.data.toList.length 1 s.data.toList
def endedB (s : ByteArray) : Bool := (linesB s).all fun p => p.1 != 0
def lsnd (L : List (Int × ByteArray)) : List ByteArray := L.map (·.2)
def strVals (L : List ByteArray) : List Value := L.map Value.string
/-- the lines read so far: those ahead of place b, and there is no line feed between b and k -/
structure LnR (s : ByteArray) (L : List (Int × ByteArray)) (b k : Nat) : Prop where
  le : b ≤ k
  all : ∃ f, s.data.toList.length - b ≤ f ∧ linesB s = L ++ linesF f ((L.length : Int) + 1) (s.data.toList.drop b)
  num : ∀ p ∈ L, p.1 ≠ 0
  no : (10 : UInt8) ∉ (s.data.toList.drop b).take (k - b)
  len : L.length ≤ b
theorem LnR.start (s : ByteArray) : LnR s [] 0 0 := ⟨Nat.le_refl _, ⟨_, Nat.le_refl _, rfl⟩, fun p h => by simp at h, by simp, Nat.le_refl _⟩
theorem LnR.go {s : ByteArray} {L : List (Int × ByteArray)} {b k : Nat} (h : LnR s L b k) (hk : k < s.size) (hc : s[k] ≠ 10) : LnR s L b (k + 1) := by
  refine ⟨by have := h.le; omega, h.all, h.num, ?_, h.len⟩
  have hk' : k < s.data.toList.length := by simpa using hk
  have hle := h.le
  rw [show k + 1 - b = (k - b) + 1 by omega, List.take_succ_eq_append_getElem (by rw [List.length_drop]; omega)]
  intro hm
  rcases List.mem_append.1 hm with hm | hm
  · exact h.no hm
  · rw [List.mem_singleton, List.getElem_drop] at hm
    have e : s.data.toList[b + (k - b)]'(by omega) = s[k] := by
      rw [show s[k] = s.data.toList[k]'hk' from rfl]
      congr 1; omega
    rw [e] at hm
    exact hc hm.symm
theorem LnR.cut {s : ByteArray} {L : List (Int × ByteArray)} {b k : Nat} (h : LnR s L b k) (hk : k < s.size) (hc : s[k] = 10) : LnR s (L ++ [((L.length : Int) + 1, s.extract b k)]) (k + 1) (k + 1) := by
  have hk' : k < s.data.toList.length := by simpa using hk
  have hle := h.le
  obtain ⟨f, hf, hall⟩ := h.all
  have e : s.data.toList.drop b = (s.data.toList.drop b).take (k - b) ++ 10 :: s.data.toList.drop (k + 1) := by
    have e1 := (List.take_append_drop (k - b) (s.data.toList.drop b)).symm
    rw [List.drop_drop, show b + (k - b) = k by omega, List.drop_eq_getElem_cons hk'] at e1
    have e2 : s.data.toList[k] = 10 := hc
    rw [e2] at e1
    exact e1
  have ecut := cut_hit (b := s.data.toList.drop (k + 1)) h.no
  rw [← e] at ecut
  have hne : s.data.toList.drop b ≠ [] := by rw [e]; simp
  match f, hf with
  | 0, hf => omega
  | f + 1, hf =>
    refine ⟨Nat.le_refl _, ⟨f, by omega, ?_⟩, ?_, by simp, by rw [List.length_append, List.length_singleton]; have := h.len; omega⟩
    · rw [hall, linesF_succ, if_neg hne, ecut, if_pos rfl]
      have ex : (ByteArray.mk ((s.data.toList.drop b).take (k - b)).toArray) = s.extract b k := by
        refine (ba_ext ?_).symm
        rw [Lib.extract_data]
      rw [ex, List.append_assoc]
      simp
    · intro p hp
      rcases List.mem_append.1 hp with hp | hp
      · exact h.num p hp
      · rw [List.mem_singleton.1 hp]; show (L.length : Int) + 1 ≠ 0; omega
theorem LnR.done {s : ByteArray} {L : List (Int × ByteArray)} {b k : Nat} (h : LnR s L b k) (_hk : k = s.size) (hb : b = s.size) : linesB s = L ∧ endedB s = true := by
  obtain ⟨f, hf, hall⟩ := h.all
  have hs : s.data.toList.length = s.size := by simp
  rw [List.drop_of_length_le (by omega), linesF_nil, List.append_nil] at hall
  refine ⟨hall, ?_⟩
  unfold endedB
  rw [hall, List.all_eq_true]
  intro p hp
  simpa using h.num p hp
theorem LnR.open {s : ByteArray} {L : List (Int × ByteArray)} {b k : Nat} (h : LnR s L b k) (hk : k = s.size) (hb : b < s.size) : linesB s = L ++ [(0, s.extract b s.size)] ∧ endedB s = false := by
  obtain ⟨f, hf, hall⟩ := h.all
  have hs : s.data.toList.length = s.size := by simp
  have hno := h.no
  rw [List.take_of_length_le (by rw [List.length_drop]; omega)] at hno
  have hne : s.data.toList.drop b ≠ [] := by
    intro e
    have := congrArg List.length e
    rw [List.length_drop] at this
    simp at this; omega
  match f, hf with
  | 0, hf => omega
  | f + 1, hf =>
    rw [linesF_succ, if_neg hne, cut_miss hno, if_neg (by simp)] at hall
    have ex : (ByteArray.mk (s.data.toList.drop b).toArray) = s.extract b s.size := by
      refine (ba_ext ?_).symm
      rw [Lib.extract_to_end]
    rw [ex] at hall
    refine ⟨hall, ?_⟩
    unfold endedB
    rw [hall]; simp
theorem Tryd.infoStr : (Tryd.prog.info? 9).map (fun i => (i.zero, i.size, i.bytes)) = some (some (.string ⟨#[]⟩), 1, 16) := by kernel_rfl
/-- a slice that reads as a list of strings -/
def Strs (w : World) (B : Nat) (v : Value) (ws : List ByteArray) : Prop :=
  ∃ A c, v = .slice A ws.length c ∧ ws.length ≤ c ∧ c ≤ maxLen ∧ (0 < ws.length → ∃ b o, A = some ⟨b, o, none⟩ ∧ b < B ∧ ∀ j, j < ws.length → w.cell? ⟨b, o + j, none⟩ = some (.string (ws.getD j ⟨#[]⟩)))
theorem strs_of_own {w : World} {base : Nat} {v : Value} {l : List ByteArray} (h : w.ownsRow base 9 1 v l.length (strVals l)) : Strs w w.heap.size v l := by
  rcases h.2 with ⟨rfl, h0⟩ | ⟨g, cap, cur, rfl, hb, hg, hn, hm, hs, ht⟩
  · obtain rfl : l = [] := List.eq_nil_of_length_eq_zero h0
    exact ⟨none, 0, rfl, by simp, by simp [maxLen], fun h => by simp at h⟩
  · refine ⟨_, cap, rfl, hn, hm, fun _ => ⟨g, 0, rfl, (Array.getElem?_eq_some_iff.1 hg).1, fun j hj => ?_⟩⟩
    have ha : ∀ n, (⟨g, 0, none⟩ : Addr).add n = ⟨g, 0 + n, none⟩ := fun n => by unfold Addr.add; split <;> simp_all
    have := h.cells (g := g) rfl j (.string (l.getD j ⟨#[]⟩)) (by simp [strVals, List.getD, hj])
    rwa [ha] at this
theorem str_hit {w1 : World} {n0 : Nat} {v' : Value} {L : List (Int × ByteArray)} {x : Int} {s : ByteArray} (ho : w1.ownsRow n0 9 1 v' ((lsnd L).length + 1) (strVals (lsnd L) ++ [.string s])) : w1.ownsRow n0 9 1 v' (lsnd (L ++ [(x, s)])).length (strVals (lsnd (L ++ [(x, s)]))) := by
  rw [show lsnd (L ++ [(x, s)]) = lsnd L ++ [s] by simp [lsnd], List.length_append, show strVals (lsnd L ++ [s]) = strVals (lsnd L) ++ [.string s] by simp [strVals]]
  exact ho
def LinesPost (s : ByteArray) (w : World) (e : Ending) (w' : World) : Prop := ∃ v, e = .returned (.tuple #[v, .bool (endedB s)]) ∧ w'.ownsRow w.heap.size 9 1 v (lsnd (linesB s)).length (strVals (lsnd (linesB s))) ∧ Below w.heap.size w w'
set_option maxHeartbeats 2000000 in
theorem rlines_any (s : ByteArray) (hs : s.size ≤ 8192) (w : World) : Calls Tryd.prog 57 #[.string s] w (LinesPost s w) := by
  obtain ⟨i0, hi, hz0, hz1, hz2⟩ := info_parts Tryd.infoStr
  have HI : Hid ((Tryd.prog.info? 9 = some i0) ∧ i0.zero = some (.string ⟨#[]⟩) ∧ i0.size = 1 ∧ i0.bytes = 16) := ⟨hi, hz0, hz1, hz2⟩
  clear hi hz0 hz1 hz2
  go_enter Tryd.func57, Tryd.ntmps57
  go_wp2_with fail
  have ho1 := World.ownsRow_lit (e := 9) (size := 1) (base := w.heap.size) w #[] 0 (by simp) (by simp [maxLen]) rfl
  go_loopw [4, 5, 6] (fun v bg i wr => ∃ (L : List (Int × ByteArray)) (b k : Nat), k ≤ s.size ∧ i = .int .i64 k ∧ bg = .int .i64 b ∧ LnR s L b k ∧ wr.ownsRow w.heap.size 9 1 v (lsnd L).length (strVals (lsnd L)) ∧ Below w.heap.size w wr) (fun _ _ i _ => s.size - (intOf i).toNat)
  case atStart => exact ⟨[], 0, 0, by omega, rfl, rfl, LnR.start s, (by simpa [lsnd, strVals] using ho1), by (repeat' (first | (with_reducible exact Below.refl _ _) | (with_reducible refine Below.alloc ?_ ?_ _) | (with_reducible refine Below.drew ?_) | (with_reducible refine below_drewN ?_ _) | (with_reducible refine Below.setCell ?_ ?_ _) | (with_reducible refine Below.trans ?_ (Below.mono (by assumption) ?_)) | (with_reducible exact Nat.le_refl _) | omega | (simp; omega) | (simp; done)))⟩
  case round =>
    obtain ⟨L, b, k, hk, rfl, rfl, hR, hown, hB⟩ := hrel
    have hbk := hR.le
    have hLl := hR.len
    have HR := Lib.hid hR
    have hLe : (lsnd L).length = L.length := by simp [lsnd]
    have HLe := Lib.hid hLe
    have hz := hB.size
    clear hR hLe
    by_cases hlt : k < s.size
    · by_cases hc : s[k] = 10
      · have HN := Lib.hid (HR.out.cut hlt hc)
        have hc' : ((s[k].toNat : Int) == 10) = true := by rw [hc]; rfl
        have hll : (lsnd L).length ≤ 8192 := by rw [HLe.out]; omega
        have HC := Lib.hid hc
        clear hc ho1
        go_wp2_with (at_builtin; refine wpList_append_own _ rfl _ _ 81 rfl w.heap.size 9 i0 (.string ⟨#[]⟩) 1 16 Tryd.underlying81 HI.out.1 HI.out.2.1 HI.out.2.2.1 HI.out.2.2.2 rfl (by decide) _ _ _ rfl (hown.alloc _) ⟨wr.heap.size, 0, none⟩ 1 1 [.string (s.extract b k)] rfl rfl ?c1 ?c2 ?c3 ?c4 ?c5 ?_)
        case c1 => exact cell_one_new _ _ _
        case c2 => simp [Value.oneCell']
        case c3 => unfold maxLen; omega
        case c4 => omega
        case c5 => simp; omega
        intro v' w4 hown' hgrow _
        have HO := Lib.hid (str_hit (x := (L.length : Int) + 1) hown')
        have hW4 := Below.grown (hB.alloc hz _) hgrow (by simp; omega) (fun j e => (hown.lt j e).1)
        clear hown' hgrow hown
        go_wp2_with fail
        go_roundw
        case rel => exact ⟨_, k + 1, k + 1, by omega, by go_num, by go_num, HN.out, HO.out, hW4⟩
        case measure => simp [intOf]; omega
      · have HN := Lib.hid (HR.out.go hlt hc)
        have hc' : ((s[k].toNat : Int) == 10) = false := by
          rw [beq_eq_false_iff_ne]; intro e; apply hc; apply UInt8.toNat_inj.1
          have e10 : (10 : UInt8).toNat = 10 := rfl
          omega
        have HC := Lib.hid hc
        have HO := Lib.hid hown
        clear hc hown ho1
        go_wp2_with fail
        go_roundw
        case rel => exact ⟨L, b, k + 1, by omega, by go_num, rfl, HN.out, HO.out, hB⟩
        case measure => simp [intOf]; omega
    · have hks : k = s.size := by omega
      have HKS := Lib.hid hks
      clear hks ho1
      by_cases hbs : b < s.size
      · obtain ⟨e1, e2⟩ := HR.out.open HKS.out hbs
        have E1 := Lib.hid e1
        have E2 := Lib.hid e2
        have hll : (lsnd L).length ≤ 8192 := by rw [HLe.out]; omega
        clear e1 e2
        go_wp2_with (at_builtin; refine wpList_append_own _ rfl _ _ 81 rfl w.heap.size 9 i0 (.string ⟨#[]⟩) 1 16 Tryd.underlying81 HI.out.1 HI.out.2.1 HI.out.2.2.1 HI.out.2.2.2 rfl (by decide) _ _ _ rfl (hown.alloc _) ⟨wr.heap.size, 0, none⟩ 1 1 [.string (s.extract b s.size)] rfl rfl ?d1 ?d2 ?d3 ?d4 ?d5 ?_)
        case d1 => exact cell_one_new _ _ _
        case d2 => simp [Value.oneCell']
        case d3 => unfold maxLen; omega
        case d4 => omega
        case d5 => simp; omega
        intro v' w4 hown' hgrow _
        have HO := Lib.hid (str_hit (x := 0) hown')
        have hW4 := Below.grown (hB.alloc hz _) hgrow (by simp; omega) (fun j e => (hown.lt j e).1)
        clear hown' hgrow hown
        go_wp2_with fail
        go_ret2
        refine ⟨v', by rw [E2.out]; rfl, ?_, hW4⟩
        rw [E1.out]
        exact HO.out
      · obtain ⟨e1, e2⟩ := HR.out.done HKS.out (by omega)
        have E1 := Lib.hid e1
        have E2 := Lib.hid e2
        have HO := Lib.hid hown
        clear e1 e2 hown
        go_wp2_with fail
        go_ret2
        refine ⟨_, by rw [E2.out]; rfl, ?_, hB⟩
        rw [E1.out]
        exact HO.out
end Go.Proofs.YtgnlanfpholdaaaDoor

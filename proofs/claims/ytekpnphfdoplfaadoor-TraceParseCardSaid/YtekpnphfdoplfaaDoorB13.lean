/- The reference's split. -/
import Derived.Test.YtekpnphfdoplfaaDoorB12
namespace Go.Proofs.YtekpnphfdoplfaaDoor
open Go.RowKit
theorem cell_one_new' (W : World) (t : TypeId) (v : Value) (j : Nat) (u : Value) (h : [v][j]? = some u) : (W.alloc (.cells #[v] t)).cell? ((⟨W.heap.size, 0, none⟩ : Addr).add j) = some u := by
  match j, h with
  | 0, h => simp at h; subst h; simp [Addr.add, go_sem]
  | j + 1, h => simp at h
theorem ba_ext {a b : ByteArray} (h : a.data.toList = b.data.toList) : a = b := by
  cases a; cases b; simp at h; simp [h]
/-- the pieces so far: those ahead of place b -/
structure SpR (s : List UInt8) (L : List (List UInt8)) (b k : Nat) : Prop where
  le : b ≤ k
  all : splitL s = L ++ splitA ((s.drop b).take (k - b)) (s.drop k)
theorem SpR.start (s : List UInt8) : SpR s [] 0 0 := ⟨Nat.le_refl _, by simp [splitL]⟩
theorem SpR.go {s : List UInt8} {L : List (List UInt8)} {b k : Nat} (h : SpR s L b k) (hk : k < s.length) (hc : s[k] ≠ 32) : SpR s L b (k + 1) := by
  have hle := h.le
  refine ⟨by omega, ?_⟩
  have e : s[b + (k - b)]'(by omega) = s[k] := by congr 1; omega
  rw [h.all, List.drop_eq_getElem_cons hk, splitA, if_neg hc, show k + 1 - b = (k - b) + 1 by omega, List.take_succ_eq_append_getElem (by rw [List.length_drop]; omega), List.getElem_drop, e]
theorem SpR.cut {s : List UInt8} {L : List (List UInt8)} {b k : Nat} (h : SpR s L b k) (hk : k < s.length) (hc : s[k] = 32) : SpR s (L ++ [(s.drop b).take (k - b)]) (k + 1) (k + 1) := by
  refine ⟨Nat.le_refl _, ?_⟩
  rw [h.all, List.drop_eq_getElem_cons hk, splitA, if_pos hc, Nat.sub_self, List.take_zero]
  simp
theorem SpR.done {s : List UInt8} {L : List (List UInt8)} {b : Nat} (h : SpR s L b s.length) : splitL s = L ++ [(s.drop b).take (s.length - b)] := by
  rw [h.all, List.drop_of_length_le (Nat.le_refl _), splitA]
theorem ext_bytes {s : ByteArray} {b k : Nat} : (⟨((s.data.toList.drop b).take (k - b)).toArray⟩ : ByteArray) = s.extract b k := by
  refine (ba_ext ?_).symm
  rw [Lib.extract_data]
theorem str_hit {w1 : World} {n0 : Nat} {v' : Value} {L : List (List UInt8)} {s : ByteArray} {b k : Nat} (_ : b ≤ k) (ho : w1.ownsRow n0 9 1 v' (L.length + 1) (strCells L ++ [.string (s.extract b k)])) : w1.ownsRow n0 9 1 v' (L ++ [(s.data.toList.drop b).take (k - b)]).length (strCells (L ++ [(s.data.toList.drop b).take (k - b)])) := by
  rw [List.length_append, strCells_app, show strCells [(s.data.toList.drop b).take (k - b)] = [.string (s.extract b k)] by rw [← ext_bytes]; rfl]
  exact ho
theorem slc_own {w : World} {base : Nat} {e : TypeId} {z : Nat} {v : Value} {n : Nat} {xs : List Value} (h : w.ownsRow base e z v n xs) : ∃ A c, v = .slice A n c := by
  rcases h.2 with ⟨rfl, h0⟩ | ⟨g, cap, cur, rfl, _⟩
  · exact ⟨none, 0, by rw [h0]⟩
  · exact ⟨_, _, rfl⟩
set_option maxHeartbeats 4000000 in
set_option maxRecDepth 100000 in
theorem split_any (s : ByteArray) (hs : s.size ≤ 65536) (w : World) : Calls Tryd.prog 52 #[.string s] w fun e w' => ∃ v, e = .returned v ∧ w'.ownsRow w.heap.size 9 1 v (splitL s.data.toList).length (strCells (splitL s.data.toList)) ∧ Below w.heap.size w w' := by
  obtain ⟨i0, hi, hz0, hz1, hz2⟩ := info_parts info9
  have HI : Hid ((Tryd.prog.info? 9 = some i0) ∧ i0.zero = some (.string ⟨#[]⟩) ∧ i0.size = 1 ∧ i0.bytes = 16) := ⟨hi, hz0, hz1, hz2⟩
  clear hi hz0 hz1 hz2
  go_enter Tryd.func52, Tryd.ntmps52
  go_wp2_with fail
  have ho1 : w.ownsRow w.heap.size 9 1 (.slice none 0 0) ([] : List (List UInt8)).length (strCells []) := World.ownsRow_nil _ _ _ _
  go_loopw [3, 4, 5] (fun v bg i wr => ∃ (L : List (List UInt8)) (b k : Nat), k ≤ s.size + 1 ∧ i = .int .i64 k ∧ bg = .int .i64 b ∧ Hid (k ≤ s.size → SpR s.data.toList L b k) ∧ Hid (k = s.size + 1 → splitL s.data.toList = L) ∧ wr.ownsRow w.heap.size 9 1 v L.length (strCells L) ∧ L.length ≤ k ∧ Below w.heap.size w wr) (fun _ _ i _ => s.size + 1 - (intOf i).toNat)
  case atStart => exact ⟨[], 0, 0, by omega, rfl, rfl, (fun _ => SpR.start _), (fun h => by omega), ho1, by simp, Below.refl _ _⟩
  case round =>
    clear ho1
    obtain ⟨L, b, k, hk, rfl, rfl, hR, hF, hown, hLl, hB⟩ := hrel
    have hz := hB.size
    by_cases hle : k ≤ s.size
    · have HR := Lib.hid (hR.out hle)
      have hbk := HR.out.le
      have ki : (k : Int) ≤ s.size := by omega
      have hll : L.length ≤ 65537 := by omega
      clear hR hF
      by_cases hlt : k < s.size
      · have ke : ((k : Int) == (s.size : Int)) = false := by rw [beq_eq_false_iff_ne]; omega
        have HF : ∀ L', Hid (k + 1 = s.size + 1 → splitL s.data.toList = L') := fun L' h => by omega
        by_cases hc : s[k] = 32
        · have HN : Hid (k + 1 ≤ s.size → SpR s.data.toList _ (k + 1) (k + 1)) := fun _ => HR.out.cut hlt hc
          replace HF := HF (L ++ [(s.data.toList.drop b).take (k - b)])
          have hc' : ((s[k].toNat : Int) == 32) = true := by rw [hc]; rfl
          clear hc
          go_wp2_with (at_builtin; refine wpList_append_own _ rfl _ _ 73 rfl w.heap.size 9 i0 (.string ⟨#[]⟩) 1 16 Tryd.underlying73 HI.out.1 HI.out.2.1 HI.out.2.2.1 HI.out.2.2.2 rfl (by decide) _ _ _ rfl (hown.alloc _) ⟨wr.heap.size, 0, none⟩ 1 1 [.string (s.extract b k)] rfl rfl ?c1 ?c2 ?c3 ?c4 ?c5 ?_)
          case c1 => exact cell_one_new _ _ _
          case c2 => simp [Value.oneCell']
          case c3 => unfold maxLen; omega
          case c4 => omega
          case c5 => simp; omega
          intro v' w4 hown' hgrow _
          have HO := Lib.hid (str_hit hbk hown')
          have hW4 := Below.grown (hB.alloc hz _) hgrow (by simp; omega) (fun j e => (hown.lt j e).1)
          clear hown' hgrow hown
          go_wp2_with fail
          go_roundw
          case rel => exact ⟨_, k + 1, k + 1, by omega, by go_num, by go_num, HN.out, HF.out, HO.out, by rw [List.length_append, List.length_singleton]; omega, hW4⟩
          case measure => simp [intOf]; omega
        · have HN : Hid (k + 1 ≤ s.size → SpR s.data.toList L b (k + 1)) := fun _ => HR.out.go hlt hc
          replace HF := HF L
          have hc' : ((s[k].toNat : Int) == 32) = false := u8_ne 32 hc
          have HO := Lib.hid hown
          clear hc hown
          go_wp2_with fail
          go_roundw
          case rel => exact ⟨L, b, k + 1, by omega, by go_num, rfl, HN.out, HF.out, HO.out, by omega, hB⟩
          case measure => simp [intOf]; omega
      · have hks : k = s.size := by omega
        have ke : ((k : Int) == (s.size : Int)) = true := by rw [beq_iff_eq]; omega
        have HN : Hid (k + 1 ≤ s.size → SpR s.data.toList (L ++ [(s.data.toList.drop b).take (k - b)]) (k + 1) (k + 1)) := fun h => by omega
        have HF : Hid (k + 1 = s.size + 1 → splitL s.data.toList = L ++ [(s.data.toList.drop b).take (k - b)]) := fun _ => by
          have hl : s.data.toList.length = k := by rw [hks]; rfl
          have := HR.out
          rw [← hl] at this
          have := this.done
          rwa [hl] at this
        clear hks
        go_wp2_with (at_builtin; refine wpList_append_own _ rfl _ _ 73 rfl w.heap.size 9 i0 (.string ⟨#[]⟩) 1 16 Tryd.underlying73 HI.out.1 HI.out.2.1 HI.out.2.2.1 HI.out.2.2.2 rfl (by decide) _ _ _ rfl (hown.alloc _) ⟨wr.heap.size, 0, none⟩ 1 1 [.string (s.extract b k)] rfl rfl ?c1 ?c2 ?c3 ?c4 ?c5 ?_)
        case c1 => exact cell_one_new _ _ _
        case c2 => simp [Value.oneCell']
        case c3 => unfold maxLen; omega
        case c4 => omega
        case c5 => simp; omega
        intro v' w4 hown' hgrow _
        have HO := Lib.hid (str_hit hbk hown')
        have hW4 := Below.grown (hB.alloc hz _) hgrow (by simp; omega) (fun j e => (hown.lt j e).1)
        clear hown' hgrow hown
        go_wp2_with fail
        go_roundw
        case rel => exact ⟨_, k + 1, k + 1, by omega, by go_num, by go_num, HN.out, HF.out, HO.out, by rw [List.length_append, List.length_singleton]; omega, hW4⟩
        case measure => simp [intOf]; omega
    · obtain rfl : k = s.size + 1 := by omega
      have HL := Lib.hid (hF.out rfl)
      have ki : ¬ ((s.size : Int) + 1) ≤ s.size := by omega
      clear hR hF
      obtain ⟨A8, c8, rfl⟩ := slc_own hown
      have HO := Lib.hid hown
      clear hown
      go_wp2_with fail
      go_ret
      exact ⟨_, rfl, by rw [HL.out]; exact HO.out, hB⟩
end Go.Proofs.YtekpnphfdoplfaaDoor

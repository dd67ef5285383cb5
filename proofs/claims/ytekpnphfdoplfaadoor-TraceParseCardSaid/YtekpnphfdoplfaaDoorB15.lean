/- The reference's Parse. -/
import Derived.Test.YtekpnphfdoplfaaDoorB14
import Derived.Test.YtekpnphfdoplfaaDoorP5
namespace Go.Proofs.YtekpnphfdoplfaaDoor
open Go.RowKit Go.Shelf
/-- the reading under way: entries acc are read, the line at b is looked at up to k -/
def RS (s : List UInt8) (b k : Nat) (acc : List Ent) : Prop := (10 : UInt8) ∉ (s.drop b).take (k - b) ∧ scanT [] (lns 1 s) = scanT acc (lns (acc.length + 1) (s.drop b))
theorem RS.start (s : List UInt8) : RS s 0 0 [] := ⟨by simp, rfl⟩
theorem RS.go {s : List UInt8} {b k : Nat} {acc : List Ent} (h : RS s b k acc) (hb : b ≤ k) (hk : k < s.length) (hc : s[k] ≠ 10) : RS s b (k + 1) acc := by
  refine ⟨?_, h.2⟩
  have e : s[b + (k - b)]'(by omega) = s[k] := by congr 1; omega
  rw [show k + 1 - b = (k - b) + 1 by omega, List.take_succ_eq_append_getElem (by rw [List.length_drop]; omega), List.getElem_drop, e, List.mem_append, not_or]
  exact ⟨h.1, by simp only [List.mem_singleton]; exact fun e => hc e.symm⟩
theorem line_at {s : List UInt8} {b k : Nat} (hb : b ≤ k) (hk : k < s.length) (hc : s[k] = 10) : s.drop b = (s.drop b).take (k - b) ++ 10 :: s.drop (k + 1) := by
  have h1 : (s.drop b).drop (k - b) = 10 :: s.drop (k + 1) := by rw [List.drop_drop, show b + (k - b) = k by omega, List.drop_eq_getElem_cons hk, hc]
  rw [← h1, List.take_append_drop]
theorem RS.next {s : List UInt8} {b k : Nat} {acc : List Ent} (h : RS s b k acc) (hb : b ≤ k) (hk : k < s.length) (hc : s[k] = 10) : scanT [] (lns 1 s) = (match entOf ((s.drop b).take (k - b) ++ [10]) with | none => .error ((acc.length : Int) + 1) | some y => scanT (acc ++ [y]) (lns ((acc.length : Int) + 1 + 1) (s.drop (k + 1)))) := by
  have hl := line_at hb hk hc
  have h1 := h.1
  rw [h.2]
  generalize (s.drop b).take (k - b) = ln at *
  rw [hl, lns_line _ _ h1, scanT]
  rfl
theorem RS.yes {s : List UInt8} {b k : Nat} {acc : List Ent} {y : Ent} (h : RS s b k acc) (hb : b ≤ k) (hk : k < s.length) (hc : s[k] = 10) (he : IsT ((s.drop b).take (k - b) ++ [10]) y) : RS s (k + 1) (k + 1) (acc ++ [y]) := by
  refine ⟨by simp, ?_⟩
  rw [h.next hb hk hc, entOf_some he]
  simp
theorem RS.no {s : List UInt8} {b k : Nat} {acc : List Ent} (h : RS s b k acc) (hb : b ≤ k) (hk : k < s.length) (hc : s[k] = 10) (he : ∀ z, ¬ IsT ((s.drop b).take (k - b) ++ [10]) z) : scanT [] (lns 1 s) = .error ((acc.length : Int) + 1) := by
  rw [h.next hb hk hc, entOf_none he]
theorem RS.tail {s : List UInt8} {b : Nat} {acc : List Ent} (h : RS s b s.length acc) (hb : b < s.length) : scanT [] (lns 1 s) = .error ((acc.length : Int) + 1) := by
  have hne : s.drop b ≠ [] := by intro e; have := congrArg List.length e; rw [List.length_drop] at this; simp at this; omega
  have h10 : (10 : UInt8) ∉ s.drop b := by have := h.1; rwa [List.take_of_length_le (by rw [List.length_drop]; exact Nat.le_refl _)] at this
  have hn : entOf (s.drop b) = none := entOf_none fun z hz => by
    apply h10
    rw [← hz.2]; simp [textL]
  rw [h.2, lns_cons _ hne, lineOf, cut_miss h10, scanT]
  show (match entOf (s.drop b) with | none => _ | some y => _) = _
  rw [hn]
theorem RS.done {s : List UInt8} {acc : List Ent} {k : Nat} (h : RS s s.length k acc) : scanT [] (lns 1 s) = .ok acc := by
  rw [h.2, List.drop_of_length_le (Nat.le_refl _), lns_nil, scanT]
theorem rparse_err {s : ByteArray} {n : Int} (hs : s.size ≤ 65536) (h : scanT [] (lns 1 s.data.toList) = .error n) : parseR s = ([], n, 3) := by
  unfold parseR
  rw [if_neg (by omega)]
  show (match scanT [] (lns 1 s.data.toList) with | .error n => _ | .ok es => _) = _
  rw [h]
theorem rparse_end {s : ByteArray} {es : List Ent} (hs : s.size ≤ 65536) (h : scanT [] (lns 1 s.data.toList) = .ok es) : parseR s = if chkE es ≠ 0 then ([], 0, 9) else (es, 0, 0) := by
  unfold parseR
  rw [if_neg (by omega)]
  show (match scanT [] (lns 1 s.data.toList) with | .error n => _ | .ok es => _) = _
  rw [h]
theorem ext_ten (s : ByteArray) (b k : Nat) : (s.extract b k).data.toList ++ [10] = (s.data.toList.drop b).take (k - b) ++ [10] := by rw [Lib.extract_data]
set_option maxHeartbeats 4000000 in
set_option maxRecDepth 100000 in
theorem rparse_in (s : ByteArray) (w : World) (hs : s.size ≤ 65536) : Calls Tryd.prog 12 #[.string s] w (ParsePost s w) := by
  have hi : ¬ (65536 : Int) < s.size := by omega
  have hsl : s.data.toList.length = s.size := rfl
  have HSL := Lib.hid hsl
  clear hsl
  go_enter Tryd.func12, Tryd.ntmps12
  go_wp2_with fail
  go_loopw [5, 6, 7] (fun V bg i wr => ∃ (k b : Nat) (acc : List Ent), k ≤ s.size ∧ b ≤ k ∧ i = .int .i64 k ∧ bg = .int .i64 b ∧ acc.length ≤ k ∧ wr.ownsRow w.heap.size 37 6 V acc.length (entCells acc) ∧ Hid (RS s.data.toList b k acc) ∧ Below w.heap.size w wr) (fun _ _ i _ => s.size - (intOf i).toNat)
  case atStart => exact ⟨0, 0, [], by omega, by omega, rfl, rfl, by simp, World.ownsRow_nil _ _ _ _, RS.start _, Below.refl _ _⟩
  case round =>
    obtain ⟨k, b, acc, hk, hbk, rfl, rfl, hal, hown, HR, hB⟩ := hrel
    have hzr := hB.size
    obtain ⟨A, c, rfl⟩ := slc_own hown
    have HO := Lib.hid hown
    clear hown
    by_cases hlt : k < s.size
    · have ki : (k : Int) < s.size := by omega
      by_cases hc : s[k] = 10
      · have hc' : ((s[k].toNat : Int) != 10) = false := by rw [hc]; rfl
        have hlt' : k < s.data.toList.length := by rw [HSL.out]; exact hlt
        have hx : (s.extract b k).size ≤ 65536 := by rw [ByteArray.size_extract]; omega
        have HN : Hid ((∀ z, ¬ IsT ((s.extract b k).data.toList ++ [10]) z) → parseR s = ([], (acc.length : Int) + 1, 3)) := fun h => rparse_err hs (HR.out.no hbk hlt' hc (fun z hz => h z (by rw [ext_ten]; exact hz)))
        have HY : Hid (∀ y, IsT ((s.extract b k).data.toList ++ [10]) y → RS s.data.toList (k + 1) (k + 1) (acc ++ [y])) := fun y hy => HR.out.yes hbk hlt' hc (by rw [← ext_ten]; exact hy)
        clear hc hlt' HR
        go_wp2_with fail
        refine (rline_any (s.extract b k) wr hx).mono ?_
        generalize (s.extract b k).data.toList ++ [10] = L at *
        rintro e w1 ⟨y, q, rfl, hb1, hq1, hq2⟩
        have hD1 := hB.trans (hb1.mono hzr)
        have hz1 := hD1.size
        have HO1 := Lib.hid (own_below HO.out hb1)
        cases q with
        | false =>
          have HE := Lib.hid (HN.out (fun z hz => by have := (hq2 z hz).1; cases this))
          clear hq1 hq2 HN HY
          go_wp2_with fail
          refine bodyPost_ret (v := .tuple #[(.slice none 0 0), .int .i64 ((acc.length : Int) + 1), .int .i64 3]) (by simp [results, Tryd.results12, go_sem]) rfl ⟨_, by rw [HE.out], by rw [HE.out]; exact ents_nil _ _, (by (repeat' (first | (with_reducible exact Below.refl _ _) | (with_reducible refine Below.alloc ?_ ?_ _) | (with_reducible refine Below.drew ?_) | (with_reducible refine below_drewN ?_ _) | (with_reducible refine Below.setCell ?_ ?_ _) | (with_reducible refine Below.trans ?_ (Below.mono (by assumption) ?_)) | (with_reducible exact Nat.le_refl _) | omega | (simp; omega) | (simp; done))))⟩
        | true =>
          have HE := Lib.hid (HY.out y (hq1 rfl))
          clear hq1 hq2 HN HY
          go_wp2_with (at_builtin; refine app_ent (w1.alloc (.cells #[.int .i64 y.t, .int .i64 y.k, .int .i64 y.n, .int .i64 y.j, .int .i64 y.c, .int .i64 y.v] 37)) rfl (.tmp 36) (.tmp 38) rfl w.heap.size _ acc y rfl ?q1_1 (HO1.out.alloc _) ?q1_2 ?q1_3 ?_)
          case q1_1 => simp [go_sem]
          case q1_2 => omega
          case q1_3 => simp; omega
          intro g5 c5 w5 hown5 hgrow5 hB5 _
          have HO5 := Lib.hid hown5
          have hD5 : Below w.heap.size w w5 := (hD1.alloc hz1 _).trans hB5
          clear hown5 hgrow5 hB5
          go_wp2_with fail
          go_roundw
          case rel => exact ⟨k + 1, k + 1, acc ++ [y], by omega, by omega, by go_num, by go_num, by simp; omega, by rw [List.length_append]; exact HO5.out, HE.out, hD5⟩
          case measure => simp [intOf]; omega
      · have hc' : ((s[k].toNat : Int) != 10) = true := by simpa using u8_ne 10 hc
        have hlt' : k < s.data.toList.length := by rw [HSL.out]; exact hlt
        have HN := Lib.hid (HR.out.go hbk hlt' hc)
        clear hc hlt' HR
        go_wp2_with fail
        go_roundw
        case rel => exact ⟨k + 1, b, acc, by omega, by omega, by go_num, rfl, by omega, HO.out, HN.out, hB⟩
        case measure => simp [intOf]; omega
    · obtain rfl : k = s.size := by omega
      have ki : ¬ (s.size : Int) < s.size := by omega
      by_cases hbs : b < s.size
      · have bi : (b : Int) < s.size := by omega
        have HE := Lib.hid (rparse_err hs (RS.tail (by rw [HSL.out]; exact HR.out) (by rw [HSL.out]; exact hbs)))
        clear HR
        go_wp2_with fail
        refine bodyPost_ret (v := .tuple #[(.slice none 0 0), .int .i64 ((acc.length : Int) + 1), .int .i64 3]) (by simp [results, Tryd.results12, go_sem]) rfl ⟨_, by rw [HE.out], by rw [HE.out]; exact ents_nil _ _, (by (repeat' (first | (with_reducible exact Below.refl _ _) | (with_reducible refine Below.alloc ?_ ?_ _) | (with_reducible refine Below.drew ?_) | (with_reducible refine below_drewN ?_ _) | (with_reducible refine Below.setCell ?_ ?_ _) | (with_reducible refine Below.trans ?_ (Below.mono (by assumption) ?_)) | (with_reducible exact Nat.le_refl _) | omega | (simp; omega) | (simp; done))))⟩
      · have bi : ¬ (b : Int) < s.size := by omega
        obtain rfl : b = s.size := by omega
        have HE := Lib.hid (rparse_end hs (RS.done (k := s.size) (by rw [HSL.out]; exact HR.out)))
        clear HR
        go_wp2_with fail
        refine (rcheck_any _ acc _ (ents_of_own HO.out)).mono ?_
        rintro e w1 ⟨rfl, hb1⟩
        by_cases hz : chkE acc = 0
        · have hzb : (chkE acc != 0) = false := by simp [hz]
          have HF : Hid (parseR s = (acc, 0, 0)) := by show _ = _; rw [HE.out, if_neg (by simp [hz])]
          clear HE
          generalize chkE acc = ce at *
          have HO1 := Lib.hid (own_below HO.out hb1)
          clear hz
          go_wp2_with fail
          refine bodyPost_ret (v := .tuple #[(.slice A acc.length c), .int .i64 0, .int .i64 0]) (by simp [results, Tryd.results12, go_sem]) rfl ⟨_, by rw [HF.out], by rw [HF.out]; exact ents_of_own HO1.out, (by (repeat' (first | (with_reducible exact Below.refl _ _) | (with_reducible refine Below.alloc ?_ ?_ _) | (with_reducible refine Below.drew ?_) | (with_reducible refine below_drewN ?_ _) | (with_reducible refine Below.setCell ?_ ?_ _) | (with_reducible refine Below.trans ?_ (Below.mono (by assumption) ?_)) | (with_reducible exact Nat.le_refl _) | omega | (simp; omega) | (simp; done))))⟩
        · have hzb : (chkE acc != 0) = true := by simpa using hz
          have HF : Hid (parseR s = ([], 0, 9)) := by show _ = _; rw [HE.out, if_pos hz]
          clear HE
          generalize chkE acc = ce at *
          clear hz
          go_wp2_with fail
          refine bodyPost_ret (v := .tuple #[(.slice none 0 0), .int .i64 0, .int .i64 9]) (by simp [results, Tryd.results12, go_sem]) rfl ⟨_, by rw [HF.out], by rw [HF.out]; exact ents_nil _ _, (by (repeat' (first | (with_reducible exact Below.refl _ _) | (with_reducible refine Below.alloc ?_ ?_ _) | (with_reducible refine Below.drew ?_) | (with_reducible refine below_drewN ?_ _) | (with_reducible refine Below.setCell ?_ ?_ _) | (with_reducible refine Below.trans ?_ (Below.mono (by assumption) ?_)) | (with_reducible exact Nat.le_refl _) | omega | (simp; omega) | (simp; done))))⟩
theorem rparse_any (s : ByteArray) (w : World) : Calls Tryd.prog 12 #[.string s] w (ParsePost s w) := by
  by_cases hs : s.size ≤ 65536
  · exact rparse_in s w hs
  · have hP : parseR s = ([], 0, 4) := by unfold parseR; rw [if_pos (by omega)]
    have HP := Lib.hid hP
    have hi : (65536 : Int) < s.size := by omega
    clear hP hs
    go_enter Tryd.func12, Tryd.ntmps12
    go_wp2_with fail
    refine bodyPost_ret (v := .tuple #[(.slice none 0 0), .int .i64 0, .int .i64 4]) (by simp [results, Tryd.results12, go_sem]) rfl ⟨_, by rw [HP.out], by rw [HP.out]; exact ents_nil _ _, (by (repeat' (first | (with_reducible exact Below.refl _ _) | (with_reducible refine Below.alloc ?_ ?_ _) | (with_reducible refine Below.drew ?_) | (with_reducible refine below_drewN ?_ _) | (with_reducible refine Below.setCell ?_ ?_ _) | (with_reducible refine Below.trans ?_ (Below.mono (by assumption) ?_)) | (with_reducible exact Nat.le_refl _) | omega | (simp; omega) | (simp; done))))⟩
end Go.Proofs.YtekpnphfdoplfaaDoor

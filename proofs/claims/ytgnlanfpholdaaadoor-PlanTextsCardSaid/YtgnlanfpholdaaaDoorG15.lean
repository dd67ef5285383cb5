/- The reference's ParseLine. -/
import Derived.Test.YtgnlanfpholdaaaDoorP7
import Derived.Test.YtgnlanfpholdaaaDoorG14
namespace Go.Proofs.YtgnlanfpholdaaaDoor
open Go.RowKit
/-- the digits read so far: those from place 1 to place z, their value v -/
structure Sc (s : ByteArray) (z v : Nat) : Prop where
  one : 1 ≤ z
  le : z ≤ s.size
  dig : ∀ x ∈ (s.data.toList.drop 1).take (z - 1), isDig x = true
  val : Lib.decFrom 0 ((s.data.toList.drop 1).take (z - 1)) = some v
theorem Sc.start (s : ByteArray) (h : 2 ≤ s.size) : Sc s 1 0 := ⟨by omega, by omega, fun x hx => by simp at hx, rfl⟩
theorem take_next {s : ByteArray} {z : Nat} (h1 : 1 ≤ z) (h : z < s.size) : (s.data.toList.drop 1).take (z + 1 - 1) = (s.data.toList.drop 1).take (z - 1) ++ [s[z]] := by
  have hk : z < s.data.toList.length := by simpa using h
  rw [show z + 1 - 1 = (z - 1) + 1 by omega, List.take_succ_eq_append_getElem (by rw [List.length_drop]; omega), List.getElem_drop]
  have e : s.data.toList[1 + (z - 1)]'(by omega) = s[z] := by
    rw [show s[z] = s.data.toList[z]'hk from rfl]
    congr 1; omega
  rw [e]
theorem Sc.go {s : ByteArray} {z v : Nat} (h : Sc s z v) (hz : z < s.size) (h1 : 48 ≤ s[z].toNat) (h2 : s[z].toNat ≤ 57) : Sc s (z + 1) (v * 10 + (s[z].toNat - 48)) := by
  have e := take_next h.one hz
  have hd : isDig s[z] = true := decide_eq_true ⟨h1, h2⟩
  refine ⟨by omega, hz, ?_, ?_⟩
  · rw [e]
    intro x hx
    rcases List.mem_append.1 hx with hx | hx
    · exact h.dig x hx
    · rw [List.mem_singleton.1 hx]; exact hd
  · rw [e]
    exact decFrom_snoc _ _ _ _ _ h.val ((dig_digit _).1 hd).1
theorem Sc.zero {s : ByteArray} {v : Nat} (h : Sc s 1 v) : v = 0 := by
  have := h.val
  simp [Lib.decFrom] at this
  omega
/-- the rest behind the digits begins with none -/
def NoDig (s : ByteArray) (z : Nat) : Prop := z = s.size ∨ ∃ h : z < s.size, ¬ (48 ≤ s[z].toNat ∧ s[z].toNat ≤ 57)
theorem list_one {s : ByteArray} (h2 : 2 ≤ s.size) (h0 : s[0] = 32) : s.data.toList = 32 :: s.data.toList.drop 1 := by
  have hk : 0 < s.data.toList.length := by simp; omega
  have e := List.drop_eq_getElem_cons hk
  rw [List.drop_zero] at e
  have e2 : s.data.toList[0] = 32 := h0
  rw [e2] at e
  exact e
theorem Sc.split {s : ByteArray} {z v : Nat} (h : Sc s z v) (hn : NoDig s z) : (s.data.toList.drop 1).takeWhile isDig = (s.data.toList.drop 1).take (z - 1) ∧ (s.data.toList.drop 1).dropWhile isDig = s.data.toList.drop z := by
  have h1 := h.one
  have e : s.data.toList.drop 1 = (s.data.toList.drop 1).take (z - 1) ++ s.data.toList.drop z := by
    have := (List.take_append_drop (z - 1) (s.data.toList.drop 1)).symm
    rw [List.drop_drop, show 1 + (z - 1) = z by omega] at this
    exact this
  have ht : s.data.toList.drop z = [] ∨ ∃ c t, s.data.toList.drop z = c :: t ∧ isDig c = false := by
    rcases hn with hn | ⟨hz, hn⟩
    · exact .inl (List.drop_of_length_le (by simp; omega))
    · have hk : z < s.data.toList.length := by simpa using hz
      exact .inr ⟨_, _, List.drop_eq_getElem_cons hk, decide_eq_false hn⟩
  have := take_digits h.dig ht
  rw [← e] at this
  exact this
theorem Sc.len {s : ByteArray} {z v : Nat} (h : Sc s z v) : ((s.data.toList.drop 1).take (z - 1)).length = z - 1 := by
  have := h.le
  rw [List.length_take, List.length_drop]
  simp; omega
theorem head_one {s : ByteArray} (h2 : 2 ≤ s.size) : (s.data.toList.drop 1).head? = some s[1] := by
  have hk : 1 < s.data.toList.length := by simp; omega
  rw [List.drop_eq_getElem_cons hk]; rfl
theorem Sc.ok {s : ByteArray} {z v : Nat} (h : Sc s z v) (hn : NoDig s z) (h2 : 2 ≤ s.size) (h0 : s[0] = 32) (h1 : z ≠ 1) (hl : z = 2 ∨ s[1] ≠ 48) (hv : v ≤ 1099511627776) : numR s.data.toList = some (v, s.data.toList.drop z) := by
  obtain ⟨e1, e2⟩ := h.split hn
  have hlen := h.len
  have hz := h.one
  rw [list_one h2 h0]
  unfold numR
  simp only [if_true, e1, e2]
  have hd : Lib.decNat ((s.data.toList.drop 1).take (z - 1)) = some v := by
    unfold Lib.decNat
    rw [if_neg, h.val]
    intro he
    rw [List.isEmpty_iff] at he
    rw [he] at hlen
    simp at hlen; omega
  rw [hd]
  simp only
  rw [if_pos]
  · rw [← list_one h2 h0]
  · refine ⟨?_, hv⟩
    rcases hl with hl | hl
    · exact .inl (by rw [hlen]; omega)
    · refine .inr ?_
      rw [head_one h2]
      simpa using hl
theorem numR_short {s : ByteArray} (h : s.size < 2) : numR s.data.toList = none := by
  have hl : s.data.toList.length < 2 := by simpa using h
  match s.data.toList, hl with
  | [], _ => rfl
  | [c], _ =>
    unfold numR
    simp [Lib.decNat]
theorem numR_head {s : ByteArray} (h2 : 2 ≤ s.size) (h0 : s[0] ≠ 32) : numR s.data.toList = none := by
  have hk : 0 < s.data.toList.length := by simp; omega
  have e := List.drop_eq_getElem_cons hk
  rw [List.drop_zero] at e
  have e2 : s.data.toList[0] = s[0] := rfl
  rw [e]
  unfold numR
  simp only
  rw [if_neg (by rw [e2]; exact h0)]
theorem Sc.none1 {s : ByteArray} {v : Nat} (h : Sc s 1 v) (hn : NoDig s 1) (h2 : 2 ≤ s.size) (h0 : s[0] = 32) : numR s.data.toList = none := by
  obtain ⟨e1, e2⟩ := h.split hn
  rw [list_one h2 h0]
  unfold numR
  simp only [if_true, e1]
  simp [Lib.decNat]
theorem takeWhile_pre {p : UInt8 → Bool} {l a b : List UInt8} (e : l = a ++ b) (h : ∀ x ∈ a, p x = true) : l.takeWhile p = a ++ b.takeWhile p := by
  subst e
  exact List.takeWhile_append_of_pos h
theorem numR_zero {s : ByteArray} {z v : Nat} (h : Sc s z v) (h2 : 2 < z) (h3 : 2 ≤ s.size) (h0 : s[0] = 32) (h48 : s[1] = 48) : numR s.data.toList = none := by
  have hz := h.le
  rw [list_one (by omega) h0]
  unfold numR
  simp only [if_true]
  split
  · rename_i u hu
    rw [if_neg]
    rintro ⟨hh, _⟩
    rcases hh with hh | hh
    · have e : s.data.toList.drop 1 = (s.data.toList.drop 1).take (z - 1) ++ s.data.toList.drop z := by
        have := (List.take_append_drop (z - 1) (s.data.toList.drop 1)).symm
        rw [List.drop_drop, show 1 + (z - 1) = z by omega] at this
        exact this
      have hge : ((s.data.toList.drop 1).take (z - 1)).length ≤ ((s.data.toList.drop 1).takeWhile isDig).length := by
        rw [takeWhile_pre e h.dig]
        simp
      rw [h.len] at hge
      omega
    · rw [head_one (by omega), h48] at hh
      exact hh rfl
  · rfl
theorem numR_big {s : ByteArray} {z v : Nat} (h : Sc s z v) (h2 : 2 ≤ s.size) (h0 : s[0] = 32) (hv : 1099511627776 < v) : numR s.data.toList = none := by
  have hz := h.one
  rw [list_one h2 h0]
  unfold numR
  simp only [if_true]
  split
  · rename_i u hu
    rw [if_neg]
    rintro ⟨_, hh⟩
    have e : s.data.toList.drop 1 = (s.data.toList.drop 1).take (z - 1) ++ s.data.toList.drop z := by
      have := (List.take_append_drop (z - 1) (s.data.toList.drop 1)).symm
      rw [List.drop_drop, show 1 + (z - 1) = z by omega] at this
      exact this
    have hu' : Lib.decFrom 0 ((s.data.toList.drop 1).takeWhile isDig) = some u := by
      unfold Lib.decNat at hu
      split at hu
      · cases hu
      · exact hu
    rw [takeWhile_pre e h.dig, decFrom_append, h.val] at hu'
    simp only [Option.bind_some] at hu'
    have := decFrom_ge _ _ _ hu'
    omega
  · rfl
theorem scan_none {n k : Nat} {r : List UInt8} (hk : k < n) (h : numR r = none) : scanN (n - k) r = none := by
  rw [show n - k = (n - k - 1) + 1 by omega, scanN, h]
theorem scan_some {n k : Nat} {r t : List UInt8} {v : Nat} (hk : k < n) (h : numR r = some (v, t)) : scanN (n - k) r = (scanN (n - (k + 1)) t).map fun ns => (v : Int) :: ns := by
  rw [show n - k = (n - (k + 1)) + 1 by omega, scanN, h]
/-- what ParseLine leaves -/
def PLPost (L : Option (List Int)) (w : World) (e : Ending) (w' : World) : Prop :=
  ∃ A k c, e = .returned (.tuple #[.slice A k c, .bool L.isSome]) ∧ (∀ ns, L = some ns → w'.ownsRow w.heap.size 3 1 (.slice A k c) ns.length (intCells ns)) ∧ Below w.heap.size w w'
/-- the numbers read so far, and what is left -/
def PLS (L : Option (List Int)) (n k : Nat) (r : ByteArray) (ns : List Int) : Prop := L = (scanN (n - k) r.data.toList).map fun ms => ns ++ ms
theorem PLS.stop {L : Option (List Int)} {n k : Nat} {r : ByteArray} {ns : List Int} (h : PLS L n k r ns) (hk : k < n) (hn : numR r.data.toList = none) : L = none := by rw [h, scan_none hk hn]; rfl
theorem PLS.next {L : Option (List Int)} {n k v z : Nat} {r : ByteArray} {ns : List Int} (h : PLS L n k r ns) (hk : k < n) (hn : numR r.data.toList = some (v, r.data.toList.drop z)) : PLS L n (k + 1) (r.extract z r.size) (ns ++ [(v : Int)]) := by
  unfold PLS
  rw [h, scan_some hk hn, Lib.extract_to_end, Option.map_map]
  congr 1
  funext ms
  simp
theorem PLS.done {L : Option (List Int)} {n : Nat} {r : ByteArray} {ns : List Int} (h : PLS L n n r ns) : L = if r.data.toList = [] then some ns else none := by
  rw [h, Nat.sub_self, scanN]
  split <;> simp
theorem slice_of_own {w : World} {base : Nat} {v : Value} {l : List Int} (h : w.ownsRow base 3 1 v l.length (intCells l)) : ∃ A c, v = .slice A l.length c := by
  obtain ⟨A, c, e, _⟩ := ints_of_own h
  exact ⟨A, c, e⟩
set_option maxHeartbeats 8000000 in
set_option maxRecDepth 100000 in
theorem pline_ok (s wb : ByteArray) (n : Nat) (hs : s.size ≤ 8192) (hw : (32 : UInt8) ∉ wb.data.toList) (hwl : wb.size ≤ 20) (hn : n ≤ 7) (w : World) (r0 : List UInt8) (h0 : s.data.toList = wb.data.toList ++ r0) : Calls Tryd.prog 58 #[.string s, .string wb, .int .i64 n] w (PLPost (lineOf wb.data.toList n s) w) := by
  have hl0 : wb.size ≤ s.size := by
    have := congrArg List.length h0
    simp at this; omega
  have he : s.extract 0 wb.size = wb := by
    refine (ba_ext (l := wb.data.toList) ?_)
    rw [Lib.extract_data, h0]
    simp
  have HX : Hid ((s.extract wb.size s.size).data.toList = r0) := by
    show _ = _
    rw [Lib.extract_to_end, h0]
    simp
  have HP0 : Hid (PLS (lineOf wb.data.toList n s) n 0 (s.extract wb.size s.size) []) := by
    show PLS _ _ _ _ _
    unfold PLS
    rw [HX.out, Nat.sub_zero, ← lineOf_scan hw, ← h0]
    simp
  have hxs : (s.extract wb.size s.size).size ≤ 8192 := by rw [ByteArray.size_extract]; omega
  generalize lineOf wb.data.toList n s = L at *
  clear h0 hw HX
  obtain ⟨i0, hi, hz0, hz1, hz2⟩ := info_parts info3
  have HI : Hid ((Tryd.prog.info? 3 = some i0) ∧ i0.zero = some (.int .i64 0) ∧ i0.size = 1 ∧ i0.bytes = 8) := ⟨hi, hz0, hz1, hz2⟩
  clear hi hz0 hz1 hz2
  have ho1 := World.ownsRow_lit (e := 3) (size := 1) (base := w.heap.size) w #[] 0 (by simp) (by simp [maxLen]) rfl
  have HO1 := Lib.hid ho1
  clear ho1
  go_enter Tryd.func58, Tryd.ntmps58
  go_wp2_with fail
  generalize s.extract wb.size s.size = r1 at *
  go_loopw [0, 8, 9] (fun sv u i wr => ∃ (k : Nat) (r : ByteArray) (ns : List Int), k ≤ n ∧ i = .int .i64 k ∧ sv = .string r ∧ r.size ≤ 8192 ∧ ns.length = k ∧ PLS L n k r ns ∧ wr.ownsRow w.heap.size 3 1 u ns.length (intCells ns) ∧ Below w.heap.size w wr) (fun _ _ i _ => n - (intOf i).toNat)
  case atStart => exact ⟨0, r1, [], by omega, rfl, rfl, hxs, rfl, HP0.out, (by simpa [intCells] using HO1.out), by (repeat' (first | (with_reducible exact Below.refl _ _) | (with_reducible refine Below.alloc ?_ ?_ _) | (with_reducible refine Below.drew ?_) | (with_reducible refine below_drewN ?_ _) | (with_reducible refine Below.setCell ?_ ?_ _) | (with_reducible refine Below.trans ?_ (Below.mono (by assumption) ?_)) | (with_reducible exact Nat.le_refl _) | omega | (simp; omega) | (simp; done)))⟩
  case round =>
    obtain ⟨k, r, ns, hk, rfl, rfl, hrs, hnl, hP, hown, hB⟩ := hrel
    have HP := Lib.hid hP
    have HNl := Lib.hid hnl
    have hnl7 : ns.length ≤ 7 := by omega
    have hz := hB.size
    clear hP hnl
    by_cases hlt : k < n
    · by_cases h2 : 2 ≤ r.size
      · by_cases h0 : r[0] = 32
        · have H0 := Lib.hid h0
          have h0' : ((r[0].toNat : Int) != 32) = false := by rw [h0]; rfl
          clear h0
          go_wp2_with fail
          go_loop [10, 11] (fun zz vv => ∃ z v : Nat, z ≤ r.size ∧ zz = .int .i64 z ∧ vv = .int .i64 v ∧ v ≤ 10995116277769 ∧ Sc r z v) (fun zz _ => r.size - (intOf zz).toNat)
          case atStart => exact ⟨1, 0, by omega, rfl, rfl, by omega, Sc.start r h2⟩
          case round =>
            obtain ⟨z, v, hzs, rfl, rfl, hvb, hSc⟩ := hrel
            have hz1 := hSc.one
            have HSc := Lib.hid hSc
            clear hSc
            by_cases hzlt : z < r.size
            · by_cases d1 : 48 ≤ r[z].toNat
              · by_cases d2 : r[z].toNat ≤ 57
                · by_cases hv : v ≤ 1099511627776
                  · have HN := Lib.hid (HSc.out.go hzlt d1 d2)
                    have e1 : (48 : Int) ≤ r[z].toNat := by omega
                    have e2 : (r[z].toNat : Int) ≤ 57 := by omega
                    clear d1 d2
                    go_wp2_with fail
                    go_round
                    case rel => exact ⟨z + 1, v * 10 + (r[z].toNat - 48), by omega, by go_num, by go_num, by omega, HN.out⟩
                    case measure => simp [intOf]; omega
                  · have e1 : (48 : Int) ≤ r[z].toNat := by omega
                    have e2 : (r[z].toNat : Int) ≤ 57 := by omega
                    clear d1 d2
                    by_cases z1 : z = 1
                    · exact absurd (by subst z1; exact HSc.out.zero) (show v ≠ 0 by omega)
                    · have NR : Hid (numR r.data.toList = none) := numR_big HSc.out h2 H0.out (by omega)
                      have z1b : ((z : Int) == 1) = false := beq_eq_false_iff_ne.2 (by omega)
                      have hvi : (1099511627776 : Int) < v := by omega
                      have hvd : decide ((1099511627776 : Int) < v) = true := decide_eq_true (by omega)
                      by_cases z2 : 2 < z
                      · have z2d : decide ((2 : Int) < z) = true := decide_eq_true (by omega)
                        by_cases h48 : r[1] = 48
                        · have h48' : ((r[1].toNat : Int) == 48) = true := by rw [h48]; rfl
                          have H48 := Lib.hid h48
                          clear h48
                          have HL := Lib.hid (HP.out.stop hlt NR.out)
                          obtain ⟨A8, c8, rfl⟩ := slice_of_own hown
                          clear hown
                          go_wp2_with fail
                          go_ret2
                          exact ⟨A8, _, c8, by rw [HL.out]; rfl, fun ms h => by (rw [HL.out] at h; cases h), hB⟩
                        · have h48' : ((r[1].toNat : Int) == 48) = false := by
                            rw [beq_eq_false_iff_ne]; intro e; apply h48; apply UInt8.toNat_inj.1
                            have e10 : (48 : UInt8).toNat = 48 := rfl
                            omega
                          have H48 := Lib.hid h48
                          clear h48
                          have HL := Lib.hid (HP.out.stop hlt NR.out)
                          obtain ⟨A8, c8, rfl⟩ := slice_of_own hown
                          clear hown
                          go_wp2_with fail
                          go_ret2
                          exact ⟨A8, _, c8, by rw [HL.out]; rfl, fun ms h => by (rw [HL.out] at h; cases h), hB⟩
                      · have z2d : decide ((2 : Int) < z) = false := decide_eq_false (by omega)
                        have HL := Lib.hid (HP.out.stop hlt NR.out)
                        obtain ⟨A8, c8, rfl⟩ := slice_of_own hown
                        clear hown
                        go_wp2_with fail
                        go_ret2
                        exact ⟨A8, _, c8, by rw [HL.out]; rfl, fun ms h => by (rw [HL.out] at h; cases h), hB⟩
                · by_cases hv : v ≤ 1099511627776
                  · have e1 : (48 : Int) ≤ r[z].toNat := by omega
                    have e2 : ¬ (r[z].toNat : Int) ≤ 57 := by omega
                    have hnd : NoDig r z := .inr ⟨hzlt, fun h => d2 h.2⟩
                    have HND := Lib.hid hnd
                    clear hnd
                    have hvi : (v : Int) ≤ 1099511627776 := by omega
                    have hvd : decide ((1099511627776 : Int) < v) = false := decide_eq_false (by omega)
                    by_cases z1 : z = 1
                    · have NR : Hid (numR r.data.toList = none) := by subst z1; exact HSc.out.none1 HND.out h2 H0.out
                      subst z1
                      have HL := Lib.hid (HP.out.stop hlt NR.out)
                      obtain ⟨A8, c8, rfl⟩ := slice_of_own hown
                      clear hown
                      go_wp2_with fail
                      go_ret2
                      exact ⟨A8, _, c8, by rw [HL.out]; rfl, fun ms h => by (rw [HL.out] at h; cases h), hB⟩
                    · have z1b : ((z : Int) == 1) = false := beq_eq_false_iff_ne.2 (by omega)
                      by_cases z2 : 2 < z
                      · have z2d : decide ((2 : Int) < z) = true := decide_eq_true (by omega)
                        by_cases h48 : r[1] = 48
                        · have NR : Hid (numR r.data.toList = none) := numR_zero HSc.out z2 h2 H0.out h48
                          have h48' : ((r[1].toNat : Int) == 48) = true := by rw [h48]; rfl
                          have H48 := Lib.hid h48
                          clear h48
                          have HL := Lib.hid (HP.out.stop hlt NR.out)
                          obtain ⟨A8, c8, rfl⟩ := slice_of_own hown
                          clear hown
                          go_wp2_with fail
                          go_ret2
                          exact ⟨A8, _, c8, by rw [HL.out]; rfl, fun ms h => by (rw [HL.out] at h; cases h), hB⟩
                        · have HNX := Lib.hid (HP.out.next hlt (HSc.out.ok HND.out h2 H0.out z1 (.inr h48) hv))
                          have h48' : ((r[1].toNat : Int) == 48) = false := by
                            rw [beq_eq_false_iff_ne]; intro e; apply h48; apply UInt8.toNat_inj.1
                            have e10 : (48 : UInt8).toNat = 48 := rfl
                            omega
                          have H48 := Lib.hid h48
                          clear h48
                          go_wp2_with (at_builtin; refine wpList_append_own _ rfl _ _ 22 rfl w.heap.size 3 i0 (.int .i64 0) 1 8 Tryd.underlying22 HI.out.1 HI.out.2.1 HI.out.2.2.1 HI.out.2.2.2 rfl (by decide) _ _ _ rfl (hown.alloc _) ⟨wr.heap.size, 0, none⟩ 1 1 [.int .i64 (v : Int)] rfl rfl ?c1_1 ?c1_2 ?c1_3 ?c1_4 ?c1_5 ?_)
                          try (case c1_1 => exact cell_one_new _ _ _)
                          case c1_2 => simp [Value.oneCell']
                          case c1_3 => unfold maxLen; omega
                          case c1_4 => omega
                          case c1_5 => first | omega | (simp; omega)
                          intro v' w4 hown' hgrow _
                          have HO := Lib.hid (own_hit hown')
                          have hW4 := Below.grown (hB.alloc hz _) hgrow (by simp; omega) (fun j e => (hown.lt j e).1)
                          clear hown' hgrow hown
                          go_wp2_with fail
                          go_roundw
                          case rel => exact ⟨k + 1, _, _, by omega, by go_num, rfl, by rw [ByteArray.size_extract]; omega, by simp [HNl.out], HNX.out, HO.out, hW4⟩
                          case measure => simp [intOf]; omega
                      · have z2d : decide ((2 : Int) < z) = false := decide_eq_false (by omega)
                        have HNX := Lib.hid (HP.out.next hlt (HSc.out.ok HND.out h2 H0.out z1 (.inl (by omega)) hv))
                        go_wp2_with (at_builtin; refine wpList_append_own _ rfl _ _ 22 rfl w.heap.size 3 i0 (.int .i64 0) 1 8 Tryd.underlying22 HI.out.1 HI.out.2.1 HI.out.2.2.1 HI.out.2.2.2 rfl (by decide) _ _ _ rfl (hown.alloc _) ⟨wr.heap.size, 0, none⟩ 1 1 [.int .i64 (v : Int)] rfl rfl ?c2_1 ?c2_2 ?c2_3 ?c2_4 ?c2_5 ?_)
                        try (case c2_1 => exact cell_one_new _ _ _)
                        case c2_2 => simp [Value.oneCell']
                        case c2_3 => unfold maxLen; omega
                        case c2_4 => omega
                        case c2_5 => first | omega | (simp; omega)
                        intro v' w4 hown' hgrow _
                        have HO := Lib.hid (own_hit hown')
                        have hW4 := Below.grown (hB.alloc hz _) hgrow (by simp; omega) (fun j e => (hown.lt j e).1)
                        clear hown' hgrow hown
                        go_wp2_with fail
                        go_roundw
                        case rel => exact ⟨k + 1, _, _, by omega, by go_num, rfl, by rw [ByteArray.size_extract]; omega, by simp [HNl.out], HNX.out, HO.out, hW4⟩
                        case measure => simp [intOf]; omega
                  · have e1 : (48 : Int) ≤ r[z].toNat := by omega
                    have e2 : ¬ (r[z].toNat : Int) ≤ 57 := by omega
                    by_cases z1 : z = 1
                    · exact absurd (by subst z1; exact HSc.out.zero) (show v ≠ 0 by omega)
                    · have NR : Hid (numR r.data.toList = none) := numR_big HSc.out h2 H0.out (by omega)
                      have z1b : ((z : Int) == 1) = false := beq_eq_false_iff_ne.2 (by omega)
                      have hvi : (1099511627776 : Int) < v := by omega
                      have hvd : decide ((1099511627776 : Int) < v) = true := decide_eq_true (by omega)
                      by_cases z2 : 2 < z
                      · have z2d : decide ((2 : Int) < z) = true := decide_eq_true (by omega)
                        by_cases h48 : r[1] = 48
                        · have h48' : ((r[1].toNat : Int) == 48) = true := by rw [h48]; rfl
                          have H48 := Lib.hid h48
                          clear h48
                          have HL := Lib.hid (HP.out.stop hlt NR.out)
                          obtain ⟨A8, c8, rfl⟩ := slice_of_own hown
                          clear hown
                          go_wp2_with fail
                          go_ret2
                          exact ⟨A8, _, c8, by rw [HL.out]; rfl, fun ms h => by (rw [HL.out] at h; cases h), hB⟩
                        · have h48' : ((r[1].toNat : Int) == 48) = false := by
                            rw [beq_eq_false_iff_ne]; intro e; apply h48; apply UInt8.toNat_inj.1
                            have e10 : (48 : UInt8).toNat = 48 := rfl
                            omega
                          have H48 := Lib.hid h48
                          clear h48
                          have HL := Lib.hid (HP.out.stop hlt NR.out)
                          obtain ⟨A8, c8, rfl⟩ := slice_of_own hown
                          clear hown
                          go_wp2_with fail
                          go_ret2
                          exact ⟨A8, _, c8, by rw [HL.out]; rfl, fun ms h => by (rw [HL.out] at h; cases h), hB⟩
                      · have z2d : decide ((2 : Int) < z) = false := decide_eq_false (by omega)
                        have HL := Lib.hid (HP.out.stop hlt NR.out)
                        obtain ⟨A8, c8, rfl⟩ := slice_of_own hown
                        clear hown
                        go_wp2_with fail
                        go_ret2
                        exact ⟨A8, _, c8, by rw [HL.out]; rfl, fun ms h => by (rw [HL.out] at h; cases h), hB⟩
              · by_cases hv : v ≤ 1099511627776
                · have e1 : ¬ (48 : Int) ≤ r[z].toNat := by omega
                  have hnd : NoDig r z := .inr ⟨hzlt, fun h => d1 h.1⟩
                  have HND := Lib.hid hnd
                  clear hnd
                  have hvi : (v : Int) ≤ 1099511627776 := by omega
                  have hvd : decide ((1099511627776 : Int) < v) = false := decide_eq_false (by omega)
                  by_cases z1 : z = 1
                  · have NR : Hid (numR r.data.toList = none) := by subst z1; exact HSc.out.none1 HND.out h2 H0.out
                    subst z1
                    have HL := Lib.hid (HP.out.stop hlt NR.out)
                    obtain ⟨A8, c8, rfl⟩ := slice_of_own hown
                    clear hown
                    go_wp2_with fail
                    go_ret2
                    exact ⟨A8, _, c8, by rw [HL.out]; rfl, fun ms h => by (rw [HL.out] at h; cases h), hB⟩
                  · have z1b : ((z : Int) == 1) = false := beq_eq_false_iff_ne.2 (by omega)
                    by_cases z2 : 2 < z
                    · have z2d : decide ((2 : Int) < z) = true := decide_eq_true (by omega)
                      by_cases h48 : r[1] = 48
                      · have NR : Hid (numR r.data.toList = none) := numR_zero HSc.out z2 h2 H0.out h48
                        have h48' : ((r[1].toNat : Int) == 48) = true := by rw [h48]; rfl
                        have H48 := Lib.hid h48
                        clear h48
                        have HL := Lib.hid (HP.out.stop hlt NR.out)
                        obtain ⟨A8, c8, rfl⟩ := slice_of_own hown
                        clear hown
                        go_wp2_with fail
                        go_ret2
                        exact ⟨A8, _, c8, by rw [HL.out]; rfl, fun ms h => by (rw [HL.out] at h; cases h), hB⟩
                      · have HNX := Lib.hid (HP.out.next hlt (HSc.out.ok HND.out h2 H0.out z1 (.inr h48) hv))
                        have h48' : ((r[1].toNat : Int) == 48) = false := by
                          rw [beq_eq_false_iff_ne]; intro e; apply h48; apply UInt8.toNat_inj.1
                          have e10 : (48 : UInt8).toNat = 48 := rfl
                          omega
                        have H48 := Lib.hid h48
                        clear h48
                        go_wp2_with (at_builtin; refine wpList_append_own _ rfl _ _ 22 rfl w.heap.size 3 i0 (.int .i64 0) 1 8 Tryd.underlying22 HI.out.1 HI.out.2.1 HI.out.2.2.1 HI.out.2.2.2 rfl (by decide) _ _ _ rfl (hown.alloc _) ⟨wr.heap.size, 0, none⟩ 1 1 [.int .i64 (v : Int)] rfl rfl ?c3_1 ?c3_2 ?c3_3 ?c3_4 ?c3_5 ?_)
                        try (case c3_1 => exact cell_one_new _ _ _)
                        case c3_2 => simp [Value.oneCell']
                        case c3_3 => unfold maxLen; omega
                        case c3_4 => omega
                        case c3_5 => first | omega | (simp; omega)
                        intro v' w4 hown' hgrow _
                        have HO := Lib.hid (own_hit hown')
                        have hW4 := Below.grown (hB.alloc hz _) hgrow (by simp; omega) (fun j e => (hown.lt j e).1)
                        clear hown' hgrow hown
                        go_wp2_with fail
                        go_roundw
                        case rel => exact ⟨k + 1, _, _, by omega, by go_num, rfl, by rw [ByteArray.size_extract]; omega, by simp [HNl.out], HNX.out, HO.out, hW4⟩
                        case measure => simp [intOf]; omega
                    · have z2d : decide ((2 : Int) < z) = false := decide_eq_false (by omega)
                      have HNX := Lib.hid (HP.out.next hlt (HSc.out.ok HND.out h2 H0.out z1 (.inl (by omega)) hv))
                      go_wp2_with (at_builtin; refine wpList_append_own _ rfl _ _ 22 rfl w.heap.size 3 i0 (.int .i64 0) 1 8 Tryd.underlying22 HI.out.1 HI.out.2.1 HI.out.2.2.1 HI.out.2.2.2 rfl (by decide) _ _ _ rfl (hown.alloc _) ⟨wr.heap.size, 0, none⟩ 1 1 [.int .i64 (v : Int)] rfl rfl ?c4_1 ?c4_2 ?c4_3 ?c4_4 ?c4_5 ?_)
                      try (case c4_1 => exact cell_one_new _ _ _)
                      case c4_2 => simp [Value.oneCell']
                      case c4_3 => unfold maxLen; omega
                      case c4_4 => omega
                      case c4_5 => first | omega | (simp; omega)
                      intro v' w4 hown' hgrow _
                      have HO := Lib.hid (own_hit hown')
                      have hW4 := Below.grown (hB.alloc hz _) hgrow (by simp; omega) (fun j e => (hown.lt j e).1)
                      clear hown' hgrow hown
                      go_wp2_with fail
                      go_roundw
                      case rel => exact ⟨k + 1, _, _, by omega, by go_num, rfl, by rw [ByteArray.size_extract]; omega, by simp [HNl.out], HNX.out, HO.out, hW4⟩
                      case measure => simp [intOf]; omega
                · have e1 : ¬ (48 : Int) ≤ r[z].toNat := by omega
                  by_cases z1 : z = 1
                  · exact absurd (by subst z1; exact HSc.out.zero) (show v ≠ 0 by omega)
                  · have NR : Hid (numR r.data.toList = none) := numR_big HSc.out h2 H0.out (by omega)
                    have z1b : ((z : Int) == 1) = false := beq_eq_false_iff_ne.2 (by omega)
                    have hvi : (1099511627776 : Int) < v := by omega
                    have hvd : decide ((1099511627776 : Int) < v) = true := decide_eq_true (by omega)
                    by_cases z2 : 2 < z
                    · have z2d : decide ((2 : Int) < z) = true := decide_eq_true (by omega)
                      by_cases h48 : r[1] = 48
                      · have h48' : ((r[1].toNat : Int) == 48) = true := by rw [h48]; rfl
                        have H48 := Lib.hid h48
                        clear h48
                        have HL := Lib.hid (HP.out.stop hlt NR.out)
                        obtain ⟨A8, c8, rfl⟩ := slice_of_own hown
                        clear hown
                        go_wp2_with fail
                        go_ret2
                        exact ⟨A8, _, c8, by rw [HL.out]; rfl, fun ms h => by (rw [HL.out] at h; cases h), hB⟩
                      · have h48' : ((r[1].toNat : Int) == 48) = false := by
                          rw [beq_eq_false_iff_ne]; intro e; apply h48; apply UInt8.toNat_inj.1
                          have e10 : (48 : UInt8).toNat = 48 := rfl
                          omega
                        have H48 := Lib.hid h48
                        clear h48
                        have HL := Lib.hid (HP.out.stop hlt NR.out)
                        obtain ⟨A8, c8, rfl⟩ := slice_of_own hown
                        clear hown
                        go_wp2_with fail
                        go_ret2
                        exact ⟨A8, _, c8, by rw [HL.out]; rfl, fun ms h => by (rw [HL.out] at h; cases h), hB⟩
                    · have z2d : decide ((2 : Int) < z) = false := decide_eq_false (by omega)
                      have HL := Lib.hid (HP.out.stop hlt NR.out)
                      obtain ⟨A8, c8, rfl⟩ := slice_of_own hown
                      clear hown
                      go_wp2_with fail
                      go_ret2
                      exact ⟨A8, _, c8, by rw [HL.out]; rfl, fun ms h => by (rw [HL.out] at h; cases h), hB⟩
            · by_cases hv : v ≤ 1099511627776
              · have hnd : NoDig r z := .inl (by omega)
                have HND := Lib.hid hnd
                clear hnd
                have hvi : (v : Int) ≤ 1099511627776 := by omega
                have hvd : decide ((1099511627776 : Int) < v) = false := decide_eq_false (by omega)
                by_cases z1 : z = 1
                · exact absurd h2 (by omega)
                · have z1b : ((z : Int) == 1) = false := beq_eq_false_iff_ne.2 (by omega)
                  by_cases z2 : 2 < z
                  · have z2d : decide ((2 : Int) < z) = true := decide_eq_true (by omega)
                    by_cases h48 : r[1] = 48
                    · have NR : Hid (numR r.data.toList = none) := numR_zero HSc.out z2 h2 H0.out h48
                      have h48' : ((r[1].toNat : Int) == 48) = true := by rw [h48]; rfl
                      have H48 := Lib.hid h48
                      clear h48
                      have HL := Lib.hid (HP.out.stop hlt NR.out)
                      obtain ⟨A8, c8, rfl⟩ := slice_of_own hown
                      clear hown
                      go_wp2_with fail
                      go_ret2
                      exact ⟨A8, _, c8, by rw [HL.out]; rfl, fun ms h => by (rw [HL.out] at h; cases h), hB⟩
                    · have HNX := Lib.hid (HP.out.next hlt (HSc.out.ok HND.out h2 H0.out z1 (.inr h48) hv))
                      have h48' : ((r[1].toNat : Int) == 48) = false := by
                        rw [beq_eq_false_iff_ne]; intro e; apply h48; apply UInt8.toNat_inj.1
                        have e10 : (48 : UInt8).toNat = 48 := rfl
                        omega
                      have H48 := Lib.hid h48
                      clear h48
                      go_wp2_with (at_builtin; refine wpList_append_own _ rfl _ _ 22 rfl w.heap.size 3 i0 (.int .i64 0) 1 8 Tryd.underlying22 HI.out.1 HI.out.2.1 HI.out.2.2.1 HI.out.2.2.2 rfl (by decide) _ _ _ rfl (hown.alloc _) ⟨wr.heap.size, 0, none⟩ 1 1 [.int .i64 (v : Int)] rfl rfl ?c5_1 ?c5_2 ?c5_3 ?c5_4 ?c5_5 ?_)
                      try (case c5_1 => exact cell_one_new _ _ _)
                      case c5_2 => simp [Value.oneCell']
                      case c5_3 => unfold maxLen; omega
                      case c5_4 => omega
                      case c5_5 => first | omega | (simp; omega)
                      intro v' w4 hown' hgrow _
                      have HO := Lib.hid (own_hit hown')
                      have hW4 := Below.grown (hB.alloc hz _) hgrow (by simp; omega) (fun j e => (hown.lt j e).1)
                      clear hown' hgrow hown
                      go_wp2_with fail
                      go_roundw
                      case rel => exact ⟨k + 1, _, _, by omega, by go_num, rfl, by rw [ByteArray.size_extract]; omega, by simp [HNl.out], HNX.out, HO.out, hW4⟩
                      case measure => simp [intOf]; omega
                  · have z2d : decide ((2 : Int) < z) = false := decide_eq_false (by omega)
                    have HNX := Lib.hid (HP.out.next hlt (HSc.out.ok HND.out h2 H0.out z1 (.inl (by omega)) hv))
                    go_wp2_with (at_builtin; refine wpList_append_own _ rfl _ _ 22 rfl w.heap.size 3 i0 (.int .i64 0) 1 8 Tryd.underlying22 HI.out.1 HI.out.2.1 HI.out.2.2.1 HI.out.2.2.2 rfl (by decide) _ _ _ rfl (hown.alloc _) ⟨wr.heap.size, 0, none⟩ 1 1 [.int .i64 (v : Int)] rfl rfl ?c6_1 ?c6_2 ?c6_3 ?c6_4 ?c6_5 ?_)
                    try (case c6_1 => exact cell_one_new _ _ _)
                    case c6_2 => simp [Value.oneCell']
                    case c6_3 => unfold maxLen; omega
                    case c6_4 => omega
                    case c6_5 => first | omega | (simp; omega)
                    intro v' w4 hown' hgrow _
                    have HO := Lib.hid (own_hit hown')
                    have hW4 := Below.grown (hB.alloc hz _) hgrow (by simp; omega) (fun j e => (hown.lt j e).1)
                    clear hown' hgrow hown
                    go_wp2_with fail
                    go_roundw
                    case rel => exact ⟨k + 1, _, _, by omega, by go_num, rfl, by rw [ByteArray.size_extract]; omega, by simp [HNl.out], HNX.out, HO.out, hW4⟩
                    case measure => simp [intOf]; omega
              · by_cases z1 : z = 1
                · exact absurd (by subst z1; exact HSc.out.zero) (show v ≠ 0 by omega)
                · have NR : Hid (numR r.data.toList = none) := numR_big HSc.out h2 H0.out (by omega)
                  have z1b : ((z : Int) == 1) = false := beq_eq_false_iff_ne.2 (by omega)
                  have hvi : (1099511627776 : Int) < v := by omega
                  have hvd : decide ((1099511627776 : Int) < v) = true := decide_eq_true (by omega)
                  by_cases z2 : 2 < z
                  · have z2d : decide ((2 : Int) < z) = true := decide_eq_true (by omega)
                    by_cases h48 : r[1] = 48
                    · have h48' : ((r[1].toNat : Int) == 48) = true := by rw [h48]; rfl
                      have H48 := Lib.hid h48
                      clear h48
                      have HL := Lib.hid (HP.out.stop hlt NR.out)
                      obtain ⟨A8, c8, rfl⟩ := slice_of_own hown
                      clear hown
                      go_wp2_with fail
                      go_ret2
                      exact ⟨A8, _, c8, by rw [HL.out]; rfl, fun ms h => by (rw [HL.out] at h; cases h), hB⟩
                    · have h48' : ((r[1].toNat : Int) == 48) = false := by
                        rw [beq_eq_false_iff_ne]; intro e; apply h48; apply UInt8.toNat_inj.1
                        have e10 : (48 : UInt8).toNat = 48 := rfl
                        omega
                      have H48 := Lib.hid h48
                      clear h48
                      have HL := Lib.hid (HP.out.stop hlt NR.out)
                      obtain ⟨A8, c8, rfl⟩ := slice_of_own hown
                      clear hown
                      go_wp2_with fail
                      go_ret2
                      exact ⟨A8, _, c8, by rw [HL.out]; rfl, fun ms h => by (rw [HL.out] at h; cases h), hB⟩
                  · have z2d : decide ((2 : Int) < z) = false := decide_eq_false (by omega)
                    have HL := Lib.hid (HP.out.stop hlt NR.out)
                    obtain ⟨A8, c8, rfl⟩ := slice_of_own hown
                    clear hown
                    go_wp2_with fail
                    go_ret2
                    exact ⟨A8, _, c8, by rw [HL.out]; rfl, fun ms h => by (rw [HL.out] at h; cases h), hB⟩
        · have NR : Hid (numR r.data.toList = none) := numR_head h2 h0
          have h0' : ((r[0].toNat : Int) != 32) = true := by
            rw [bne_iff_ne]; intro e; apply h0; apply UInt8.toNat_inj.1
            have e10 : (32 : UInt8).toNat = 32 := rfl
            omega
          have H0 := Lib.hid h0
          clear h0
          have HL := Lib.hid (HP.out.stop hlt NR.out)
          obtain ⟨A8, c8, rfl⟩ := slice_of_own hown
          clear hown
          go_wp2_with fail
          go_ret2
          exact ⟨A8, _, c8, by rw [HL.out]; rfl, fun ms h => by (rw [HL.out] at h; cases h), hB⟩
      · have NR : Hid (numR r.data.toList = none) := numR_short (by omega)
        have HL := Lib.hid (HP.out.stop hlt NR.out)
        obtain ⟨A8, c8, rfl⟩ := slice_of_own hown
        clear hown
        go_wp2_with fail
        go_ret2
        exact ⟨A8, _, c8, by rw [HL.out]; rfl, fun ms h => by (rw [HL.out] at h; cases h), hB⟩
    · obtain rfl : k = n := by omega
      have HD := Lib.hid HP.out.done
      have HE : Hid (L.isSome = r.toList.isEmpty) := by
        show _ = _
        rw [HD.out, ← Lib.toList_data]
        by_cases he : r.toList = []
        · rw [if_pos he, he]; rfl
        · rw [if_neg he]
          cases h : r.toList with
          | nil => exact absurd h he
          | cons a b => rfl
      obtain ⟨A8, c8, rfl⟩ := slice_of_own hown
      have HO := Lib.hid hown
      clear hown
      go_wp2_with fail
      go_ret2
      refine ⟨A8, ns.length, c8, by rw [HE.out]; rfl, fun ms h => ?_, hB⟩
      · rw [HD.out] at h
        split at h
        · cases h; exact HO.out
        · cases h
set_option maxHeartbeats 1000000 in
theorem pline_any (s wb : ByteArray) (n : Nat) (hs : s.size ≤ 8192) (hw : (32 : UInt8) ∉ wb.data.toList) (hwl : wb.size ≤ 20) (hn : n ≤ 7) (w : World) : Calls Tryd.prog 58 #[.string s, .string wb, .int .i64 n] w (PLPost (lineOf wb.data.toList n s) w) := by
  by_cases h : ∃ r, s.data.toList = wb.data.toList ++ r
  · obtain ⟨r, h⟩ := h
    exact pline_ok s wb n hs hw hwl hn w r h
  · have HL := Lib.hid (lineOf_other hw n s h)
    have he : ¬ s.extract 0 wb.size = wb ∨ s.size < wb.size := by
      by_cases hlt : s.size < wb.size
      · exact .inr hlt
      · refine .inl fun e => h ⟨s.data.toList.drop wb.size, ?_⟩
        have e2 := congrArg (fun b : ByteArray => b.data.toList) e
        simp only [Lib.extract_data, List.drop_zero, Nat.sub_zero] at e2
        rw [← e2, List.take_append_drop]
    clear h
    by_cases hlt : s.size < wb.size
    · clear he
      go_enter Tryd.func58, Tryd.ntmps58
      go_wp2_with fail
      go_ret2
      exact ⟨_, 0, _, by rw [HL.out]; rfl, fun ms h => by (rw [HL.out] at h; cases h), by (repeat' (first | (with_reducible exact Below.refl _ _) | (with_reducible refine Below.alloc ?_ ?_ _) | (with_reducible refine Below.drew ?_) | (with_reducible refine below_drewN ?_ _) | (with_reducible refine Below.setCell ?_ ?_ _) | (with_reducible refine Below.trans ?_ (Below.mono (by assumption) ?_)) | (with_reducible exact Nat.le_refl _) | omega | (simp; omega) | (simp; done)))⟩
    · have he2 : ¬ s.extract 0 wb.size = wb := by rcases he with he | he; exact he; exact absurd he hlt
      clear he
      have he3 : ((s.extract 0 wb.size).toList == wb.toList) = false := by
        rw [beq_eq_false_iff_ne]
        intro e
        rw [Lib.toList_data, Lib.toList_data] at e
        exact he2 (ba_ext e)
      clear he2
      go_enter Tryd.func58, Tryd.ntmps58
      go_wp2_with fail
      go_ret2
      exact ⟨_, 0, _, by rw [HL.out]; rfl, fun ms h => by (rw [HL.out] at h; cases h), by (repeat' (first | (with_reducible exact Below.refl _ _) | (with_reducible refine Below.alloc ?_ ?_ _) | (with_reducible refine Below.drew ?_) | (with_reducible refine below_drewN ?_ _) | (with_reducible refine Below.setCell ?_ ?_ _) | (with_reducible refine Below.trans ?_ (Below.mono (by assumption) ?_)) | (with_reducible exact Nat.le_refl _) | omega | (simp; omega) | (simp; done)))⟩
end Go.Proofs.YtgnlanfpholdaaaDoor

/- Print and the reference's Print. -/
import Derived.Test.YtekpnphfdoplfaaDoorA5
import Derived.Test.YtekpnphfdoplfaaDoorB9
import Derived.Test.YtekpnphfdoplfaaDoorP2
namespace Go.Proofs.YtekpnphfdoplfaaDoor
open Go.RowKit Go.Shelf
/-- a builder under way -/
def Bl (W : World) (n : Nat) (l : List UInt8) : Prop := n ≤ W.heap.size ∧ Lib.IsBuilder 61 5 n n (Lib.byteCells l) W
theorem Bl.below {W W' : World} {n : Nat} {l : List UInt8} (h : Bl W n l) (hb : Below W.heap.size W W') : Bl W' n l := by
  refine ⟨Nat.le_trans h.1 hb.size, ?_⟩
  have step : ∀ p, Lib.BuilderAt 61 5 n n p (Lib.byteCells l) W → Lib.BuilderAt 61 5 n n p (Lib.byteCells l) W' := fun p hp => by
    have hlt := hp.lt
    obtain ⟨h1, v, h2, h3, h4⟩ := hp
    exact ⟨h1, v, (hb.block n hlt).trans h2, own_below h3 hb, h4⟩
  exact h.2.imp (step _) (step _)
theorem Bl.new (w : World) : Bl (w.alloc (.cells #[.pointer none, .slice none 0 0] 61)) w.heap.size [] := ⟨by simp, Lib.fresh_isBuilder 61 5 w⟩
theorem write_any (n : Nat) (l l' : List UInt8) (s : ByteArray) (hs : s = ⟨l'.toArray⟩) (W : World) (h : Bl W n l) (hlen : l.length + l'.length ≤ 140737488355328) :
    Calls Tryd.prog 33 #[.pointer (some ⟨n, 0, none⟩), .string s] W fun e w' => (∃ k, e = .returned (.tuple #[.int .i64 k, .nilIface])) ∧ Bl w' n (l ++ l') ∧ Below n W w' := by
  subst hs
  refine (bu_write n n l _ W h.2 (by rw [mk_size]; exact hlen) h.1).mono ?_
  rintro e w' ⟨rfl, hb, hw⟩
  exact ⟨⟨_, rfl⟩, ⟨Nat.le_trans h.1 hw.size, hb⟩, hw⟩
theorem len_any (n : Nat) (l : List UInt8) (W : World) (h : Bl W n l) : Calls Tryd.prog 35 #[.pointer (some ⟨n, 0, none⟩)] W fun e w' => e = .returned (.int .i64 l.length) ∧ w' = W := by
  refine (Tryd.Builder_Len n n _ W h.2).mono ?_
  rintro e w' ⟨rfl, rfl⟩
  exact ⟨by rw [Lib.byteCells_length], rfl⟩
set_option maxHeartbeats 4000000 in
set_option maxRecDepth 100000 in
theorem print_ok (v : Value) (xs : List Ent) (w : World) (hv : Ents w w.heap.size v xs) (hG : Glob w) (hE : chkE xs = 0) :
    Calls Tryd.prog 21 #[v] w fun e w' => e = .returned (.tuple #[.string (printR xs).1, .int .i64 (printR xs).2]) ∧ Below w.heap.size w w' := by
  have HE := Lib.hid hE
  have HC := Lib.hid (fun k hk => chk_get (k := k) hE hk)
  have HB := Lib.hid (fun h => printR_big hE h)
  have HO := Lib.hid (fun h => printR_ok hE h)
  have HS := Lib.hid (catK_succ xs)
  have HK := Lib.hid (catK_le xs)
  have HA0 := Lib.hid (catK_all xs)
  have hl6 := ((chkE_iff xs).1 hE).1
  clear hE
  have hv0 := hv
  obtain ⟨A, c, rfl, hc, hm, hA⟩ := hv
  unfold maxLen at hm
  have HA := Lib.hid hA
  clear hA
  go_enter Tryd.func21, Tryd.ntmps21
  go_wp2_with fail
  refine (check_any _ xs _ hv0).mono ?_
  rw [HE.out]
  rintro e w1 ⟨rfl, hb1⟩
  go_wp2_with fail
  have b2 := hb1.alloc hb1.size (.cells #[.pointer none, .slice none 0 0] 61)
  have l2 := Bl.new w1
  have hnw : w.heap.size ≤ w1.heap.size := hb1.size
  clear hb1
  generalize (w1.alloc (.cells #[.pointer none, .slice none 0 0] 61)) = w2 at *
  generalize w1.heap.size = n1 at *
  go_loopw [15] (fun i wr => ∃ k : Nat, k ≤ xs.length ∧ i = .int .i64 k ∧ Below w.heap.size w wr ∧ Bl wr n1 (catK xs k) ∧ (catK xs k).length ≤ 65536) (fun i _ => xs.length - (intOf i).toNat)
  case atStart => exact ⟨0, by omega, rfl, b2, by rw [catK_zero]; exact l2, by rw [catK_zero]; simp⟩
  case round =>
    obtain ⟨k, hk, rfl, br, lr, hle⟩ := hrel
    have hzr := br.size
    have hnr := lr.1
    by_cases hlt : k < xs.length
    · obtain ⟨b, o, rfl, hb, hcell⟩ := HA.out (by omega)
      have hx := (hcell k hlt).below br hb
      have hbr : b < wr.heap.size := by omega
      have hd := HC.out k hlt
      have htl := textL_le hd
      have hst := HS.out k hlt
      have hkl := HK.out (k + 1)
      clear hcell
      generalize xs.getD k Ent.zero = d at *
      obtain ⟨x0, x1, x2, x3, x4, x5⟩ := hx
      have HD := Lib.hid hd
      have HST := Lib.hid hst
      clear hd hst
      go_wp2_with fail
      have b3 := br.alloc hzr (.cells #[.int .i64 d.t, .int .i64 d.k, .int .i64 d.n, .int .i64 d.j, .int .i64 d.c, .int .i64 d.v] 37)
      have l3 := lr.below ((Below.refl _ wr).alloc (Nat.le_refl _) (.cells #[.int .i64 d.t, .int .i64 d.k, .int .i64 d.n, .int .i64 d.j, .int .i64 d.c, .int .i64 d.v] 37))
      refine (text_any d _ (hG.below b3) HD.out).mono ?_
      rintro e w4 ⟨rfl, hb4⟩
      have b4 := b3.trans (hb4.mono b3.size)
      have l4 := l3.below hb4
      clear b3 l3 hb4
      go_wp2_with fail
      refine (write_any n1 _ _ _ rfl w4 l4 (by omega)).mono ?_
      rintro e w5 ⟨⟨y, rfl⟩, l5, hb5⟩
      have b5 := b4.trans (hb5.mono hnw)
      rw [← HST.out] at l5
      clear hb5 l4 b4
      go_wp2_with fail
      refine (len_any n1 _ w5 l5).mono ?_
      rintro e w6 ⟨rfl, h6⟩
      rw [h6]
      clear h6
      by_cases hbig : 65536 < (catK xs (k + 1)).length
      · have hb' : (65536 : Int) < ((catK xs (k + 1)).length : Int) := by omega
        have hP := HB.out (by omega)
        have HP := Lib.hid hP
        clear hP
        go_wp2_with fail
        go_ret2
        exact ⟨by rw [HP.out]; rfl, b5⟩
      · have hb' : ¬ (65536 : Int) < ((catK xs (k + 1)).length : Int) := by omega
        go_wp2_with fail
        go_roundw
        case rel => exact ⟨k + 1, by omega, by go_num, b5, l5, by omega⟩
        case measure => simp [intOf]; omega
    · obtain rfl : k = xs.length := by omega
      rw [HA0.out] at lr hle
      have hP := HO.out hle
      have HP := Lib.hid hP
      clear hP
      go_wp2_with fail
      refine (Tryd.Builder_String_any n1 n1 _ wr lr.2 hnr).mono ?_
      rintro e w6 ⟨rfl, hb6⟩
      have b6 := br.trans (hb6.mono hnw)
      go_wp2_with fail
      go_ret2
      exact ⟨by rw [HP.out]; rfl, b6⟩
set_option maxHeartbeats 2000000 in
theorem print_any (v : Value) (xs : List Ent) (w : World) (hv : Ents w w.heap.size v xs) (hG : Glob w) :
    Calls Tryd.prog 21 #[v] w fun e w' => e = .returned (.tuple #[.string (printR xs).1, .int .i64 (printR xs).2]) ∧ Below w.heap.size w w' := by
  by_cases hE : chkE xs = 0
  · exact print_ok v xs w hv hG hE
  · rw [printR_bad hE]
    have hEb : (chkE xs != 0) = true := by simpa using hE
    clear hE
    go_enter Tryd.func21, Tryd.ntmps21
    go_wp2_with fail
    refine (check_any v xs _ hv).mono ?_
    rintro e w1 ⟨rfl, hb1⟩
    go_wp2_with fail
    go_ret2
    exact ⟨rfl, hb1⟩
set_option maxHeartbeats 4000000 in
set_option maxRecDepth 100000 in
theorem rprint_ok (v : Value) (xs : List Ent) (w : World) (hv : Ents w w.heap.size v xs) (hE : chkE xs = 0) :
    Calls Tryd.prog 22 #[v] w fun e w' => e = .returned (.tuple #[.string (printR xs).1, .int .i64 (printR xs).2]) ∧ Below w.heap.size w w' := by
  have HE := Lib.hid hE
  have HC := Lib.hid (fun k hk => chk_get (k := k) hE hk)
  have HB := Lib.hid (fun h => printR_big hE h)
  have HO := Lib.hid (fun h => printR_ok hE h)
  have HS := Lib.hid (catS_succ xs)
  have HK := Lib.hid (catK_le xs)
  have HA0 := Lib.hid (catS_all xs)
  have HZ := Lib.hid (catS_size xs)
  have HA1 := Lib.hid (catK_all xs)
  have hl6 := ((chkE_iff xs).1 hE).1
  clear hE
  have hv0 := hv
  obtain ⟨A, c, rfl, hc, hm, hA⟩ := hv
  unfold maxLen at hm
  have HA := Lib.hid hA
  clear hA
  go_enter Tryd.func22, Tryd.ntmps22
  go_wp2_with fail
  refine (rcheck_any _ xs _ hv0).mono ?_
  rw [HE.out]
  rintro e w1 ⟨rfl, hb1⟩
  go_wp2_with fail
  go_loopw [5, 6] (fun s i wr => ∃ k : Nat, k ≤ xs.length ∧ i = .int .i64 k ∧ s = .string (catS xs k) ∧ Below w.heap.size w wr ∧ (catS xs k).size ≤ 65536) (fun _ i _ => xs.length - (intOf i).toNat)
  case atStart => exact ⟨0, by omega, rfl, by rw [catS_zero], hb1, by rw [catS_zero]; decide⟩
  case round =>
    obtain ⟨k, hk, rfl, rfl, br, hle⟩ := hrel
    have hzr := br.size
    by_cases hlt : k < xs.length
    · obtain ⟨b, o, rfl, hb, hcell⟩ := HA.out (by omega)
      have hx := (hcell k hlt).below br hb
      have hbr : b < wr.heap.size := by omega
      have hd := HC.out k hlt
      have htl := textL_le hd
      have hst := HS.out k hlt
      have hkl := HK.out (k + 1)
      rw [← HZ.out] at hkl
      clear hcell
      generalize xs.getD k Ent.zero = d at *
      obtain ⟨x0, x1, x2, x3, x4, x5⟩ := hx
      have HD := Lib.hid hd
      have HST := Lib.hid hst
      have hts : (⟨(textL d).toArray⟩ : ByteArray).size = (textL d).length := mk_size _
      clear hd hst
      go_wp2_with fail
      refine (rtext_any d _ HD.out).mono ?_
      rintro e w4 ⟨rfl, hb4⟩
      have b4 := br.trans (hb4.mono br.size)
      clear hb4
      have hcat : ¬ 9223372036854775807 < (catS xs k).size + (⟨(textL d).toArray⟩ : ByteArray).size := by omega
      generalize (⟨(textL d).toArray⟩ : ByteArray) = td at *
      have hsz : (catS xs (k + 1)).size = (catS xs k).size + (textL d).length := by rw [HST.out, ByteArray.size_append, hts]
      by_cases hbig : 65536 < (catS xs (k + 1)).size
      · have hb' : (65536 : Int) < ((catS xs k).size : Int) + ((textL d).length : Int) := by omega
        have hP := HB.out (by omega)
        have HP := Lib.hid hP
        clear hP
        go_wp2_with fail
        go_ret2
        exact ⟨by rw [HP.out]; rfl, b4⟩
      · have hb' : ¬ (65536 : Int) < ((catS xs k).size : Int) + ((textL d).length : Int) := by omega
        go_wp2_with fail
        go_roundw
        case rel => exact ⟨k + 1, by omega, by go_num, by rw [HST.out], b4, by omega⟩
        case measure => simp [intOf]; omega
    · obtain rfl : k = xs.length := by omega
      have hP := HO.out (by rw [← HA1.out, ← HZ.out]; exact hle)
      have HP := Lib.hid hP
      clear hP
      go_wp2_with fail
      go_ret2
      exact ⟨by rw [HP.out, HA0.out]; rfl, br⟩
set_option maxHeartbeats 2000000 in
theorem rprint_any (v : Value) (xs : List Ent) (w : World) (hv : Ents w w.heap.size v xs) :
    Calls Tryd.prog 22 #[v] w fun e w' => e = .returned (.tuple #[.string (printR xs).1, .int .i64 (printR xs).2]) ∧ Below w.heap.size w w' := by
  by_cases hE : chkE xs = 0
  · exact rprint_ok v xs w hv hE
  · rw [printR_bad hE]
    have hEb : (chkE xs != 0) = true := by simpa using hE
    clear hE
    go_enter Tryd.func22, Tryd.ntmps22
    go_wp2_with fail
    refine (rcheck_any v xs _ hv).mono ?_
    rintro e w1 ⟨rfl, hb1⟩
    go_wp2_with fail
    go_ret2
    exact ⟨rfl, hb1⟩
end Go.Proofs.YtekpnphfdoplfaaDoor

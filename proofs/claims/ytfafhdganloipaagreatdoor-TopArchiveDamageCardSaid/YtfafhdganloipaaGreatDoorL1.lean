/- TopArchiveDamage: the law returns true for every archive. -/
import Derived.Test.YtfafhdganloipaaGreatDoorN1
import Derived.Test.YtfafhdganloipaaGreatDoorD1
import Derived.Test.YtfafhdganloipaaGreatDoorW10
import Derived.Lib.LaidTab
import Derived.Lib.ItoaNum
namespace Go.Proofs.YtfafhdganloipaaGreatDoor
open Go.RowKit
attribute [local go_sem] Oper.semAt_some
/-- what awake wants of a world: the package's variables, and the table of powers of ten among them -/
def GOk (w : World) : Prop := 6 ≤ w.heap.size ∧ Lib.TabIs Tryz.prog w "internal/strconv.uint64pow10" .u64 Lib.pow10Tab
theorem gPow : Tryz.prog.globalNamed "internal/strconv.uint64pow10" = some 0 := by kernel_rfl
theorem GOk.below {w w' : World} (h : GOk w) (hb : Below w.heap.size w w') : GOk w' := by
  refine ⟨Nat.le_trans h.1 hb.size, ?_⟩
  have h2 := h.2
  unfold Lib.TabIs World.var? at h2 ⊢
  rw [gPow] at h2 ⊢
  simp only [Option.bind_some] at h2 ⊢
  rw [hb.block 0 (by have := h.1; omega)]
  exact h2
def AwakeOk : Prop := ∀ w : World, GOk w → Calls Tryz.prog 5 #[] w fun e w' => e = .returned (.bool true) ∧ Below w.heap.size w w'
theorem decode_b (HT : TableOk) (b : ByteArray) (hs : b.size ≤ 900000) (hB : Bad b.data.toList) (w : World) : Calls Tryz.prog 7 #[.string b] w (DecPost w) := decode_bad HT b.data.toList hs hB w
theorem brd_set {w : World} {base g cap : Nat} {l : List UInt8} (h : Brd w base (.slice (some ⟨g, 0, none⟩) l.length cap) l) {i : Nat} (hi : i < l.length) (y : UInt8) :
    Brd (w.setCell ⟨g, i, none⟩ (.int .u8 ((y.toNat : Nat) : Int))) base (.slice (some ⟨g, 0, none⟩) l.length cap) (l.set i y) := by
  obtain ⟨g', cap', e, q1, q2, q3, q4, q5, q6⟩ := h
  simp only [Value.slice.injEq, Option.some.injEq, Addr.mk.injEq, true_and, and_true] at e
  obtain ⟨rfl, rfl⟩ := e
  refine ⟨g, cap, by rw [List.length_set], q1, by simpa using q2, by rw [List.length_set]; exact q3, q4, fun j hj => ⟨?_, by rw [World.frozen?_setCell]; exact (q5 j hj).2⟩, fun j hj => ?_⟩
  · exact isSome_setCells [_] i w _ (q5 j hj).1
  · rw [List.length_set] at hj
    by_cases e : i = j
    · subst e
      obtain ⟨u, hu⟩ := Option.isSome_iff_exists.1 (q5 i (by omega)).1
      rw [World.cell?_setCell_same _ _ _ hu]
      simp [byV, hj]
    · rw [World.cell?_setCell_other _ _ _ _ (by simp), q6 j hj]
      simp [byV, e]
theorem ext_take (s : List UInt8) (j : Nat) : ((⟨s.toArray⟩ : ByteArray).extract 0 j).data.toList = s.take j := by
  rw [ByteArray.data_extract]
  simp
theorem xor_ne {a c : Nat} (hc : c ≠ 0) : a ^^^ c ≠ a := fun e => hc (by
  have : a ^^^ c = a ^^^ 0 := by rw [e, Nat.xor_zero]
  exact xor_lc this)
def LawPost (w : World) (e : Ending) (w' : World) : Prop := e = .returned (.bool true) ∧ Below w.heap.size w w'
set_option maxRecDepth 100000 in
set_option maxHeartbeats 4000000 in
theorem law_any (HT : TableOk) (HW : AwakeOk) (a : Arc) (VT VA VD : Value) (n c k : Nat) (hn : n < 65536) (hc : c < 256) (hk : k < 65536) (w : World) (h : ArcAt w w.heap.size VT VA VD a) (h6 : GOk w) :
    Calls Tryz.prog 3 #[.agg #[.string a.ms, .string a.lg, VT, VA, VD], .int .u16 (n : Int), .int .u8 (c : Int), .int .u16 (k : Int)] w (LawPost w) := by
  have HA := Lib.hid h
  obtain ⟨AT, cT, rfl, _, _, _⟩ := h.tk
  obtain ⟨AA, cA, rfl, _, _, _⟩ := h.an
  obtain ⟨AD, cD, rfl, _, _, _⟩ := h.dm
  clear h
  have HN : Hid (∀ X : World, Below w.heap.size w X → GOk X) := fun X hX => h6.below hX
  clear h6
  have hB0 : Below w.heap.size w (w.alloc (.cells #[.string a.ms, .string a.lg, .slice AT a.tk.length cT, .slice AA a.an.length cA, .slice AD a.dm.length cD] 26)) := (Below.refl _ w).alloc (Nat.le_refl _) _
  have HB0 := Lib.hid hB0
  clear hB0
  go_enter Tryz.func3, Tryz.ntmps3
  go_wp2_with fail
  refine (great_any a _ _ _ _ ((HA.out.below HB0.out).more HB0.out.size)).mono ?_
  rintro e w1 ⟨b, rfl, hb1, hG⟩
  have hk1 := bc (B := w.heap.size + 1) hb1 (by simp)
  have HB1 : Hid (Below w.heap.size w w1) := HB0.out.trans (hb1.mono (by simp))
  have hz1 : w.heap.size + 1 ≤ w1.heap.size := by have := hb1.size; simpa using this
  clear hb1
  cases b
  · have HG := Lib.hid (hG rfl)
    clear hG
    by_cases hc0 : c = 0
    · subst hc0
      go_wp2_with fail
      refine (HW _ (HN.out _ HB1.out)).mono ?_
      rintro e w2 ⟨rfl, hb2⟩
      go_wp2_with fail
      go_ret
      exact ⟨rfl, HB1.out.trans (hb2.mono HB1.out.size)⟩
    · have hcb : ((c : Int) == 0) = false := by simpa using hc0
      go_wp2_with fail
      refine (encode_any HT a _ _ _ _ HG.out ((HA.out.below HB1.out).more HB1.out.size)).mono ?_
      rintro e w2 ⟨hb2, (⟨h, out, hH, ho, rfl⟩ | ⟨x, hx, rfl⟩)⟩
      · have HH := Lib.hid hH
        have HB2 : Hid (Below w.heap.size w w2) := HB1.out.trans (hb2.mono HB1.out.size)
        have hl := sealL_len h out
        have hh9 := hH.len
        generalize hsq : sealL h out = s at *
        have HSQ := Lib.hid hsq
        have hsz := ba_size s
        have hie : s.isEmpty = false := by
          cases s with
          | nil => simp at hl
          | cons => rfl
        clear hb2 hH hk1 hsq
        have hls : s.length ≤ 800000 := by omega
        have hp : 0 < s.length := by omega
        clear hl
        obtain ⟨v, w3, hr, hB3, hb3⟩ := brd_new w2 s (by omega)
        have hB3c := hB3
        obtain ⟨g, cap, rfl, q1, q2, q3, q4, q5, q6⟩ := hB3
        have HB3 : Hid (Below w.heap.size w w3) := HB2.out.trans (hb3.mono HB2.out.size)
        have hgw : w.heap.size ≤ g := by have := HB2.out.size; omega
        have hi : n % s.length < s.length := Nat.mod_lt _ hp
        have hrem : ((n : Int)).tmod (s.length : Int) = ((n % s.length : Nat) : Int) := by rw [Int.tmod_eq_emod_of_nonneg (by omega)]; simp
        have hrem2 : (n : Int) % (s.length : Int) = ((n % s.length : Nat) : Int) := by simp
        generalize n % s.length = i at *
        have hi2 : (i : Int) < s.length := by omega
        have hsl : ((s.length : Int) == 0) = false := by
          have : (s.length : Int) ≠ 0 := by omega
          simpa using this
        have hbl := (s[i]'hi).toNat_lt
        have hqc := (q6 _ hi).trans (show (byV s)[i]? = some (.int .u8 ((s[i]'hi).toNat : Int)) by simp [byV, hi])
        have hqf := (q5 _ (Nat.lt_of_lt_of_le hi q3)).2
        have HX : Hid (bits .xor .u8 ((s[i]'hi).toNat : Int) (c : Int) = (((s[i]'hi).toNat ^^^ c : Nat) : Int)) := u8_xor_nat _ _ hbl hc
        have hyl : (s[i]'hi).toNat ^^^ c < 256 := Nat.xor_lt_two_pow (n := 8) hbl hc
        have hyt : (UInt8.ofNat ((s[i]'hi).toNat ^^^ c)).toNat = (s[i]'hi).toNat ^^^ c := by rw [UInt8.toNat_ofNat']; omega
        have hst := brd_str (brd_set hB3c hi (UInt8.ofNat ((s[i]'hi).toNat ^^^ c)))
        rw [hyt] at hst
        rw [← HX.out] at hst
        have hbad : Bad (s.set i (UInt8.ofNat ((s[i]'hi).toNat ^^^ c))) := by
          have e := HSQ.out
          subst e
          refine bad_one HH.out hi (fun e => ?_)
          have e2 := congrArg UInt8.toNat e
          rw [hyt] at e2
          exact xor_ne hc0 e2
        have HBAD := Lib.hid hbad
        have hcut : Bad (s.take (k % s.length)) := by
          have e := HSQ.out
          subst e
          exact bad_cut HH.out (Nat.mod_lt _ hp)
        have krem : ((k : Int)).tmod (s.length : Int) = ((k % s.length : Nat) : Int) := by rw [Int.tmod_eq_emod_of_nonneg (by omega)]; simp
        have krem2 : (k : Int) % (s.length : Int) = ((k % s.length : Nat) : Int) := by simp
        have kj := Nat.mod_lt k hp
        generalize k % s.length = j at *
        have kj1 : (j : Int) ≤ s.length := by omega
        have HCUT := Lib.hid hcut
        generalize hy : s.set i (UInt8.ofNat ((s[i]'hi).toNat ^^^ c)) = t at *
        have htl : t.length = s.length := by rw [← hy, List.length_set]
        have HTL := Lib.hid htl
        have HES := Lib.hid (ext_take s j)
        have HEL := Lib.hid (ext_le ⟨s.toArray⟩ 0 j (N := 900000) (by rw [hsz]; omega))
        clear hy hyl hyt hbad hcut q5 q6 hb3 hB3c HX htl
        go_wp2_with fail
        refine (decode_bad HT t (by have := HTL.out; omega) HBAD.out _).mono ?_
        rintro e w4 ⟨rfl, hb4⟩
        have HB4 : Hid (Below w.heap.size w w4) := (HB3.out.setCell (p := ⟨g, i, none⟩) hgw _).trans (hb4.mono (by have := HB3.out.size; simpa using this))
        clear hb4 hst hqc hqf hr
        go_wp2_with fail
        refine (decode_b HT _ HEL.out (by rw [HES.out]; exact HCUT.out) _).mono ?_
        rintro e w5 ⟨rfl, hb5⟩
        have HB5 : Hid (Below w.heap.size w w5) := (HB4.out.alloc HB4.out.size _).trans (hb5.mono (by have := HB4.out.size; simp; omega))
        clear hb5
        go_wp2_with fail
        have HB6 := Lib.hid (HB5.out.alloc HB5.out.size (.cells #[.string ⟨#[]⟩, .string ⟨#[]⟩, .slice none 0 0, .slice none 0 0, .slice none 0 0] 26))
        refine (HW _ (HN.out _ HB6.out)).mono ?_
        rintro e w6 ⟨rfl, hb6⟩
        go_wp2_with fail
        go_ret
        exact ⟨rfl, HB6.out.trans (hb6.mono HB6.out.size)⟩
      · have HB2 : Hid (Below w.heap.size w w2) := HB1.out.trans (hb2.mono HB1.out.size)
        have hxb : (x == 0) = false := by simpa using hx
        have hxn : (x != 0) = true := by simpa using hx
        have hxe : (x = 0) = False := by simpa using hx
        clear hx hb2
        go_wp2_with fail
        refine (HW _ (HN.out _ HB2.out)).mono ?_
        rintro e w3 ⟨rfl, hb3⟩
        go_wp2_with fail
        go_ret
        exact ⟨rfl, HB2.out.trans (hb3.mono HB2.out.size)⟩
  · clear hG
    go_wp2_with fail
    refine (HW _ (HN.out _ HB1.out)).mono ?_
    rintro e w2 ⟨rfl, hb2⟩
    go_wp2_with fail
    go_ret
    exact ⟨rfl, HB1.out.trans (hb2.mono HB1.out.size)⟩
end Go.Proofs.YtfafhdganloipaaGreatDoor

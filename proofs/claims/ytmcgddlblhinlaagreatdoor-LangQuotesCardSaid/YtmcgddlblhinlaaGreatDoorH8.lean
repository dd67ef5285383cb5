/- code and Unquote. -/
import Derived.Test.YtmcgddlblhinlaaGreatDoorH7
namespace Go.Proofs.YtmcgddlblhinlaaGreatDoor
open Go.RowKit
theorem list_get (s : ByteArray) (k : Nat) (h : k < s.size) : s.data.toList.drop k = s[k] :: s.data.toList.drop (k + 1) := by
  rw [List.drop_eq_getElem_cons (show k < s.data.toList.length from h)]; rfl
theorem byte_ne {c d : UInt8} {n : Nat} (hd : d.toNat = n) (h : ¬ c.toNat = n) : c ≠ d := fun e => h (by rw [e, hd])
theorem byte_eq {c d : UInt8} {n : Nat} (hd : d.toNat = n) (h : c.toNat = n) : c = d := UInt8.toNat_inj.1 (by rw [h, hd])
theorem idx_lo (l : List UInt8) (c : UInt8) : -1 ≤ Lib.indexByte l c ∧ Lib.indexByte l c < l.length ∨ Lib.indexByte l c = -1 := by
  induction l with
  | nil => right; rfl
  | cons a t ih =>
    unfold Lib.indexByte
    split
    · left; simp
    · split
      · right; rfl
      · rename_i h1 h2
        rcases ih with ih | ih
        · left; simp only [List.length_cons]; omega
        · exact absurd ih (by simpa using h2)
theorem u8_conv (n : Int) (h : 0 ≤ n) (h2 : n < 256) : ((UInt8.ofNat n.toNat).toNat : Int) = n := by
  simp; omega
theorem pair_ret {a b : UInt8 × Nat} (h : a = b) : Ending.returned (.tuple #[.int .u8 a.1.toNat, .int .i64 a.2]) = .returned (.tuple #[.int .u8 b.1.toNat, .int .i64 b.2]) := by rw [h]
set_option maxHeartbeats 2000000 in
theorem code_any (s : ByteArray) (hs : s.size ≤ 70000) (w : World) : Calls Tryz.prog 30 #[.string s] w fun e w' => e = .returned (.tuple #[.int .u8 (codeL s.data.toList).1.toNat, .int .i64 (codeL s.data.toList).2]) ∧ ∃ n, w' = w.drewN n := by
  by_cases h0 : 0 < s.size
  rotate_left
  · have hn : s.toList = [] := by
      rw [ByteArray.toList_eq]; exact List.eq_nil_of_length_eq_zero (by show s.size = 0; omega)
    have he : s.toList.isEmpty = true := by rw [hn]; rfl
    have HR : Hid (codeL s.data.toList = (0, 0)) := by
      show _ = _
      rw [← ByteArray.toList_eq, hn]; rfl
    clear hn h0
    go_enter Tryz.func30, Tryz.ntmps30
    go_wp2_with fail
    go_ret2
    exact ⟨by rw [HR.out]; rfl, 0, rfl⟩
  have hne : s.toList.isEmpty = false := by
    rw [ByteArray.toList_eq, List.isEmpty_eq_false_iff]
    intro h
    exact absurd (show s.size = 0 from congrArg List.length h) (by omega)
  have hl0 : s.data.toList = s[0] :: s.data.toList.drop 1 := by have := list_get s 0 h0; simpa using this
  have h0i : (0 : Int) < s.size := by omega
  by_cases hp : okP s[0] = true
  · have HR : Hid (codeL s.data.toList = (s[0], 1)) := by show _ = _; rw [hl0, codeL_cons, if_pos hp]
    have HP := Lib.hid hp
    clear hp hl0
    go_enter Tryz.func30, Tryz.ntmps30
    go_wp2_with fail
    refine (plain_any _ _).mono ?_
    rw [HP.out]
    rintro e wz ⟨rfl, rfl⟩
    go_wp2_with fail
    go_ret2
    exact ⟨by rw [HR.out]; rfl, 0, rfl⟩
  have HP := Lib.hid (Bool.eq_false_iff.2 hp)
  by_cases hb : s[0].toNat = 92
  rotate_left
  · have HR : Hid (codeL s.data.toList = (0, 0)) := by show _ = _; rw [hl0, codeL_cons, if_neg hp, if_pos (byte_ne rfl hb)]
    have hbi : ((s[0].toNat : Int) != 92) = true := by simp; omega
    have hbj : ¬ (s[0].toNat : Int) = 92 := by omega
    clear hp hl0 hb
    go_enter Tryz.func30, Tryz.ntmps30
    go_wp2_with fail
    refine (plain_any _ _).mono ?_
    rw [HP.out]
    rintro e wz ⟨rfl, rfl⟩
    go_wp2_with fail
    go_ret2
    exact ⟨by rw [HR.out]; rfl, 0, rfl⟩
  have hbi : ((s[0].toNat : Int) != 92) = false := by simp; omega
  have hbj : (s[0].toNat : Int) = 92 := by omega
  have HC : Hid (codeL s.data.toList = match s.data.toList.drop 1 with
    | [] => (0, 0)
    | b :: r2 => if b = 34 ∨ b = 92 then (b, 2) else if b ≠ 120 then (0, 0) else
      match r2 with
      | h :: l :: _ => if 0 ≤ Lib.indexByte digs h ∧ 0 ≤ Lib.indexByte digs l then (UInt8.ofNat (16 * (Lib.indexByte digs h).toNat + (Lib.indexByte digs l).toNat), 4) else (0, 0)
      | _ => (0, 0)) := by
    show codeL s.data.toList = _
    have hb92 : ¬ s[0] ≠ 92 := fun h => h (byte_eq rfl hb)
    rw [hl0, codeL_cons, if_neg hp, if_neg hb92]
    rfl
  have HBJ := Lib.hid hbj
  clear hp hl0 hb hbj
  by_cases h2 : s.size < 2
  · have HR : Hid (codeL s.data.toList = (0, 0)) := by
      show _ = _
      rw [HC.out, List.drop_of_length_le (show s.data.toList.length ≤ 1 by show s.size ≤ 1; omega)]
    have h2i : (s.size : Int) < 2 := by omega
    clear HC
    go_enter Tryz.func30, Tryz.ntmps30
    go_wp2_with fail
    refine (plain_any _ _).mono ?_
    rw [HP.out]
    rintro e wz ⟨rfl, rfl⟩
    go_wp2_with fail
    go_ret2
    exact ⟨by rw [HR.out]; rfl, 0, rfl⟩
  have h2i : ¬ (s.size : Int) < 2 := by omega
  have h1i : (1 : Int) < s.size := by omega
  have h1 : 1 < s.size := by omega
  have hl1 := list_get s 1 h1
  by_cases hq : s[1].toNat = 34
  · have HR : Hid (codeL s.data.toList = (s[1], 2)) := by show _ = _; rw [HC.out, hl1]; simp only; rw [if_pos (.inl (byte_eq rfl hq))]
    have hqi : ((s[1].toNat : Int) == 34) = true := by simp; omega
    clear HC hl1 hq
    go_enter Tryz.func30, Tryz.ntmps30
    go_wp2_with fail
    refine (plain_any _ _).mono ?_
    rw [HP.out]
    rintro e wz ⟨rfl, rfl⟩
    go_wp2_with fail
    go_ret2
    exact ⟨by rw [HR.out]; rfl, 0, rfl⟩
  have hqi : ((s[1].toNat : Int) == 34) = false := by simp; omega
  by_cases hq2 : s[1].toNat = 92
  · have HR : Hid (codeL s.data.toList = (s[1], 2)) := by show _ = _; rw [HC.out, hl1]; simp only; rw [if_pos (.inr (byte_eq rfl hq2))]
    have hqi2 : ((s[1].toNat : Int) == 92) = true := by simp; omega
    clear HC hl1 hq hq2
    go_enter Tryz.func30, Tryz.ntmps30
    go_wp2_with fail
    refine (plain_any _ _).mono ?_
    rw [HP.out]
    rintro e wz ⟨rfl, rfl⟩
    go_wp2_with fail
    go_ret2
    exact ⟨by rw [HR.out]; rfl, 0, rfl⟩
  have hqi2 : ((s[1].toNat : Int) == 92) = false := by simp; omega
  have hqq : ¬ (s[1] = 34 ∨ s[1] = 92) := fun h => h.elim (byte_ne rfl hq) (byte_ne rfl hq2)
  by_cases hx : s[1].toNat = 120
  rotate_left
  · have HR : Hid (codeL s.data.toList = (0, 0)) := by show _ = _; rw [HC.out, hl1]; simp only; rw [if_neg hqq, if_pos (byte_ne rfl hx)]
    have hxi : ((s[1].toNat : Int) == 120) = false := by simp; omega
    clear HC hl1 hq hq2 hqq hx
    go_enter Tryz.func30, Tryz.ntmps30
    go_wp2_with fail
    refine (plain_any _ _).mono ?_
    rw [HP.out]
    rintro e wz ⟨rfl, rfl⟩
    go_wp2_with fail
    go_ret2
    exact ⟨by rw [HR.out]; rfl, 0, rfl⟩
  have hxi : ((s[1].toNat : Int) == 120) = true := by simp; omega
  have HC2 : Hid (codeL s.data.toList = match s.data.toList.drop 2 with
      | h :: l :: _ => if 0 ≤ Lib.indexByte digs h ∧ 0 ≤ Lib.indexByte digs l then (UInt8.ofNat (16 * (Lib.indexByte digs h).toNat + (Lib.indexByte digs l).toNat), 4) else (0, 0)
      | _ => (0, 0)) := by
    show codeL s.data.toList = _
    have hx92 : ¬ s[1] ≠ 120 := fun h => h (byte_eq rfl hx)
    rw [HC.out, hl1]; simp only; rw [if_neg hqq, if_neg hx92]
  clear HC hl1 hq hq2 hqq hx
  by_cases h4 : 4 ≤ s.size
  rotate_left
  · have HR : Hid (codeL s.data.toList = (0, 0)) := by
      show _ = _
      rw [HC2.out]
      have hl : (s.data.toList.drop 2).length ≤ 1 := by rw [List.length_drop]; have e : s.data.toList.length = s.size := rfl; omega
      match hd : s.data.toList.drop 2, hl with
      | [], _ => rfl
      | [_], _ => rfl
    have h4i : ¬ (4 : Int) ≤ s.size := by omega
    clear HC2
    go_enter Tryz.func30, Tryz.ntmps30
    go_wp2_with fail
    refine (plain_any _ _).mono ?_
    rw [HP.out]
    rintro e wz ⟨rfl, rfl⟩
    go_wp2_with fail
    go_ret2
    exact ⟨by rw [HR.out]; rfl, 0, rfl⟩
  have h4i : (4 : Int) ≤ s.size := by omega
  have h22 : 2 < s.size := by omega
  have h33 : 3 < s.size := by omega
  have h2j : (2 : Int) < s.size := by omega
  have h3j : (3 : Int) < s.size := by omega
  have HR : Hid (codeL s.data.toList = if (0 : Int) ≤ Lib.indexByte digs s[2] ∧ (0 : Int) ≤ Lib.indexByte digs s[3] then (UInt8.ofNat (16 * (Lib.indexByte digs s[2]).toNat + (Lib.indexByte digs s[3]).toNat), 4) else (0, 0)) := by
    show _ = _
    rw [HC2.out, list_get s 2 h22, list_get s 3 h33]
  have ib : ∀ (c : UInt8) (w : World), Calls Tryz.prog 53 #[.string ⟨#[48, 49, 50, 51, 52, 53, 54, 55, 56, 57, 97, 98, 99, 100, 101, 102]⟩, .int .u8 c.toNat] w fun e w' => e = .returned (.int .i64 (Lib.indexByte digs c)) ∧ w' = w := fun c w => by
    refine (Tryz.strings_IndexByte ⟨#[48, 49, 50, 51, 52, 53, 54, 55, 56, 57, 97, 98, 99, 100, 101, 102]⟩ c.toNat w).mono ?_
    rintro e w' ⟨rfl, rfl⟩
    refine ⟨?_, rfl⟩
    have e : (c.toNat : Int).toNat.toUInt8 = c := by simp
    rw [e]; rfl
  have HIB := Lib.hid ib
  have a2 := idx_lo digs s[2]
  have a3 := idx_lo digs s[3]
  have dl : digs.length = 16 := rfl
  rw [dl] at a2 a3
  clear HC2 ib dl
  go_enter Tryz.func30, Tryz.ntmps30
  go_wp2_with fail
  refine (plain_any _ _).mono ?_
  rw [HP.out]
  rintro e wz ⟨rfl, rfl⟩
  go_wp2_with fail
  go_quiet ((go_at_call 53; exact Calls.quiet_of_same (HIB.out _ _)))
  generalize Lib.indexByte digs s[2] = i2 at *
  generalize Lib.indexByte digs s[3] = i3 at *
  by_cases g2 : 0 ≤ i2
  · by_cases g3 : 0 ≤ i3
    · have b2 : i2 ≤ 15 := by omega
      have b3 : i3 ≤ 15 := by omega
      have HZ : Hid (codeL s.data.toList = (UInt8.ofNat (16 * i2.toNat + i3.toNat), 4)) := HR.out.trans (if_pos ⟨g2, g3⟩)
      clear a2 a3
      go_wp2_with fail
      go_ret2
      refine ⟨?_, _, rfl⟩
      rw [HZ.out]
      have e : ((UInt8.ofNat (16 * i2.toNat + i3.toNat)).toNat : Int) = 16 * i2 + i3 := by simp; omega
      show Ending.returned (.tuple #[.int .u8 (16 * i2 + i3), .int .i64 4]) = Ending.returned (.tuple #[.int .u8 ((UInt8.ofNat (16 * i2.toNat + i3.toNat)).toNat : Int), .int .i64 4])
      rw [e]
    · have HZ : Hid (codeL s.data.toList = (0, 0)) := HR.out.trans (if_neg fun h => g3 h.2)
      go_wp2_with fail
      go_ret2
      exact ⟨by rw [HZ.out]; rfl, _, rfl⟩
  · have HZ : Hid (codeL s.data.toList = (0, 0)) := HR.out.trans (if_neg fun h => g2 h.1)
    go_wp2_with fail
    go_ret2
    exact ⟨by rw [HZ.out]; rfl, _, rfl⟩

theorem own_slice {w : World} {base : Nat} {e : TypeId} {size : Nat} {v : Value} {n : Nat} {xs : List Value} (h : w.ownsRow base e size v n xs) : ∃ a c, v = .slice a n c := by
  rcases h.2 with ⟨rfl, h0⟩ | ⟨g, cap, cur, rfl, _⟩
  · exact ⟨none, 0, by rw [h0]⟩
  · exact ⟨_, _, rfl⟩
/-- text of an owned row of bytes -/
theorem conv_own {w : World} {base : Nat} {v : Value} {l : List UInt8} (h : w.ownsRow base 5 1 v l.length (Lib.byteCells l)) : (convert 59 9 v).run Tryz.prog w = .ok (.string ⟨l.toArray⟩) w := by
  rcases h.2 with ⟨rfl, h0⟩ | ⟨g, cap, cur, rfl, _⟩
  · obtain rfl : l = [] := List.eq_nil_of_length_eq_zero h0
    exact run_convert_bytes_nil (P := Tryz.prog) w 59 5 Tryz.underlying59 Tryz.underlying5 _ _ 9 Tryz.underlying9
  · refine run_convert_bytes_back (P := Tryz.prog) w 59 9 5 ⟨g, 0, none⟩ cap l Tryz.underlying59 Tryz.underlying5 Tryz.underlying9 fun j hj => ?_
    exact h.cells (g := g) rfl j _ (by simp [Lib.byteCells, hj])
theorem quoted_any (s : ByteArray) (w : World) : Calls Tryz.prog 55 #[.string s] w fun e w' => e = .returned (.string (quoteR s).1) ∧ Below w.heap.size w w' := by
  have hq := quote_any s w
  generalize quoteR s = r at *
  have HQ := Lib.hid hq
  clear hq
  go_enter Tryz.func55, Tryz.ntmps55
  go_wp2_with fail
  refine HQ.out.mono ?_
  rintro e w1 ⟨rfl, hb1⟩
  go_wp2_with fail
  go_ret
  exact ⟨rfl, hb1⟩
theorem ba_ext {s : ByteArray} {l : List UInt8} (h : s.data.toList = l) : s = ⟨l.toArray⟩ := by
  subst h; rfl
theorem str_ne_empty {s : ByteArray} (h : 0 < s.size) : s.toList.isEmpty = false := by
  rw [ByteArray.toList_eq, List.isEmpty_eq_false_iff]
  intro e
  exact absurd (show s.size = 0 from congrArg List.length e) (by omega)
theorem unq_fail (s : ByteArray) (h : ∀ u, ¬ IsU s.data.toList u) : (.tuple #[.string ⟨(unqR s.data.toList).1.toArray⟩, .int .i64 (unqR s.data.toList).2] : Value) = .tuple #[.string ⟨#[]⟩, .int .i64 3] := by
  rw [unqR_none h]
theorem unq_done (s : ByteArray) {u : List UInt8} (h : IsU s.data.toList u) : (.tuple #[.string ⟨(unqR s.data.toList).1.toArray⟩, .int .i64 (unqR s.data.toList).2] : Value) = .tuple #[.string ⟨u.toArray⟩, .int .i64 0] := by
  rw [unqR_some h]
set_option maxRecDepth 100000 in
set_option maxHeartbeats 4000000 in
theorem unq_any (s : ByteArray) (hs : s.size ≤ 70000) (w : World) : Calls Tryz.prog 12 #[.string s] w fun e w' => e = .returned (.tuple #[.string ⟨(unqR s.data.toList).1.toArray⟩, .int .i64 (unqR s.data.toList).2]) ∧ Below w.heap.size w w' := by
  have HF := Lib.hid (unq_fail s)
  have HD := Lib.hid (fun u => unq_done s (u := u))
  generalize (.tuple #[.string ⟨(unqR s.data.toList).1.toArray⟩, .int .i64 (unqR s.data.toList).2] : Value) = res at *
  by_cases h2 : s.size < 2
  · have HR := Lib.hid (HF.out fun u hu => by have := hu.ends.1; have e : s.data.toList.length = s.size := rfl; omega)
    have h2i : (s.size : Int) < 2 := by omega
    clear h2 HF HD
    go_enter Tryz.func12, Tryz.ntmps12
    go_wp2_with fail
    go_ret2
    exact ⟨by rw [HR.out]; rfl, Below.refl _ _⟩
  have h2i : ¬ (s.size : Int) < 2 := by omega
  have h0 : 0 < s.size := by omega
  have h0i : (0 : Int) < s.size := by omega
  by_cases hq : s[0].toNat = 34
  rotate_left
  · have HR := Lib.hid (HF.out fun u hu => by
      have h := hu.ends.2.1
      have e : s.data.toList[0]? = some s[0] := List.getElem?_eq_getElem (show 0 < s.data.toList.length from h0)
      rw [e] at h
      injection h with h
      exact hq (by rw [h]; rfl))
    have hqi : ((s[0].toNat : Int) != 34) = true := by simp; omega
    clear h2 HF HD hq
    go_enter Tryz.func12, Tryz.ntmps12
    go_wp2_with fail
    go_ret2
    exact ⟨by rw [HR.out]; rfl, Below.refl _ _⟩
  have hqi : ((s[0].toNat : Int) != 34) = false := by simp; omega
  have h2j : (2 : Int) ≤ s.size := by omega
  have h7 : (s.size : Int) ≤ 70000 := by omega
  have hls : s.size - 1 < s.size := by omega
  clear hq
  by_cases hq2 : s[s.size - 1].toNat = 34
  rotate_left
  · have HR := Lib.hid (HF.out fun u hu => by
      have h := hu.ends.2.2
      have e : s.data.toList[s.data.toList.length - 1]? = some s[s.size - 1] := List.getElem?_eq_getElem (show s.size - 1 < s.data.toList.length from hls)
      rw [e] at h
      injection h with h
      exact hq2 (by rw [h]; rfl))
    have hqi2 : ((s[s.size - 1].toNat : Int) != 34) = true := by simp; omega
    clear h2 HF HD hq2
    go_enter Tryz.func12, Tryz.ntmps12
    go_wp2_with fail
    go_ret2
    exact ⟨by rw [HR.out]; rfl, Below.refl _ _⟩
  have hqi2 : ((s[s.size - 1].toNat : Int) != 34) = false := by simp; omega
  clear hq2
  have hex : Hid ((s.extract 1 (s.size - 1)).data.toList = (s.data.toList.drop 1).take (s.data.toList.length - 2)) := by
    show _ = _
    rw [Lib.extract_data]; rfl
  have hez : (s.extract 1 (s.size - 1)).size ≤ 70000 := by rw [ByteArray.size_extract]; omega
  obtain ⟨i0, hi, hz0, hz1, hz2⟩ := info_parts Tryz.infoB5
  have HI : Hid ((Tryz.prog.info? 5 = some i0) ∧ i0.zero = some (.int .u8 0) ∧ i0.size = 1 ∧ i0.bytes = 1) := ⟨hi, hz0, hz1, hz2⟩
  clear hi hz0 hz1 hz2
  go_enter Tryz.func12, Tryz.ntmps12
  go_wp2_with fail
  go_loopw [4, 5] (fun v rv wr => ∃ (out : List UInt8) (r : ByteArray), rv = .string r ∧ r.size ≤ 70000 ∧ out.length ≤ 4096 ∧ wr.ownsRow w.heap.size 5 1 v out.length (Lib.byteCells out) ∧ Below w.heap.size w wr ∧ Hid (UI s.data.toList out r.data.toList)) (fun _ rv _ => match rv with | .string r => r.size | _ => 0)
  case atStart => exact ⟨[], _, rfl, hez, by simp, World.ownsRow_nil _ _ _ _, Below.refl _ _, by show UI _ _ _; rw [hex.out]; exact UI.start⟩
  case round =>
    obtain ⟨out, r, rfl, hr7, ho4, hown, hbr, HU⟩ := hrel
    have hzr := hbr.size
    clear hez
    obtain ⟨va, vc, rfl⟩ := own_slice hown
    by_cases hr0 : 0 < r.size
    · have hne := str_ne_empty hr0
      have hrn : r.data.toList ≠ [] := fun h => absurd (show r.size = 0 from congrArg List.length h) (by omega)
      have HC := Lib.hid (code_any r hr7)
      have hle : (codeL r.data.toList).2 ≤ r.size := codeL_le r.data.toList
      have HZ : Hid ((codeL r.data.toList).2 = 0 → ∀ u, ¬ IsU s.data.toList u) := fun h => HU.out.none hrn h
      have HFU : Hid (out.length = 4096 → ∀ u, ¬ IsU s.data.toList u) := fun h => HU.out.full hrn h
      have HN : Hid (UI s.data.toList (out ++ [(codeL r.data.toList).1]) (r.data.toList.drop (codeL r.data.toList).2)) := HU.out.next hrn
      clear hrn HU
      generalize codeL r.data.toList = cn at *
      obtain ⟨c, n⟩ := cn
      dsimp only at hle HZ HN HC
      by_cases hn : n = 0
      · have HR := Lib.hid (HF.out (HZ.out hn))
        have hni : ((n : Int) == 0) = true := by simp [hn]
        clear HF HD HZ HN HFU hn
        go_wp2_with fail
        refine (HC.out _).mono ?_
        rintro e w1 ⟨rfl, q, rfl⟩
        go_wp2_with fail
        go_ret2
        exact ⟨by rw [HR.out]; rfl, below_drewN hbr _⟩
      have hni : ((n : Int) == 0) = false := by simp [hn]
      by_cases h4 : out.length = 4096
      · have HR := Lib.hid (HF.out (HFU.out h4))
        have h4i : ((out.length : Int) == 4096) = true := by simp; omega
        clear HF HD HZ HN HFU hn h4
        go_wp2_with fail
        refine (HC.out _).mono ?_
        rintro e w1 ⟨rfl, q, rfl⟩
        go_wp2_with fail
        go_ret2
        exact ⟨by rw [HR.out]; rfl, below_drewN hbr _⟩
      have h4i : ((out.length : Int) == 4096) = false := by simp; omega
      have hn1 : 1 ≤ n := by omega
      have hni2 : (0 : Int) ≤ n := by omega
      have hlei : (n : Int) ≤ r.size := by omega
      have hrz : (r.extract n r.size).size < r.size := by rw [ByteArray.size_extract]; omega
      have hrd : (r.extract n r.size).data.toList = r.data.toList.drop n := Lib.extract_to_end r n
      have HN2 : Hid (UI s.data.toList (out ++ [c]) (r.extract n r.size).data.toList) := by show UI _ _ _; rw [hrd]; exact HN.out
      have HRZ := Lib.hid hrz
      clear HZ HFU HN hn h4 hrd hrz
      go_wp2_with fail
      refine (HC.out _).mono ?_
      rintro e w1 ⟨rfl, q, rfl⟩
      have hownD := own_below hown (below_drewN (Below.refl _ wr) q)
      have hbD := below_drewN hbr q
      generalize wr.drewN q = wd at *
      clear hbr hzr hown
      have hzd := hbD.size
      have hownA := hownD.alloc (.cells #[.int .u8 c.toNat] 5)
      have HX := Lib.hid (heap_alloc_last wd (.cells #[.int .u8 c.toNat] 5))
      have hbl := Lib.byteCells_length out
      go_wp2_with (at_builtin; refine wpList_append_own _ rfl _ _ 59 rfl w.heap.size 5 i0 (.int .u8 0) 1 1 Tryz.underlying59 HI.out.1 HI.out.2.1 HI.out.2.2.1 HI.out.2.2.2 rfl (by decide) _ _ _ rfl hownA ⟨wd.heap.size, 0, none⟩ 1 1 [.int .u8 c.toNat] rfl rfl (World.news_of_block HX.out) (by simp [Value.oneCell']) (by unfold maxLen; omega) (by omega) (by simp; omega) ?_)
      intro v' w2 hown' hgrow _
      have hB2 : Below w.heap.size w w2 := (hbD.alloc hzd _).grown hgrow (by simp; omega) (fun k hk => (hownA.lt k hk).1)
      have hown2 : w2.ownsRow w.heap.size 5 1 v' (out ++ [c]).length (Lib.byteCells (out ++ [c])) := by
        rw [List.length_append, show Lib.byteCells (out ++ [c]) = Lib.byteCells out ++ [.int .u8 c.toNat] by simp [Lib.byteCells]]; exact hown'
      clear hown' hgrow hownA hownD
      go_wp2_with fail
      go_roundw
      case rel => exact ⟨out ++ [c], _, rfl, by have := HRZ.out; omega, by rw [List.length_append]; show out.length + 1 ≤ 4096; have := h4i; simp at this; omega, hown2, hB2, HN2⟩
      case measure => exact HRZ.out
    · have hrl : r.data.toList = [] := List.eq_nil_of_length_eq_zero (show r.size = 0 by omega)
      have hre : r.toList.isEmpty = true := by rw [ByteArray.toList_eq, hrl]; rfl
      have HE : Hid (∀ u, IsU s.data.toList u → u = out) := UI.done (by have := HU.out; rwa [hrl] at this)
      have hcv := conv_own hown
      have HQ : Hid (quoteR ⟨out.toArray⟩ = (⟨(quoteL out).toArray⟩, 0)) := if_neg (show ¬ 4096 < out.length by omega)
      clear hrl HU
      by_cases hq : (⟨(quoteL out).toArray⟩ : ByteArray) = s
      · have HR := Lib.hid (HD.out out ⟨by rw [← hq], ho4⟩)
        have HQ2 : Hid (quoteR ⟨out.toArray⟩ = (s, 0)) := by show _ = _; rw [HQ.out, hq]
        clear hq HQ HF HD
        go_wp2_with fail
        refine (quote_any _ _).mono ?_
        rw [HQ2.out]
        rintro e w1 ⟨rfl, hb1⟩
        have hB1 := bt' hbr hb1 hzr
        have hcv1 := conv_own (own_below hown hb1)
        go_wp2_with fail
        go_ret2
        exact ⟨by rw [HR.out]; rfl, hB1⟩
      · have HR := Lib.hid (HF.out fun u hu => by
          obtain rfl := HE.out u hu
          exact hq (ba_ext hu.1.symm).symm)
        generalize (⟨(quoteL out).toArray⟩ : ByteArray) = bk at *
        have hbq : (bk.toList == s.toList) = false := by
          rw [beq_eq_false_iff_ne, ByteArray.toList_eq, ByteArray.toList_eq]
          exact fun h => hq ((ba_ext h).trans rfl)
        clear hq
        clear HF HD
        go_wp2_with fail
        refine (quote_any _ _).mono ?_
        rw [HQ.out]
        rintro e w1 ⟨rfl, hb1⟩
        have hB1 := bt' hbr hb1 hzr
        go_wp2_with fail
        go_ret2
        exact ⟨by rw [HR.out]; rfl, hB1⟩

end Go.Proofs.YtmcgddlblhinlaaGreatDoor

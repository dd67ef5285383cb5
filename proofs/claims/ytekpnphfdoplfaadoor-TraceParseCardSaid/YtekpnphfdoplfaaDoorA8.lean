/- The reference's Of; Hops, and the reference's. -/
import Derived.Test.YtekpnphfdoplfaaDoorA7
import Derived.Lib.OwnKind
namespace Go.Proofs.YtekpnphfdoplfaaDoor
open Go.RowKit
theorem own_ne_own {w : World} {B B' : Nat} {e e' : TypeId} {size size' : Nat} {v u : Value} {n n' : Nat} {xs ys : List Value} (h : w.ownsRow B e size v n xs) (h' : w.ownsRow B' e' size' u n' ys) (he : e ≠ e') : v.ownBlock = none ∨ v.ownBlock ≠ u.ownBlock := by
  cases hv : v.ownBlock with
  | none => exact .inl rfl
  | some g =>
    refine .inr fun hu => ?_
    obtain ⟨c1, f1, h1⟩ := Lib.ownsRow_kind h g hv
    obtain ⟨c2, f2, h2⟩ := Lib.ownsRow_kind h' g hu.symm
    rw [h1] at h2
    cases h2
    exact he rfl
set_option maxRecDepth 100000 in
set_option maxHeartbeats 4000000 in
theorem rof_any (v : Value) (xs : List Ent) (tk : Int) (w : World) (hv : Ents w w.heap.size v xs) (hlen : xs.length ≤ 65536) : Calls Tryd.prog 18 #[v, .int .i64 tk] w fun e w' => ∃ u, e = .returned u ∧ Ents w' w'.heap.size u (ofL tk xs) ∧ Below w.heap.size w w' := by
  obtain ⟨A, c, rfl, hc, hm, hA⟩ := hv
  unfold maxLen at hm
  have HA := Lib.hid hA
  clear hA
  by_cases ht : tk < 0
  · have HR : Hid (ofL tk xs = []) := by show _ = _; rw [ofL, if_pos ht]
    go_enter Tryd.func18, Tryd.ntmps18
    go_wp2_with fail
    go_ret
    exact ⟨_, rfl, by rw [HR.out]; exact ents_nil _ _, by (repeat' (first | (with_reducible exact Below.refl _ _) | (with_reducible refine Below.alloc ?_ ?_ _) | (with_reducible refine Below.drew ?_) | (with_reducible refine below_drewN ?_ _) | (with_reducible refine Below.setCell ?_ ?_ _) | (with_reducible refine Below.trans ?_ (Below.mono (by assumption) ?_)) | (with_reducible exact Nat.le_refl _) | omega | (simp; omega) | (simp; done)))⟩
  · have HR : Hid (ofL tk xs = ofG [tk] xs) := by show _ = _; rw [ofL, if_neg ht]
    have ho0 := World.ownsRow_lit (e := 3) (size := 1) (base := w.heap.size) w #[.int .i64 tk] 1 (Nat.le_refl _) (by simp [maxLen]) rfl
    have HO0 := Lib.hid ho0
    clear ho0
    go_enter Tryd.func18, Tryd.ntmps18
    go_wp2_with fail
    go_loopw [5, 6, 7] (fun U V i wr => ∃ (k : Nat) (S : List Int) (acc : List Ent), k ≤ xs.length ∧ i = .int .i64 k ∧ S.length ≤ k + 1 ∧ wr.ownsRow w.heap.size 37 6 V acc.length (entCells acc) ∧ wr.ownsRow w.heap.size 3 1 U S.length (intCells S) ∧ Hid (acc ++ ofG S (xs.drop k) = ofG [tk] xs) ∧ Below w.heap.size w wr ∧ acc.length ≤ k) (fun _ _ i _ => xs.length - (intOf i).toNat)
    case atStart => exact ⟨0, [tk], [], by omega, rfl, by simp, World.ownsRow_nil _ _ _ _, HO0.out, rfl, (Below.refl _ w).alloc (Nat.le_refl _) _, Nat.le_refl _⟩
    case round =>
      obtain ⟨k, S, acc, hk, rfl, hsl, hownV, hownU, hr, hB, hal⟩ := hrel
      have hzr := hB.size
      have HO := Lib.hid hownV
      have HU := Lib.hid hownU
      clear hownV hownU
      by_cases hlt : k < xs.length
      · obtain ⟨b, o, rfl, hb, hcell⟩ := HA.out (by omega)
        have hx := (hcell k hlt).below hB hb
        have hx0 := hcell k hlt
        have HST := Lib.hid (ofG_step S xs k hlt)
        clear hcell
        generalize xs.getD k Ent.zero = d at *
        obtain ⟨x0, x1, x2, x3, x4, x5⟩ := hx
        have hbr : b < wr.heap.size := by omega
        by_cases hK : d.k = 16 ∧ d.v ∈ S
        · have HG : Hid (growS S d = S ++ [d.j]) := by show _ = _; rw [growS, if_pos hK]
          have HN : Hid (acc ++ d :: ofG (S ++ [d.j]) (xs.drop (k + 1)) = ofG [tk] xs) := by show _ = _; rw [← hr.out, HST.out, HG.out, if_pos (by simp)]
          have HV := Lib.hid (decide_eq_true hK.2)
          have HJ : Hid (decide (d.j ∈ S ++ [d.j]) = true) := decide_eq_true (by simp)
          have hkb : (d.k == 16) = true := by simpa using hK.1
          clear hK
          go_wp2_with fail
          refine (has_any _ (S) d.v _ (ints_of_own HU.out) true HV.out).mono ?_
          rintro e w9 ⟨rfl, h9⟩
          rw [h9]
          clear h9 w9
          go_wp2_with (at_builtin; refine app_int wr rfl (.tmp 33) (.tmp 39) rfl w.heap.size _ S d.j rfl ?q1_1 HU.out ?q1_2 hB.size ?_)
          case q1_1 => simp [go_sem]
          case q1_2 => omega
          intro g4 c4 w4 hown4 hgrow4 hB4 _
          have HU4' := Lib.hid hown4
          have HU4 : Hid (w4.ownsRow w.heap.size 3 1 (.slice (some ⟨g4, 0, none⟩) (S.length + 1) c4) (S ++ [d.j]).length (intCells (S ++ [d.j]))) := by show World.ownsRow _ _ _ _ _ _ _; rw [List.length_append]; exact HU4'.out
          have HO4 := Lib.hid ((HO.out.alloc (.cells #[.int .i64 d.j] 3)).kept hgrow4 (own_ne_own HO.out HU.out (by decide)))
          have hD4 : Below w.heap.size w w4 := hB.trans (hB4.mono (by omega))
          have hx4 := hx0.below hD4 hb
          have hz4 := hD4.size
          obtain ⟨y0, y1, y2, y3, y4, y5⟩ := hx4
          have hb4 : b < w4.heap.size := by omega
          clear hown4 hgrow4 hB4 x0 x1 x2 x3 x4 x5 HU4'
          go_wp2_with fail
          refine (has_any _ (S ++ [d.j]) d.j _ (ints_of_own HU4.out) true HJ.out).mono ?_
          rintro e w9 ⟨rfl, h9⟩
          rw [h9]
          clear h9 w9
          go_wp2_with (at_builtin; refine app_ent w4 rfl (.tmp 48) (.tmp 53) rfl w.heap.size _ acc d rfl ?q2_1 HO4.out ?q2_2 hD4.size ?_)
          case q2_1 => simp [go_sem]
          case q2_2 => omega
          intro g5 c5 w5 hown5 hgrow5 hB5 _
          have HO5 := Lib.hid hown5
          have HU5 := Lib.hid ((HU4.out.alloc (.cells #[.int .i64 d.t, .int .i64 d.k, .int .i64 d.n, .int .i64 d.j, .int .i64 d.c, .int .i64 d.v] 37)).kept hgrow5 (own_ne_own HU4.out HO4.out (by decide)))
          have hD5 : Below w.heap.size w w5 := hD4.trans hB5
          clear hown5 hgrow5 hB5
          go_wp2_with fail
          go_roundw
          case rel => exact ⟨k + 1, S ++ [d.j], acc ++ [d], by omega, by go_num, by simp; omega, by rw [List.length_append]; exact HO5.out, HU5.out, (by have h := HN.out; show _ = _; simpa using h), hD5, by simp; omega⟩
          case measure => simp [intOf]; omega
        · have HG : Hid (growS S d = S) := by show _ = _; rw [growS, if_neg hK]
          by_cases hk16 : d.k = 16
          · have HV : Hid (decide (d.v ∈ S) = false) := decide_eq_false (fun e => hK ⟨hk16, e⟩)
            have hkb : (d.k == 16) = true := by simpa using hk16
            by_cases hJ : d.j ∈ S
            · have HN : Hid (acc ++ d :: ofG S (xs.drop (k + 1)) = ofG [tk] xs) := by show _ = _; rw [← hr.out, HST.out, HG.out, if_pos hJ]
              have HJ := Lib.hid (decide_eq_true hJ)
              clear hK hJ hk16 hx0
              go_wp2_with fail
              refine (has_any _ (S) d.v _ (ints_of_own HU.out) false HV.out).mono ?_
              rintro e w9 ⟨rfl, h9⟩
              rw [h9]
              clear h9 w9
              go_wp2_with fail
              refine (has_any _ (S) d.j _ (ints_of_own HU.out) true HJ.out).mono ?_
              rintro e w9 ⟨rfl, h9⟩
              rw [h9]
              clear h9 w9
              go_wp2_with (at_builtin; refine app_ent wr rfl (.tmp 48) (.tmp 53) rfl w.heap.size _ acc d rfl ?q3_1 HO.out ?q3_2 hB.size ?_)
              case q3_1 => simp [go_sem]
              case q3_2 => omega
              intro g5 c5 w5 hown5 hgrow5 hB5 _
              have HO5 := Lib.hid hown5
              have HU5 := Lib.hid ((HU.out.alloc (.cells #[.int .i64 d.t, .int .i64 d.k, .int .i64 d.n, .int .i64 d.j, .int .i64 d.c, .int .i64 d.v] 37)).kept hgrow5 (own_ne_own HU.out HO.out (by decide)))
              have hD5 : Below w.heap.size w w5 := hB.trans hB5
              clear hown5 hgrow5 hB5
              go_wp2_with fail
              go_roundw
              case rel => exact ⟨k + 1, S, acc ++ [d], by omega, by go_num, by omega, by rw [List.length_append]; exact HO5.out, HU5.out, (by have h := HN.out; show _ = _; simpa using h), hD5, by simp; omega⟩
              case measure => simp [intOf]; omega
            · have HN : Hid (acc ++ ofG S (xs.drop (k + 1)) = ofG [tk] xs) := by show _ = _; rw [← hr.out, HST.out, HG.out, if_neg hJ]
              have HJ := Lib.hid (decide_eq_false hJ)
              clear hK hJ hk16 hx0
              go_wp2_with fail
              refine (has_any _ (S) d.v _ (ints_of_own HU.out) false HV.out).mono ?_
              rintro e w9 ⟨rfl, h9⟩
              rw [h9]
              clear h9 w9
              go_wp2_with fail
              refine (has_any _ (S) d.j _ (ints_of_own HU.out) false HJ.out).mono ?_
              rintro e w9 ⟨rfl, h9⟩
              rw [h9]
              clear h9 w9
              go_wp2_with fail
              go_roundw
              case rel => exact ⟨k + 1, S, acc, by omega, by go_num, by omega, HO.out, HU.out, HN, hB, by omega⟩
              case measure => simp [intOf]; omega
          · have hkb : (d.k == 16) = false := by simpa using hk16
            by_cases hJ : d.j ∈ S
            · have HN : Hid (acc ++ d :: ofG S (xs.drop (k + 1)) = ofG [tk] xs) := by show _ = _; rw [← hr.out, HST.out, HG.out, if_pos hJ]
              have HJ := Lib.hid (decide_eq_true hJ)
              clear hK hJ hk16 hx0
              go_wp2_with fail
              refine (has_any _ (S) d.j _ (ints_of_own HU.out) true HJ.out).mono ?_
              rintro e w9 ⟨rfl, h9⟩
              rw [h9]
              clear h9 w9
              go_wp2_with (at_builtin; refine app_ent wr rfl (.tmp 48) (.tmp 53) rfl w.heap.size _ acc d rfl ?q4_1 HO.out ?q4_2 hB.size ?_)
              case q4_1 => simp [go_sem]
              case q4_2 => omega
              intro g5 c5 w5 hown5 hgrow5 hB5 _
              have HO5 := Lib.hid hown5
              have HU5 := Lib.hid ((HU.out.alloc (.cells #[.int .i64 d.t, .int .i64 d.k, .int .i64 d.n, .int .i64 d.j, .int .i64 d.c, .int .i64 d.v] 37)).kept hgrow5 (own_ne_own HU.out HO.out (by decide)))
              have hD5 : Below w.heap.size w w5 := hB.trans hB5
              clear hown5 hgrow5 hB5
              go_wp2_with fail
              go_roundw
              case rel => exact ⟨k + 1, S, acc ++ [d], by omega, by go_num, by omega, by rw [List.length_append]; exact HO5.out, HU5.out, (by have h := HN.out; show _ = _; simpa using h), hD5, by simp; omega⟩
              case measure => simp [intOf]; omega
            · have HN : Hid (acc ++ ofG S (xs.drop (k + 1)) = ofG [tk] xs) := by show _ = _; rw [← hr.out, HST.out, HG.out, if_neg hJ]
              have HJ := Lib.hid (decide_eq_false hJ)
              clear hK hJ hk16 hx0
              go_wp2_with fail
              refine (has_any _ (S) d.j _ (ints_of_own HU.out) false HJ.out).mono ?_
              rintro e w9 ⟨rfl, h9⟩
              rw [h9]
              clear h9 w9
              go_wp2_with fail
              go_roundw
              case rel => exact ⟨k + 1, S, acc, by omega, by go_num, by omega, HO.out, HU.out, HN, hB, by omega⟩
              case measure => simp [intOf]; omega
      · have HT : Hid (ofL tk xs = acc) := by show _ = _; rw [HR.out, ← hr.out, List.drop_of_length_le (by omega)]; simp [ofG]
        go_wp2_with fail
        go_ret
        exact ⟨_, rfl, by rw [HT.out]; exact ents_of_own HO.out, hB⟩
def begL (l : List Ent) : List Int := (l.filter fun x => x.k == 5).map fun x => x.c
def hopR (tk : Int) (xs : List Ent) : List Int × Int := if chkE xs ≠ 0 then ([], 1) else if (ofL tk xs).length = 0 then ([], 7) else (begL (ofL tk xs), 0)
theorem begL_step (l : List Ent) (k : Nat) (h : k < l.length) : begL (l.drop k) = if (l.getD k Ent.zero).k = 5 then (l.getD k Ent.zero).c :: begL (l.drop (k + 1)) else begL (l.drop (k + 1)) := by
  rw [drop_get l Ent.zero k h, begL, List.filter_cons]
  split
  · rename_i h1; rw [if_pos (by simpa using h1)]; rfl
  · rename_i h1; rw [if_neg (by simpa using h1)]; rfl
theorem ofL_len (tk : Int) (xs : List Ent) : (ofL tk xs).length ≤ xs.length := by
  unfold ofL; split
  · simp
  · exact ofG_len _ _
set_option maxRecDepth 100000 in
set_option maxHeartbeats 4000000 in
theorem hops_any (v : Value) (xs : List Ent) (tk : Int) (w : World) (hv : Ents w w.heap.size v xs) (hok : ∀ x ∈ xs, okE x) (htk : (Lit.int .i64 tk).wf = true) (hlen : xs.length ≤ 65536) : Calls Tryd.prog 15 #[v, .int .i64 tk] w fun e w' => ∃ u, e = .returned (.tuple #[u, .int .i64 (hopR tk xs).2]) ∧ Ints w' w'.heap.size u (hopR tk xs).1 ∧ Below w.heap.size w w' := by
  by_cases hE : chkE xs = 0
  · have HE := Lib.hid hE
    clear hE
    go_enter Tryd.func15, Tryd.ntmps15
    go_wp2_with fail
    refine (check_any v xs w hv).mono ?_
    rw [HE.out]
    rintro e w1 ⟨rfl, hb1⟩
    go_wp2_with fail
    refine (of_any v xs tk w1 ((hv.below hb1).more hb1.size) hok htk hlen).mono ?_
    rintro e w2 ⟨u, rfl, hu, hb2⟩
    have hB2 := bt hb1 hb2
    have hol := ofL_len tk xs
    have HL : Hid (∀ n, (ofL tk xs).length = n → (ofL tk xs).length = n) := fun n h => h
    clear hb1 hb2
    obtain ⟨A, c, rfl, hc, hm, hA⟩ := hu
    unfold maxLen at hm
    have HA := Lib.hid hA
    clear hA
    by_cases h0 : (ofL tk xs).length = 0
    · have HR : Hid (hopR tk xs = ([], 7)) := by show _ = _; rw [hopR, if_neg (by simp [HE.out]), if_pos h0]
      have h0b : (((ofL tk xs).length : Int) == 0) = true := by simp; exact List.eq_nil_of_length_eq_zero h0
      have hz : ((ofL tk xs).length : Int) = 0 := by omega
      go_wp2_with fail
      go_ret2
      exact ⟨_, by rw [HR.out]; rfl, by rw [HR.out]; exact ints_nil _ _, hB2⟩
    · have HR : Hid (hopR tk xs = (begL (ofL tk xs), 0)) := by show _ = _; rw [hopR, if_neg (by simp [HE.out]), if_neg h0]
      have h0b : (((ofL tk xs).length : Int) == 0) = false := by simp; exact fun h => h0 (by rw [h]; rfl)
      have hz : ¬ ((ofL tk xs).length : Int) = 0 := by omega
      have hz2 : ¬ ofL tk xs = [] := fun h => h0 (by rw [h]; rfl)
      have hpos : 0 < (ofL tk xs).length := by omega
      clear HL h0
      generalize ofL tk xs = own at *
      go_wp2_with fail
      go_loopw [7, 21] (fun V i wr => ∃ (k : Nat) (acc : List Int), k ≤ own.length ∧ i = .int .i64 k ∧ wr.ownsRow w2.heap.size 3 1 V acc.length (intCells acc) ∧ Hid (acc ++ begL (own.drop k) = begL own) ∧ Below w2.heap.size w2 wr ∧ acc.length ≤ k) (fun _ i _ => own.length - (intOf i).toNat)
      case atStart => exact ⟨0, [], by omega, rfl, World.ownsRow_nil _ _ _ _, rfl, Below.refl _ _, Nat.le_refl _⟩
      case round =>
        obtain ⟨k, acc, hk, rfl, hown, hr, hB, hal⟩ := hrel
        have hzr := hB.size
        have HO := Lib.hid hown
        clear hown
        by_cases hlt : k < own.length
        · obtain ⟨b, o, rfl, hb, hcell⟩ := HA.out (by omega)
          have hx := (hcell k hlt).below hB hb
          have HST := Lib.hid (begL_step own k hlt)
          clear hcell
          generalize own.getD k Ent.zero = d at *
          obtain ⟨x0, x1, x2, x3, x4, x5⟩ := hx
          have hbr : b < wr.heap.size := by omega
          have hBW := hB.alloc hzr (.cells #[.int .i64 d.t, .int .i64 d.k, .int .i64 d.n, .int .i64 d.j, .int .i64 d.c, .int .i64 d.v] 37)
          have HOW := Lib.hid (HO.out.alloc (.cells #[.int .i64 d.t, .int .i64 d.k, .int .i64 d.n, .int .i64 d.j, .int .i64 d.c, .int .i64 d.v] 37))
          by_cases hK : d.k = 5
          · have HN : Hid (acc ++ d.c :: begL (own.drop (k + 1)) = begL own) := by show _ = _; rw [← hr.out, HST.out, if_pos hK]
            have hkb : (d.k == 5) = true := by simpa using hK
            clear hK
            go_wp2_with (at_builtin; refine app_int (wr.alloc (.cells #[.int .i64 d.t, .int .i64 d.k, .int .i64 d.n, .int .i64 d.j, .int .i64 d.c, .int .i64 d.v] 37)) rfl (.tmp 28) (.tmp 31) rfl w2.heap.size _ acc d.c rfl ?q5_1 HOW.out ?q5_2 hBW.size ?_)
            case q5_1 => simp [go_sem]
            case q5_2 => omega
            intro g5 c5 w5 hown5 hgrow5 hB5 _
            have HO5 := Lib.hid hown5
            have hD5 : Below w2.heap.size w2 w5 := hBW.trans (hB5.mono (by omega))
            clear hown5 hgrow5 hB5
            go_wp2_with fail
            go_roundw
            case rel => exact ⟨k + 1, acc ++ [d.c], by omega, by go_num, by rw [List.length_append]; exact HO5.out, (by have h := HN.out; show _ = _; simpa using h), hD5, by simp; omega⟩
            case measure => simp [intOf]; omega
          · have HN : Hid (acc ++ begL (own.drop (k + 1)) = begL own) := by show _ = _; rw [← hr.out, HST.out, if_neg hK]
            have hkb : (d.k == 5) = false := by simpa using hK
            clear hK
            go_wp2_with fail
            go_roundw
            case rel => exact ⟨k + 1, acc, by omega, by go_num, HOW.out, HN, hBW, by omega⟩
            case measure => simp [intOf]; omega
        · have HT : Hid (begL own = acc) := by show _ = _; rw [← hr.out, List.drop_of_length_le (by omega)]; simp [begL]
          go_wp2_with fail
          go_ret2
          exact ⟨_, by rw [HR.out]; rfl, by rw [HR.out]; show Ints _ _ _ (begL own); rw [HT.out]; exact ints_of_own HO.out, bt hB2 hB⟩
  · have HR : Hid (hopR tk xs = ([], 1)) := by show _ = _; rw [hopR, if_pos hE]
    have hEb : (chkE xs != 0) = true := by simpa using hE
    clear hE
    go_enter Tryd.func15, Tryd.ntmps15
    go_wp2_with fail
    refine (check_any v xs w hv).mono ?_
    rintro e w1 ⟨rfl, hb1⟩
    go_wp2_with fail
    go_ret2
    exact ⟨_, by rw [HR.out]; rfl, by rw [HR.out]; exact ints_nil _ _, hb1⟩
set_option maxRecDepth 100000 in
set_option maxHeartbeats 4000000 in
theorem rhops_any (v : Value) (xs : List Ent) (tk : Int) (w : World) (hv : Ents w w.heap.size v xs) (hlen : xs.length ≤ 65536) : Calls Tryd.prog 16 #[v, .int .i64 tk] w fun e w' => ∃ u, e = .returned (.tuple #[u, .int .i64 (hopR tk xs).2]) ∧ Ints w' w'.heap.size u (hopR tk xs).1 ∧ Below w.heap.size w w' := by
  by_cases hE : chkE xs = 0
  · have HE := Lib.hid hE
    clear hE
    go_enter Tryd.func16, Tryd.ntmps16
    go_wp2_with fail
    refine (rcheck_any v xs w hv).mono ?_
    rw [HE.out]
    rintro e w1 ⟨rfl, hb1⟩
    go_wp2_with fail
    refine (rof_any v xs tk w1 ((hv.below hb1).more hb1.size) hlen).mono ?_
    rintro e w2 ⟨u, rfl, hu, hb2⟩
    have hB2 := bt hb1 hb2
    have hol := ofL_len tk xs
    have HL : Hid (∀ n, (ofL tk xs).length = n → (ofL tk xs).length = n) := fun n h => h
    clear hb1 hb2
    obtain ⟨A, c, rfl, hc, hm, hA⟩ := hu
    unfold maxLen at hm
    have HA := Lib.hid hA
    clear hA
    by_cases h0 : (ofL tk xs).length = 0
    · have HR : Hid (hopR tk xs = ([], 7)) := by show _ = _; rw [hopR, if_neg (by simp [HE.out]), if_pos h0]
      have h0b : (((ofL tk xs).length : Int) == 0) = true := by simp; exact List.eq_nil_of_length_eq_zero h0
      have hz : ((ofL tk xs).length : Int) = 0 := by omega
      go_wp2_with fail
      go_ret2
      exact ⟨_, by rw [HR.out]; rfl, by rw [HR.out]; exact ints_nil _ _, hB2⟩
    · have HR : Hid (hopR tk xs = (begL (ofL tk xs), 0)) := by show _ = _; rw [hopR, if_neg (by simp [HE.out]), if_neg h0]
      have h0b : (((ofL tk xs).length : Int) == 0) = false := by simp; exact fun h => h0 (by rw [h]; rfl)
      have hz : ¬ ((ofL tk xs).length : Int) = 0 := by omega
      have hz2 : ¬ ofL tk xs = [] := fun h => h0 (by rw [h]; rfl)
      have hpos : 0 < (ofL tk xs).length := by omega
      clear HL h0
      generalize ofL tk xs = own at *
      go_wp2_with fail
      go_loopw [7, 8] (fun V i wr => ∃ (k : Nat) (acc : List Int), k ≤ own.length ∧ i = .int .i64 k ∧ wr.ownsRow w2.heap.size 3 1 V acc.length (intCells acc) ∧ Hid (acc ++ begL (own.drop k) = begL own) ∧ Below w2.heap.size w2 wr ∧ acc.length ≤ k) (fun _ i _ => own.length - (intOf i).toNat)
      case atStart => exact ⟨0, [], by omega, rfl, World.ownsRow_nil _ _ _ _, rfl, Below.refl _ _, Nat.le_refl _⟩
      case round =>
        obtain ⟨k, acc, hk, rfl, hown, hr, hB, hal⟩ := hrel
        have hzr := hB.size
        have HO := Lib.hid hown
        clear hown
        by_cases hlt : k < own.length
        · obtain ⟨b, o, rfl, hb, hcell⟩ := HA.out (by omega)
          have hx := (hcell k hlt).below hB hb
          have HST := Lib.hid (begL_step own k hlt)
          clear hcell
          generalize own.getD k Ent.zero = d at *
          obtain ⟨x0, x1, x2, x3, x4, x5⟩ := hx
          have hbr : b < wr.heap.size := by omega
          have hBW := hB
          have HOW := HO
          by_cases hK : d.k = 5
          · have HN : Hid (acc ++ d.c :: begL (own.drop (k + 1)) = begL own) := by show _ = _; rw [← hr.out, HST.out, if_pos hK]
            have hkb : (d.k == 5) = true := by simpa using hK
            clear hK
            go_wp2_with (at_builtin; refine app_int wr rfl (.tmp 30) (.tmp 36) rfl w2.heap.size _ acc d.c rfl ?q6_1 HOW.out ?q6_2 hBW.size ?_)
            case q6_1 => simp [go_sem]
            case q6_2 => omega
            intro g5 c5 w5 hown5 hgrow5 hB5 _
            have HO5 := Lib.hid hown5
            have hD5 : Below w2.heap.size w2 w5 := hBW.trans (hB5.mono (by omega))
            clear hown5 hgrow5 hB5
            go_wp2_with fail
            go_roundw
            case rel => exact ⟨k + 1, acc ++ [d.c], by omega, by go_num, by rw [List.length_append]; exact HO5.out, (by have h := HN.out; show _ = _; simpa using h), hD5, by simp; omega⟩
            case measure => simp [intOf]; omega
          · have HN : Hid (acc ++ begL (own.drop (k + 1)) = begL own) := by show _ = _; rw [← hr.out, HST.out, if_neg hK]
            have hkb : (d.k == 5) = false := by simpa using hK
            clear hK
            go_wp2_with fail
            go_roundw
            case rel => exact ⟨k + 1, acc, by omega, by go_num, HOW.out, HN, hBW, by omega⟩
            case measure => simp [intOf]; omega
        · have HT : Hid (begL own = acc) := by show _ = _; rw [← hr.out, List.drop_of_length_le (by omega)]; simp [begL]
          go_wp2_with fail
          go_ret2
          exact ⟨_, by rw [HR.out]; rfl, by rw [HR.out]; show Ints _ _ _ (begL own); rw [HT.out]; exact ints_of_own HO.out, bt hB2 hB⟩
  · have HR : Hid (hopR tk xs = ([], 1)) := by show _ = _; rw [hopR, if_pos hE]
    have hEb : (chkE xs != 0) = true := by simpa using hE
    clear hE
    go_enter Tryd.func16, Tryd.ntmps16
    go_wp2_with fail
    refine (rcheck_any v xs w hv).mono ?_
    rintro e w1 ⟨rfl, hb1⟩
    go_wp2_with fail
    go_ret2
    exact ⟨_, by rw [HR.out]; rfl, by rw [HR.out]; exact ints_nil _ _, hb1⟩
end Go.Proofs.YtekpnphfdoplfaaDoor

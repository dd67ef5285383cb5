/- The entries of a ticket: Of. -/
import Derived.Test.YtekpnphfdoplfaaDoorA6
import Derived.Maps.OwnSet
namespace Go.Proofs.YtekpnphfdoplfaaDoor
open Go.RowKit Go.Maps
def growS (S : List Int) (x : Ent) : List Int := if x.k = 16 ∧ x.v ∈ S then S ++ [x.j] else S
def ofG : List Int → List Ent → List Ent
  | _, [] => []
  | S, x :: t => if x.j ∈ growS S x then x :: ofG (growS S x) t else ofG (growS S x) t
/-- the entries of a ticket and of those that replaced it -/
def ofL (tk : Int) (xs : List Ent) : List Ent := if tk < 0 then [] else ofG [tk] xs
theorem ofG_step (S : List Int) (xs : List Ent) (k : Nat) (h : k < xs.length) : ofG S (xs.drop k) = if (xs.getD k Ent.zero).j ∈ growS S (xs.getD k Ent.zero) then xs.getD k Ent.zero :: ofG (growS S (xs.getD k Ent.zero)) (xs.drop (k + 1)) else ofG (growS S (xs.getD k Ent.zero)) (xs.drop (k + 1)) := by
  rw [drop_get xs Ent.zero k h, ofG]
theorem ofG_len : ∀ (S : List Int) (xs : List Ent), (ofG S xs).length ≤ xs.length
  | _, [] => Nat.le_refl _
  | S, x :: t => by
    rw [ofG]; split
    · simpa using ofG_len _ t
    · exact Nat.le_trans (ofG_len _ t) (by simp)
/-- the fields that serve as keys are machine integers -/
def okE (x : Ent) : Prop := (Lit.int .i64 x.j).wf = true ∧ (Lit.int .i64 x.v).wf = true
abbrev DU := DataW Unit
def Sees (D : DU) (S : List Int) : Prop := ∀ z, D.atKey (.int .i64 z) (.lit (.bool false)) = .lit (.bool (decide (z ∈ S)))
abbrev OwnM (w : World) (b n : Nat) (D : DU) : Prop := w.ownsMap Tryd.prog 3 (plainElem Tryd.prog 4) b n D
theorem zeroB (w : World) : (zeroValue 4).run Tryd.prog w = .ok (.bool false) w := by kernel_rfl
theorem lawK : Keyed Tryd.prog 3 := int_keyed Tryd.underlying3
theorem plainElem_bool_inv {P : Program} {e : TypeId} (he : P.underlying e = some .bool) {v : Value} {b : Bool} {ps : List MemPlace} (h : plainElem (H := Unit) P e v = some (.lit (.bool b), ps)) : v = .bool b := by
  unfold plainElem at h
  rw [he] at h
  cases v <;> simp at h
  rw [h.1]
theorem look_bool {w : World} {B n : Nat} {D : DU} {S : List Int} (h : OwnM w B n D) (hs : Sees D S) {z : Int} (hz : (Lit.int .i64 z).wf = true) : (Instr.lookup 55 (.map (some B)) (.int .i64 z) false).run Tryd.prog w = .ok (.bool (decide (z ∈ S))) w := by
  obtain ⟨v, ps, hrun, hv⟩ := h.lookup lawK Tryd.underlying55 (zeroB w) (plainElem_bool Tryd.underlying4 false) (keyOf_int_mk Tryd.underlying3 hz)
  rw [hs z] at hv
  rw [hrun, plainElem_bool_inv Tryd.underlying4 hv]
theorem put_bool {w : World} {B n : Nat} {D : DU} {S : List Int} (h : OwnM w B n D) (hs : Sees D S) (hn : n < 70000) {z : Int} (hz : (Lit.int .i64 z).wf = true) :
    ∃ (w' : World) (D' : DU), (Instr.mapUpdate 55 (.map (some B)) (.int .i64 z) (.bool true)).run Tryd.prog w = .ok () w' ∧ OwnM w' B (n + 1) D' ∧ Sees D' (S ++ [z]) ∧ w.grownBy w' (some B) := by
  obtain ⟨w', h1, h2, h3⟩ := h.update (val := .bool true) lawK Tryd.underlying55 (by unfold maxLen; omega) (keyOf_int_mk Tryd.underlying3 hz) (plainElem_bool Tryd.underlying4 true)
  refine ⟨w', _, h1, h2, fun y => ?_, h3⟩
  by_cases hy : y = z
  · subst hy
    rw [atKey_put_same h.isMap (show WideAt.IsKeyLit (.int .i64 y) from trivial)]; simp
  · rw [atKey_put_other (fun e => hy (by injection e)), hs y]; simp [hy]
theorem sees_new (S : List Int) (hS : S = []) : Sees (.map []) S := fun z => by subst hS; rfl
set_option maxRecDepth 100000 in
set_option maxHeartbeats 4000000 in
theorem of_any (v : Value) (xs : List Ent) (tk : Int) (w : World) (hv : Ents w w.heap.size v xs) (hok : ∀ x ∈ xs, okE x) (htk : (Lit.int .i64 tk).wf = true) (hlen : xs.length ≤ 65536) : Calls Tryd.prog 17 #[v, .int .i64 tk] w fun e w' => ∃ u, e = .returned u ∧ Ents w' w'.heap.size u (ofL tk xs) ∧ Below w.heap.size w w' := by
  obtain ⟨A, c, rfl, hc, hm, hA⟩ := hv
  unfold maxLen at hm
  have HA := Lib.hid hA
  have HOK : Hid (∀ i, i < xs.length → okE (xs.getD i Ent.zero)) := fun i hi => by
    have : xs.getD i Ent.zero = xs[i] := by simp [List.getD, hi]
    rw [this]; exact hok _ (List.getElem_mem hi)
  clear hA hok
  by_cases ht : tk < 0
  · have HR : Hid (ofL tk xs = []) := by show _ = _; rw [ofL, if_pos ht]
    go_enter Tryd.func17, Tryd.ntmps17
    go_wp2_with fail
    go_ret
    exact ⟨_, rfl, by rw [HR.out]; exact ents_nil _ _, by (repeat' (first | (with_reducible exact Below.refl _ _) | (with_reducible refine Below.alloc ?_ ?_ _) | (with_reducible refine Below.drew ?_) | (with_reducible refine below_drewN ?_ _) | (with_reducible refine Below.setCell ?_ ?_ _) | (with_reducible refine Below.trans ?_ (Below.mono (by assumption) ?_)) | (with_reducible exact Nat.le_refl _) | omega | (simp; omega) | (simp; done)))⟩
  · have HR : Hid (ofL tk xs = ofG [tk] xs) := by show _ = _; rw [ofL, if_neg ht]
    have hmm := @run_makeMap Tryd.prog
    obtain ⟨w1, D1, hst, hM1, hS1, hg1⟩ := put_bool (World.ownsMap_made w Tryd.prog 3 (plainElem Tryd.prog 4)) (sees_new [] rfl) (by omega) htk
    have hB1 : Below w.heap.size w w1 := Below.grown ((Below.refl _ w).alloc (Nat.le_refl _) _) hg1 (by simp) (fun j e => by simp at e; omega)
    have hs1 : w.heap.size + 1 ≤ w1.heap.size := Nat.le_trans (by simp) hg1.size
    have HM1 := Lib.hid hM1
    have HS1 := Lib.hid hS1
    clear hM1 hS1 hg1
    go_enter Tryd.func17, Tryd.ntmps17
    go_wp2_with fail
    clear hmm hst
    go_loopw [5, 16] (fun V i wr => ∃ (k : Nat) (S : List Int) (D : DU) (acc : List Ent), k ≤ xs.length ∧ i = .int .i64 k ∧ True ∧ wr.ownsRow (w.heap.size + 1) 37 6 V acc.length (entCells acc) ∧ OwnM wr w.heap.size (k + 1) D ∧ Sees D S ∧ Hid (acc ++ ofG S (xs.drop k) = ofG [tk] xs) ∧ Below w.heap.size w wr ∧ w.heap.size + 1 ≤ wr.heap.size ∧ acc.length ≤ k) (fun _ i _ => xs.length - (intOf i).toNat)
    case atStart => exact ⟨0, [tk], D1, [], by omega, rfl, trivial, World.ownsRow_nil _ _ _ _, HM1.out.mono (by omega), HS1.out, rfl, hB1, hs1, Nat.le_refl _⟩
    case round =>
      obtain ⟨k, S, D, acc, hk, rfl, -, hown, hM, hS, hr, hB, hs, hal⟩ := hrel
      have hzr := hB.size
      have HO := Lib.hid hown
      have HM := Lib.hid hM
      have HS := Lib.hid hS
      clear hM hS
      by_cases hlt : k < xs.length
      · obtain ⟨b, o, rfl, hb, hcell⟩ := HA.out (by omega)
        have hx := (hcell k hlt).below hB hb
        have HST := Lib.hid (ofG_step S xs k hlt)
        have HKD := Lib.hid (HOK.out k hlt)
        clear hcell
        generalize xs.getD k Ent.zero = d at *
        obtain ⟨x0, x1, x2, x3, x4, x5⟩ := hx
        have hbr : b < wr.heap.size := by omega
        have hBW : Below w.heap.size w (wr.alloc (.cells #[.int .i64 d.t, .int .i64 d.k, .int .i64 d.n, .int .i64 d.j, .int .i64 d.c, .int .i64 d.v] 37)) := hB.alloc hzr _
        have HMW := Lib.hid (HM.out.alloc (.cells #[.int .i64 d.t, .int .i64 d.k, .int .i64 d.n, .int .i64 d.j, .int .i64 d.c, .int .i64 d.v] 37))
        have hownW := hown.alloc (.cells #[.int .i64 d.t, .int .i64 d.k, .int .i64 d.n, .int .i64 d.j, .int .i64 d.c, .int .i64 d.v] 37)
        have hsW : w.heap.size + 1 ≤ (wr.alloc (.cells #[.int .i64 d.t, .int .i64 d.k, .int .i64 d.n, .int .i64 d.j, .int .i64 d.c, .int .i64 d.v] 37)).heap.size := by simp; omega
        have hlj := look_bool HMW.out HS.out HKD.out.1
        by_cases hK : d.k = 16 ∧ d.v ∈ S
        · have HG : Hid (growS S d = S ++ [d.j]) := by show _ = _; rw [growS, if_pos hK]
          have HN : Hid (acc ++ d :: ofG (S ++ [d.j]) (xs.drop (k + 1)) = ofG [tk] xs) := by show _ = _; rw [← hr.out, HST.out, HG.out, if_pos (by simp)]
          have hlv := look_bool HMW.out HS.out HKD.out.2
          rw [decide_eq_true hK.2] at hlv
          have hkb : (d.k == 16) = true := by simpa using hK.1
          obtain ⟨w2, D2, hst, hM2, hS2, hg2⟩ := put_bool HMW.out HS.out (by omega) HKD.out.1
          have hlj2 := look_bool hM2 hS2 HKD.out.1
          rw [decide_eq_true (show d.j ∈ S ++ [d.j] by simp)] at hlj2
          have hB2 : Below w.heap.size w w2 := Below.grown hBW hg2 (by simp; omega) (fun j e => by simp at e; omega)
          have hs2 : w.heap.size + 1 ≤ w2.heap.size := Nat.le_trans hsW hg2.size
          have hbk : w2.heap[wr.heap.size]? = some (.cells #[.int .i64 d.t, .int .i64 d.k, .int .i64 d.n, .int .i64 d.j, .int .i64 d.c, .int .i64 d.v] 37 (0, 0)) := (hg2.block wr.heap.size (by simp) (by simp; omega)).trans (heap_alloc_last wr _)
          have z0 := cell_blk hbk 0
          have z1 := cell_blk hbk 1
          have z2 := cell_blk hbk 2
          have z3 := cell_blk hbk 3
          have z4 := cell_blk hbk 4
          have z5 := cell_blk hbk 5
          simp only [List.getElem?_toArray, List.getElem?_cons_zero, List.getElem?_cons_succ] at z0 z1 z2 z3 z4 z5
          have hzl : wr.heap.size < w2.heap.size := blk_lt hbk
          have hown2 := hownW.kept hg2 (.inr (own_ne_lt hown (g := w.heap.size) (.inl (Nat.lt_succ_self _))))
          have HM2 := Lib.hid hM2
          have HS2 := Lib.hid hS2
          clear hK hg2 hM2 hS2 hbk hlj hown hownW hBW
          go_wp2_with (at_builtin; refine app_ent w2 rfl (.tmp 36) (.tmp 38) rfl (w.heap.size + 1) _ acc d rfl ?q1_1 hown2 ?q1_2 hs2 ?_)
          case q1_1 => simp [go_sem]
          case q1_2 => omega
          intro g c4 w4 hown4 hgrow4 hB4 _
          have HO4 := Lib.hid hown4
          have hM4 := ((HM2.out).alloc (.cells #[.int .i64 d.t, .int .i64 d.k, .int .i64 d.n, .int .i64 d.j, .int .i64 d.c, .int .i64 d.v] 37)).kept hgrow4 (fun e => own_ne_lt hown2 (g := w.heap.size) (.inl (Nat.lt_succ_self _)) e.symm)
          have HM4 := Lib.hid hM4
          have hB5 : Below w.heap.size w w4 := hB2.trans (hB4.mono (by omega))
          have hs5 : w.heap.size + 1 ≤ w4.heap.size := Nat.le_trans hs2 hB4.size
          clear hown4 hM4 hgrow4 hB4
          go_wp2_with fail
          go_roundw
          case rel => exact ⟨k + 1, _, _, acc ++ [d], by omega, by go_num, trivial, (by rw [List.length_append]; exact HO4.out), HM4.out.mono (by omega), HS2.out, (by have h := HN.out; show _ = _; simpa using h), hB5, hs5, by simp; omega⟩
          case measure => simp [intOf]; omega
        · have HG : Hid (growS S d = S) := by show _ = _; rw [growS, if_neg hK]
          by_cases hJ : d.j ∈ S
          · have HN : Hid (acc ++ d :: ofG S (xs.drop (k + 1)) = ofG [tk] xs) := by show _ = _; rw [← hr.out, HST.out, HG.out, if_pos hJ]
            rw [decide_eq_true hJ] at hlj
            by_cases hk16 : d.k = 16
            · have hlv := look_bool HMW.out HS.out HKD.out.2
              rw [decide_eq_false (fun e => hK ⟨hk16, e⟩)] at hlv
              have hkb : (d.k == 16) = true := by simpa using hk16
              clear hK hJ hk16 hown
              go_wp2_with (at_builtin; refine app_ent (wr.alloc (.cells #[.int .i64 d.t, .int .i64 d.k, .int .i64 d.n, .int .i64 d.j, .int .i64 d.c, .int .i64 d.v] 37)) rfl (.tmp 36) (.tmp 38) rfl (w.heap.size + 1) _ acc d rfl ?q2_1 hownW ?q2_2 hsW ?_)
              case q2_1 => simp [go_sem]
              case q2_2 => omega
              intro g c4 w4 hown4 hgrow4 hB4 _
              have HO4 := Lib.hid hown4
              have hM4 := ((HMW.out).alloc (.cells #[.int .i64 d.t, .int .i64 d.k, .int .i64 d.n, .int .i64 d.j, .int .i64 d.c, .int .i64 d.v] 37)).kept hgrow4 (fun e => own_ne_lt hownW (g := w.heap.size) (.inl (Nat.lt_succ_self _)) e.symm)
              have HM4 := Lib.hid hM4
              have hB5 : Below w.heap.size w w4 := hBW.trans (hB4.mono (by omega))
              have hs5 : w.heap.size + 1 ≤ w4.heap.size := Nat.le_trans hsW hB4.size
              clear hown4 hM4 hgrow4 hB4
              go_wp2_with fail
              go_roundw
              case rel => exact ⟨k + 1, _, _, acc ++ [d], by omega, by go_num, trivial, (by rw [List.length_append]; exact HO4.out), HM4.out.mono (by omega), HS.out, (by have h := HN.out; show _ = _; simpa using h), hB5, hs5, by simp; omega⟩
              case measure => simp [intOf]; omega
            · have hkb : (d.k == 16) = false := by simpa using hk16
              clear hK hJ hk16 hown
              go_wp2_with (at_builtin; refine app_ent (wr.alloc (.cells #[.int .i64 d.t, .int .i64 d.k, .int .i64 d.n, .int .i64 d.j, .int .i64 d.c, .int .i64 d.v] 37)) rfl (.tmp 36) (.tmp 38) rfl (w.heap.size + 1) _ acc d rfl ?q3_1 hownW ?q3_2 hsW ?_)
              case q3_1 => simp [go_sem]
              case q3_2 => omega
              intro g c4 w4 hown4 hgrow4 hB4 _
              have HO4 := Lib.hid hown4
              have hM4 := ((HMW.out).alloc (.cells #[.int .i64 d.t, .int .i64 d.k, .int .i64 d.n, .int .i64 d.j, .int .i64 d.c, .int .i64 d.v] 37)).kept hgrow4 (fun e => own_ne_lt hownW (g := w.heap.size) (.inl (Nat.lt_succ_self _)) e.symm)
              have HM4 := Lib.hid hM4
              have hB5 : Below w.heap.size w w4 := hBW.trans (hB4.mono (by omega))
              have hs5 : w.heap.size + 1 ≤ w4.heap.size := Nat.le_trans hsW hB4.size
              clear hown4 hM4 hgrow4 hB4
              go_wp2_with fail
              go_roundw
              case rel => exact ⟨k + 1, _, _, acc ++ [d], by omega, by go_num, trivial, (by rw [List.length_append]; exact HO4.out), HM4.out.mono (by omega), HS.out, (by have h := HN.out; show _ = _; simpa using h), hB5, hs5, by simp; omega⟩
              case measure => simp [intOf]; omega
          · have HN : Hid (acc ++ ofG S (xs.drop (k + 1)) = ofG [tk] xs) := by show _ = _; rw [← hr.out, HST.out, HG.out, if_neg hJ]
            rw [decide_eq_false hJ] at hlj
            by_cases hk16 : d.k = 16
            · have hlv := look_bool HMW.out HS.out HKD.out.2
              rw [decide_eq_false (fun e => hK ⟨hk16, e⟩)] at hlv
              have hkb : (d.k == 16) = true := by simpa using hk16
              clear hK hJ hk16 hown
              go_wp2_with fail
              go_roundw
              case rel => exact ⟨k + 1, _, _, acc, by omega, by go_num, trivial, hownW, HMW.out.mono (by omega), HS.out, HN, hBW, hsW, by omega⟩
              case measure => simp [intOf]; omega
            · have hkb : (d.k == 16) = false := by simpa using hk16
              clear hK hJ hk16 hown
              go_wp2_with fail
              go_roundw
              case rel => exact ⟨k + 1, _, _, acc, by omega, by go_num, trivial, hownW, HMW.out.mono (by omega), HS.out, HN, hBW, hsW, by omega⟩
              case measure => simp [intOf]; omega
      · have HT : Hid (ofL tk xs = acc) := by show _ = _; rw [HR.out, ← hr.out, List.drop_of_length_le (by omega)]; simp [ofG]
        clear hown
        go_wp2_with fail
        go_ret
        exact ⟨_, rfl, by rw [HT.out]; exact ents_of_own HO.out, hB⟩
end Go.Proofs.YtekpnphfdoplfaaDoor

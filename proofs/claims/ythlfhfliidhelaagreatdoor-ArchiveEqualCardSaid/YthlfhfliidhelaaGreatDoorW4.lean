/- Checksums: Sum, tail; varint: inRange, zigzag. -/
import Derived.Test.YthlfhfliidhelaaGreatDoorW1
import Derived.Test.YthlfhfliidhelaaGreatDoorP4
import Derived.Laws.IdiomStrings
import Derived.Laws.BytesArg
set_option linter.unusedSimpArgs false
set_option linter.unusedVariables false
set_option linter.all false
namespace Go.Proofs.YthlfhfliidhelaaGreatDoor
open Go.RowKit Go.Shelf
attribute [local go_sem] Oper.semAt_some
set_option maxHeartbeats 2000000 in
theorem sum_any (HT : TableOk) (s : List UInt8) (hs : s.length ≤ 1000000) (w : World) : Calls Tryz.prog 71 #[.string ⟨s.toArray⟩] w fun e w' => e = .returned (.int .i64 ((crcN s : Nat) : Int)) ∧ Below w.heap.size w w' := by
  have hq : crcF 4294967295 s < 4294967296 := crcF_lt s (by decide)
  have hX : bits .xor .u32 ((crcF 4294967295 s : Nat) : Int) 4294967295 = ((crcN s : Nat) : Int) := by
    rw [u32_xor _ _ (by omega) (by omega) (by omega) (by omega)]
    rfl
  have hN := crcN_lt s
  have hI : ((crcN s : Nat) : Int) < 4294967296 := by omega
  have hI0 : (0 : Int) ≤ ((crcN s : Nat) : Int) := by omega
  have hW : IntKind.i64.wrap ((crcN s : Nat) : Int) = ((crcN s : Nat) : Int) := wrap_s (by omega) (by omega)
  go_enter Tryz.func71, Tryz.ntmps71
  go_wp2_with fail
  refine (callsIn_wide.1 (update_in HT 4294967295 (by decide) s hs _)).mono ?_
  rintro e w1 ⟨rfl, hb⟩
  generalize crcF 4294967295 s = q at *
  generalize hz : crcN s = z at *
  go_wp2_with fail
  go_ret
  exact ⟨by rw [hz]; rfl, hb⟩
theorem inRange_any (n : Int) (w : World) : Calls Tryz.prog 68 #[.int .i64 n] w fun e w' => e = .returned (.bool (decide (-1152921504606846976 ≤ n) && decide (n ≤ 1152921504606846976))) ∧ w' = w := by
  go_enter Tryz.func68, Tryz.ntmps68
  go_wp2_with fail
  all_goals go_ret
  all_goals exact ⟨by simp [*]; try omega, rfl⟩
theorem zigzag_any (n : Nat) (hn : n ≤ 1000000000) (w : World) : Calls Tryz.prog 70 #[.int .i64 (n : Int)] w fun e w' => e = .returned (.int .i64 ((2 * n : Nat) : Int)) ∧ w' = w := by
  have h0 : ¬ ((n : Int) < 0) := by omega
  have hw := wrap_s (n := 2 * (n : Int)) (by omega) (by omega)
  go_enter Tryz.func70, Tryz.ntmps70
  go_wp2_with fail
  all_goals go_ret
  all_goals exact ⟨rfl, rfl⟩
end Go.Proofs.YthlfhfliidhelaaGreatDoor
namespace Go.Proofs.YthlfhfliidhelaaGreatDoor
open Go.RowKit Go.Shelf
attribute [local go_sem] Oper.semAt_some
set_option maxRecDepth 100000 in
set_option maxHeartbeats 1000000 in
theorem groups_in (n : Nat) (hn : 1 ≤ n) (l nb n0 : Nat) (v : Nat) (hv : v < 4611686018427387904) (J Jx : List (Nat × Bool) → World → Prop)
    (hY : ∀ pre (x : Nat × Bool) W, x.1 < 128 → J pre W → pre.length < 9 → YieldAt Fence.wide (n - 1) Tryz.prog l #[.int .u8 (x.1 : Int), .bool x.2] W fun e W' =>
      (e = .returned (.bool true) ∧ J (pre ++ [x]) W' ∧ BKp n0 nb W W') ∨ (e = .returned (.bool false) ∧ Jx (pre ++ [x]) W'))
    (W : World) (hnb : Boxed W nb 3 (.int .i64 (v : Int))) (h0 : J [] W) :
    CallsIn Fence.wide n Tryz.prog 139 #[.func (.yield l) #[] #[], .pointer (some ⟨nb, 0, none⟩)] W fun e W' => (∃ v, e = .returned v) ∧
      ((∃ ys, ys = grpL (ngF 9 0 v + 1) v ∧ J ys W') ∨ (∃ pre, True ∧ Jx pre W')) := by
  have HY := Lib.hid hY
  clear hY
  have hc0 := hnb.cell
  refine callsIn_of_wp Tryz.func139 rfl trivial ?_ rfl
  simp only [Tryz.ntmps139, List.size_toArray, List.length_cons, List.length_nil, Nat.reduceAdd, Nat.reduceSub, Array.replicate_succ, Array.replicate_zero, List.push_toArray, List.append_toArray, List.nil_append, List.cons_append]
  gi_wp2
  gi_loopw [3] (fun i wr => ∃ j : Nat, j ≤ 8 ∧ i = .int .i64 (7 * (j : Int)) ∧ Hid (ngF (9 - j) j v = ngF 9 0 v) ∧ wr = W) (fun i _ => 100 - (intOf i).toNat)
  case atStart => exact ⟨0, by omega, rfl, rfl, rfl⟩
  case round =>
    obtain ⟨j, hj, rfl, HJ, hW⟩ := hrel
    have hW2 := hW.symm
    clear hW
    subst hW2
    have hp : (2 : Nat) ^ (7 * j) = 128 ^ j := by rw [Nat.pow_mul]
    by_cases hd : 128 ≤ v / 128 ^ j
    · have hd' : (128 : Int) ≤ (v : Int) / 2 ^ (7 * j) := by
        have : ((v / 128 ^ j : Nat) : Int) = (v : Int) / 2 ^ (7 * j) := by rw [← hp]; simp
        omega
      have hj7 : j ≤ 7 := by
        by_cases h8 : j = 8
        · subst h8
          exfalso
          have : v / 128 ^ 8 < 128 := by rw [Nat.div_lt_iff_lt_mul (by decide)]; omega
          omega
        · omega
      have HN : Hid (ngF (9 - (j + 1)) (j + 1) v = ngF 9 0 v) := by
        show _ = _
        rw [← HJ.out, show 9 - j = (9 - (j + 1)) + 1 by omega, ngF, if_pos hd]
      clear hd hp
      gi_wp2
      go_roundw
      case rel => exact ⟨j + 1, by omega, by go_num, HN, by first | rfl | trivial⟩
      case measure => simp [intOf]; omega
    · have hd' : (v : Int) / 2 ^ (7 * j) < 128 := by
        have : ((v / 128 ^ j : Nat) : Int) = (v : Int) / 2 ^ (7 * j) := by rw [← hp]; simp
        omega
      have HN : Hid (ngF 9 0 v = j) := by
        show _ = _
        rw [← HJ.out, show 9 - j = (8 - j) + 1 by omega, ngF, if_neg hd]
      clear hd hp
      gi_wp2
      gi_loopw [3] (fun i wr2 => ∃ (m : Nat) (pre : List (Nat × Bool)), i = .int .i64 (7 * (m : Int) - 7) ∧ Hid (pre ++ grpL m v = grpL (j + 1) v) ∧ pre.length + m = j + 1 ∧ J pre wr2 ∧ BKp n0 nb W wr2) (fun i _ => (intOf i + 7).toNat)
      case atStart => exact ⟨j + 1, [], by go_num, rfl, by simp, h0, Below.refl _ _, rfl⟩
      case round =>
        obtain ⟨m, pre, rfl, HP, hpm, hJs, hB⟩ := hrel
        have HB := Lib.hid hB
        clear hB
        cases m with
        | zero =>
          gi_wp2
          go_end0
          refine ⟨⟨_, rfl⟩, .inl ⟨_, rfl, ?_⟩⟩
          rw [HN.out, ← HP.out]
          show J (pre ++ []) wr
          rw [List.append_nil]
          exact hJs
        | succ m =>
          have hb1 : Boxed wr nb 3 (.int .i64 (v : Int)) := HB.out.2.trans hnb
          have hc1 := hb1.cell
          have hexp : 7 * (m + 1) - 7 = 7 * m := by omega
          have hpw : (2 : Nat) ^ (7 * m) = 128 ^ m := by rw [Nat.pow_mul]
          have hdv : (v : Int) / 2 ^ (7 * (m + 1) - 7) = ((v / 128 ^ m : Nat) : Int) := by rw [hexp, ← hpw]; simp
          have hg : bits .and .u8 ((v : Int) / 2 ^ (7 * (m + 1) - 7) % 256) 127 = ((v / 128 ^ m % 128 : Nat) : Int) := by
            rw [hdv, u8_and _ _ (by omega) (by omega) (by omega) (by omega)]
            have e : (((v / 128 ^ m : Nat) : Int) % 256).toNat = v / 128 ^ m % 256 := by omega
            rw [e, show (127 : Int).toNat = 2 ^ 7 - 1 from rfl, Nat.and_two_pow_sub_one_eq_mod]
            omega
          have hz : (7 * ((m : Int) + 1) - 7 == 0) = (m == 0) := by
            rw [Bool.eq_iff_iff]; simp; omega
          have HP2 : Hid ((pre ++ [(v / 128 ^ m % 128, m == 0)]) ++ grpL m v = grpL (j + 1) v) := by show _ = _; rw [← HP.out]; simp [grpL]
          obtain ⟨fn, tmps, assign, body, hy, hR⟩ := HY.out pre (v / 128 ^ m % 128, m == 0) wr (Nat.mod_lt _ (by decide)) hJs (by omega)
          dsimp only at hy
          rw [← hg, ← hz] at hy
          clear hg hz hdv hpw hexp
          gi_wp2
          refine hR.mono ?_
          rintro e W3 (⟨rfl, hJ3, hk3⟩ | ⟨rfl, hJx3⟩)
          · have HK := Lib.hid hk3
            clear hk3
            gi_wp2
            go_roundw
            case rel => exact ⟨m, _, by go_num, HP2, by simp; omega, hJ3, HB.out.1.trans HK.out.1, HK.out.2.trans HB.out.2⟩
            case measure => simp [intOf]; omega
          · gi_wp2
            refine bodyPost_ret (results_none rfl _ _ _) rfl ?_
            exact ⟨⟨_, rfl⟩, .inr ⟨_, trivial, hJx3⟩⟩
end Go.Proofs.YthlfhfliidhelaaGreatDoor
namespace Go.Proofs.YthlfhfliidhelaaGreatDoor
open Go.RowKit Go.Shelf
attribute [local go_sem] Oper.semAt_some
theorem zigzagI_any (n : Int) (h1 : -1152921504606846976 ≤ n) (h2 : n ≤ 1152921504606846976) (w : World) : Calls Tryz.prog 70 #[.int .i64 n] w fun e w' => e = .returned (.int .i64 ((zz n : Nat) : Int)) ∧ w' = w := by
  by_cases h0 : n < 0
  · have e : ((zz n : Nat) : Int) = -2 * n - 1 := by unfold zz; rw [if_pos h0]; omega
    have hw := wrap_s (n := -2 * n) (by omega) (by omega)
    have hw2 := wrap_s (n := -2 * n - 1) (by omega) (by omega)
    rw [e]
    go_enter Tryz.func70, Tryz.ntmps70
    go_wp2_with fail
    all_goals go_ret
    all_goals exact ⟨rfl, rfl⟩
  · have e : ((zz n : Nat) : Int) = 2 * n := by unfold zz; rw [if_neg h0]; omega
    have hw := wrap_s (n := 2 * n) (by omega) (by omega)
    rw [e]
    go_enter Tryz.func70, Tryz.ntmps70
    go_wp2_with fail
    all_goals go_ret
    all_goals exact ⟨rfl, rfl⟩
theorem groups_any (n : Nat) (x : Int) (w : World) : CallsIn Fence.wide n Tryz.prog 69 #[.int .i64 x] w fun e w' =>
    e = .returned (.func (.func 139) #[] #[.pointer (some ⟨w.heap.size, 0, none⟩)]) ∧ w' = w.alloc (.cells #[.int .i64 x] 3) := by
  refine callsIn_of_wp Tryz.func69 rfl trivial ?_ rfl
  simp only [Tryz.ntmps69, List.size_toArray, List.length_cons, List.length_nil, Nat.reduceAdd, Nat.reduceSub, Array.replicate_succ, Array.replicate_zero, List.push_toArray, List.append_toArray, List.nil_append, List.cons_append]
  gi_wp2
  go_ret
  exact ⟨rfl, rfl⟩
theorem groups_stops (n : Nat) (hn : 1 ≤ n) (nb n0 : Nat) (v : Nat) (hv : v < 4611686018427387904) (w : World) (h2 : nb < w.heap.size) (hnb : Boxed w nb 3 (.int .i64 (v : Int))) :
    SeqStopsK Fence.wide n Tryz.prog 139 #[.pointer (some ⟨nb, 0, none⟩)] (fun x : UInt8 × Bool => #[Value.int .u8 (x.1.toNat : Int), .bool x.2]) (BKp n0 nb) (fun ys => ys = grpB (ngF 9 0 v + 1) v) (fun _ => True) 9 w := fun l J Jx W hW _ _ hY h0 => by
  refine (groups_in n hn l nb n0 v hv (fun pre W => J (pre.map fun x => (x.1.toUInt8, x.2)) W) (fun pre W => Jx (pre.map fun x => (x.1.toUInt8, x.2)) W) ?_ W ((hW.block nb h2).trans hnb) h0).mono ?_
  · intro pre x W1 hx hJ hl
    have h := hY (pre.map fun x => (x.1.toUInt8, x.2)) (x.1.toUInt8, x.2) W1 hJ (by simpa using hl)
    have e : x.1.toUInt8.toNat = x.1 := by
      show (UInt8.ofNat x.1).toNat = _
      rw [UInt8.toNat_ofNat']
      omega
    simp only [e] at h
    simpa only [List.map_append, List.map_cons, List.map_nil] using h
  · rintro e W1 ⟨he, (⟨ys, rfl, h⟩ | ⟨pre, _, h⟩)⟩
    · exact ⟨he, .inl ⟨_, rfl, h⟩⟩
    · exact ⟨he, .inr ⟨_, trivial, h⟩⟩
def byV (l : List UInt8) : List Value := l.map fun b => Value.int .u8 (b.toNat : Int)
theorem byV_len (l : List UInt8) : (byV l).length = l.length := by simp [byV]
theorem bytes_own {w : World} {base : Nat} {v : Value} {l : List UInt8} (h : w.ownsRow base 5 1 v l.length (byV l)) : (convert 125 9 v).run Tryz.prog w = .ok (.string ⟨l.toArray⟩) w := by
  rcases h.2 with ⟨rfl, h0⟩ | ⟨g, cap, cur, rfl, _, hg, hc, hm, hs, ht⟩
  · obtain rfl := List.length_eq_zero_iff.1 h0
    exact run_convert_bytes_nil (P := Tryz.prog) w 125 5 Tryz.underlying125 Tryz.underlying5 0 0 9 Tryz.underlying9
  · refine run_convert_bytes_back w 125 9 5 ⟨g, 0, none⟩ cap l Tryz.underlying125 Tryz.underlying5 Tryz.underlying9 (fun j hj => ?_)
    have e : (cur.toList.take (l.length * 1))[j]? = some (.int .u8 (l[j].toNat : Int)) := by
      rw [ht]
      simp [byV, hj]
    rw [List.getElem?_take_of_lt (by omega)] at e
    have e2 : (⟨g, 0, none⟩ : Addr).add j = ⟨g, j, none⟩ := by simp [Addr.add]; omega
    rw [e2, cell_of_row _ _ _ _ _ _ hg]
    simpa using e
theorem info5 : (Tryz.prog.info? 5).map (fun i => (i.zero, i.size, i.bytes)) = some (some (.int .u8 0), 1, 1) := by kernel_rfl
theorem cell_one_new (w : World) (x : Value) (t : TypeId) : ∀ j u, [x][j]? = some u → (w.alloc (.cells #[x] t)).cell? ((⟨w.heap.size, 0, none⟩ : Addr).add j) = some u := by
  intro j u h
  match j, h with
  | 0, h =>
    obtain rfl : x = u := by simpa using h
    exact (Boxed.new w t x).cell
  | j + 1, h => simp at h
def Rng (n : Int) : Prop := -1152921504606846976 ≤ n ∧ n ≤ 1152921504606846976
theorem by_hit {w1 : World} {n0 : Nat} {v' : Value} {l : List UInt8} {c : UInt8} {i : Int} (e : i = ((c.toNat : Nat) : Int)) {m : List UInt8} (hm : m = l ++ [c])
    (ho : w1.ownsRow n0 5 1 v' (l.length + 1) (byV l ++ [.int .u8 i])) : w1.ownsRow n0 5 1 v' m.length (byV m) := by
  subst hm
  subst e
  have e2 : byV (l ++ [c]) = byV l ++ [.int .u8 ((c.toNat : Nat) : Int)] := by simp [byV]
  rw [e2, List.length_append]
  exact ho
set_option maxRecDepth 100000 in
set_option maxHeartbeats 2000000 in
theorem int_in (n : Int) (hr : Rng n) (w : World) : CallsIn Fence.wide 3 Tryz.prog 35 #[.int .i64 n] w fun e w' =>
    e = .returned (.tuple #[.string ⟨(intL n).toArray⟩, .int .i64 0]) ∧ Below w.heap.size w w' := by
  obtain ⟨h1, h2⟩ := hr
  have hz := zz_lt h1 h2
  have hE := Lib.hid (outB_enc (ngF 9 0 (zz n) + 1) (zz n))
  have hI : (decide (-1152921504606846976 ≤ n) && decide (n ≤ 1152921504606846976)) = true := by simp [h1, h2]
  obtain ⟨i0, hi, hz0, hz1, hz2⟩ := info_parts info5
  have HI : Hid ((Tryz.prog.info? 5 = some i0) ∧ i0.zero = some (.int .u8 0) ∧ i0.size = 1 ∧ i0.bytes = 1) := ⟨hi, hz0, hz1, hz2⟩
  clear hi hz0 hz1 hz2
  refine callsIn_of_wp_marks Tryz.func35 rfl trivial ?_ rfl
  simp only [Tryz.ntmps35, List.size_toArray, List.length_cons, List.length_nil, Nat.reduceAdd, Nat.reduceSub, Array.replicate_succ, Array.replicate_zero, List.push_toArray, List.append_toArray, List.nil_append, List.cons_append]
  gi_wp2
  refine ⟨trivial, ?_⟩
  refine (callsIn_wide.2 (inRange_any _ _)).mono ?_
  rw [hI]
  rintro e w1 ⟨rfl, hw1⟩
  obtain rfl := hw1.symm
  gi_wp2
  refine ⟨trivial, ?_⟩
  refine (callsIn_wide.2 (zigzagI_any _ h1 h2 _)).mono ?_
  rintro e w1 ⟨rfl, rfl⟩
  gi_wp2
  refine ⟨trivial, ?_⟩
  refine (groups_any _ _ _).mono ?_
  rintro e w1 ⟨rfl, rfl⟩
  gi_wp2
  have bO := (Boxed.new w 125 (.slice none 0 0)).alloc (.cells #[.int .i64 ((zz n : Nat) : Int)] 3)
  have bN := Boxed.new (w.alloc (.cells #[.slice none 0 0] 125)) 3 (.int .i64 ((zz n : Nat) : Int))
  have hB0 : Below w.heap.size w ((w.alloc (.cells #[.slice none 0 0] 125)).alloc (.cells #[.int .i64 ((zz n : Nat) : Int)] 3)) := ((Below.refl _ w).alloc (Nat.le_refl _) _).alloc (by simp) _
  have hsz : ((w.alloc (.cells #[.slice none 0 0] 125)).alloc (.cells #[.int .i64 ((zz n : Nat) : Int)] 3)).heap.size = w.heap.size + 2 := by simp
  simp only [World.size_alloc] at bN
  generalize (w.alloc (.cells #[.slice none 0 0] 125)).alloc (.cells #[.int .i64 ((zz n : Nat) : Int)] 3) = W0 at *
  refine wpIn_rangeFunc_ownG (F := Fence.wide) rfl (by omega) (gf := 139) (lb := #[.pointer (some ⟨w.heap.size + 1, 0, none⟩)]) rfl trivial (enters_of Tryz.func139 (by kernel_rfl) rfl)
    (groups_stops 2 (by omega) (w.heap.size + 1) w.heap.size (zz n) hz W0 (by omega) bN) bkp_t (bkp_b (by omega) (by omega)) (Below.refl _ _) (fun _ => rfl)
    (fun pre W => (∃ v, Boxed W w.heap.size 125 v ∧ W.ownsRow w.heap.size 5 1 v (outB pre).length (byV (outB pre)) ∧ True) ∧ Boxed W (w.heap.size + 1) 3 (.int .i64 ((zz n : Nat) : Int)) ∧ Below w.heap.size w W)
    (fun _ _ _ => False)
    (OwnFrom.and (Own.from (holdsRow_own w.heap.size w.heap.size 125 5 1 (fun pre => (outB pre).length) (fun pre => byV (outB pre)) (fun _ _ => True)) _) (OwnFrom.and (Own.from (boxed_own _ _ _) _) (ownFrom_below (Nat.le_refl _) (by omega))))
    (fun _ _ _ _ _ hs _ _ => hs)
    ⟨⟨_, bO, World.ownsRow_nil _ _ _ _, trivial⟩, bN, hB0⟩
    (fun x => { tmps := #[.int .i64 n, undef, .string ⟨#[]⟩, .int .i64 0, .pointer (some ⟨w.heap.size, 0, none⟩), .int .u8 (x.1.toNat : Int), .bool x.2, .int .i64 n, .bool true, .bool false, .int .i64 n, .int .i64 ((zz n : Nat) : Int), .func (.func 139) #[] #[.pointer (some ⟨w.heap.size + 1, 0, none⟩)], .int .u8 (x.1.toNat : Int), .bool x.2, undef, undef, undef, undef, undef, undef, undef, undef, undef, undef], defers := [] })
    ?assign ?body ?done ?stop
  case assign =>
    intro l i W K hK
    gi_wp2
    exact hK
  case body =>
    rintro l pre x W ⟨⟨v, hv, hrow, _⟩, hN, hB⟩ hlt
    have hc1 := hv.cell
    have hfz := hv.frozen
    have hpl : (outB pre).length = pre.length := by simp [outB]
    have hpl2 : (outB pre).length ≤ 9 := by omega
    have HS := Lib.hid (outB_snoc pre x)
    clear hpl
    obtain ⟨b, last⟩ := x
    dsimp only at HS ⊢
    have hbl := b.toNat_lt
    cases last
    · have hB128 : Hid (((b.toNat : Int) + 128) % 256 = (((b + 128).toNat : Nat) : Int)) := by
        show _ = _
        rw [UInt8.toNat_add]
        show _ = (((b.toNat + 128) % 256 : Nat) : Int)
        omega
      gi_wp2_with (gi_at_builtin; refine wpListIn_append_own _ rfl _ _ 125 rfl w.heap.size 5 i0 (.int .u8 0) 1 1 Tryz.underlying125 HI.out.1 HI.out.2.1 HI.out.2.2.1 HI.out.2.2.2 rfl (by decide) _ _ _ rfl (hrow.alloc _) ⟨W.heap.size, 0, none⟩ 1 1 [.int .u8 (((b.toNat : Int) + 128) % 256)] rfl rfl (cell_one_new _ _ _) (by simp [Value.oneCell']) (by unfold maxLen; omega) (by omega) (by have := hB.size; simp; omega) ?_; intro v' w1 hown' hgrow _; obtain ⟨g', cap', rfl⟩ := ownsRow_succ hown'; obtain ⟨hv1, hv2, hr2, hk2, hb2⟩ := hv.appended (by decide) hrow hB.size (by omega) hown' hgrow; have hc2 := hv1.cell; have hf2 := hv1.frozen)
      have hN1 : Boxed w1 (w.heap.size + 1) 3 (.int .i64 ((zz n : Nat) : Int)) := (hN.alloc _).kept hgrow (hN.not_row (by decide) hrow)
      have hN2 := hN1.kept (grownBy_setCell' w1 w.heap.size (.slice (some ⟨g', 0, none⟩) ((outB pre).length + 1) cap')) (by simp)
      exact ⟨hk2.from _, ⟨hb2, Eq.trans hN2 (Eq.symm hN)⟩, ⟨⟨_, hv2, by_hit hB128.out HS.out hr2, trivial⟩, hN2, hB.trans hb2⟩⟩
    · gi_wp2_with (gi_at_builtin; refine wpListIn_append_own _ rfl _ _ 125 rfl w.heap.size 5 i0 (.int .u8 0) 1 1 Tryz.underlying125 HI.out.1 HI.out.2.1 HI.out.2.2.1 HI.out.2.2.2 rfl (by decide) _ _ _ rfl (hrow.alloc _) ⟨W.heap.size, 0, none⟩ 1 1 [.int .u8 ((b.toNat : Int))] rfl rfl (cell_one_new _ _ _) (by simp [Value.oneCell']) (by unfold maxLen; omega) (by omega) (by have := hB.size; simp; omega) ?_; intro v' w1 hown' hgrow _; obtain ⟨g', cap', rfl⟩ := ownsRow_succ hown'; obtain ⟨hv1, hv2, hr2, hk2, hb2⟩ := hv.appended (by decide) hrow hB.size (by omega) hown' hgrow; have hc2 := hv1.cell; have hf2 := hv1.frozen)
      have hN1 : Boxed w1 (w.heap.size + 1) 3 (.int .i64 ((zz n : Nat) : Int)) := (hN.alloc _).kept hgrow (hN.not_row (by decide) hrow)
      have hN2 := hN1.kept (grownBy_setCell' w1 w.heap.size (.slice (some ⟨g', 0, none⟩) ((outB pre).length + 1) cap')) (by simp)
      exact ⟨hk2.from _, ⟨hb2, Eq.trans hN2 (Eq.symm hN)⟩, ⟨⟨_, hv2, by_hit rfl HS.out hr2⟩, hN2, hB.trans hb2⟩⟩
  case done =>
    rintro D ys W hD rfl ⟨⟨v, hv, hrow, _⟩, hN, hB⟩ hK
    have hc1 := hv.cell
    have HBO := Lib.hid (bytes_own hrow)
    rw [hE.out] at HBO
    gi_wp2
    rw [HBO.out]
    simp only [Result.andThen]
    gi_wp2
    refine ⟨by simp, .inl ⟨_, _, rfl, run_takeDeferred hK, ?_⟩⟩
    refine ⟨_, results_tmp2 rfl _ _ _, rfl, hB.trans (belowK_b (w := w) (Nat.le_refl _) W D _ _ (by omega) hK rfl rfl)⟩
  case stop =>
    rintro D cc pre W _ _ h _
    exact h.elim
theorem int_any (n : Int) (hr : Rng n) (w : World) : Calls Tryz.prog 35 #[.int .i64 n] w fun e w' => e = .returned (.tuple #[.string ⟨(intL n).toArray⟩, .int .i64 0]) ∧ Below w.heap.size w w' := callsIn_wide.1 (int_in n hr w)
theorem int_bad (n : Int) (hr : ¬ Rng n) (w : World) : Calls Tryz.prog 35 #[.int .i64 n] w fun e w' => e = .returned (.tuple #[.string ⟨#[]⟩, .int .i64 2]) ∧ Below w.heap.size w w' := by
  have hI : (decide (-1152921504606846976 ≤ n) && decide (n ≤ 1152921504606846976)) = false := by
    unfold Rng at hr
    simp
    omega
  clear hr
  go_enter Tryz.func35, Tryz.ntmps35
  go_wp2_with fail
  refine (inRange_any _ _).mono ?_
  rw [hI]
  rintro e w1 ⟨rfl, hw1⟩
  obtain rfl := hw1.symm
  go_wp2_with fail
  go_ret2
  exact ⟨rfl, Below.refl _ _⟩
end Go.Proofs.YthlfhfliidhelaaGreatDoor

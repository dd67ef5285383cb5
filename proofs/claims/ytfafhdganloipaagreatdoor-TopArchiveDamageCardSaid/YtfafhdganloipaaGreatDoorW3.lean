/- Checksums: the sum of a string. -/
import Derived.Test.YtfafhdganloipaaGreatDoorW1
import Derived.BigRegionIn
import Derived.Deep.WholeRow
namespace Go.Proofs.YtfafhdganloipaaGreatDoor
open Go.RowKit Go.Shelf
attribute [local go_sem] Oper.semAt_some
def tblA : Array Value := ((List.range 256).map fun i => Value.int .u32 ((crcT i : Nat) : Int)).toArray
theorem tblA_size : tblA.size = 256 := by simp [tblA]
theorem tblA_get {i : Nat} (h : i < 256) : tblA[i]? = some (.int .u32 ((crcT i : Nat) : Int)) := by simp [tblA, h]
def TableOk : Prop := ∀ w : World, Calls Tryz.prog 264 #[] w fun e w' => e = .returned (.agg tblA) ∧ Below w.heap.size w w'
theorem bkp_t {n0 nb : Nat} {A B C : World} (h : BKp n0 nb A B) (k : BKp n0 nb B C) : BKp n0 nb A C := ⟨h.1.trans k.1, k.2.trans h.2⟩
theorem bkp_b {n0 nb : Nat} {w : World} (hn : n0 ≤ w.heap.size) (hb : nb < w.heap.size) (W : World) (l : Nat) (o o' : Obj) (hl : w.heap.size ≤ l) (h : W.heap[l]? = some o) (h1 : o.isCells = false) (h2 : o.isWalk = false) : BKp n0 nb W (W.putObj l o') :=
  ⟨belowK_b hn W l o o' hl h h1 h2, (grownBy_putObj' W l o').block nb (by have := (Array.getElem?_eq_some_iff.1 h).1; omega) (fun e => by cases e; omega)⟩
theorem cells_own {β : Type} (B : Nat) (t : TypeId) (cs : Array Value) : Own (fun (_ : β) W => W.heap[B]? = some (.cells cs t (0, 0))) := fun _ X _ row hs hg hrow =>
  (hg.block B (Array.getElem?_eq_some_iff.1 hs).1 (fun e' => by obtain ⟨o, ho, hc⟩ := hrow B e'.symm; rw [hs] at ho; cases ho; cases hc)).trans hs
set_option maxRecDepth 100000 in
set_option maxHeartbeats 2000000 in
theorem update_in (HT : TableOk) (r : Nat) (hr : r < 4294967296) (s : List UInt8) (hs : s.length ≤ 1000000) (w : World) : CallsIn Fence.wide 3 Tryz.prog 160 #[.int .u32 (r : Int), .string ⟨s.toArray⟩] w fun e w' =>
    e = .returned (.int .u32 ((crcF r s : Nat) : Int)) ∧ Below w.heap.size w w' := by
  refine callsIn_of_wp_marks Tryz.func160 rfl trivial ?_ rfl
  simp only [Tryz.ntmps160, List.size_toArray, List.length_cons, List.length_nil, Nat.reduceAdd, Nat.reduceSub, Array.replicate_succ, Array.replicate_zero, List.push_toArray, List.append_toArray, List.nil_append, List.cons_append]
  gi_wp2
  refine ⟨trivial, ?_⟩
  refine (callsIn_wide.2 (HT _)).mono ?_
  rintro e w1 ⟨rfl, hb1⟩
  gi_wp2
  rw [run_storeCells_new w1 473 Tryz.zeroCells473 tblA (by rw [tblA_size]; kernel_rfl) (by rw [tblA_size]; kernel_rfl) (by kernel_rfl)]
  simp only [Result.andThen]
  gi_wp2
  refine ⟨trivial, ?_⟩
  refine (bytes_any _ _ _).mono ?_
  rintro e w2 ⟨rfl, rfl⟩
  gi_wp2
  have h1s : w.heap.size + 1 ≤ w1.heap.size := by have := hb1.size; simpa using this
  have bR : Boxed ((w1.alloc (.cells tblA 473)).alloc (.cells #[.string ⟨s.toArray⟩] 9)) w.heap.size 333 (.int .u32 (r : Int)) :=
    ((show Boxed w1 w.heap.size 333 (.int .u32 (r : Int)) from (hb1.block _ (by simp)).trans (Boxed.new w 333 _)).alloc _).alloc _
  have bT : ((w1.alloc (.cells tblA 473)).alloc (.cells #[.string ⟨s.toArray⟩] 9)).heap[w1.heap.size]? = some (.cells tblA 473 (0, 0)) := (Below.heap_alloc _ _ _ (by simp)).trans (World.alloc_heap_new w1 _)
  have bS := Boxed.new (w1.alloc (.cells tblA 473)) 9 (.string ⟨s.toArray⟩)
  have hB0 : Below w.heap.size w ((w1.alloc (.cells tblA 473)).alloc (.cells #[.string ⟨s.toArray⟩] 9)) :=
    ((((Below.refl _ w).alloc (Nat.le_refl _) _).trans (hb1.mono (by simp))).alloc (by omega) _).alloc (by simp; omega) _
  have hsz : ((w1.alloc (.cells tblA 473)).alloc (.cells #[.string ⟨s.toArray⟩] 9)).heap.size = w1.heap.size + 2 := by simp
  simp only [World.size_alloc] at bS
  clear hb1
  generalize (w1.alloc (.cells tblA 473)).alloc (.cells #[.string ⟨s.toArray⟩] 9) = W0 at *
  generalize w1.heap.size = tb at *
  refine wpIn_rangeFunc_ownG (F := Fence.wide) rfl (by omega) (gf := 359) (lb := #[.pointer (some ⟨tb + 1, 0, none⟩)]) rfl trivial (enters_of Tryz.func359 (by kernel_rfl) rfl)
    (bytes_stops 2 (by omega) (tb + 1) w.heap.size s hs W0 (by omega) bS) bkp_t (bkp_b (by omega) (by omega)) (Below.refl _ _) (fun _ => rfl)
    (fun pre W => Boxed W w.heap.size 333 (.int .u32 ((crcF r pre : Nat) : Int)) ∧ W.heap[tb]? = some (.cells tblA 473 (0, 0)) ∧ Boxed W (tb + 1) 9 (.string ⟨s.toArray⟩) ∧ Below w.heap.size w W)
    (fun _ _ _ => False)
    (OwnFrom.and (Own.from (boxed_own _ _ _) _) (OwnFrom.and (Own.from (cells_own _ _ _) _) (OwnFrom.and (Own.from (boxed_own _ _ (fun _ => _)) _) (ownFrom_below (Nat.le_refl _) (by omega)))))
    (fun _ _ _ _ _ hs _ _ => hs)
    ⟨bR, bT, bS, hB0⟩
    (fun x => { tmps := #[.int .u32 (r : Int), .string ⟨s.toArray⟩, .pointer (some ⟨w.heap.size, 0, none⟩), undef, .int .u32 0, .pointer (some ⟨tb, 0, none⟩), .int .u8 (x.toNat : Int), .agg tblA, .string ⟨s.toArray⟩, .func (.func 359) #[] #[.pointer (some ⟨tb + 1, 0, none⟩)], .int .u8 (x.toNat : Int), undef, undef, undef, undef, undef, undef, undef, undef, undef, undef], defers := [] })
    ?assign ?body ?done ?stop
  case assign =>
    intro l i W K hK
    gi_wp2
    exact hK
  case body =>
    rintro l pre x W ⟨hv, hT, hS, hB⟩ hlt
    have hc1 := hv.cell
    have hfz := hv.frozen
    have hrl : crcF r pre < 4294967296 := crcF_lt pre hr
    have hxl := x.toNat_lt
    have hcr : crcF r (pre ++ [x]) = crcU (crcF r pre) x.toNat := by unfold crcF; rw [List.foldl_append]; rfl
    have HCR := Lib.hid hcr
    clear hcr
    generalize hq : crcF r pre = q at *
    have hix : (q % 256) ^^^ x.toNat < 256 := Nat.xor_lt_two_pow (n := 8) (by omega) hxl
    have hU : bits .xor .u8 ((q : Int) % 256) (x.toNat : Int) = (((q % 256) ^^^ x.toNat : Nat) : Int) := by
      rw [u8_xor _ _ (by omega) (by omega) (by omega) (by omega)]
      congr 1
    have hwq : IntKind.u8.wrap (q : Int) = (q : Int) % 256 := IntKind.wrap_u8' _
    have hU2 : bits .xor .u8 (IntKind.u8.wrap (q : Int)) (x.toNat : Int) = (((q % 256) ^^^ x.toNat : Nat) : Int) := by rw [hwq]; exact hU
    have hi1 : ((((q % 256) ^^^ x.toNat : Nat) : Int)) < 256 := by omega
    have hi2 : (0 : Int) ≤ (((q % 256) ^^^ x.toNat : Nat) : Int) := by omega
    have hfT := frozen_of_row _ _ ((q % 256) ^^^ x.toNat) _ _ hT
    have hTc : W.cell? ⟨tb, (q % 256) ^^^ x.toNat, none⟩ = some (.int .u32 ((crcT ((q % 256) ^^^ x.toNat) : Nat) : Int)) := (cell_of_row _ _ _ _ _ _ hT).trans (tblA_get hix)
    have hX : bits .xor .u32 ((q : Int) / 256) ((crcT ((q % 256) ^^^ x.toNat) : Nat) : Int) = ((crcU q x.toNat : Nat) : Int) := by
      have := crcT_lt hix
      rw [u32_xor _ _ (by omega) (by omega) (by omega) (by omega)]
      congr 1
    have hend : KeepsFrom W0.heap.size W (W.setCell ⟨w.heap.size, 0, none⟩ (.int .u32 ((crcU q x.toNat : Nat) : Int))).drew ∧ BKp w.heap.size (tb + 1) W (W.setCell ⟨w.heap.size, 0, none⟩ (.int .u32 ((crcU q x.toNat : Nat) : Int))).drew ∧
        (Boxed (W.setCell ⟨w.heap.size, 0, none⟩ (.int .u32 ((crcU q x.toNat : Nat) : Int))).drew w.heap.size 333 (.int .u32 ((crcF r (pre ++ [x]) : Nat) : Int)) ∧ (W.setCell ⟨w.heap.size, 0, none⟩ (.int .u32 ((crcU q x.toNat : Nat) : Int))).drew.heap[tb]? = some (.cells tblA 473 (0, 0)) ∧
          Boxed (W.setCell ⟨w.heap.size, 0, none⟩ (.int .u32 ((crcU q x.toNat : Nat) : Int))).drew (tb + 1) 9 (.string ⟨s.toArray⟩) ∧ Below w.heap.size w (W.setCell ⟨w.heap.size, 0, none⟩ (.int .u32 ((crcU q x.toNat : Nat) : Int))).drew) := by
      have hg := grownBy_setCell' W w.heap.size (.int .u32 ((crcU q x.toNat : Nat) : Int))
      have hk := KeepsFrom.of_grownBy (B := W0.heap.size) hg (fun j e => by have := Option.some.inj e; omega)
      have hbe := Below.drew ((Below.refl w.heap.size W).grown hg (Nat.le_of_lt hv.lt) (fun j e => by cases e; exact Nat.le_refl _))
      have t1 := hg.block tb (Array.getElem?_eq_some_iff.1 hT).1 (fun e => by have := Option.some.inj e; omega)
      have t2 := hg.block (tb + 1) hS.lt (fun e => by have := Option.some.inj e; omega)
      refine ⟨⟨hk.size, hk.same⟩, ⟨hbe, t2⟩, ?_, t1.trans hT, t2.trans hS, hB.trans hbe⟩
      rw [HCR.out]
      exact hv.set _
    have HEND := Lib.hid hend
    have HT2 := Lib.hid hT
    clear hT hend hS
    generalize (q % 256) ^^^ x.toNat = ix at *
    gi_wp2
    gi_region
    all_goals gi_wp2
    all_goals exact HEND.out
  case done =>
    rintro D ys W hD rfl ⟨hv, hT, hS, hB⟩ hK
    have hc1 := hv.cell
    gi_wp2
    refine ⟨by simp, .inl ⟨_, _, rfl, run_takeDeferred hK, ?_⟩⟩
    refine ⟨_, results_tmp rfl _ _ _, rfl, hB.trans (belowK_b (w := w) (Nat.le_refl _) W D _ _ (by omega) hK rfl rfl)⟩
  case stop =>
    rintro D cc pre W _ _ h _
    exact h.elim
end Go.Proofs.YtfafhdganloipaaGreatDoor
namespace Go.Proofs.YtfafhdganloipaaGreatDoor
open Go.RowKit Go.Shelf
attribute [local go_sem] Oper.semAt_some
set_option maxHeartbeats 2000000 in
theorem sum_any (HT : TableOk) (s : List UInt8) (hs : s.length ≤ 1000000) (w : World) : Calls Tryz.prog 95 #[.string ⟨s.toArray⟩] w fun e w' => e = .returned (.int .i64 ((crcN s : Nat) : Int)) ∧ Below w.heap.size w w' := by
  have hq : crcF 4294967295 s < 4294967296 := crcF_lt s (by decide)
  have hX : bits .xor .u32 ((crcF 4294967295 s : Nat) : Int) 4294967295 = ((crcN s : Nat) : Int) := by
    rw [u32_xor _ _ (by omega) (by omega) (by omega) (by omega)]
    rfl
  have hN := crcN_lt s
  have hI : ((crcN s : Nat) : Int) < 4294967296 := by omega
  have hI0 : (0 : Int) ≤ ((crcN s : Nat) : Int) := by omega
  have hW : IntKind.i64.wrap ((crcN s : Nat) : Int) = ((crcN s : Nat) : Int) := wrap_s (by omega) (by omega)
  go_enter Tryz.func95, Tryz.ntmps95
  go_wp2_with fail
  refine (callsIn_wide.1 (update_in HT 4294967295 (by decide) s hs _)).mono ?_
  rintro e w1 ⟨rfl, hb⟩
  generalize crcF 4294967295 s = q at *
  generalize hz : crcN s = z at *
  go_wp2_with fail
  go_ret
  exact ⟨by rw [hz]; rfl, hb⟩
theorem inRange_any (n : Int) (w : World) : Calls Tryz.prog 92 #[.int .i64 n] w fun e w' => e = .returned (.bool (decide (-1152921504606846976 ≤ n) && decide (n ≤ 1152921504606846976))) ∧ w' = w := by
  go_enter Tryz.func92, Tryz.ntmps92
  go_wp2_with fail
  all_goals go_ret
  all_goals exact ⟨by simp [*]; try omega, rfl⟩
theorem zigzag_any (n : Nat) (hn : n ≤ 1000000000) (w : World) : Calls Tryz.prog 94 #[.int .i64 (n : Int)] w fun e w' => e = .returned (.int .i64 ((2 * n : Nat) : Int)) ∧ w' = w := by
  have h0 : ¬ ((n : Int) < 0) := by omega
  have hw := wrap_s (n := 2 * (n : Int)) (by omega) (by omega)
  go_enter Tryz.func94, Tryz.ntmps94
  go_wp2_with fail
  all_goals go_ret
  all_goals exact ⟨rfl, rfl⟩
end Go.Proofs.YtfafhdganloipaaGreatDoor

/- A part of the proof about archives. -/
import Derived.Test.YthlfhfliidhelaaGreatDoorProg
import Derived.Test.YthlfhfliidhelaaGreatDoorEg
import Derived.Test.YthlfhfliidhelaaGreatDoorV0
import Derived.WalkKit
import Derived.WalkSpells
import Derived.WalkLawsBesides
import Derived.Handy
import Derived.IntWalk
import Derived.Deep.QuietTactic
import Derived.BigQuiet
import Derived.Deep.RegionHeld3
import Derived.Deep.DeepCutAuto
import Derived.Deep.AppendLies
import Derived.Maps.AppendAt
import Derived.Laws.OwnMore
import Derived.OwnWalk
import Derived.Lib.Hide
import Derived.Deep.RegionLaw
import Derived.Lib.SliceRun
import Derived.Lib.ReflectliteSwap
import Derived.Laws.IdiomCopy
import Derived.StillTailTactics
set_option linter.unusedSimpArgs false
set_option linter.unusedVariables false
set_option linter.all false
namespace Go.Proofs.YthlfhfliidhelaaGreatDoor
open Go.RowKit
theorem addr_lit (b o n : Nat) : (⟨b, o, none⟩ : Addr).add n = ⟨b, o + n, none⟩ := by
  unfold Addr.add; split <;> simp_all
theorem run_loadL {P : Program} {w : World} (a : Addr) (cs : List Value) (n : Nat) (hn : cs.length = n) (h : ∀ (j : Nat) (v : Value), cs[j]? = some v → w.cell? (a.add j) = some v) : (loadCells a n).run P w = .ok ⟨cs⟩ w := by
  subst hn
  exact run_loadCells_list w a cs h
theorem run_copy_k {P : Program} (w : World) (T T' ty e size : Nat) (hu : P.underlying T = some (.slice e)) (hs : (P.info? e).map (·.size) = some size) (B p dl dc A q sl sc m : Nat) (cs : List Value) (hm : Nat.min sl dl = m) (hcs : cs.length = m * size)
    (hsrc : ∀ (t : Nat) (v : Value), cs[t]? = some v → w.cell? ⟨A, q + t, none⟩ = some v) (hdst : ∀ t, t < cs.length → (w.cell? ⟨B, p + t, none⟩).isSome = true ∧ w.frozen? ⟨B, p + t, none⟩ = false) (hone : ∀ v ∈ cs, v.oneCell' = true) :
    (Builtin.copy_ #[T, T'] ty #[.slice (some ⟨B, p, none⟩) dl dc, .slice (some ⟨A, q, none⟩) sl sc]).run P w = .ok (goInt m) (w.setCells B p cs) := by
  have hst := run_storeCells_cells (P := P) B p cs 0 w (by simpa using fun t ht => (hdst t ht).1) (by simpa using fun t ht => (hdst t ht).2) hone
  simp only [Nat.add_zero] at hst
  have hl := run_loadL (P := P) (w := w) ⟨A, q, none⟩ cs (m * size) hcs (fun t v hv => by rw [addr_lit]; exact hsrc t v hv)
  obtain ⟨j, hj, hjs⟩ := Option.map_eq_some_iff.1 hs
  simp [Builtin.copy_, Builtin.lenOf, Builtin.firstCells, run_underlying hu, sizeOf, typeInfo, hj, hjs, hm, hl, hst]
theorem step_copy {P : Program} {ops : Array Oper} {o : Oper} {a : Act} {w : World} {K : Act → World → Prop} {Q : Exit → Act → World → Prop} {E : Prop}
    (hg : o.guard = none) (s x : Operand) (t : TypeId) (hop : o.op = Op.call { callee := Callee.builtin Builtin.copy, args := #[s, x], argTypes := #[t, t] }) (d d2 : Value) (hs : a.eval s = d) (hx : a.eval x = d2) (v : Value) (w' : World)
    (hrun : ∀ ty, (Builtin.copy_ #[t, t] ty #[d, d2]).run P w = .ok v w') (hK : K (a.put o.dst v) w') :
    if Region.wanted o (yielded ops a.tmps) = true then Oper.wp P o a w K Q else E := by
  have hw : Region.wanted o (yielded ops a.tmps) = true := by simp [Region.wanted, hg]
  rw [if_pos hw]
  unfold Oper.wp
  simp [execOp, hop, resolve, invoke, builtin, hs, hx, hrun, Result.andThen]
  exact hK
theorem wrap_small {n : Int} (h0 : 0 ≤ n) (h : n ≤ 9223372036854775807) : IntKind.i64.wrap n = n := by
  have h1 : n % 18446744073709551616 = n := Int.emod_eq_of_lt h0 (by omega)
  show (if (true && decide (n % 18446744073709551616 ≥ 9223372036854775808)) = true then n % 18446744073709551616 - 18446744073709551616 else n % 18446744073709551616) = n
  rw [h1, if_neg (by simp; omega)]
theorem wpList_append_run {P : Program} {w : World} {ops : Array Oper} {rest : List Oper} {o : Oper} {a : Act} {Q : Exit → Act → World → Prop} (hgd : o.guard = none) (sl x : Operand) (t u : TypeId)
    (ho : o.op = .call { callee := .builtin .append, args := #[sl, x], argTypes := #[t, u] }) (d d2 : Value) (hs : a.eval sl = d) (hx : a.eval x = d2) (v : Value) (w' : World) (hrun : ∀ ty, (Builtin.append_ #[t, u] ty #[d, d2]).run P w = .ok v w')
    (h : wpList P ops Q rest (a.put o.dst v) w') : wpList P ops Q (o :: rest) a w := by
  refine wpList_plain hgd fun K hK => ?_
  unfold Oper.wp execOp
  simp only [ho, resolve, invoke, builtin, Sem.run_bind, Sem.run_pure, Result.andThen_ok, List.map_toArray, List.map_cons, List.map_nil, hs, hx, hrun]
  exact hK _ _ h
theorem not_frozen {w : World} {B : Nat} {cs : Array Value} {t : TypeId} {f : Nat × Nat} (hB : w.heap[B]? = some (.cells cs t f)) (hf : f.2 ≤ f.1) (k : Nat) : w.frozen? ⟨B, k, none⟩ = false := by
  obtain ⟨lo, hi⟩ := f
  simp only [World.frozen?, hB]
  simp only at hf
  simp; omega
theorem run_append_zeros (w : World) (t tx ty e : TypeId) (i : TypeInfo) (z : Value) (ht : Tryz.prog.underlying t = some (.slice e)) (htx : Tryz.prog.underlying tx = some (.int .i64)) (hi : Tryz.prog.info? e = some i) (hz : i.zero = some z) (base : Option Addr) (sLen sCap : Nat) (olds : List Value)
    (hold : (Builtin.firstCells i.size sLen (.slice base sLen sCap)).run Tryz.prog w.drew = .ok olds.toArray w.drew) (x : Int) (m : Nat) (hx : x = m) (hm : m * i.size ≠ 0) (hb : m * i.bytes ≤ 281474976710656) (hm63 : m ≤ 9223372036854775807)
    (hg : sCap < sLen + m) (h63 : ((sLen + m : Nat) : Int) ≤ 9223372036854775807) (hfit : Builtin.nextslicecap (sLen + m) sCap * i.bytes ≤ 281474976710656) :
    (Builtin.append_ #[t, tx] ty #[.slice base sLen sCap, .int .i64 x]).run Tryz.prog w =
      .ok (.slice (some ⟨w.heap.size, 0, none⟩) (sLen + m) (grownCap w (sLen + m) sCap e))
        (w.drew.alloc (.cells ((olds.toArray ++ Builtin.zeroCells z.cells m) ++ Builtin.zeroCells z.cells (grownCap w (sLen + m) sCap e - (sLen + m))) e)) := by
  subst hx
  have hn : ¬ (sLen + m ≤ sCap) := by omega
  have h63' : ¬ (9223372036854775807 < ((sLen : Int) + (m : Int))) := by omega
  have h48' : ¬ (281474976710656 < Builtin.nextslicecap (sLen + m) sCap * i.bytes) := by omega
  have hw : IntKind.i64.wrap (m : Int) = m := wrap_small (by omega) (by omega)
  have hb' : ¬ (281474976710656 < (m : Int) * (i.bytes : Int)) := by
    have : ((m * i.bytes : Nat) : Int) ≤ 281474976710656 := by omega
    rw [Int.natCast_mul] at this; omega
  have hneg : ¬ ((m : Int) < 0) := by omega
  simp [Builtin.append_, run_underlying ht, run_underlying htx, sizeOf, typeInfo, zeroValue, hi, hz, hn, h63', h48', Question.forced, hold, newRow, grownCap, asInt, asIntOf, hw, hb', hneg, if_neg hm]
theorem growBy_le (n : Nat) : ∀ (r c : Nat), c < n → Builtin.growBy n r c ≤ 2 * n + 200 := by
  intro r
  induction r with
  | zero => intro c h; simp [Builtin.growBy]; omega
  | succ r ih =>
    intro c h
    unfold Builtin.growBy
    split
    · omega
    · by_cases hc : c + (c + 768) / 4 < n
      · exact ih _ hc
      · cases r with
        | zero => simp [Builtin.growBy]; omega
        | succ r =>
          unfold Builtin.growBy
          rw [if_pos (by omega)]; omega
theorem next_le {n c : Nat} (h : c < n) : Builtin.nextslicecap n c ≤ 2 * n + 200 := by
  unfold Builtin.nextslicecap
  split
  · omega
  · split
    · omega
    · exact growBy_le n 4 c h
theorem zeroCells_size (z : Array Value) (n : Nat) : (Builtin.zeroCells z n).size = n * z.size := by simp [Builtin.zeroCells]
theorem infoE : (Tryz.prog.info? 132).map (fun i => i.size) = some 3 := by kernel_rfl
theorem run_overlaps (w : World) (B p n c B2 o2 m c2 : Nat) (cs cs2 : Array Value) (t t2 : TypeId) (f f2 : Nat × Nat) (hB : w.heap[B]? = some (.cells cs t f)) (hB2 : w.heap[B2]? = some (.cells cs2 t2 f2)) (hne : B2 ≠ B) (hf : f.2 ≤ f.1) (h2 : cs2.size ≠ 0) (x y : Array TypeId) (hx : x[0]? = some 76) :
    (Extern.SlicesOverlaps.overlaps x y #[.slice (some ⟨B2, o2, none⟩) m c2, .slice (some ⟨B, p, none⟩) n c]).run Tryz.prog w = .ok (.bool false) w := by
  obtain ⟨j, hj, hjs⟩ := Option.map_eq_some_iff.1 infoE
  have hdef : Extern.SlicesOverlaps.overlaps x y #[.slice (some ⟨B2, o2, none⟩) m c2, .slice (some ⟨B, p, none⟩) n c] = (do
    let some t := x[0]? | stuck "slices.overlaps: no parameter types"
    let .slice elem ← underlying t | stuck "slices.overlaps: slice type expected"
    let size ← sizeOf elem
    if m = 0 ∨ n = 0 ∨ size = 0 then pure (.bool false)
    else if (⟨B2, o2, none⟩ : Addr).block != (⟨B, p, none⟩ : Addr).block && (← frozen ⟨B2, o2, none⟩) && (← frozen ⟨B, p, none⟩) then unsupported .addressObserved
    else do
      if (⟨B2, o2, none⟩ : Addr).block != (⟨B, p, none⟩ : Addr).block then do
        noView ⟨B2, o2, none⟩; noView ⟨B, p, none⟩
        if ← mayBeOne ⟨B2, o2, none⟩ ⟨B, p, none⟩ then return .bool ((← choose (.extern "sameAddr.stringBytes" 2)) == 1)
      pure (.bool ((⟨B2, o2, none⟩ : Addr).block == (⟨B, p, none⟩ : Addr).block && (⟨B2, o2, none⟩ : Addr).off < (⟨B, p, none⟩ : Addr).off + n * size && (⟨B, p, none⟩ : Addr).off < (⟨B2, o2, none⟩ : Addr).off + m * size))) := rfl
  rw [hdef]
  have hs : w.shape? B = some (t, cs.size) := by simp [World.shape?, hB]
  have hs2 : w.shape? B2 = some (t2, cs2.size) := by simp [World.shape?, hB2]
  have hfr := not_frozen hB hf
  have hst : (stringish ⟨B, p, none⟩).run Tryz.prog w = .ok false w := by
    simp [stringish, hfr, hs]
  obtain ⟨sb, hst2⟩ : ∃ sb, (stringish ⟨B2, o2, none⟩).run Tryz.prog w = .ok sb w := by
    by_cases hq : w.frozen? ⟨B2, o2, none⟩ = true
    · exact ⟨true, by simp [stringish, hq]⟩
    · exact ⟨_, by simp [stringish, hq, hs2]; rfl⟩
  by_cases h0 : m = 0 ∨ n = 0 ∨ j.size = 0
  · simp [hx, run_underlying Tryz.underlying76, sizeOf, typeInfo, hj, h0]
  · simp [hx, run_underlying Tryz.underlying76, sizeOf, typeInfo, hj, h0, hne, hfr, noView, mayBeOne, viewAt, hs, hs2, hst2, hst]
    rw [if_neg]
    · simp [hne]
    · rintro ⟨_, h⟩
      generalize hk : cs2.size = k at h
      cases k with
      | zero => exact h2 hk
      | succ k => cases h
set_option maxHeartbeats 2000000 in
set_option maxRecDepth 100000 in
theorem ins_place (B o B2 o2 n i c c2 : Nat) (old new : List Value) (w : World) (hi : i < n) (hc : n + 1 ≤ c) (hcap : n ≤ 140737488355328) (hne : B2 ≠ B) (hold : old.length = n * 3) (hnew : new.length = 3)
    (h1 : ∀ (t : Nat) (v : Value), old[t]? = some v → w.cell? ⟨B, o + t, none⟩ = some v) (h2 : ∀ (t : Nat) (v : Value), new[t]? = some v → w.cell? ⟨B2, o2 + t, none⟩ = some v) (ho1 : ∀ v ∈ old, v.oneCell' = true) (ho2 : ∀ v ∈ new, v.oneCell' = true)
    {csB : Array Value} {tB : TypeId} {fB : Nat × Nat} (hB : w.heap[B]? = some (.cells csB tB fB)) (hfz0 : fB.2 ≤ fB.1)
    (hroom : ∀ t, t < (n + 1) * 3 → (w.cell? ⟨B, o + t, none⟩).isSome = true ∧ w.frozen? ⟨B, o + t, none⟩ = false) :
    Calls Tryz.prog 241 #[.slice (some ⟨B, o, none⟩) n c, .int .i64 i, .slice (some ⟨B2, o2, none⟩) 1 c2] w fun e w' => e = .returned (.slice (some ⟨B, o, none⟩) (n + 1) c) ∧ ∃ k, w' = ((w.drewN k).setCells B (o + (i + 1) * 3) (old.drop (i * 3))).setCells B (o + i * 3) new := by
  have e1 : ((i : Int) == (n : Int)) = false := by simp; omega
  have e2 : decide ((c : Int) < (n : Int) + 1) = false := by simp; omega
  have hdl : (old.drop (i * 3)).length = (n - i) * 3 := by rw [List.length_drop, hold]; omega
  have hfz : ∀ W k, (∃ m, W = w.drewN m) → k < (n + 1) * 3 → W.frozen? ⟨B, o + k, none⟩ = false := fun W k ⟨m, e⟩ hk => by subst e; exact (hroom k hk).2
  obtain ⟨csB2, tB2, fB2, hB2⟩ : ∃ cs t f, w.heap[B2]? = some (.cells cs t f) := by
    have := h2 0 _ (List.getElem?_eq_getElem (by omega))
    unfold World.cell? at this
    dsimp only at this
    split at this
    · rename_i cs t f h; exact ⟨cs, t, f, h⟩
    · cases this
  have hov := run_overlaps w B (o + (i + 1) * 3) (n - i) (c - (i + 1)) B2 o2 1 c2 csB csB2 tB tB2 fB fB2 hB hB2 hne hfz0 (by
    intro h
    have := h2 0 _ (List.getElem?_eq_getElem (by omega))
    simp [World.cell?, hB2] at this
    have := (Array.getElem?_eq_some_iff.1 this).1
    omega) #[76, 76] #[4] rfl
  obtain ⟨W1, hW1⟩ : ∃ W1, W1 = w.drew.setCells B (o + (i + 1) * 3) (old.drop (i * 3)) := ⟨_, rfl⟩
  have hcp1 : ∀ ty, (Builtin.copy_ #[76, 76] ty #[.slice (some ⟨B, o + (i + 1) * 3, none⟩) (n - i) (c - (i + 1)), .slice (some ⟨B, o + i * 3, none⟩) (n + 1 - i) (c - i)]).run Tryz.prog w.drew = .ok (goInt (n - i : Nat)) W1 := fun ty => by
    rw [hW1]
    refine run_copy_k w.drew 76 76 ty 132 3 Tryz.underlying76 infoE B _ _ _ B _ _ _ (n - i) _ (Nat.min_eq_right (by omega)) hdl (fun t v hv => ?_) (fun t ht => ?_) (fun v hv => ho1 v (List.mem_of_mem_drop hv))
    · rw [List.getElem?_drop] at hv
      have := h1 _ v hv
      rw [show o + i * 3 + t = o + (i * 3 + t) by omega]; exact this
    · rw [hdl] at ht
      have := hroom ((i + 1) * 3 + t) (by omega)
      rw [show o + (i + 1) * 3 + t = o + ((i + 1) * 3 + t) by omega]; exact this
  have hcp2 : ∀ ty, (Builtin.copy_ #[76, 76] ty #[.slice (some ⟨B, o + i * 3, none⟩) (n + 1 - i) (c - i), .slice (some ⟨B2, o2, none⟩) 1 c2]).run Tryz.prog W1 = .ok (goInt (1 : Nat)) (W1.setCells B (o + i * 3) new) := fun ty => by
    refine run_copy_k W1 76 76 ty 132 3 Tryz.underlying76 infoE B _ _ _ B2 _ _ _ 1 _ (Nat.min_eq_left (by omega)) (by omega) (fun t v hv => ?_) (fun t ht => ?_) ho2
    · rw [hW1, World.cell?_setCells_out B _ _ _ _ (fun hb _ => absurd hb hne)]
      exact h2 t v hv
    · have := hroom (i * 3 + t) (by omega)
      rw [show o + i * 3 + t = o + (i * 3 + t) by omega, hW1]
      exact ⟨Lib.isSome_setCells B _ _ _ _ this.1, by rw [World.frozen?_setCells]; exact this.2⟩
  have HW := Lib.hid hW1
  clear hW1 hfz hB hB2 hroom h1 h2 ho1 ho2 hold hnew hdl
  go_enter Tryz.func241, Tryz.ntmps241
  go_wp2_with fail
  rw [run_callFunc_extern Tryz.func350 (by kernel_rfl) (by kernel_rfl) (by kernel_rfl) (e := Extern.SlicesOverlaps.overlaps #[76, 76] #[4]) (by kernel_rfl)]
  rw [hov]
  simp only [Result.andThen]
  rw [Oper.upon_value]
  go_wp2_with fail
  have e3 : IntKind.i64.wrap ((i : Int) + 1) = ((i + 1 : Nat) : Int) := by rw [wrap_small (by omega) (by omega)]; rfl
  have e9 : ¬ c = i + 1 := by omega
  have e10 : ¬ c = i := by omega
  have e11 : (0 : Int) ≤ (i : Int) + 1 := by omega
  have e12 : i ≤ n := by omega
  have e13 : (0 : Int) ≤ (i : Int) := by omega
  have e14 : (i : Int) ≤ (n : Int) + 1 := by omega
  have e4 : i + 1 ≤ n + 1 := by omega
  have e5 : i + 1 ≤ c := by omega
  have e6 : i ≤ c := by omega
  have e7 : i ≤ n + 1 := by omega
  have e8 : n + 1 - (i + 1) = n - i := by omega
  go_region_law (refine step_copy rfl (.tmp 73) (.tmp 76) 76 rfl (.slice (some ⟨B, o + (i + 1) * 3, none⟩) (n - i) (c - (i + 1))) (.slice (some ⟨B, o + i * 3, none⟩) (n + 1 - i) (c - i)) (by simp [Act.eval, Act.put]) (by simp [Act.eval, Act.put]) _ _ hcp1 ?_)
  go_wp2_with fail
  go_ret
  exact ⟨rfl, 1, by rw [HW.out]; rfl⟩
theorem infoE2 : (Tryz.prog.info? 132).map (fun i => (i.zero, i.size, i.bytes)) = some (some (.agg #[.int .i64 0, .int .i64 0, .int .i64 0]), 3, 24) := by kernel_rfl
set_option maxHeartbeats 2000000 in
set_option maxRecDepth 100000 in
theorem ins_grow (B o B2 o2 n i c c2 : Nat) (old new : List Value) (w : World) (hi : i < n) (hnc : n ≤ c) (hc : c < n + 1) (hcap : n + 1 ≤ 1000000) (hold : old.length = n * 3) (hnew : new.length = 3) (hBs : B < w.heap.size) (hB2s : B2 < w.heap.size)
    (h1 : ∀ (t : Nat) (v : Value), old[t]? = some v → w.cell? ⟨B, o + t, none⟩ = some v) (h2 : ∀ (t : Nat) (v : Value), new[t]? = some v → w.cell? ⟨B2, o2 + t, none⟩ = some v) (ho1 : ∀ v ∈ old, v.oneCell' = true) (ho2 : ∀ v ∈ new, v.oneCell' = true) :
    Calls Tryz.prog 241 #[.slice (some ⟨B, o, none⟩) n c, .int .i64 i, .slice (some ⟨B2, o2, none⟩) 1 c2] w fun e w' => ∃ (g : Nat), n + 1 ≤ g ∧ g ≤ maxLen ∧ ∃ (cs : Array Value), cs.size = g * 3 ∧ e = .returned (.slice (some ⟨w.heap.size, 0, none⟩) (n + 1) g) ∧
      (∀ (t : Nat) (v : Value), (old.take (i * 3))[t]? = some v → cs[t]? = some v) ∧ w' = ((((w.drew.alloc (.cells cs 132)).setCells w.heap.size (i * 3) new).drew).setCells w.heap.size ((i + 1) * 3) (old.drop (i * 3))) := by
  obtain ⟨j, hj, hjs⟩ := Option.map_eq_some_iff.1 infoE2
  injection hjs with hz hjs; injection hjs with hs hby
  have hcn : c = n := by omega
  subst hcn
  have hto : (old.take (i * 3)).length = i * 3 := by rw [List.length_take, hold]; omega
  have hfc : (Builtin.firstCells j.size i (.slice (some ⟨B, o, none⟩) i c)).run Tryz.prog w.drew = .ok (old.take (i * 3)).toArray w.drew := by
    rw [hs]
    refine run_loadL (P := Tryz.prog) (w := w.drew) ⟨B, o, none⟩ _ (i * 3) hto (fun t v hv => ?_)
    rw [addr_lit]
    rw [List.getElem?_take] at hv
    split at hv
    · exact h1 t v hv
    · cases hv
  have hnc1 : i + (c + 1 - i) = c + 1 := by omega
  have hncap : Builtin.nextslicecap (i + (c + 1 - i)) c ≤ 2 * (c + 1) + 200 := by rw [hnc1]; exact next_le (by omega)
  have hap := fun ty => run_append_zeros w 76 3 ty 132 j _ Tryz.underlying76 Tryz.underlying3 hj hz (some ⟨B, o, none⟩) i c (old.take (i * 3)) hfc ((c : Int) + 1 - (i : Int)) (c + 1 - i) (by omega) (by rw [hs]; omega) (by rw [hby]; omega) (by omega) (by omega) (by omega) (by rw [hby]; omega)
  rw [hnc1] at hap
  have hge := grownCap_ge w (c + 1) c 132
  have hgm := grownCap_le_maxLen w (c + 1) c 132 (by unfold maxLen; omega)
  obtain ⟨g, hg⟩ : ∃ g, g = grownCap w (c + 1) c 132 := ⟨_, rfl⟩
  rw [← hg] at hap hge hgm
  obtain ⟨cs, hcs⟩ : ∃ cs, cs = ((old.take (i * 3)).toArray ++ Builtin.zeroCells ((.agg #[.int .i64 0, .int .i64 0, .int .i64 0] : Value)).cells (c + 1 - i)) ++ Builtin.zeroCells ((.agg #[.int .i64 0, .int .i64 0, .int .i64 0] : Value)).cells (g - (c + 1)) := ⟨_, rfl⟩
  have hsz : cs.size = g * 3 := by
    rw [hcs, Array.size_append, Array.size_append, zeroCells_size, zeroCells_size]
    simp only [List.size_toArray, hto, Value.cells]
    simp
    omega
  have hin : ∀ (t : Nat) (v : Value), (old.take (i * 3))[t]? = some v → cs[t]? = some v := fun t v hv => by
    have hlt := (List.getElem?_eq_some_iff.1 hv).1
    rw [hcs, Array.getElem?_append_left (by rw [Array.size_append]; simp; omega), Array.getElem?_append_left (by simpa using hlt)]
    simpa using hv
  rw [← hcs] at hap
  obtain ⟨W1, hW1⟩ : ∃ W1, W1 = w.drew.alloc (.cells cs 132) := ⟨_, rfl⟩
  rw [← hW1] at hap
  have hb1 : Below w.heap.size w W1 := by rw [hW1]; exact (Below.refl _ w).drew.alloc (Nat.le_refl _) _
  have hN : W1.heap[w.heap.size]? = some (.cells cs 132 (0, 0)) := by rw [hW1]; exact heap_alloc_new w.drew _
  have hcell : ∀ t, t < g * 3 → (W1.cell? ⟨w.heap.size, t, none⟩).isSome = true ∧ W1.frozen? ⟨w.heap.size, t, none⟩ = false := fun t ht => by
    refine ⟨?_, not_frozen hN (Nat.le_refl _) t⟩
    simp [World.cell?, hN, hsz, ht]
  obtain ⟨W2, hW2⟩ : ∃ W2, W2 = W1.setCells w.heap.size (i * 3) new := ⟨_, rfl⟩
  obtain ⟨W3, hW3⟩ : ∃ W3, W3 = W2.drew.setCells w.heap.size ((i + 1) * 3) (old.drop (i * 3)) := ⟨_, rfl⟩
  have hdl : (old.drop (i * 3)).length = (c - i) * 3 := by rw [List.length_drop, hold]; omega
  have hcp1 : ∀ ty, (Builtin.copy_ #[76, 76] ty #[.slice (some ⟨w.heap.size, i * 3, none⟩) (c + 1 - i) (g - i), .slice (some ⟨B2, o2, none⟩) 1 c2]).run Tryz.prog W1 = .ok (goInt (1 : Nat)) W2 := fun ty => by
    rw [hW2]
    refine run_copy_k W1 76 76 ty 132 3 Tryz.underlying76 infoE w.heap.size _ _ _ B2 _ _ _ 1 _ (Nat.min_eq_left (by omega)) (by omega) (fun t v hv => ?_) (fun t ht => ?_) ho2
    · rw [hb1.cell (p := ⟨B2, o2 + t, none⟩) hB2s]; exact h2 t v hv
    · exact hcell _ (by omega)
  have hcp2 : ∀ ty, (Builtin.copy_ #[76, 76] ty #[.slice (some ⟨w.heap.size, (i + 1) * 3, none⟩) (c - i) (g - (i + 1)), .slice (some ⟨B, o + i * 3, none⟩) (c - i) (c - i)]).run Tryz.prog W2.drew = .ok (goInt (c - i : Nat)) W3 := fun ty => by
    rw [hW3]
    refine run_copy_k W2.drew 76 76 ty 132 3 Tryz.underlying76 infoE w.heap.size _ _ _ B _ _ _ (c - i) _ (Nat.min_eq_left (by omega)) hdl (fun t v hv => ?_) (fun t ht => ?_) (fun v hv => ho1 v (List.mem_of_mem_drop hv))
    · show W2.cell? _ = some v
      rw [List.getElem?_drop] at hv
      rw [hW2, World.cell?_setCells_out w.heap.size _ _ _ _ (fun hb _ => absurd hb (by show B ≠ w.heap.size; omega)), hb1.cell (p := ⟨B, o + i * 3 + t, none⟩) hBs, Nat.add_assoc]
      exact h1 _ v hv
    · rw [hdl] at ht
      show (W2.cell? _).isSome = true ∧ W2.frozen? _ = false
      rw [hW2]
      have := hcell ((i + 1) * 3 + t) (by omega)
      exact ⟨Lib.isSome_setCells w.heap.size _ _ _ _ this.1, by rw [World.frozen?_setCells]; exact this.2⟩
  have hres : W3 = ((((w.drew.alloc (.cells cs 132)).setCells w.heap.size (i * 3) new).drew).setCells w.heap.size ((i + 1) * 3) (old.drop (i * 3))) := by rw [hW3, hW2, hW1]
  have HR := Lib.hid hres
  have HG := Lib.hid hge
  have HGM := Lib.hid hgm
  have HI := Lib.hid hin
  have HS := Lib.hid hsz
  have e1 : ((i : Int) == (c : Int)) = false := by simp; omega
  have e2 : decide ((c : Int) < (c : Int) + 1) = true := by simp; omega
  have e3 : IntKind.i64.wrap ((i : Int) + 1) = ((i + 1 : Nat) : Int) := by rw [wrap_small (by omega) (by omega)]; rfl
  have e4 : i + 1 ≤ c + 1 := by omega
  have e5 : i + 1 ≤ g := by omega
  have e6 : i ≤ c := by omega
  have e7 : i ≤ c + 1 := by omega
  have e8 : c + 1 - (i + 1) = c - i := by omega
  have e9 : ¬ g = i + 1 := by omega
  have e10 : ¬ c = i := by omega
  have e11 : (0 : Int) ≤ (i : Int) + 1 := by omega
  have e13 : (0 : Int) ≤ (i : Int) := by omega
  have e14 : (i : Int) ≤ (c : Int) + 1 := by omega
  have e15 : ¬ g = i := by omega
  have e16 : (i : Int) ≤ (c : Int) := by omega
  clear hW1 hW2 hW3 hcs hg hge hgm hin hsz hres hb1 hN hcell h1 h2 ho1 ho2 hold hnew hdl hfc hto hncap hnc1 hj hz hs hby hBs hB2s
  go_enter Tryz.func241, Tryz.ntmps241
  go_wp2_with (at_builtin; refine wpList_append_run rfl _ _ 76 3 rfl _ _ rfl rfl _ _ hap ?_)
  go_region_law (refine step_copy rfl (.tmp 50) (.tmp 53) 76 rfl (.slice (some ⟨w.heap.size, (i + 1) * 3, none⟩) (c - i) (g - (i + 1))) (.slice (some ⟨B, o + i * 3, none⟩) (c - i) (c - i)) (by simp [Act.eval, Act.put]) (by simp [Act.eval, Act.put]) _ _ hcp2 ?_)
  go_wp2_with fail
  go_ret
  exact ⟨g, HG.out, HGM.out, cs, HS.out, rfl, HI.out, HR.out⟩
set_option maxHeartbeats 2000000 in
set_option maxRecDepth 100000 in
theorem ins_end (B o n c : Nat) (b2 : Option Addr) (c2 : Nat) (w : World) (hnc : n ≤ c) (hn : n ≤ 140737488355328) (v' : Value) (w' : World) (hap : ∀ ty, (Builtin.append_ #[76, 76] ty #[.slice (some ⟨B, o, none⟩) n c, .slice b2 1 c2]).run Tryz.prog w = .ok v' w') :
    Calls Tryz.prog 241 #[.slice (some ⟨B, o, none⟩) n c, .int .i64 n, .slice b2 1 c2] w fun e w'' => e = .returned v' ∧ w'' = w' := by
  have e1 : ((n : Int) == (n : Int)) = true := by simp
  by_cases hcn : c = n
  · subst hcn
    go_enter Tryz.func241, Tryz.ntmps241
    go_wp2_with (at_builtin; refine wpList_append_run rfl _ _ 76 76 rfl _ _ rfl rfl _ _ hap ?_)
    go_ret
    exact ⟨rfl, rfl⟩
  · go_enter Tryz.func241, Tryz.ntmps241
    go_wp2_with (at_builtin; refine wpList_append_run rfl _ _ 76 76 rfl _ _ rfl rfl _ _ hap ?_)
    go_ret
    exact ⟨rfl, rfl⟩
set_option maxHeartbeats 2000000 in
set_option maxRecDepth 100000 in
theorem ins_nil (b2 : Option Addr) (c2 : Nat) (w : World) (v' : Value) (w' : World) (hap : ∀ ty, (Builtin.append_ #[76, 76] ty #[.slice none 0 0, .slice b2 1 c2]).run Tryz.prog w = .ok v' w') :
    Calls Tryz.prog 241 #[.slice none 0 0, .int .i64 0, .slice b2 1 c2] w fun e w'' => e = .returned v' ∧ w'' = w' := by
  go_enter Tryz.func241, Tryz.ntmps241
  go_wp2_with (at_builtin; refine wpList_append_run rfl _ _ 76 76 rfl _ _ rfl rfl _ _ hap ?_)
  go_ret
  exact ⟨rfl, rfl⟩
theorem known241 {nG : Nat} : Eng.KnownOk Tryz.prog nG 241 (Eng.insertV nG 132 3) :=
  Eng.known_insert (t := 76) (by kernel_rfl) (by decide) (fun args w => Eng.call_enter (f := 241) Tryz.func241 rfl (by kernel_rfl) args w) (fun B o B2 o2 n i c c2 old new w h1 h2 h3 h4 h5 h6 h7 h8 h9 h10 {csB tB fB} h11 h12 h13 => ins_place B o B2 o2 n i c c2 old new w h1 h2 h3 h4 h5 h6 h7 h8 h9 h10 h11 h12 h13) (fun B o B2 o2 n i c c2 old new w h1 h2 h3 h4 h5 h6 h7 h8 h9 h10 h11 h12 => ins_grow B o B2 o2 n i c c2 old new w h1 h2 h3 h4 h5 h6 h7 h8 h9 h10 h11 h12) (fun B o n c b2 c2 w h1 h2 v' w' h => ins_end B o n c b2 c2 w h1 h2 v' w' h) (fun b2 c2 w v' w' h => ins_nil b2 c2 w v' w' h)
theorem infoEF : (Tryz.prog.info? 864).map (fun i => i.size) = some 10 := by kernel_rfl
theorem run_overlapsF (w : World) (B p n c B2 o2 m c2 : Nat) (cs cs2 : Array Value) (t t2 : TypeId) (f f2 : Nat × Nat) (hB : w.heap[B]? = some (.cells cs t f)) (hB2 : w.heap[B2]? = some (.cells cs2 t2 f2)) (hne : B2 ≠ B) (hf : f.2 ≤ f.1) (h2 : cs2.size ≠ 0) (x y : Array TypeId) (hx : x[0]? = some 592) :
    (Extern.SlicesOverlaps.overlaps x y #[.slice (some ⟨B2, o2, none⟩) m c2, .slice (some ⟨B, p, none⟩) n c]).run Tryz.prog w = .ok (.bool false) w := by
  obtain ⟨j, hj, hjs⟩ := Option.map_eq_some_iff.1 infoEF
  have hdef : Extern.SlicesOverlaps.overlaps x y #[.slice (some ⟨B2, o2, none⟩) m c2, .slice (some ⟨B, p, none⟩) n c] = (do
    let some t := x[0]? | stuck "slices.overlaps: no parameter types"
    let .slice elem ← underlying t | stuck "slices.overlaps: slice type expected"
    let size ← sizeOf elem
    if m = 0 ∨ n = 0 ∨ size = 0 then pure (.bool false)
    else if (⟨B2, o2, none⟩ : Addr).block != (⟨B, p, none⟩ : Addr).block && (← frozen ⟨B2, o2, none⟩) && (← frozen ⟨B, p, none⟩) then unsupported .addressObserved
    else do
      if (⟨B2, o2, none⟩ : Addr).block != (⟨B, p, none⟩ : Addr).block then do
        noView ⟨B2, o2, none⟩; noView ⟨B, p, none⟩
        if ← mayBeOne ⟨B2, o2, none⟩ ⟨B, p, none⟩ then return .bool ((← choose (.extern "sameAddr.stringBytes" 2)) == 1)
      pure (.bool ((⟨B2, o2, none⟩ : Addr).block == (⟨B, p, none⟩ : Addr).block && (⟨B2, o2, none⟩ : Addr).off < (⟨B, p, none⟩ : Addr).off + n * size && (⟨B, p, none⟩ : Addr).off < (⟨B2, o2, none⟩ : Addr).off + m * size))) := rfl
  rw [hdef]
  have hs : w.shape? B = some (t, cs.size) := by simp [World.shape?, hB]
  have hs2 : w.shape? B2 = some (t2, cs2.size) := by simp [World.shape?, hB2]
  have hfr := not_frozen hB hf
  have hst : (stringish ⟨B, p, none⟩).run Tryz.prog w = .ok false w := by
    simp [stringish, hfr, hs]
  obtain ⟨sb, hst2⟩ : ∃ sb, (stringish ⟨B2, o2, none⟩).run Tryz.prog w = .ok sb w := by
    by_cases hq : w.frozen? ⟨B2, o2, none⟩ = true
    · exact ⟨true, by simp [stringish, hq]⟩
    · exact ⟨_, by simp [stringish, hq, hs2]; rfl⟩
  by_cases h0 : m = 0 ∨ n = 0 ∨ j.size = 0
  · simp [hx, run_underlying Tryz.underlying592, sizeOf, typeInfo, hj, h0]
  · simp [hx, run_underlying Tryz.underlying592, sizeOf, typeInfo, hj, h0, hne, hfr, noView, mayBeOne, viewAt, hs, hs2, hst2, hst]
    rw [if_neg]
    · simp [hne]
    · rintro ⟨_, h⟩
      generalize hk : cs2.size = k at h
      cases k with
      | zero => exact h2 hk
      | succ k => cases h
set_option maxHeartbeats 2000000 in
set_option maxRecDepth 100000 in
theorem ins_placeF (B o B2 o2 n i c c2 : Nat) (old new : List Value) (w : World) (hi : i < n) (hc : n + 1 ≤ c) (hcap : n ≤ 140737488355328) (hne : B2 ≠ B) (hold : old.length = n * 10) (hnew : new.length = 10)
    (h1 : ∀ (t : Nat) (v : Value), old[t]? = some v → w.cell? ⟨B, o + t, none⟩ = some v) (h2 : ∀ (t : Nat) (v : Value), new[t]? = some v → w.cell? ⟨B2, o2 + t, none⟩ = some v) (ho1 : ∀ v ∈ old, v.oneCell' = true) (ho2 : ∀ v ∈ new, v.oneCell' = true)
    {csB : Array Value} {tB : TypeId} {fB : Nat × Nat} (hB : w.heap[B]? = some (.cells csB tB fB)) (hfz0 : fB.2 ≤ fB.1)
    (hroom : ∀ t, t < (n + 1) * 10 → (w.cell? ⟨B, o + t, none⟩).isSome = true ∧ w.frozen? ⟨B, o + t, none⟩ = false) :
    Calls Tryz.prog 715 #[.slice (some ⟨B, o, none⟩) n c, .int .i64 i, .slice (some ⟨B2, o2, none⟩) 1 c2] w fun e w' => e = .returned (.slice (some ⟨B, o, none⟩) (n + 1) c) ∧ ∃ k, w' = ((w.drewN k).setCells B (o + (i + 1) * 10) (old.drop (i * 10))).setCells B (o + i * 10) new := by
  have e1 : ((i : Int) == (n : Int)) = false := by simp; omega
  have e2 : decide ((c : Int) < (n : Int) + 1) = false := by simp; omega
  have hdl : (old.drop (i * 10)).length = (n - i) * 10 := by rw [List.length_drop, hold]; omega
  have hfz : ∀ W k, (∃ m, W = w.drewN m) → k < (n + 1) * 10 → W.frozen? ⟨B, o + k, none⟩ = false := fun W k ⟨m, e⟩ hk => by subst e; exact (hroom k hk).2
  obtain ⟨csB2, tB2, fB2, hB2⟩ : ∃ cs t f, w.heap[B2]? = some (.cells cs t f) := by
    have := h2 0 _ (List.getElem?_eq_getElem (by omega))
    unfold World.cell? at this
    dsimp only at this
    split at this
    · rename_i cs t f h; exact ⟨cs, t, f, h⟩
    · cases this
  have hov := run_overlapsF w B (o + (i + 1) * 10) (n - i) (c - (i + 1)) B2 o2 1 c2 csB csB2 tB tB2 fB fB2 hB hB2 hne hfz0 (by
    intro h
    have := h2 0 _ (List.getElem?_eq_getElem (by omega))
    simp [World.cell?, hB2] at this
    have := (Array.getElem?_eq_some_iff.1 this).1
    omega) #[592, 592] #[4] rfl
  obtain ⟨W1, hW1⟩ : ∃ W1, W1 = w.drew.setCells B (o + (i + 1) * 10) (old.drop (i * 10)) := ⟨_, rfl⟩
  have hcp1 : ∀ ty, (Builtin.copy_ #[592, 592] ty #[.slice (some ⟨B, o + (i + 1) * 10, none⟩) (n - i) (c - (i + 1)), .slice (some ⟨B, o + i * 10, none⟩) (n + 1 - i) (c - i)]).run Tryz.prog w.drew = .ok (goInt (n - i : Nat)) W1 := fun ty => by
    rw [hW1]
    refine run_copy_k w.drew 592 592 ty 864 10 Tryz.underlying592 infoEF B _ _ _ B _ _ _ (n - i) _ (Nat.min_eq_right (by omega)) hdl (fun t v hv => ?_) (fun t ht => ?_) (fun v hv => ho1 v (List.mem_of_mem_drop hv))
    · rw [List.getElem?_drop] at hv
      have := h1 _ v hv
      rw [show o + i * 10 + t = o + (i * 10 + t) by omega]; exact this
    · rw [hdl] at ht
      have := hroom ((i + 1) * 10 + t) (by omega)
      rw [show o + (i + 1) * 10 + t = o + ((i + 1) * 10 + t) by omega]; exact this
  have hcp2 : ∀ ty, (Builtin.copy_ #[592, 592] ty #[.slice (some ⟨B, o + i * 10, none⟩) (n + 1 - i) (c - i), .slice (some ⟨B2, o2, none⟩) 1 c2]).run Tryz.prog W1 = .ok (goInt (1 : Nat)) (W1.setCells B (o + i * 10) new) := fun ty => by
    refine run_copy_k W1 592 592 ty 864 10 Tryz.underlying592 infoEF B _ _ _ B2 _ _ _ 1 _ (Nat.min_eq_left (by omega)) (by omega) (fun t v hv => ?_) (fun t ht => ?_) ho2
    · rw [hW1, World.cell?_setCells_out B _ _ _ _ (fun hb _ => absurd hb hne)]
      exact h2 t v hv
    · have := hroom (i * 10 + t) (by omega)
      rw [show o + i * 10 + t = o + (i * 10 + t) by omega, hW1]
      exact ⟨Lib.isSome_setCells B _ _ _ _ this.1, by rw [World.frozen?_setCells]; exact this.2⟩
  have HW := Lib.hid hW1
  clear hW1 hfz hB hB2 hroom h1 h2 ho1 ho2 hold hnew hdl
  go_enter Tryz.func715, Tryz.ntmps715
  go_wp2_with fail
  rw [run_callFunc_extern Tryz.func736 (by kernel_rfl) (by kernel_rfl) (by kernel_rfl) (e := Extern.SlicesOverlaps.overlaps #[592, 592] #[4]) (by kernel_rfl)]
  rw [hov]
  simp only [Result.andThen]
  rw [Oper.upon_value]
  go_wp2_with fail
  have e3 : IntKind.i64.wrap ((i : Int) + 1) = ((i + 1 : Nat) : Int) := by rw [wrap_small (by omega) (by omega)]; rfl
  have e9 : ¬ c = i + 1 := by omega
  have e10 : ¬ c = i := by omega
  have e11 : (0 : Int) ≤ (i : Int) + 1 := by omega
  have e12 : i ≤ n := by omega
  have e13 : (0 : Int) ≤ (i : Int) := by omega
  have e14 : (i : Int) ≤ (n : Int) + 1 := by omega
  have e4 : i + 1 ≤ n + 1 := by omega
  have e5 : i + 1 ≤ c := by omega
  have e6 : i ≤ c := by omega
  have e7 : i ≤ n + 1 := by omega
  have e8 : n + 1 - (i + 1) = n - i := by omega
  go_region_law (refine step_copy rfl (.tmp 73) (.tmp 76) 592 rfl (.slice (some ⟨B, o + (i + 1) * 10, none⟩) (n - i) (c - (i + 1))) (.slice (some ⟨B, o + i * 10, none⟩) (n + 1 - i) (c - i)) (by simp [Act.eval, Act.put]) (by simp [Act.eval, Act.put]) _ _ hcp1 ?_)
  go_wp2_with fail
  go_ret
  exact ⟨rfl, 1, by rw [HW.out]; rfl⟩
theorem infoE2F : (Tryz.prog.info? 864).map (fun i => (i.zero, i.size, i.bytes)) = some (some (.agg #[.int .i64 0, .int .i64 0, .int .i64 0, .int .i64 0, .int .i64 0, .int .i64 0, .int .i64 0, .bool false, .string ⟨#[]⟩, .slice none 0 0]), 10, 104) := by kernel_rfl
set_option maxHeartbeats 2000000 in
set_option maxRecDepth 100000 in
theorem ins_growF (B o B2 o2 n i c c2 : Nat) (old new : List Value) (w : World) (hi : i < n) (hnc : n ≤ c) (hc : c < n + 1) (hcap : n + 1 ≤ 1000000) (hold : old.length = n * 10) (hnew : new.length = 10) (hBs : B < w.heap.size) (hB2s : B2 < w.heap.size)
    (h1 : ∀ (t : Nat) (v : Value), old[t]? = some v → w.cell? ⟨B, o + t, none⟩ = some v) (h2 : ∀ (t : Nat) (v : Value), new[t]? = some v → w.cell? ⟨B2, o2 + t, none⟩ = some v) (ho1 : ∀ v ∈ old, v.oneCell' = true) (ho2 : ∀ v ∈ new, v.oneCell' = true) :
    Calls Tryz.prog 715 #[.slice (some ⟨B, o, none⟩) n c, .int .i64 i, .slice (some ⟨B2, o2, none⟩) 1 c2] w fun e w' => ∃ (g : Nat), n + 1 ≤ g ∧ g ≤ maxLen ∧ ∃ (cs : Array Value), cs.size = g * 10 ∧ e = .returned (.slice (some ⟨w.heap.size, 0, none⟩) (n + 1) g) ∧
      (∀ (t : Nat) (v : Value), (old.take (i * 10))[t]? = some v → cs[t]? = some v) ∧ w' = ((((w.drew.alloc (.cells cs 864)).setCells w.heap.size (i * 10) new).drew).setCells w.heap.size ((i + 1) * 10) (old.drop (i * 10))) := by
  obtain ⟨j, hj, hjs⟩ := Option.map_eq_some_iff.1 infoE2F
  injection hjs with hz hjs; injection hjs with hs hby
  have hcn : c = n := by omega
  subst hcn
  have hto : (old.take (i * 10)).length = i * 10 := by rw [List.length_take, hold]; omega
  have hfc : (Builtin.firstCells j.size i (.slice (some ⟨B, o, none⟩) i c)).run Tryz.prog w.drew = .ok (old.take (i * 10)).toArray w.drew := by
    rw [hs]
    refine run_loadL (P := Tryz.prog) (w := w.drew) ⟨B, o, none⟩ _ (i * 10) hto (fun t v hv => ?_)
    rw [addr_lit]
    rw [List.getElem?_take] at hv
    split at hv
    · exact h1 t v hv
    · cases hv
  have hnc1 : i + (c + 1 - i) = c + 1 := by omega
  have hncap : Builtin.nextslicecap (i + (c + 1 - i)) c ≤ 2 * (c + 1) + 200 := by rw [hnc1]; exact next_le (by omega)
  have hap := fun ty => run_append_zeros w 592 3 ty 864 j _ Tryz.underlying592 Tryz.underlying3 hj hz (some ⟨B, o, none⟩) i c (old.take (i * 10)) hfc ((c : Int) + 1 - (i : Int)) (c + 1 - i) (by omega) (by rw [hs]; omega) (by rw [hby]; omega) (by omega) (by omega) (by omega) (by rw [hby]; omega)
  rw [hnc1] at hap
  have hge := grownCap_ge w (c + 1) c 864
  have hgm := grownCap_le_maxLen w (c + 1) c 864 (by unfold maxLen; omega)
  obtain ⟨g, hg⟩ : ∃ g, g = grownCap w (c + 1) c 864 := ⟨_, rfl⟩
  rw [← hg] at hap hge hgm
  obtain ⟨cs, hcs⟩ : ∃ cs, cs = ((old.take (i * 10)).toArray ++ Builtin.zeroCells ((.agg #[.int .i64 0, .int .i64 0, .int .i64 0, .int .i64 0, .int .i64 0, .int .i64 0, .int .i64 0, .bool false, .string ⟨#[]⟩, .slice none 0 0] : Value)).cells (c + 1 - i)) ++ Builtin.zeroCells ((.agg #[.int .i64 0, .int .i64 0, .int .i64 0, .int .i64 0, .int .i64 0, .int .i64 0, .int .i64 0, .bool false, .string ⟨#[]⟩, .slice none 0 0] : Value)).cells (g - (c + 1)) := ⟨_, rfl⟩
  have hsz : cs.size = g * 10 := by
    rw [hcs, Array.size_append, Array.size_append, zeroCells_size, zeroCells_size]
    simp only [List.size_toArray, hto, Value.cells]
    simp
    omega
  have hin : ∀ (t : Nat) (v : Value), (old.take (i * 10))[t]? = some v → cs[t]? = some v := fun t v hv => by
    have hlt := (List.getElem?_eq_some_iff.1 hv).1
    rw [hcs, Array.getElem?_append_left (by rw [Array.size_append]; simp; omega), Array.getElem?_append_left (by simpa using hlt)]
    simpa using hv
  rw [← hcs] at hap
  obtain ⟨W1, hW1⟩ : ∃ W1, W1 = w.drew.alloc (.cells cs 864) := ⟨_, rfl⟩
  rw [← hW1] at hap
  have hb1 : Below w.heap.size w W1 := by rw [hW1]; exact (Below.refl _ w).drew.alloc (Nat.le_refl _) _
  have hN : W1.heap[w.heap.size]? = some (.cells cs 864 (0, 0)) := by rw [hW1]; exact heap_alloc_new w.drew _
  have hcell : ∀ t, t < g * 10 → (W1.cell? ⟨w.heap.size, t, none⟩).isSome = true ∧ W1.frozen? ⟨w.heap.size, t, none⟩ = false := fun t ht => by
    refine ⟨?_, not_frozen hN (Nat.le_refl _) t⟩
    simp [World.cell?, hN, hsz, ht]
  obtain ⟨W2, hW2⟩ : ∃ W2, W2 = W1.setCells w.heap.size (i * 10) new := ⟨_, rfl⟩
  obtain ⟨W3, hW3⟩ : ∃ W3, W3 = W2.drew.setCells w.heap.size ((i + 1) * 10) (old.drop (i * 10)) := ⟨_, rfl⟩
  have hdl : (old.drop (i * 10)).length = (c - i) * 10 := by rw [List.length_drop, hold]; omega
  have hcp1 : ∀ ty, (Builtin.copy_ #[592, 592] ty #[.slice (some ⟨w.heap.size, i * 10, none⟩) (c + 1 - i) (g - i), .slice (some ⟨B2, o2, none⟩) 1 c2]).run Tryz.prog W1 = .ok (goInt (1 : Nat)) W2 := fun ty => by
    rw [hW2]
    refine run_copy_k W1 592 592 ty 864 10 Tryz.underlying592 infoEF w.heap.size _ _ _ B2 _ _ _ 1 _ (Nat.min_eq_left (by omega)) (by omega) (fun t v hv => ?_) (fun t ht => ?_) ho2
    · rw [hb1.cell (p := ⟨B2, o2 + t, none⟩) hB2s]; exact h2 t v hv
    · exact hcell _ (by omega)
  have hcp2 : ∀ ty, (Builtin.copy_ #[592, 592] ty #[.slice (some ⟨w.heap.size, (i + 1) * 10, none⟩) (c - i) (g - (i + 1)), .slice (some ⟨B, o + i * 10, none⟩) (c - i) (c - i)]).run Tryz.prog W2.drew = .ok (goInt (c - i : Nat)) W3 := fun ty => by
    rw [hW3]
    refine run_copy_k W2.drew 592 592 ty 864 10 Tryz.underlying592 infoEF w.heap.size _ _ _ B _ _ _ (c - i) _ (Nat.min_eq_left (by omega)) hdl (fun t v hv => ?_) (fun t ht => ?_) (fun v hv => ho1 v (List.mem_of_mem_drop hv))
    · show W2.cell? _ = some v
      rw [List.getElem?_drop] at hv
      rw [hW2, World.cell?_setCells_out w.heap.size _ _ _ _ (fun hb _ => absurd hb (by show B ≠ w.heap.size; omega)), hb1.cell (p := ⟨B, o + i * 10 + t, none⟩) hBs, Nat.add_assoc]
      exact h1 _ v hv
    · rw [hdl] at ht
      show (W2.cell? _).isSome = true ∧ W2.frozen? _ = false
      rw [hW2]
      have := hcell ((i + 1) * 10 + t) (by omega)
      exact ⟨Lib.isSome_setCells w.heap.size _ _ _ _ this.1, by rw [World.frozen?_setCells]; exact this.2⟩
  have hres : W3 = ((((w.drew.alloc (.cells cs 864)).setCells w.heap.size (i * 10) new).drew).setCells w.heap.size ((i + 1) * 10) (old.drop (i * 10))) := by rw [hW3, hW2, hW1]
  have HR := Lib.hid hres
  have HG := Lib.hid hge
  have HGM := Lib.hid hgm
  have HI := Lib.hid hin
  have HS := Lib.hid hsz
  have e1 : ((i : Int) == (c : Int)) = false := by simp; omega
  have e2 : decide ((c : Int) < (c : Int) + 1) = true := by simp; omega
  have e3 : IntKind.i64.wrap ((i : Int) + 1) = ((i + 1 : Nat) : Int) := by rw [wrap_small (by omega) (by omega)]; rfl
  have e4 : i + 1 ≤ c + 1 := by omega
  have e5 : i + 1 ≤ g := by omega
  have e6 : i ≤ c := by omega
  have e7 : i ≤ c + 1 := by omega
  have e8 : c + 1 - (i + 1) = c - i := by omega
  have e9 : ¬ g = i + 1 := by omega
  have e10 : ¬ c = i := by omega
  have e11 : (0 : Int) ≤ (i : Int) + 1 := by omega
  have e13 : (0 : Int) ≤ (i : Int) := by omega
  have e14 : (i : Int) ≤ (c : Int) + 1 := by omega
  have e15 : ¬ g = i := by omega
  have e16 : (i : Int) ≤ (c : Int) := by omega
  clear hW1 hW2 hW3 hcs hg hge hgm hin hsz hres hb1 hN hcell h1 h2 ho1 ho2 hold hnew hdl hfc hto hncap hnc1 hj hz hs hby hBs hB2s
  go_enter Tryz.func715, Tryz.ntmps715
  go_wp2_with (at_builtin; refine wpList_append_run rfl _ _ 592 3 rfl _ _ rfl rfl _ _ hap ?_)
  go_region_law (refine step_copy rfl (.tmp 50) (.tmp 53) 592 rfl (.slice (some ⟨w.heap.size, (i + 1) * 10, none⟩) (c - i) (g - (i + 1))) (.slice (some ⟨B, o + i * 10, none⟩) (c - i) (c - i)) (by simp [Act.eval, Act.put]) (by simp [Act.eval, Act.put]) _ _ hcp2 ?_)
  go_wp2_with fail
  go_ret
  exact ⟨g, HG.out, HGM.out, cs, HS.out, rfl, HI.out, HR.out⟩
set_option maxHeartbeats 2000000 in
set_option maxRecDepth 100000 in
theorem ins_endF (B o n c : Nat) (b2 : Option Addr) (c2 : Nat) (w : World) (hnc : n ≤ c) (hn : n ≤ 140737488355328) (v' : Value) (w' : World) (hap : ∀ ty, (Builtin.append_ #[592, 592] ty #[.slice (some ⟨B, o, none⟩) n c, .slice b2 1 c2]).run Tryz.prog w = .ok v' w') :
    Calls Tryz.prog 715 #[.slice (some ⟨B, o, none⟩) n c, .int .i64 n, .slice b2 1 c2] w fun e w'' => e = .returned v' ∧ w'' = w' := by
  have e1 : ((n : Int) == (n : Int)) = true := by simp
  by_cases hcn : c = n
  · subst hcn
    go_enter Tryz.func715, Tryz.ntmps715
    go_wp2_with (at_builtin; refine wpList_append_run rfl _ _ 592 592 rfl _ _ rfl rfl _ _ hap ?_)
    go_ret
    exact ⟨rfl, rfl⟩
  · go_enter Tryz.func715, Tryz.ntmps715
    go_wp2_with (at_builtin; refine wpList_append_run rfl _ _ 592 592 rfl _ _ rfl rfl _ _ hap ?_)
    go_ret
    exact ⟨rfl, rfl⟩
set_option maxHeartbeats 2000000 in
set_option maxRecDepth 100000 in
theorem ins_nilF (b2 : Option Addr) (c2 : Nat) (w : World) (v' : Value) (w' : World) (hap : ∀ ty, (Builtin.append_ #[592, 592] ty #[.slice none 0 0, .slice b2 1 c2]).run Tryz.prog w = .ok v' w') :
    Calls Tryz.prog 715 #[.slice none 0 0, .int .i64 0, .slice b2 1 c2] w fun e w'' => e = .returned v' ∧ w'' = w' := by
  go_enter Tryz.func715, Tryz.ntmps715
  go_wp2_with (at_builtin; refine wpList_append_run rfl _ _ 592 592 rfl _ _ rfl rfl _ _ hap ?_)
  go_ret
  exact ⟨rfl, rfl⟩
theorem known715 {nG : Nat} : Eng.KnownOk Tryz.prog nG 715 (Eng.insertV nG 864 10) :=
  Eng.known_insert (t := 592) (by kernel_rfl) (by decide) (fun args w => Eng.call_enter (f := 715) Tryz.func715 rfl (by kernel_rfl) args w) (fun B o B2 o2 n i c c2 old new w h1 h2 h3 h4 h5 h6 h7 h8 h9 h10 {csB tB fB} h11 h12 h13 => ins_placeF B o B2 o2 n i c c2 old new w h1 h2 h3 h4 h5 h6 h7 h8 h9 h10 h11 h12 h13) (fun B o B2 o2 n i c c2 old new w h1 h2 h3 h4 h5 h6 h7 h8 h9 h10 h11 h12 => ins_growF B o B2 o2 n i c c2 old new w h1 h2 h3 h4 h5 h6 h7 h8 h9 h10 h11 h12) (fun B o n c b2 c2 w h1 h2 v' w' h => ins_endF B o n c b2 c2 w h1 h2 v' w' h) (fun b2 c2 w v' w' h => ins_nilF b2 c2 w v' w' h)
noncomputable def kSame (args : List Value) (H : Eng.AH) : Eng.RO := match args with | [x] => .ok x H | _ => .bad
theorem known162 {nG : Nat} : Eng.KnownOk Tryz.prog nG 162 kSame := by
  intro args H v H' hv base w0 J w args' hargs hw
  unfold kSame at hv
  split at hv
  · rename_i x
    obtain ⟨rfl, rfl⟩ : _ ∧ _ := by injection hv with h1 h2; exact ⟨h1, h2⟩
    cases hargs with
    | cons _ x' _ l h1 h => cases h with
      | nil =>
        refine .inr ⟨x', w, ?_, J, h1, hw, Eng.Ev.refl _ _ _ _⟩
        rw [run_callFunc_extern Tryz.func162 (by kernel_rfl) (by kernel_rfl) (by kernel_rfl) (e := Extern.AbiNoEscape.same) (by kernel_rfl)]
        rfl
  · cases hv
theorem okAll : (Tryz.prog.funcs.toList.all (fun fn => Eng.okFunc 11 fn)) = true := by kernel_rfl
theorem mixed : Tryz.prog.follows .mixedOrders = true := by kernel_rfl
open Go.Sort Go.Lib in
theorem below_grow (w : World) (os : Array Obj) : Below w.heap.size w (grow w os) :=
  ⟨rfl, rfl, rfl, by simp [grow], fun k hk => by simp [grow, Array.getElem?_append, hk]⟩
open Go.Sort Go.Lib in
theorem known45 : Eng.KnownOk Tryz.prog 11 45 Eng.kItoa := Eng.known_itoa (g := 2) (by kernel_rfl) (by decide) (enters_of Tryz.func45 (by kernel_rfl) rfl) (fun n h1 h2 w hG => by
  refine (Tryz.strconv_Itoa n h1 h2 w hG).mono ?_
  rintro e w' ⟨rfl, k, os, rfl⟩
  exact ⟨rfl, (Eng.below_drewN (Below.refl _ w) k).trans (below_grow (w.drewN k) os)⟩)
theorem known92 : Eng.KnownOk Tryz.prog 11 92 Eng.kJoin := Eng.known_join (enters_of Tryz.func92 (by kernel_rfl) rfl) (fun bk o c xs sep w h1 h2 h3 h4 h5 => Tryz.strings_Join bk o c xs sep w h1 h2 h3 h4 h5)
theorem known202 : Eng.KnownOk Tryz.prog 11 202 (Eng.kGrow 172 4) := Eng.known_grow (by kernel_rfl) (by decide) (enters_of Tryz.func202 (by kernel_rfl) rfl) (fun w => grow0_202 w) (fun n w h1 h2 => grow_202 n w h1 h2)
theorem known205 : Eng.KnownOk Tryz.prog 11 205 (Eng.kGrow 246 5) := Eng.known_grow (by kernel_rfl) (by decide) (enters_of Tryz.func205 (by kernel_rfl) rfl) (fun w => grow0_205 w) (fun n w h1 h2 => grow_205 n w h1 h2)
theorem known384 : Eng.KnownOk Tryz.prog 11 384 (Eng.kGrow 3 1) := Eng.known_grow (by kernel_rfl) (by decide) (enters_of Tryz.func384 (by kernel_rfl) rfl) (fun w => grow0_384 w) (fun n w h1 h2 => grow_384 n w h1 h2)
theorem known201 : Eng.KnownOk Tryz.prog 11 201 Eng.kEmpty := Eng.known_empty (enters_of Tryz.func201 (by kernel_rfl) rfl) (fun m w h => by
  rcases h with rfl | ⟨B, c, rfl, h⟩
  · exact iv_nil w
  · exact iv_no w B c h)
theorem known507 : Eng.KnownOk Tryz.prog 11 507 (Eng.kIdx Tryz.prog) := Eng.known_idx (fun vs w => idx_run vs w)
noncomputable def K0 : Eng.Known := fun f => Bool.rec (Bool.rec (Bool.rec (Bool.rec (Bool.rec (Bool.rec (Bool.rec (Bool.rec (Bool.rec (Bool.rec (none) (some (Eng.insertV 11 132 3)) (Nat.beq f 241)) (some (Eng.insertV 11 864 10)) (Nat.beq f 715)) (some kSame) (Nat.beq f 162)) (some Eng.kItoa) (Nat.beq f 45)) (some Eng.kJoin) (Nat.beq f 92)) (some (Eng.kGrow 172 4)) (Nat.beq f 202)) (some (Eng.kGrow 246 5)) (Nat.beq f 205)) (some (Eng.kGrow 3 1)) (Nat.beq f 384)) (some Eng.kEmpty) (Nat.beq f 201)) (some (Eng.kIdx Tryz.prog)) (Nat.beq f 507)
theorem hyp0 : Eng.Hyp Tryz.prog 11 K0 where
  mixed := mixed
  funcs := fun f fn _ h => by
    have := List.all_eq_true.1 okAll fn (by
      rw [Array.getElem?_eq_some_iff] at h
      obtain ⟨h1, h2⟩ := h
      rw [← h2]; simp)
    exact this
  known := fun f h hk => by
    unfold K0 at hk
    cases h1 : Nat.beq f 507 with
    | true =>
      rw [h1] at hk
      obtain rfl := Option.some.inj hk
      rw [Nat.beq_eq] at h1; subst h1; exact known507
    | false =>
      rw [h1] at hk
      cases h2 : Nat.beq f 201 with
      | true =>
        rw [h2] at hk
        obtain rfl := Option.some.inj hk
        rw [Nat.beq_eq] at h2; subst h2; exact known201
      | false =>
        rw [h2] at hk
        cases h3 : Nat.beq f 384 with
        | true =>
          rw [h3] at hk
          obtain rfl := Option.some.inj hk
          rw [Nat.beq_eq] at h3; subst h3; exact known384
        | false =>
          rw [h3] at hk
          cases h4 : Nat.beq f 205 with
          | true =>
            rw [h4] at hk
            obtain rfl := Option.some.inj hk
            rw [Nat.beq_eq] at h4; subst h4; exact known205
          | false =>
            rw [h4] at hk
            cases h5 : Nat.beq f 202 with
            | true =>
              rw [h5] at hk
              obtain rfl := Option.some.inj hk
              rw [Nat.beq_eq] at h5; subst h5; exact known202
            | false =>
              rw [h5] at hk
              cases h6 : Nat.beq f 92 with
              | true =>
                rw [h6] at hk
                obtain rfl := Option.some.inj hk
                rw [Nat.beq_eq] at h6; subst h6; exact known92
              | false =>
                rw [h6] at hk
                cases h7 : Nat.beq f 45 with
                | true =>
                  rw [h7] at hk
                  obtain rfl := Option.some.inj hk
                  rw [Nat.beq_eq] at h7; subst h7; exact known45
                | false =>
                  rw [h7] at hk
                  cases h8 : Nat.beq f 162 with
                  | true =>
                    rw [h8] at hk
                    obtain rfl := Option.some.inj hk
                    rw [Nat.beq_eq] at h8; subst h8; exact known162
                  | false =>
                    rw [h8] at hk
                    cases h9 : Nat.beq f 715 with
                    | true =>
                      rw [h9] at hk
                      obtain rfl := Option.some.inj hk
                      rw [Nat.beq_eq] at h9; subst h9; exact known715
                    | false =>
                      rw [h9] at hk
                      cases h10 : Nat.beq f 241 with
                      | true =>
                        rw [h10] at hk
                        obtain rfl := Option.some.inj hk
                        rw [Nat.beq_eq] at h10; subst h10; exact known241
                      | false =>
                        rw [h10] at hk
                        cases hk
#print axioms hyp0
end Go.Proofs.YthlfhfliidhelaaGreatDoor

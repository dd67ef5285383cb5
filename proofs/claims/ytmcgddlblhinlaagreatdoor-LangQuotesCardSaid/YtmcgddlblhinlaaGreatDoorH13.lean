/- A line is read. -/
import Derived.Test.YtmcgddlblhinlaaGreatDoorM1
import Derived.Test.YtmcgddlblhinlaaGreatDoorM2
import Derived.Test.YtmcgddlblhinlaaGreatDoorM3
import Derived.Test.YtmcgddlblhinlaaGreatDoorM4
import Derived.Test.YtmcgddlblhinlaaGreatDoorM5
import Derived.Test.YtmcgddlblhinlaaGreatDoorM6
import Derived.Test.YtmcgddlblhinlaaGreatDoorM7
import Derived.WideMake
import Derived.MapKept
import Derived.Laws.EntriesVeiled
namespace Go.Proofs.YtmcgddlblhinlaaGreatDoor
open Go.RowKit
attribute [local go_sem ↓] Go.wp_at_zero Go.wp_at_succ
theorem Tryz.und109 : Tryz.prog.underlying 109 = some (.map 9 107) := by kernel_rfl
theorem alloc_set (W : World) (o o' : Obj) : ({ W.alloc o with heap := (W.alloc o).heap.setIfInBounds W.heap.size o' } : World) = W.alloc o' := by
  have e : (W.heap.push o).setIfInBounds W.heap.size o' = W.heap.push o' := by
    apply Array.ext_getElem?
    intro i
    rw [Array.getElem?_setIfInBounds, Array.getElem?_push, Array.getElem?_push]
    by_cases h : W.heap.size = i
    · subst h; simp
    · have h' : ¬ i = W.heap.size := fun e => h e.symm
      simp [h, h']
  show ({ W with heap := (W.heap.push o).setIfInBounds W.heap.size o' } : World) = { W with heap := W.heap.push o' }
  rw [e]
theorem run_insert (W : World) (es : Array MapEntry) (c : Nat) (key : ByteArray) (val : Value) (hn : Instr.findNow .string (.string key) es.toList 0 = some none) :
    (Instr.mapUpdate 109 (.map (some W.heap.size)) (.string key) val).run Tryz.prog (W.alloc (.map es c)) = .ok () (W.alloc (.map (es.push { key := .string key, val := val, born := c }) (c + 1))) := by
  have hb : (W.alloc (.map es c)).heap[W.heap.size]? = some (.map es c) := heap_alloc_last _ _
  have hc : (Instr.checkKey false 10000 9 (.string key)).run Tryz.prog (W.alloc (.map es c)) = .ok () (W.alloc (.map es c)) := MapKept.run_checkKey (k := .string key) Tryz.underlying9 (by simp [MapKept.IsKey]) false 9999
  simp only [Instr.mapUpdate, Sem.run_bind, run_underlying Tryz.und109, MapKept.run_getObj_map hb, hc, MapKept.run_findKey Tryz.underlying9 hn, MapKept.run_setObj_map _ hb, Result.andThen]
  rw [alloc_set]
theorem run_look (W : World) (es : Array MapEntry) (c : Nat) (key : ByteArray) (r i : Nat) (v : Value) (hb : W.heap[r]? = some (.map es c)) (hn : Instr.findNow .string (.string key) es.toList 0 = some (some (i, v))) :
    (Instr.lookup 109 (.map (some r)) (.string key) true).run Tryz.prog W = .ok (.tuple #[v, .bool true]) W := by
  have hc : (Instr.checkKey es.isEmpty 10000 9 (.string key)).run Tryz.prog W = .ok () W := MapKept.run_checkKey (k := .string key) Tryz.underlying9 (by simp [MapKept.IsKey]) _ 9999
  simp [Instr.lookup, run_underlying Tryz.und109, MapKept.run_getObj_map hb, hc, MapKept.run_findKey Tryz.underlying9 hn, Result.andThen]
theorem Tryz.zero107 : (Tryz.prog.info? 107).map (fun i => i.zero) = some (some (.agg #[.int .i64 0, .nilFunc])) := by kernel_rfl
theorem run_look_no (W : World) (es : Array MapEntry) (c : Nat) (key : ByteArray) (r : Nat) (hb : W.heap[r]? = some (.map es c)) (hn : Instr.findNow .string (.string key) es.toList 0 = some none) :
    (Instr.lookup 109 (.map (some r)) (.string key) true).run Tryz.prog W = .ok (.tuple #[.agg #[.int .i64 0, .nilFunc], .bool false]) W := by
  have hc : (Instr.checkKey es.isEmpty 10000 9 (.string key)).run Tryz.prog W = .ok () W := MapKept.run_checkKey (k := .string key) Tryz.underlying9 (by simp [MapKept.IsKey]) _ 9999
  have hz : (zeroValue 107).run Tryz.prog W = .ok (.agg #[.int .i64 0, .nilFunc]) W := by kernel_rfl
  simp [Instr.lookup, run_underlying Tryz.und109, MapKept.run_getObj_map hb, hc, MapKept.run_findKey Tryz.underlying9 hn, Result.andThen, hz]
theorem cut_le (l sep : List UInt8) : (Lib.cut l sep).1.length ≤ l.length := by
  unfold Lib.cut
  split
  · simp; omega
  · exact Nat.le_refl _
/-- how much was read at most; orders were read before blocks -/
structure Bd (st : St) (n : Nat) : Prop where
  q : st.m.q.length ≤ n
  c : st.m.cs.length ≤ n
  o : st.m.os.length ≤ n
  f : st.m.fs.length ≤ n
  x : st.m.xs.length ≤ n
  b : ∀ i, i < st.m.os.length → (st.m.os.getD i Bun.zero).bl.length ≤ n
  k : st.k = 3 ∨ st.k = 4 → 0 < st.m.os.length
def ReadPost (w : World) (B pb : Nat) (st : St) (s : ByteArray) (e : Ending) (w' : World) : Prop :=
  ∃ ok, e = .returned (.bool ok) ∧ Frm B pb w w' ∧ (ok = false → readS st s.data.toList = none) ∧ (ok = true → ∃ st' VQ VC VO VF VX ov, readS st s.data.toList = some st' ∧ PS w' B pb st' VQ VC VO VF VX ov)
theorem PS.ov_get {w : World} {B pb : Nat} {st : St} {VQ VC VO VF VX : Value} {ov : List (Bun × Value)} (h : PS w B pb st VQ VC VO VF VX ov) : ov.length = st.m.os.length ∧ ∀ i, i < ov.length → st.m.os.getD i Bun.zero = (ov.getD i BZ).1 := by
  have e := h.os
  refine ⟨by rw [← e]; simp, fun i hi => ?_⟩
  rw [← e]
  simp [List.getD, hi]
theorem PS.setK {w : World} {B pb : Nat} {st : St} {VQ VC VO VF VX : Value} {ov : List (Bun × Value)} (h : PS w B pb st VQ VC VO VF VX ov) (k : Nat) :
    PS ((w.setCell ⟨pb, 6, none⟩ (.int .i64 (rankK k))).setCell ⟨pb, 7, none⟩ (.string (wordK k))) B pb ⟨st.m, k⟩ VQ VC VO VF VX ov ∧ Frm B pb w ((w.setCell ⟨pb, 6, none⟩ (.int .i64 (rankK k))).setCell ⟨pb, 7, none⟩ (.string (wordK k))) := by
  have e1 := heap_set (i := 6) h.blk (.int .i64 (rankK k))
  have e2 := heap_set (i := 7) e1 (.string (wordK k))
  refine ⟨⟨h.lt, h.g8, by simpa using h.le, by simpa using e2, h.os, ?_, ?_, ?_, ?_, ?_, fun i hi => ?_, h.nb⟩, (Frm.set B pb 6 _ w h.blk (by decide)).trans (Frm.set B pb 7 _ _ e1 (by decide))⟩
  · exact ownsRow_setCell_below (ownsRow_setCell_below h.rq h.lt _) h.lt _
  · exact ownsRow_setCell_below (ownsRow_setCell_below h.rc h.lt _) h.lt _
  · exact ownsRow_setCell_below (ownsRow_setCell_below h.ro h.lt _) h.lt _
  · exact ownsRow_setCell_below (ownsRow_setCell_below h.rf h.lt _) h.lt _
  · exact ownsRow_setCell_below (ownsRow_setCell_below h.rx h.lt _) h.lt _
  · exact ownsRow_setCell_below (ownsRow_setCell_below (h.rb i hi) h.lt _) h.lt _
end Go.Proofs.YtmcgddlblhinlaaGreatDoor

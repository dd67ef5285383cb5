/- The kit's contracts of strconv.Itoa, strings.Count and (*strings.Builder).String, laid over this program. -/
import Derived.Shelf.LaysM
import Derived.Shelf.Strconv.Itoa0
import Derived.Shelf.Strconv.Itoa1
import Derived.Shelf.Strconv.Itoa2
import Derived.Shelf.Strconv.Itoa3
import Derived.Shelf.Strings.Count
import Derived.Shelf.Strings.Split
import Derived.Shelf.Strings.Builder2
import Derived.Shelf.Strings.OnBuilder
import Derived.Ground.NamesProg
import Derived.Test.YtpcbccpobhdokaaGreatDoorProg
import Derived.Lib.Builder
import Derived.Lib.AppendStr
import Derived.Lib.UnsafeStr
import Derived.Lib.Walk
import Derived.Lib.Strings
import Derived.Laws.Externs
import Derived.Test.YtpcbccpobhdokaaGreatDoorE1
import Derived.Lib.LaidTab
import Derived.Lib.ItoaNum
import Derived.Lib.ItoaLen
set_option linter.unusedSimpArgs false
set_option linter.unusedVariables false
set_option linter.all false
namespace Go.Proofs
open Go.Shelf
def Tryz.layCount_ren : Go.Shelf.Ren := ⟨fun | 138 => 18 | 195 => 44 | 218 => 45 | 143 => 46 | 219 => 73 | 217 => 100 | 225 => 101 | 224 => 102 | 267 => 103 | 266 => 139 | 314 => 140 | n => n, fun | 9 => 9 | 3 => 3 | 4 => 4 | 5 => 5 | 0 => 0 | 46 => 172 | 146 => 232 | 51 => 226 | n => n, fun | 1 => 0 | n => n⟩
theorem Tryz.layCount : Go.Proofs.Lays.n138 Tryz.prog Tryz.layCount_ren := {
  mixed := by kernel_rfl
  f138 := Tryz.func18.trans (congrArg some (by kernel_rfl))
  f143 := Tryz.func46.trans (congrArg some (by kernel_rfl))
  f195 := Tryz.func44.trans (congrArg some (by kernel_rfl))
  f217 := Tryz.func100.trans (congrArg some (by kernel_rfl))
  f218 := Tryz.func45.trans (congrArg some (by kernel_rfl))
  f219 := Tryz.func73.trans (congrArg some (by kernel_rfl))
  f224 := Tryz.func102.trans (congrArg some (by kernel_rfl))
  f225 := Tryz.func101.trans (congrArg some (by kernel_rfl))
  f266 := Tryz.func139.trans (congrArg some (by kernel_rfl))
  f267 := Tryz.func103.trans (congrArg some (by kernel_rfl))
  f314 := Tryz.func140.trans (congrArg some (by kernel_rfl))
  t0 := Tryz.underlying0
  a0 := Tryz.isAgg0
  z0 := Tryz.sizeOf0
  v0 := Tryz.zeroValue0
  t3 := Tryz.underlying3
  a3 := Tryz.isAgg3
  z3 := Tryz.sizeOf3
  v3 := Tryz.zeroValue3
  t4 := Tryz.underlying4
  a4 := Tryz.isAgg4
  z4 := Tryz.sizeOf4
  v4 := Tryz.zeroValue4
  t5 := Tryz.underlying5
  a5 := Tryz.isAgg5
  z5 := Tryz.sizeOf5
  v5 := Tryz.zeroValue5
  t9 := Tryz.underlying9
  a9 := Tryz.isAgg9
  z9 := Tryz.sizeOf9
  v9 := Tryz.zeroValue9
  t46 := Tryz.underlying172
  a46 := Tryz.isAgg172
  z46 := Tryz.sizeOf172
  v46 := Tryz.zeroValue172
  t51 := Tryz.underlying226
  a51 := Tryz.isAgg226
  z51 := Tryz.sizeOf226
  v51 := Tryz.zeroValue226
  t146 := Tryz.underlying232
  a146 := Tryz.isAgg232
  z146 := Tryz.sizeOf232
  v146 := Tryz.zeroValue232
  g1 := by kernel_rfl }
def Tryz.layStr_ren : Go.Shelf.Ren := ⟨fun | 169 => 31 | n => n, fun | 70 => 71 | 9 => 9 | 0 => 0 | 72 => 74 | 37 => 72 | 127 => 133 | 3 => 3 | 5 => 5 | n => n, fun | n => n⟩
theorem Tryz.layStr : Go.Proofs.Lays.n169 Tryz.prog Tryz.layStr_ren := {
  mixed := by kernel_rfl
  f169 := Tryz.func31.trans (congrArg some (by kernel_rfl))
  t0 := Tryz.underlying0
  a0 := Tryz.isAgg0
  z0 := Tryz.sizeOf0
  v0 := Tryz.zeroValue0
  t3 := Tryz.underlying3
  a3 := Tryz.isAgg3
  z3 := Tryz.sizeOf3
  v3 := Tryz.zeroValue3
  t9 := Tryz.underlying9
  a9 := Tryz.isAgg9
  z9 := Tryz.sizeOf9
  v9 := Tryz.zeroValue9
  t37 := Tryz.underlying72
  a37 := Tryz.isAgg72
  z37 := Tryz.sizeOf72
  v37 := Tryz.zeroValue72
  t70 := Tryz.underlying71
  a70 := Tryz.isAgg71
  z70 := Tryz.sizeOf71
  v70 := Tryz.zeroValue71
  t72 := Tryz.underlying74
  a72 := Tryz.isAgg74
  z72 := Tryz.sizeOf74
  v72 := Tryz.zeroValue74
  t127 := Tryz.underlying133
  a127 := Tryz.isAgg133
  z127 := Tryz.sizeOf133
  v127 := Tryz.zeroValue133 }
def Tryz.layItoa_ren : Go.Shelf.Ren := ⟨fun | 171 => 30 | 243 => 64 | 246 => 98 | 283 => 135 | 284 => 136 | 285 => 137 | 286 => 138 | 129 => 133 | 317 => 194 | 318 => 195 | 319 => 196 | 320 => 197 | 337 => 246 | 338 => 247 | n => n, fun | 3 => 3 | 9 => 9 | 2 => 2 | 4 => 4 | 171 => 228 | 0 => 0 | 53 => 136 | 37 => 72 | 5 => 5 | 173 => 230 | 212 => 295 | 51 => 226 | 20 => 20 | 213 => 296 | 46 => 172 | 232 => 442 | 233 => 443 | n => n, fun | 17 => 1 | 18 => 2 | 19 => 3 | n => n⟩
theorem Tryz.layItoa : Go.Proofs.LaysM.n171 Tryz.prog Tryz.layItoa_ren := {
  mixed := by kernel_rfl
  f129 := Tryz.func133.trans (congrArg some (by kernel_rfl))
  f171 := Tryz.func30.trans (congrArg some (by kernel_rfl))
  f243 := Tryz.func64.trans (congrArg some (by kernel_rfl))
  f246 := Tryz.func98.trans (congrArg some (by kernel_rfl))
  f283 := Tryz.func135.trans (congrArg some (by kernel_rfl))
  f284 := Tryz.func136.trans (congrArg some (by kernel_rfl))
  f285 := Tryz.func137.trans (congrArg some (by kernel_rfl))
  f286 := Tryz.func138.trans (congrArg some (by kernel_rfl))
  f317 := Tryz.func194.trans (congrArg some (by kernel_rfl))
  f318 := Tryz.func195.trans (congrArg some (by kernel_rfl))
  f319 := Tryz.func196.trans (congrArg some (by kernel_rfl))
  f320 := Tryz.func197.trans (congrArg some (by kernel_rfl))
  f337 := Tryz.func246.trans (congrArg some (by kernel_rfl))
  f338 := Tryz.func247.trans (congrArg some (by kernel_rfl))
  t0 := Tryz.underlying0
  a0 := Tryz.isAgg0
  z0 := Tryz.sizeOf0
  v0 := Tryz.zeroValue0
  t2 := Tryz.underlying2
  a2 := Tryz.isAgg2
  z2 := Tryz.sizeOf2
  v2 := Tryz.zeroValue2
  t3 := Tryz.underlying3
  a3 := Tryz.isAgg3
  z3 := Tryz.sizeOf3
  v3 := Tryz.zeroValue3
  t4 := Tryz.underlying4
  a4 := Tryz.isAgg4
  z4 := Tryz.sizeOf4
  v4 := Tryz.zeroValue4
  t5 := Tryz.underlying5
  a5 := Tryz.isAgg5
  z5 := Tryz.sizeOf5
  v5 := Tryz.zeroValue5
  t9 := Tryz.underlying9
  a9 := Tryz.isAgg9
  z9 := Tryz.sizeOf9
  v9 := Tryz.zeroValue9
  t20 := Tryz.underlying20
  a20 := Tryz.isAgg20
  z20 := Tryz.sizeOf20
  v20 := Tryz.zeroValue20
  t37 := Tryz.underlying72
  a37 := Tryz.isAgg72
  z37 := Tryz.sizeOf72
  v37 := Tryz.zeroValue72
  t46 := Tryz.underlying172
  a46 := Tryz.isAgg172
  z46 := Tryz.sizeOf172
  v46 := Tryz.zeroValue172
  t51 := Tryz.underlying226
  a51 := Tryz.isAgg226
  z51 := Tryz.sizeOf226
  v51 := Tryz.zeroValue226
  t53 := Tryz.underlying136
  a53 := Tryz.isAgg136
  z53 := Tryz.sizeOf136
  v53 := Tryz.zeroValue136
  t171 := Tryz.underlying228
  a171 := Tryz.isAgg228
  z171 := Tryz.sizeOf228
  v171 := Tryz.zeroValue228
  t173 := Tryz.underlying230
  a173 := Tryz.isAgg230
  z173 := Tryz.sizeOf230
  v173 := Tryz.zeroValue230
  t212 := Tryz.underlying295
  a212 := Tryz.isAgg295
  z212 := Tryz.sizeOf295
  v212 := Tryz.zeroValue295
  t213 := Tryz.underlying296
  a213 := Tryz.isAgg296
  z213 := Tryz.sizeOf296
  t232 := Tryz.underlying442
  a232 := Tryz.isAgg442
  z232 := Tryz.sizeOf442
  v232 := Tryz.zeroValue442
  t233 := Tryz.underlying443
  a233 := Tryz.isAgg443
  z233 := Tryz.sizeOf443
  v233 := Tryz.zeroValue443
  g17 := by kernel_rfl
  g18 := by kernel_rfl
  g19 := by kernel_rfl
  i0 := by kernel_rfl
  i2 := by kernel_rfl
  i3 := by kernel_rfl
  i4 := by kernel_rfl
  i5 := by kernel_rfl
  i9 := by kernel_rfl
  i20 := by kernel_rfl
  i37 := by kernel_rfl
  i46 := by kernel_rfl
  i51 := by kernel_rfl
  i53 := by kernel_rfl
  i171 := by kernel_rfl
  i173 := by kernel_rfl
  i212 := by kernel_rfl
  i232 := by kernel_rfl
  i233 := by kernel_rfl
  m17 := by kernel_rfl
  m18 := by kernel_rfl
  m19 := by kernel_rfl }
theorem Tryz.Builder_Extra : Builder.Extra Tryz.prog Tryz.layStr_ren := {
  sizeBuilder := by kernel_rfl
  liesBuilder := by kernel_rfl
  t5 := Tryz.underlying5
  a5 := Tryz.isAgg5
  z5 := Tryz.sizeOf5
  v5 := Tryz.zeroValue5
  infoByte := by kernel_rfl
  cellsByte := by kernel_rfl
  sizeByte := by kernel_rfl
  neB5 := by decide }
open Go.RowKit in
theorem Tryz.Builder_String_any (B b : Nat) (l : List UInt8) (w : World) (h : Lib.IsBuilder 74 5 B b (Lib.byteCells l) w) (hBw : B ≤ w.heap.size) :
    Calls Tryz.prog 31 #[.pointer (some ⟨b, 0, none⟩)] w fun e w' => e = .returned (.string ⟨l.toArray⟩) ∧ Below B w w' := Any.Builder_String_any Tryz.layStr Tryz.Builder_Extra B b l w h hBw
open Go.RowKit in
theorem Tryz.strings_Count_any (s sep : ByteArray) (m : Int) (w : World) (hs : s.size < 4294967281) (hm : w.cell? ⟨0, 0, none⟩ = some (.int .i64 m)) (h1 : 1 ≤ sep.size) :
    Calls Tryz.prog 18 #[.string s, .string sep] w fun e w' => e = .returned (.int .i64 (Lib.countB s sep)) ∧ w' = w := Any.strings_Count_any Tryz.layCount s sep m w hs hm h1
open Go.RowKit Go.Sort Go.Lib in
theorem Tryz.strconv_Itoa (n : Int) (h0 : -9223372036854775808 ≤ n) (h1 : n ≤ 9223372036854775807) (w : World) (htab : Lib.TabIs Tryz.prog w "internal/strconv.uint64pow10" .u64 Lib.pow10Tab) :
    Calls Tryz.prog 30 #[.int .i64 n] w fun e w' => e = .returned (.string ⟨(Lib.itoa n).toArray⟩) ∧ ∃ k os, w' = grow (w.drewN k) os := Any.strconv_Itoa Tryz.layItoa n h0 h1 w htab
end Go.Proofs
namespace Go.Proofs.YtpcbccpobhdokaaGreatDoor
open Go.RowKit
theorem Tryz.infoBuilder : (Tryz.prog.info? 74).map (fun i => i.size) = some 2 := by kernel_rfl
theorem Tryz.infoB5 : (Tryz.prog.info? 5).map (fun i => (i.zero, i.size, i.bytes)) = some (some (.int .u8 0), 1, 1) := by kernel_rfl
set_option maxHeartbeats 1000000 in
set_option maxRecDepth 100000 in
theorem bu_used (b : Nat) (w : World) (h0 : w.cell? ⟨b, 0, none⟩ = some (.pointer (some ⟨b, 0, none⟩))) :
    Calls Tryz.prog 63 #[.pointer (some ⟨b, 0, none⟩)] w fun e w' => e = .returned (.tuple #[]) ∧ w' = w := by
  obtain ⟨j, hj, _⟩ := Option.map_eq_some_iff.1 Tryz.infoBuilder
  go_enter Tryz.func63, Tryz.ntmps63
  go_wp2
  rw [Lib.run_neq_ptr_same w _ Tryz.underlying71 hj]
  go_wp2
  go_end0
  exact ⟨rfl, rfl⟩
set_option maxHeartbeats 1000000 in
set_option maxRecDepth 100000 in
theorem bu_fresh (b : Nat) (w : World) (h0 : w.cell? ⟨b, 0, none⟩ = some (.pointer none)) (hsh : w.shape? b = some (74, 2)) (hfz : w.frozen? ⟨b, 0, none⟩ = false) :
    Calls Tryz.prog 63 #[.pointer (some ⟨b, 0, none⟩)] w fun e w' => e = .returned (.tuple #[]) ∧ w' = w.setCell ⟨b, 0, none⟩ (.pointer (some ⟨b, 0, none⟩)) := by
  obtain ⟨j, hj, hjs⟩ := Option.map_eq_some_iff.1 Tryz.infoBuilder
  go_enter Tryz.func63, Tryz.ntmps63
  go_wp2
  rw [Lib.run_to_unsafe w ⟨b, 0, none⟩ Tryz.underlying71 Tryz.underlying175 hj (by rw [hjs]; decide) hsh (Nat.zero_lt_succ 1)]
  simp only [Result.andThen]
  rw [Oper.upon_value]
  go_wp2
  rw [run_callFunc_extern Tryz.func97 (by kernel_rfl) (by kernel_rfl) (by kernel_rfl) (e := Extern.AbiNoEscape.same) (by kernel_rfl)]
  rw [Lib.run_noEscape]
  simp only [Result.andThen]
  rw [Oper.upon_value]
  go_wp2
  rw [Lib.run_from_unsafe w ⟨b, 0, none⟩ Tryz.underlying175 Tryz.underlying71 hj hsh (by kernel_rfl)]
  simp only [Result.andThen]
  rw [Oper.upon_value]
  go_wp2
  go_end0
  exact ⟨rfl, rfl⟩
theorem bu_check (B b : Nat) (bs : List Value) (w : World) (h : Lib.IsBuilder 74 5 B b bs w) :
    Calls Tryz.prog 63 #[.pointer (some ⟨b, 0, none⟩)] w fun e w' => e = .returned (.tuple #[]) ∧ (Lib.BuilderAt 74 5 B b (.pointer (some ⟨b, 0, none⟩)) bs w' ∧ Below B w w' ∧ ∀ k, k ≠ b → w'.heap[k]? = w.heap[k]?) := by
  rcases h with h | h
  · refine (bu_fresh b w h.cell0 h.shape h.frozen0).mono ?_
    rintro e w' ⟨rfl, rfl⟩
    exact ⟨rfl, h.used _, (Below.refl B w).setCell (p := ⟨b, 0, none⟩) h.1 _, fun k hk => Below.heap_setCell w ⟨b, 0, none⟩ _ k hk⟩
  · refine (bu_used b w h.cell0).mono ?_
    rintro e w' ⟨rfl, rfl⟩
    exact ⟨rfl, h, Below.refl B _, fun _ _ => rfl⟩
def Stay (b : Nat) (w w' : World) : Prop := ∀ (k : Nat) (vs : Array Value) (T : TypeId) (q : Nat × Nat), T ≠ 5 → k ≠ b → w.heap[k]? = some (.cells vs T q) → w'.heap[k]? = some (.cells vs T q)
theorem own_ne5 {X : World} {base b : Nat} {v : Value} {n : Nat} {l : List Value} {c : Array Value} {t : TypeId} {f : Nat × Nat} (h : X.ownsRow base 5 1 v n l) (hb : X.heap[b]? = some (.cells c t f)) (ht : t ≠ 5) : some b ≠ v.ownBlock := by
  rcases h.2 with ⟨rfl, _⟩ | ⟨g, cap, cur, rfl, _, hg, _⟩
  · simp [Value.ownBlock]
  · intro e
    obtain rfl : b = g := by simpa [Value.ownBlock] using e
    rw [hb] at hg
    cases hg
    exact ht rfl
set_option maxHeartbeats 2000000 in
set_option maxRecDepth 100000 in
theorem bu_write (B b : Nat) (l : List UInt8) (s : ByteArray) (w : World) (h : Lib.IsBuilder 74 5 B b (Lib.byteCells l) w) (hlen : l.length + s.size ≤ 140737488355328) (hBw : B ≤ w.heap.size) :
    Calls Tryz.prog 29 #[.pointer (some ⟨b, 0, none⟩), .string s] w fun e w' => e = .returned (.tuple #[.int .i64 s.size, .nilIface]) ∧ Lib.IsBuilder 74 5 B b (Lib.byteCells (l ++ s.data.toList)) w' ∧ Below B w w' ∧ Stay b w w' := by
  obtain ⟨i0, hi, hz0, hz1, hz2⟩ := info_parts Tryz.infoB5
  have hbl := Lib.byteCells_length l
  go_enter Tryz.func29, Tryz.ntmps29
  go_wp2_with fail
  refine (bu_check B b _ _ h).mono ?_
  rintro e w1 ⟨rfl, h1, hb1, hs1⟩
  obtain ⟨hB, v, hbk, hown, hne⟩ := h1
  have c0 : w1.cell? ⟨b, 0, none⟩ = some (.pointer (some ⟨b, 0, none⟩)) := by rw [Lib.cell_of_heap hbk]; rfl
  have c1 : w1.cell? ⟨b, 1, none⟩ = some v := by rw [Lib.cell_of_heap hbk]; rfl
  go_wp2_with (at_builtin; refine Lib.wpList_append_own_string _ rfl _ _ 72 9 rfl B 5 i0 Tryz.underlying72 Tryz.underlying9 hi hz0 hz1 hz2 _ _ _ rfl hown s rfl ?c3 ?c4 ?c5 ?_)
  case c3 => unfold maxLen; omega
  case c4 => omega
  case c5 => have := hb1.size; omega
  intro v' w2 hown' hgrow _
  have hlt : b < w1.heap.size := by
    rcases Nat.lt_or_ge b w1.heap.size with h' | h'
    · exact h'
    · simp [Array.getElem?_eq_none h'] at hbk
  have hb2 : w2.heap[b]? = some (.cells #[.pointer (some ⟨b, 0, none⟩), v] 74 (0, 0)) := by
    rw [hgrow.block b hlt (fun e => hne e.symm)]
    exact hbk
  have d0 : w2.cell? ⟨b, 0, none⟩ = some (.pointer (some ⟨b, 0, none⟩)) := by rw [Lib.cell_of_heap hb2]; rfl
  have d1 : w2.cell? ⟨b, 1, none⟩ = some v := by rw [Lib.cell_of_heap hb2]; rfl
  have f1 : w2.frozen? ⟨b, 1, none⟩ = false := Lib.frozen_of_heap hb2 1
  obtain ⟨ao, n', cap, rfl⟩ : ∃ ao n' cap, v' = .slice ao n' cap := by
    rcases hown'.2 with ⟨hv, _⟩ | ⟨g, cap, cur, hv, _⟩
    · exact ⟨_, _, _, hv⟩
    · exact ⟨_, _, _, hv⟩
  go_wp2
  go_ret2
  refine ⟨rfl, .inr ?_, ?_, fun k vs T q hT hkb hk => ?_⟩
  · have e : Lib.byteCells (l ++ s.data.toList) = Lib.byteCells l ++ Lib.strCells s := by simp [Lib.byteCells, Lib.strCells]
    rw [e]
    exact Lib.BuilderAt.put (T := 74) (e := 5) hB hb2 (bs' := Lib.byteCells l ++ Lib.strCells s) (by rw [List.length_append, Lib.strCells_length, Lib.byteCells_length]; exact hown') (by decide)
  · exact (hb1.grown hgrow (by have := hb1.size; omega) (fun k hk => (hown.lt k hk).1)).setCell (p := ⟨b, 1, none⟩) hB _
  · have hk1 := (hs1 k hkb).trans hk
    have hkl : k < w1.heap.size := (Array.getElem?_eq_some_iff.1 hk1).1
    exact (Below.heap_setCell w2 ⟨b, 1, none⟩ _ k hkb).trans ((hgrow.block k hkl (fun e => own_ne5 hown hk1 hT e)).trans hk1)
theorem own_below {w w' : World} {base : Nat} {e : TypeId} {size : Nat} {v : Value} {n : Nat} {xs : List Value} (h : w.ownsRow base e size v n xs) (hb : Below w.heap.size w w') : w'.ownsRow base e size v n xs :=
  h.kept (row := none) ⟨hb.os, hb.tape, hb.output, hb.size, fun j hj _ => hb.block j hj⟩ (by cases h' : v.ownBlock <;> simp)
theorem mk_size (l : List UInt8) : (ByteArray.mk l.toArray).size = l.length := by show l.toArray.size = _; simp
def Bl (W : World) (n : Nat) (l : List UInt8) : Prop := n ≤ W.heap.size ∧ Lib.IsBuilder 74 5 n n (Lib.byteCells l) W
theorem Bl.below {W W' : World} {n : Nat} {l : List UInt8} (h : Bl W n l) (hb : Below W.heap.size W W') : Bl W' n l := by
  refine ⟨Nat.le_trans h.1 hb.size, ?_⟩
  have step : ∀ p, Lib.BuilderAt 74 5 n n p (Lib.byteCells l) W → Lib.BuilderAt 74 5 n n p (Lib.byteCells l) W' := fun p hp => by
    have hlt := hp.lt
    obtain ⟨h1, v, h2, h3, h4⟩ := hp
    exact ⟨h1, v, (hb.block n hlt).trans h2, own_below h3 hb, h4⟩
  exact h.2.imp (step _) (step _)
theorem Bl.new (w : World) : Bl (w.alloc (.cells #[.pointer none, .slice none 0 0] 74)) w.heap.size [] := ⟨by simp, Lib.fresh_isBuilder 74 5 w⟩
theorem write_any (n : Nat) (l l' : List UInt8) (s : ByteArray) (hs : s = ⟨l'.toArray⟩) (W : World) (h : Bl W n l) (hlen : l.length + l'.length ≤ 140737488355328) :
    Calls Tryz.prog 29 #[.pointer (some ⟨n, 0, none⟩), .string s] W fun e w' => (∃ k, e = .returned (.tuple #[.int .i64 k, .nilIface])) ∧ Bl w' n (l ++ l') ∧ Below n W w' ∧ Stay n W w' := by
  subst hs
  refine (bu_write n n l _ W h.2 (by rw [mk_size]; exact hlen) h.1).mono ?_
  rintro e w' ⟨rfl, hb, hw, hs⟩
  exact ⟨⟨_, rfl⟩, ⟨Nat.le_trans h.1 hw.size, hb⟩, hw, hs⟩
end Go.Proofs.YtpcbccpobhdokaaGreatDoor
namespace Go.Proofs.YtpcbccpobhdokaaGreatDoor
open Go.RowKit
def GOk (w : World) : Prop := 6 ≤ w.heap.size ∧ Lib.TabIs Tryz.prog w "internal/strconv.uint64pow10" .u64 Lib.pow10Tab ∧ ∃ m, w.cell? ⟨0, 0, none⟩ = some (.int .i64 m)
theorem gPow : Tryz.prog.globalNamed "internal/strconv.uint64pow10" = some 1 := by kernel_rfl
theorem GOk.below {w w' : World} (h : GOk w) (hb : Below w.heap.size w w') : GOk w' := by
  refine ⟨Nat.le_trans h.1 hb.size, ?_, ?_⟩
  · have h2 := h.2.1
    unfold Lib.TabIs World.var? at h2 ⊢
    rw [gPow] at h2 ⊢
    simp only [Option.bind_some] at h2 ⊢
    rw [hb.block 1 (by have := h.1; omega)]
    exact h2
  · obtain ⟨m, hm⟩ := h.2.2
    exact ⟨m, (hb.cell (p := ⟨0, 0, none⟩) (by have := h.1; show 0 < w.heap.size; omega)).trans hm⟩
def itoaS (n : Int) : ByteArray := ⟨(Lib.itoa n).toArray⟩
theorem itoa_any (n : Int) (h0 : -9223372036854775808 ≤ n) (h1 : n ≤ 9223372036854775807) (w : World) (h : GOk w) : Calls Tryz.prog 30 #[.int .i64 n] w fun e w' => e = .returned (.string (itoaS n)) ∧ Below w.heap.size w w' :=
  (Tryz.strconv_Itoa n h0 h1 w h.2.1).mono fun _ _ ⟨he, hw⟩ => ⟨he, Gr.below hw⟩
theorem itoaS_size {n : Int} (h0 : -9223372036854775808 ≤ n) (h1 : n ≤ 9223372036854775807) : (itoaS n).size ≤ 21 := by
  rw [itoaS, mk_size]; exact Lib.itoa_length_le n h0 h1
def ratS (a b : Int) : ByteArray := if b = 1 then itoaS a else itoaS a ++ (⟨#[47]⟩ ++ itoaS b)
theorem ratE_ok {a b : Int} (h : ratE a b = 0) : -1099511627776 ≤ a ∧ a ≤ 1099511627776 ∧ 1 ≤ b ∧ b ≤ 1048576 ∧ Nat.gcd a.natAbs b.natAbs = 1 := by
  unfold ratE at h
  split at h
  · cases h
  · split at h
    · rename_i h1 h2; exact ⟨by omega, by omega, by omega, by omega, h2⟩
    · cases h
set_option maxHeartbeats 2000000 in
set_option maxRecDepth 100000 in
theorem rprint_any (a b : Int) (hE : ratE a b = 0) (w : World) (hG : GOk w) : Calls Tryz.prog 28 #[.agg #[.int .i64 a, .int .i64 b]] w fun e w' => e = .returned (.tuple #[.string (ratS a b), .int .i64 0]) ∧ Below w.heap.size w w' := by
  obtain ⟨h1, h2, h3, h4, _⟩ := ratE_ok hE
  have hc := fun W => rcheck_any a b W
  rw [hE] at hc
  have hA := fun W hW => itoa_any a (by omega) (by omega) W hW
  have hB := fun W hW => itoa_any b (by omega) (by omega) W hW
  have sa := itoaS_size (n := a) (by omega) (by omega)
  have sb := itoaS_size (n := b) (by omega) (by omega)
  have hR : ratS a b = if b = 1 then itoaS a else itoaS a ++ (⟨#[47]⟩ ++ itoaS b) := rfl
  generalize itoaS a = ta at *
  generalize itoaS b = tb at *
  generalize ratS a b = R at *
  have HA := Lib.hid hA
  have HB := Lib.hid hB
  have HG := Lib.hid (fun (W : World) (hb : Below w.heap.size w W) => hG.below hb)
  clear hA hB hG hE
  have e1 : (⟨#[47]⟩ : ByteArray).size = 1 := rfl
  by_cases hone : b = 1
  · rw [if_pos hone] at hR
    subst hR
    subst hone
    clear h1 h2 h3 h4 sa sb e1
    go_enter Tryz.func28, Tryz.ntmps28
    go_upto_region 1 with fail
    have b0 : (w.alloc (.cells #[.int .i64 a, .int .i64 1] 30)).cell? ⟨w.heap.size, 0, none⟩ = some (.int .i64 a) := cell_of_row _ _ 0 _ _ _ (heap_alloc_last _ _)
    have b1 : (w.alloc (.cells #[.int .i64 a, .int .i64 1] 30)).cell? ⟨w.heap.size, 1, none⟩ = some (.int .i64 1) := cell_of_row _ _ 1 _ _ _ (heap_alloc_last _ _)
    have hlt : w.heap.size < (w.alloc (.cells #[.int .i64 a, .int .i64 1] 30)).heap.size := by simp
    have hB0 : Below w.heap.size w (w.alloc (.cells #[.int .i64 a, .int .i64 1] 30)) := (Below.refl _ w).alloc (Nat.le_refl _) _
    generalize (w.alloc (.cells #[.int .i64 a, .int .i64 1] 30)) = W at *
    go_wp2_with (first
      | (go_at_call 37; refine (hc _).mono ?_; rintro e w1 ⟨rfl, hb1⟩; have hB1 := hB0.trans (hb1.mono hB0.size); have d0 := (hb1.cell (p := ⟨w.heap.size, 0, none⟩) hlt).trans b0; have d1 := (hb1.cell (p := ⟨w.heap.size, 1, none⟩) hlt).trans b1; have hl1 : w.heap.size < w1.heap.size := Nat.lt_of_lt_of_le hlt hb1.size)
      | (go_at_call 30; refine (HA.out _ (HG.out _ hB1)).mono ?_; rintro e w2 ⟨rfl, hb2⟩; have hB2 := hB1.trans (hb2.mono hB1.size); have f0 := (hb2.cell (p := ⟨w.heap.size, 0, none⟩) hl1).trans d0; have f1 := (hb2.cell (p := ⟨w.heap.size, 1, none⟩) hl1).trans d1; have hl2 : w.heap.size < w2.heap.size := Nat.lt_of_lt_of_le hl1 hb2.size))
    refine bodyPost_ret (by (simp [results, Tryz.results28, go_sem, *]; try rfl)) rfl ?_
    exact ⟨rfl, hB2⟩
  · rw [if_neg hone] at hR
    have hcat : ¬ 9223372036854775807 < (⟨#[47]⟩ : ByteArray).size + tb.size := by omega
    have hcat2 : ¬ 9223372036854775807 < ta.size + ((⟨#[47]⟩ : ByteArray) ++ tb).size := by rw [ByteArray.size_append]; omega
    subst hR
    clear h1 h2 h3 h4 sa sb e1
    go_enter Tryz.func28, Tryz.ntmps28
    go_upto_region 1 with fail
    have b0 : (w.alloc (.cells #[.int .i64 a, .int .i64 b] 30)).cell? ⟨w.heap.size, 0, none⟩ = some (.int .i64 a) := cell_of_row _ _ 0 _ _ _ (heap_alloc_last _ _)
    have b1 : (w.alloc (.cells #[.int .i64 a, .int .i64 b] 30)).cell? ⟨w.heap.size, 1, none⟩ = some (.int .i64 b) := cell_of_row _ _ 1 _ _ _ (heap_alloc_last _ _)
    have hlt : w.heap.size < (w.alloc (.cells #[.int .i64 a, .int .i64 b] 30)).heap.size := by simp
    have hB0 : Below w.heap.size w (w.alloc (.cells #[.int .i64 a, .int .i64 b] 30)) := (Below.refl _ w).alloc (Nat.le_refl _) _
    generalize (w.alloc (.cells #[.int .i64 a, .int .i64 b] 30)) = W at *
    go_wp2_with (first
      | (go_at_call 37; refine (hc _).mono ?_; rintro e w1 ⟨rfl, hb1⟩; have hB1 := hB0.trans (hb1.mono hB0.size); have d0 := (hb1.cell (p := ⟨w.heap.size, 0, none⟩) hlt).trans b0; have d1 := (hb1.cell (p := ⟨w.heap.size, 1, none⟩) hlt).trans b1; have hl1 : w.heap.size < w1.heap.size := Nat.lt_of_lt_of_le hlt hb1.size)
      | (go_at_call 30; refine (HB.out _ (HG.out _ hB2)).mono ?_; rintro e w3 ⟨rfl, hb3⟩; have hB3 := hB2.trans (hb3.mono hB2.size))
      | (go_at_call 30; refine (HA.out _ (HG.out _ hB1)).mono ?_; rintro e w2 ⟨rfl, hb2⟩; have hB2 := hB1.trans (hb2.mono hB1.size); have f0 := (hb2.cell (p := ⟨w.heap.size, 0, none⟩) hl1).trans d0; have f1 := (hb2.cell (p := ⟨w.heap.size, 1, none⟩) hl1).trans d1; have hl2 : w.heap.size < w2.heap.size := Nat.lt_of_lt_of_le hl1 hb2.size))
    refine bodyPost_ret (by (simp [results, Tryz.results28, go_sem, *]; try rfl)) rfl ?_
    exact ⟨rfl, hB3⟩
end Go.Proofs.YtpcbccpobhdokaaGreatDoor

/- ArchiveEqual: how the row's inputs are opened. -/
import Derived.Test.YthlfhfliidhelaaGreatDoorR0
import Derived.Test.YthlfhfliidhelaaGreatDoorL3
import Derived.Test.YthlfhfliidhelaaGreatDoorRows
import Derived.Carry
import Derived.Test.YthlfhfliidhelaaGreatDoorChecked
set_option linter.unusedSimpArgs false
set_option linter.unusedVariables false
set_option linter.all false
namespace Go.Proofs.YthlfhfliidhelaaGreatDoor
open Go.ChangeShapes Go.WideShapes Go.ChangeAt Go.RowKit
theorem pow_data : (Rows.laid_internal_strconv_uint64pow10 : DataW Unit) = Lib.tabData .u64 Lib.pow10Tab := by kernel_rfl
theorem space_data : (Rows.laid_strings_asciiSpace : DataW Unit) = Lib.tabData .u8 spZ := by kernel_rfl
theorem gok3 {W : World} (hL : laidMetH Tryz.prog Rows.archiveEqualRow.laid W) (hsh : W.ShapedOpen Tryz.prog) : GOk W := by
  rw [MakeChecks.laidMetH_plain _ _ _ (by kernel_rfl)] at hL
  have h4 := laidMet.tail (laidMet.tail hL)
  have h8 := laidMet.tail (laidMet.tail (laidMet.tail (laidMet.tail (laidMet.tail h4))))
  exact gok_of (Lib.tabIs_of_head (k := .u64) (zs := Lib.pow10Tab) gPow Tryz.gPType Tryz.underlying607 Tryz.underlying480 Tryz.cellsU Tryz.cellsP (by rw [← pow_data]; exact h4))
    (Lib.tabIs_of_head (k := .u8) (zs := spZ) gSpace Tryz.gSType Tryz.underlying399 Tryz.underlying5 Tryz.cellsB Tryz.cellsS (by rw [← space_data]; exact h8)) hsh
set_option maxRecDepth 100000 in
theorem a3_contract {H : Type} {enc : TypeId × Value → H} (W : World) (base : Nat) (args : Array Value) (ds gs : List (DataW H)) (before : List MemPlace)
    (hval0 : ∀ (j : Nat) t v, Tryz.f3.params[j]? = some t → args[j]? = some v → Value.okWide Tryz.prog W .any base t v)
    (hW : DataW.Whole enc Tryz.prog Tryz.f3.params.toList Rows.archiveEqualSpec.vars false W args.toList ds gs before)
    (hL : laidMetH Tryz.prog Rows.archiveEqualRow.laid W) (hsh : W.ShapedOpen Tryz.prog) :
    Calls Tryz.prog 3 args W fun e W' => ∃ v, e = .returned v ∧ Rows.archiveEqualSpec.post enc Tryz.prog Tryz.f3 false true false false W args v W' := by
  have hval := hval0
  have hW' := hW
  obtain ⟨p, q, hA0, hV, rfl, hfz, hnd⟩ := hW
  have hA : DataW.TrodAll enc Tryz.prog W 0 (fun _ => true) true Tryz.f3.params.toList args.toList ds p := hA0
  rw [Tryz.params3] at hA hval
  obtain ⟨v0, v1, d0, d1, p0, p1, rfl, rfl, rfl, h0, h1⟩ := trodAll_two hA
  obtain ⟨rfl, rfl⟩ := trodVars_none hV
  obtain ⟨VT, VA, VD, a, rfl, hM0⟩ := open_arc (hval 0 26 v0 rfl rfl) h0
  obtain ⟨UT, UA, UD, b, rfl, hM1⟩ := open_arc (hval 1 26 v1 rfl rfl) h1
  refine (law_all a b VT VA VD UT UA UD W hM0 hM1 (gok3 hL hsh)).mono fun e W' ⟨he, hb⟩ => ?_
  subst he
  exact ⟨_, rfl, law_post Tryz.laidOut Tryz.underlying4 rfl (by decide +kernel) rfl rfl rfl rfl hW' hb⟩
end Go.Proofs.YthlfhfliidhelaaGreatDoor
namespace Go.Proofs.YthlfhfliidhelaaGreatDoor
open Go.ChangeShapes Go.WideShapes Go.ChangeAt Go.RowKit
set_option maxRecDepth 1000000
def witNames : List String := ["unicode/utf8.first", "unicode/utf8.acceptRanges", "internal/strconv.uint64pow10", "math/bits.deBruijn32tab", "math/bits.deBruijn64tab", "strings.asciiSpace", "unicode.White_Space"]
/-- the world in which both sentinels stand -/
noncomputable def wit0 (os : Os) : World := { World.holding Tryz.prog os ⟨#[], #[], []⟩ with
  heap := ((((World.holding Tryz.prog os ⟨#[], #[], []⟩).heap.setIfInBounds 4 (.cells #[.iface 726 (.pointer (some ⟨16, 0, none⟩))] 142)).setIfInBounds 5 (.cells #[.iface 726 (.pointer (some ⟨17, 0, none⟩))] 142)).push
    (.cells #[.string ⟨#[105, 110, 118, 97, 108, 105, 100, 32, 115, 121, 110, 116, 97, 120]⟩] 728)).push (.cells #[.string ⟨#[118, 97, 108, 117, 101, 32, 111, 117, 116, 32, 111, 102, 32, 114, 97, 110, 103, 101]⟩] 728) }
noncomputable def wit1 (os : Os) : World := (wit0 os).layVars Tryz.prog (Rows.archiveEqualRow.laid.filter fun x => witNames.contains x.1)
noncomputable def witW (os : Os) : World := (wit1 os).forCall (fun _ _ => 0) { blocks := #[], args := #[.agg #[.string ⟨#[]⟩, .string ⟨#[]⟩, .slice none 0 0, .slice none 0 0, .slice none 0 0], .agg #[.string ⟨#[]⟩, .string ⟨#[]⟩, .slice none 0 0, .slice none 0 0, .slice none 0 0]] }
theorem x_f1 (os : Os) : (wit0 os).layFits Tryz.prog (Rows.archiveEqualRow.laid.filter fun x => witNames.contains x.1) [4, 5, 16, 17] = true := by kernel_rfl
theorem x_f2 (os : Os) : (wit0 os).layIfaces Tryz.prog (Rows.archiveEqualRow.laid.filter fun x => witNames.contains x.1) (wit1 os) = true := by kernel_rfl
theorem x_r1 (os : Os) : (DataW.laidRun Tryz.prog (wit1 os) 8 ((Rows.archiveEqualRow.laid.filter fun x => !witNames.contains x.1).map (·.1))).map (·.1) = some (Rows.archiveEqualRow.laid.filter fun x => !witNames.contains x.1) := by kernel_rfl
theorem x_r2 (os : Os) : (DataW.laidRun Tryz.prog (wit1 os) 8 ((Rows.archiveEqualRow.laid.filter fun x => !witNames.contains x.1).map (·.1))).map (fun x => nodupB (x.2.map MemPlace.codeOf)) = some true := by kernel_rfl
theorem x_r3 (os : Os) : (DataW.laidRun Tryz.prog (wit1 os) 8 ((Rows.archiveEqualRow.laid.filter fun x => !witNames.contains x.1).map (·.1))).map (fun x => laidRowsB Tryz.prog (wit1 os) x.2) = some true := by kernel_rfl
theorem x_r4 (os : Os) : (DataW.laidRun Tryz.prog (wit1 os) 8 ((Rows.archiveEqualRow.laid.filter fun x => !witNames.contains x.1).map (·.1))).map (fun x => x.2.all fun p => [4, 5, 16, 17].contains p.block) = some true := by kernel_rfl
theorem x_z (os : Os) : (witW os).variablesZipB Tryz.prog = true := by kernel_rfl
theorem x_d (os : Os) : ((witW os).heap.toList.drop Tryz.prog.globals.size).take ((begin Tryz.prog (fun _ _ => 0) default).world.heap.size - Tryz.prog.globals.size) = (begin Tryz.prog (fun _ _ => 0) default).world.heap.toList.drop Tryz.prog.globals.size := by kernel_rfl
theorem x_shaped (os : Os) : (witW os).Shaped Tryz.prog := World.shaped_of_ZipB (x_z os) (x_d os)
theorem x_laid (os : Os) : laidMet Tryz.prog Rows.archiveEqualRow.laid (wit1 os) :=
  laidMet_layVars (w0 := wit0 os) witNames [4, 5, 16, 17] rfl (x_f1 os) (x_f2 os) (LaidIn.of_run [4, 5, 16, 17] 8 (x_r1 os) (x_r2 os) (x_r3 os) (x_r4 os))
theorem x_os (os : Os) : (wit1 os).os = os := (World.layVars_os _ _ _).trans rfl
set_option maxHeartbeats 2000000 in
set_option maxRecDepth 100000 in
theorem archiveEqual_lifted (os : Os) (started : os.Started) (H : Type) (enc : TypeId × Value → H) :
    ReturnsInHanded {} Tryz.checked os 3 .any (fun w args => (Rows.archiveEqualSpec.pre enc Tryz.prog Tryz.f3 Rows.archiveEqualRow.domain false w args ∧ laidMetH Tryz.prog Rows.archiveEqualRow.laid w) ∧ sizedMet enc Tryz.prog Tryz.f3 (OpenSpec.ofChange Rows.archiveEqualSpec) false w args)
      (Rows.archiveEqualSpec.post enc Tryz.prog Tryz.f3 false true false false) :=
  returns_laid_shaped (C := Tryz.checked) (X := fun w _ => laidMetH Tryz.prog Rows.archiveEqualRow.laid w) (fun _ _ _ hh h => h.of_heap hh) Tryz.own started (by kernel_rfl) Tryz.func3
    (ChangeSpec.witness_shaped (enc := enc) (C := Tryz.checked) (os := os) (X := fun w _ => laidMetH Tryz.prog Rows.archiveEqualRow.laid w) false (wit1 os) #[.agg #[.string ⟨#[]⟩, .string ⟨#[]⟩, .slice none 0 0, .slice none 0 0, .slice none 0 0], .agg #[.string ⟨#[]⟩, .string ⟨#[]⟩, .slice none 0 0, .slice none 0 0, .slice none 0 0]] 8 (x_os os)
      (x_shaped os) (by kernel_rfl) (by kernel_rfl) (by kernel_rfl)
      (by rw [MakeChecks.laidMetH_plain _ _ _ (by kernel_rfl)]; exact (x_laid os).of_heap (by simp [World.memory, World.forCall, Input.heap])))
    (fun W base args ds gs before hval hW _ _ hL hsh => a3_contract W base args ds gs before hval hW hL hsh)
end Go.Proofs.YthlfhfliidhelaaGreatDoor

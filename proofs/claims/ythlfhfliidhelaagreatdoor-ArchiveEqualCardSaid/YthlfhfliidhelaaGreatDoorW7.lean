/- Texts and frames: Text, tail, Seal. -/
import Derived.Test.YthlfhfliidhelaaGreatDoorW4
set_option linter.unusedSimpArgs false
set_option linter.unusedVariables false
set_option linter.all false
namespace Go.Proofs.YthlfhfliidhelaaGreatDoor
open Go.RowKit Go.Shelf
attribute [local go_sem] Oper.semAt_some
theorem ba_app (a b : List UInt8) : (⟨a.toArray⟩ : ByteArray) ++ ⟨b.toArray⟩ = ⟨(a ++ b).toArray⟩ := by
  apply ByteArray.ext
  show _ = (a ++ b).toArray
  rw [ByteArray.data_append]
  simp
theorem ba_size (a : List UInt8) : (⟨a.toArray⟩ : ByteArray).size = a.length := rfl
theorem text_any (s : List UInt8) (hs : s.length ≤ 65536) (w : World) : Calls Tryz.prog 13 #[.string ⟨s.toArray⟩] w fun e w' =>
    e = .returned (.tuple #[.string ⟨(intL s.length ++ s).toArray⟩, .int .i64 0]) ∧ Below w.heap.size w w' := by
  have hl := ba_size s
  have HR : Hid (Rng (s.length : Int)) := ⟨by omega, by omega⟩
  have hl2 := ba_size (intL s.length)
  have hl3 := intL_len (n := s.length) (by omega) (by omega)
  have HA := Lib.hid (ba_app (intL s.length) s)
  go_enter Tryz.func13, Tryz.ntmps13
  go_wp2_with fail
  refine (int_any _ HR.out _).mono ?_
  rintro e w1 ⟨rfl, hb1⟩
  go_wp2_with fail
  go_ret2
  exact ⟨by rw [← HA.out]; rfl, hb1⟩
theorem text_bad (s : List UInt8) (hs : ¬ s.length ≤ 65536) (hm : s.length ≤ 1000000) (w : World) : Calls Tryz.prog 13 #[.string ⟨s.toArray⟩] w fun e w' =>
    e = .returned (.tuple #[.string ⟨#[]⟩, .int .i64 4]) ∧ Below w.heap.size w w' := by
  have hl := ba_size s
  go_enter Tryz.func13, Tryz.ntmps13
  go_wp2_with fail
  go_ret2
  exact ⟨rfl, Below.refl _ _⟩
theorem tail_conv (s : List UInt8) (W : World) : (convert 125 9 (.slice (some ⟨W.heap.size, 0, none⟩) 4 4)).run Tryz.prog (W.alloc (.cells #[.int .u8 ((crcN s : Int) % 256), .int .u8 ((crcN s : Int) / 256 % 256), .int .u8 ((crcN s : Int) / 65536 % 256), .int .u8 ((crcN s : Int) / 16777216)] 5)) =
    .ok (.string ⟨(tailL s).toArray⟩) (W.alloc (.cells #[.int .u8 ((crcN s : Int) % 256), .int .u8 ((crcN s : Int) / 256 % 256), .int .u8 ((crcN s : Int) / 65536 % 256), .int .u8 ((crcN s : Int) / 16777216)] 5)) := by
  have hN := crcN_lt s
  have e : ∀ a : Nat, ((a.toUInt8.toNat : Nat) : Int) = (a : Int) % 256 := fun a => by
    show (((UInt8.ofNat a).toNat : Nat) : Int) = _
    rw [UInt8.toNat_ofNat']
    omega
  refine run_convert_bytes_back (P := Tryz.prog) _ 125 9 5 ⟨W.heap.size, 0, none⟩ 4 (tailL s) Tryz.underlying125 Tryz.underlying5 Tryz.underlying9 (fun j hj => ?_)
  have hj4 : j < 4 := hj
  have ea : (⟨W.heap.size, 0, none⟩ : Addr).add j = ⟨W.heap.size, j, none⟩ := by simp [Addr.add]; omega
  rw [ea, cell_of_row _ _ _ _ _ _ (World.alloc_heap_new W _)]
  match j, hj4 with
  | 0, _ => show some (Value.int .u8 _) = some (.int .u8 (((crcN s).toUInt8.toNat : Nat) : Int)); rw [e]
  | 1, _ => show some (Value.int .u8 _) = some (.int .u8 (((crcN s / 256).toUInt8.toNat : Nat) : Int)); rw [e]; simp
  | 2, _ => show some (Value.int .u8 _) = some (.int .u8 (((crcN s / 65536).toUInt8.toNat : Nat) : Int)); rw [e]; simp
  | 3, _ => show some (Value.int .u8 _) = some (.int .u8 (((crcN s / 16777216).toUInt8.toNat : Nat) : Int)); rw [e]; congr 2; omega
set_option maxRecDepth 100000 in
set_option maxHeartbeats 1000000 in
theorem tail_any (HT : TableOk) (s : List UInt8) (hs : s.length ≤ 1000000) (w : World) : Calls Tryz.prog 37 #[.string ⟨s.toArray⟩] w fun e w' => e = .returned (.string ⟨(tailL s).toArray⟩) ∧ Below w.heap.size w w' := by
  have hN := crcN_lt s
  have HC := fun W => Lib.hid (tail_conv s W)
  go_enter Tryz.func37, Tryz.ntmps37
  go_wp2_with fail
  refine (sum_any HT s hs _).mono ?_
  rintro e w1 ⟨rfl, hb1⟩
  go_wp2_with fail
  rw [(HC _).out]
  simp only [Result.andThen]
  go_wp2_with fail
  go_ret
  exact ⟨rfl, hb1.trans ((Below.refl _ _).alloc hb1.size _)⟩
theorem seal_any (HT : TableOk) (s : List UInt8) (hm : s.length ≤ 900000) (w : World) : Calls Tryz.prog 16 #[.string ⟨s.toArray⟩] w fun e w' =>
    ((e = .returned (.tuple #[.string ⟨(sealL (intL s.length) s).toArray⟩, .int .i64 0]) ∧ Head (intL s.length) s.length) ∨ e = .returned (.tuple #[.string ⟨#[]⟩, .int .i64 4])) ∧ Below w.heap.size w w' := by
  by_cases hs : s.length ≤ 65536
  · have hl2 := ba_size (intL s.length ++ s)
    have hl3 := intL_len (n := s.length) (by omega) (by omega)
    have hl4 := ba_size (tailL (intL s.length ++ s))
    have hl5 : (tailL (intL s.length ++ s)).length = 4 := rfl
    have hl6 : (intL s.length ++ s).length ≤ 65545 := by rw [List.length_append]; omega
    have HA := Lib.hid (ba_app (intL s.length ++ s) (tailL (intL s.length ++ s)))
    have HD := Lib.hid (head_int s.length (by omega))
    have HS : Hid ((intL s.length ++ s) ++ tailL (intL s.length ++ s) = sealL (intL s.length) s) := rfl
    go_enter Tryz.func16, Tryz.ntmps16
    go_wp2_with fail
    refine (text_any s hs _).mono ?_
    rintro e w1 ⟨rfl, hb1⟩
    generalize intL s.length ++ s = t at *
    go_wp2_with fail
    refine (tail_any HT t (by omega) _).mono ?_
    rintro e w2 ⟨rfl, hb2⟩
    go_wp2_with fail
    go_ret2
    exact ⟨.inl ⟨by rw [← HS.out, ← HA.out]; rfl, HD.out⟩, bt hb1 hb2⟩
  · go_enter Tryz.func16, Tryz.ntmps16
    go_wp2_with fail
    refine (text_bad s hs (by omega) _).mono ?_
    rintro e w1 ⟨rfl, hb1⟩
    go_wp2_with fail
    go_ret2
    exact ⟨.inr rfl, hb1⟩
end Go.Proofs.YthlfhfliidhelaaGreatDoor

/- Decoding what can't be opened. -/
import Derived.Test.YtfafhdganloipaaGreatDoorW9
namespace Go.Proofs.YtfafhdganloipaaGreatDoor
open Go.RowKit
def DecPost (w : World) (e : Ending) (w' : World) : Prop := e = .returned (.tuple #[.agg #[.string ⟨#[]⟩, .string ⟨#[]⟩, .slice none 0 0, .slice none 0 0, .slice none 0 0], .int .i64 11]) ∧ Below w.heap.size w w'
set_option maxRecDepth 100000 in
set_option maxHeartbeats 1000000 in
theorem decode_bad (HT : TableOk) (s : List UInt8) (hs : s.length ≤ 900000) (hB : Bad s) (w : World) : Calls Tryz.prog 7 #[.string ⟨s.toArray⟩] w (DecPost w) := by
  have hl := ba_size s
  go_enter Tryz.func7, Tryz.ntmps7
  go_wp2_with fail
  refine (open_any HT s hs _).mono ?_
  rintro e w1 ⟨hb, (⟨d, z, h1, V, rfl⟩ | ⟨h1, x, hx, rfl⟩)⟩
  · have hz := hB d z h1
    have hz2 : ((z : Int) == (s.length : Int)) = false := by simpa using fun e : (z : Int) = s.length => hz (by omega)
    have hk := bc (B := w.heap.size + 1) hb (by simp)
    have hf := bf (B := w.heap.size + 1) hb (by simp)
    have hBB : Hid (Below w.heap.size w w1) := ((Below.refl _ w).alloc (Nat.le_refl _) _).trans (hb.mono (by simp))
    clear hB h1 hz hb
    go_wp2_with fail
    refine bodyPost_ret (by (simp [results, Tryz.results7, go_sem, *]; try rfl)) rfl ?_
    exact ⟨rfl, (((((hBB.out.setCell (p := ⟨w.heap.size, 0, none⟩) (Nat.le_refl _) _).setCell (p := ⟨w.heap.size, 1, none⟩) (Nat.le_refl _) _).setCell (p := ⟨w.heap.size, 2, none⟩) (Nat.le_refl _) _).setCell (p := ⟨w.heap.size, 3, none⟩) (Nat.le_refl _) _).setCell (p := ⟨w.heap.size, 4, none⟩) (Nat.le_refl _) _)⟩
  · have hxb : (x == 0) = false := by simpa using hx
    have hk := bc (B := w.heap.size + 1) hb (by simp)
    have hf := bf (B := w.heap.size + 1) hb (by simp)
    have hBB : Hid (Below w.heap.size w w1) := ((Below.refl _ w).alloc (Nat.le_refl _) _).trans (hb.mono (by simp))
    clear hB h1 hx hb
    go_wp2_with fail
    refine bodyPost_ret (by (simp [results, Tryz.results7, go_sem, *]; try rfl)) rfl ?_
    exact ⟨rfl, (((((hBB.out.setCell (p := ⟨w.heap.size, 0, none⟩) (Nat.le_refl _) _).setCell (p := ⟨w.heap.size, 1, none⟩) (Nat.le_refl _) _).setCell (p := ⟨w.heap.size, 2, none⟩) (Nat.le_refl _) _).setCell (p := ⟨w.heap.size, 3, none⟩) (Nat.le_refl _) _).setCell (p := ⟨w.heap.size, 4, none⟩) (Nat.le_refl _) _)⟩
end Go.Proofs.YtfafhdganloipaaGreatDoor

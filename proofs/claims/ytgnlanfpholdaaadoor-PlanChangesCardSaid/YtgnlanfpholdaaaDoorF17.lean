/- Parse, whole. -/
import Derived.Test.YtgnlanfpholdaaaDoorF16
namespace Go.Proofs.YtgnlanfpholdaaaDoor
open Go.RowKit Go.Shelf
set_option maxRecDepth 100000 in
set_option maxHeartbeats 4000000 in
theorem parse_any (s : ByteArray) (w : World) (hG : Glob w) : Calls Tryd.prog 31 #[.string s] w (ParsePost s w) := by
  by_cases hs : s.size ≤ 8192
  · exact callsIn_wide.1 (parse_in s w hs hG)
  · have hP : parseR s = ([], [], 0, 4) := by unfold parseR; rw [if_pos (by omega)]
    have HP := Lib.hid hP
    have hi : (8192 : Int) < s.size := by omega
    clear hP hs
    go_enter Tryd.func31, Tryd.ntmps31
    go_wp2_with fail
    refine bodyPost_ret (v := .tuple #[.agg #[.slice none 0 0, .slice none 0 0], .int .i64 0, .int .i64 4]) (by simp [results, Tryd.results31, go_sem]) rfl ⟨_, _, by rw [HP.out], by rw [HP.out]; exact ints_nil _ _, by rw [HP.out]; exact cons_nil _ _, by (repeat' (first | (with_reducible exact Below.refl _ _) | (with_reducible refine Below.alloc ?_ ?_ _) | (with_reducible refine Below.drew ?_) | (with_reducible refine below_drewN ?_ _) | (with_reducible refine Below.setCell ?_ ?_ _) | (with_reducible refine Below.trans ?_ (Below.mono (by assumption) ?_)) | (with_reducible exact Nat.le_refl _) | omega | (simp; omega) | (simp; done)))⟩
/-- what Parse answers for the text of the chapter -/
def exText : ByteArray := ⟨#[110, 111, 100, 101, 32, 48, 32, 49, 48, 48, 10, 110, 111, 100, 101, 32, 49, 32, 53, 48, 10, 99, 111, 110, 116, 97, 99, 116, 32, 48, 32, 49, 32, 49, 48, 32, 54, 48, 32, 52, 32, 53, 32, 49, 10]⟩
theorem ex_parse : parseR exText = ([100, 50], [⟨0, 1, 10, 60, 4, 5, 1⟩], 0, 0) := by kernel_rfl
end Go.Proofs.YtgnlanfpholdaaaDoor

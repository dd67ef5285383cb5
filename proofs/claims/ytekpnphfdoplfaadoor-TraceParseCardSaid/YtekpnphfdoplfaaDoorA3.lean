/- The fields of an entry (function 50). -/
import Derived.Test.YtekpnphfdoplfaaDoorA2
namespace Go.Proofs.YtekpnphfdoplfaaDoor
open Go.RowKit
/-- what fields makes of the entry at block b, of kind k -/
def fldC (b : Nat) (k : Int) : Array Value := #[.string ⟨#[110, 111, 100, 101]⟩, .pointer (some ⟨b, 2, none⟩), .int .i64 15, .bool (hasN k), .string ⟨#[116, 105, 99, 107, 101, 116]⟩, .pointer (some ⟨b, 3, none⟩), .int .i64 1152921504606846976, .bool (hasJ k), .string ⟨#[99, 111, 110, 116, 97, 99, 116]⟩, .pointer (some ⟨b, 4, none⟩), .int .i64 63, .bool (hasC k), .string ⟨#[118, 97, 108, 117, 101]⟩, .pointer (some ⟨b, 5, none⟩), .int .i64 1152921504606846976, .bool (hasV k)]
theorem idx_form (k : Int) (h1 : 1 ≤ k) (h2 : k ≤ 17) (w : World) : (Instr.index 77 (.agg formC) (.int .i64 k)).run Tryd.prog w = .ok (.agg (formR k)) w := by
  rcases kinds_cases h1 h2 with rfl | rfl | rfl | rfl | rfl | rfl | rfl | rfl | rfl | rfl | rfl | rfl | rfl | rfl | rfl | rfl | rfl <;> kernel_rfl
set_option maxRecDepth 100000 in
set_option maxHeartbeats 4000000 in
theorem fields_any (b : Nat) (x : Ent) (w : World) (hb : b < w.heap.size) (hx : EntAt w b 0 x) (h1 : 1 ≤ x.k) (h2 : x.k ≤ 17) : Calls Tryd.prog 50 #[.pointer (some ⟨b, 0, none⟩)] w fun e w' =>
    ∃ g, e = .returned (.slice (some ⟨g, 0, none⟩) 4 4) ∧ w'.heap[g]? = some (.cells (fldC b x.k) 88 (0, 0)) ∧ w.heap.size ≤ g ∧ Below w.heap.size w w' := by
  obtain ⟨-, x1, -, -, -, -⟩ := hx
  simp only [Nat.zero_add] at x1
  have hix : ∀ w, (Instr.index 77 (.agg formC) (.int .i64 x.k)).run Tryd.prog w = .ok (.agg #[.string ⟨(wordL x.k).toArray⟩, .bool (hasN x.k), .bool (hasJ x.k), .bool (hasC x.k), .bool (hasV x.k)]) w := idx_form x.k h1 h2
  have hf : fldC b x.k = #[.string ⟨#[110, 111, 100, 101]⟩, .pointer (some ⟨b, 2, none⟩), .int .i64 15, .bool (hasN x.k), .string ⟨#[116, 105, 99, 107, 101, 116]⟩, .pointer (some ⟨b, 3, none⟩), .int .i64 1152921504606846976, .bool (hasJ x.k), .string ⟨#[99, 111, 110, 116, 97, 99, 116]⟩, .pointer (some ⟨b, 4, none⟩), .int .i64 63, .bool (hasC x.k), .string ⟨#[118, 97, 108, 117, 101]⟩, .pointer (some ⟨b, 5, none⟩), .int .i64 1152921504606846976, .bool (hasV x.k)] := rfl
  generalize wordL x.k = wl at *
  generalize hasN x.k = tb0 at *
  generalize hasJ x.k = tb1 at *
  generalize hasC x.k = tb2 at *
  generalize hasV x.k = tb3 at *
  have HF := Lib.hid hf
  clear hf
  clear h1 h2
  go_enter Tryd.func50, Tryd.ntmps50
  go_wp2_with fail
  go_region_held3 (fun w' => w'.cell? ⟨b, 1, none⟩ = some (.int .i64 x.k) ∧ Below w.heap.size w w')
    ((repeat' (with_reducible apply And.intro)) <;> first | assumption | exact (Below.cell (p := ⟨b, 1, none⟩) (show Below w.heap.size w _ from (by first | assumption | exact ba (by assumption) _ | exact ba (Below.drew (Below.refl _ _)) _ | exact ba (below_drewN (Below.refl _ _) _) _ | exact below_drewN (Below.refl _ _) _ | exact Below.drew (Below.refl _ _) | exact below_drewN (by assumption) _ | exact Below.drew (by assumption) | (repeat' (first | (with_reducible exact Below.refl _ _) | (with_reducible refine Below.alloc ?_ ?_ _) | (with_reducible refine Below.drew ?_) | (with_reducible refine below_drewN ?_ _) | (with_reducible refine Below.setCell ?_ ?_ _) | (with_reducible refine Below.trans ?_ (Below.mono (by assumption) ?_)) | (with_reducible exact Nat.le_refl _) | omega | (simp; omega) | (simp; done))))) hb).trans x1 | (exact (show Below w.heap.size w _ from (by first | assumption | exact ba (by assumption) _ | exact ba (Below.drew (Below.refl _ _)) _ | exact ba (below_drewN (Below.refl _ _) _) _ | exact below_drewN (Below.refl _ _) _ | exact Below.drew (Below.refl _ _) | exact below_drewN (by assumption) _ | exact Below.drew (by assumption) | (repeat' (first | (with_reducible exact Below.refl _ _) | (with_reducible refine Below.alloc ?_ ?_ _) | (with_reducible refine Below.drew ?_) | (with_reducible refine below_drewN ?_ _) | (with_reducible refine Below.setCell ?_ ?_ _) | (with_reducible refine Below.trans ?_ (Below.mono (by assumption) ?_)) | (with_reducible exact Nat.le_refl _) | omega | (simp; omega) | (simp; done)))))))
    (first
     | (go_at_call 47; refine (forms_any _).mono ?_; rintro e w3 ⟨rfl, rfl⟩))
  all_goals
    rename_i hHeld
    have hbl := hHeld.2
    clear hHeld x1 hix
    go_wp2_with fail
    first
      | (have hz : Below w.heap.size w ((w.alloc (.cells formC 77)).alloc (.cells #[.string ⟨wl.toArray⟩, .bool tb0, .bool tb1, .bool tb2, .bool tb3] 76)).drew := hbl
         clear hz
         have c1 : ((w.alloc (.cells formC 77)).alloc (.cells #[.string ⟨wl.toArray⟩, .bool tb0, .bool tb1, .bool tb2, .bool tb3] 76)).drew.cell? ⟨w.heap.size + 1, 1, none⟩ = some (.bool tb0) := by simp [go_sem]
         have c2 : ((w.alloc (.cells formC 77)).alloc (.cells #[.string ⟨wl.toArray⟩, .bool tb0, .bool tb1, .bool tb2, .bool tb3] 76)).drew.cell? ⟨w.heap.size + 1, 2, none⟩ = some (.bool tb1) := by simp [go_sem]
         have c3 : ((w.alloc (.cells formC 77)).alloc (.cells #[.string ⟨wl.toArray⟩, .bool tb0, .bool tb1, .bool tb2, .bool tb3] 76)).drew.cell? ⟨w.heap.size + 1, 3, none⟩ = some (.bool tb2) := by simp [go_sem]
         have c4 : ((w.alloc (.cells formC 77)).alloc (.cells #[.string ⟨wl.toArray⟩, .bool tb0, .bool tb1, .bool tb2, .bool tb3] 76)).drew.cell? ⟨w.heap.size + 1, 4, none⟩ = some (.bool tb3) := by simp [go_sem]
         have hlt : w.heap.size + 1 < ((w.alloc (.cells formC 77)).alloc (.cells #[.string ⟨wl.toArray⟩, .bool tb0, .bool tb1, .bool tb2, .bool tb3] 76)).drew.heap.size := by simp
         generalize ((w.alloc (.cells formC 77)).alloc (.cells #[.string ⟨wl.toArray⟩, .bool tb0, .bool tb1, .bool tb2, .bool tb3] 76)).drew = wr at *
         generalize w.heap.size + 1 = gb at *)
      | (have hz : Below w.heap.size w ((w.alloc (.cells #[.string ⟨wl.toArray⟩, .bool tb0, .bool tb1, .bool tb2, .bool tb3] 76)).alloc (.cells formC 77)).drew := hbl
         clear hz
         have c1 : ((w.alloc (.cells #[.string ⟨wl.toArray⟩, .bool tb0, .bool tb1, .bool tb2, .bool tb3] 76)).alloc (.cells formC 77)).drew.cell? ⟨w.heap.size, 1, none⟩ = some (.bool tb0) := by simp [go_sem]
         have c2 : ((w.alloc (.cells #[.string ⟨wl.toArray⟩, .bool tb0, .bool tb1, .bool tb2, .bool tb3] 76)).alloc (.cells formC 77)).drew.cell? ⟨w.heap.size, 2, none⟩ = some (.bool tb1) := by simp [go_sem]
         have c3 : ((w.alloc (.cells #[.string ⟨wl.toArray⟩, .bool tb0, .bool tb1, .bool tb2, .bool tb3] 76)).alloc (.cells formC 77)).drew.cell? ⟨w.heap.size, 3, none⟩ = some (.bool tb2) := by simp [go_sem]
         have c4 : ((w.alloc (.cells #[.string ⟨wl.toArray⟩, .bool tb0, .bool tb1, .bool tb2, .bool tb3] 76)).alloc (.cells formC 77)).drew.cell? ⟨w.heap.size, 4, none⟩ = some (.bool tb3) := by simp [go_sem]
         have hlt : w.heap.size < ((w.alloc (.cells #[.string ⟨wl.toArray⟩, .bool tb0, .bool tb1, .bool tb2, .bool tb3] 76)).alloc (.cells formC 77)).drew.heap.size := by simp; omega
         generalize ((w.alloc (.cells #[.string ⟨wl.toArray⟩, .bool tb0, .bool tb1, .bool tb2, .bool tb3] 76)).alloc (.cells formC 77)).drew = wr at *)
    go_still_tail 24, (by kernel_rfl)
    go_wp2_with fail
    go_ret
    exact ⟨wr.heap.size, rfl, by rw [HF.out]; exact heap_alloc_last wr _, hbl.size, (hbl.alloc hbl.size _).drew⟩
end Go.Proofs.YtekpnphfdoplfaaDoor

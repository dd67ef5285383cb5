/- slices.Delete of one contact. -/
import Derived.Test.YtgnlanfpholdaaaDoorG7
import Derived.Deep.RegionLaw
import Derived.Lib.SliceRun
import Derived.Lib.ReflectliteSwap
namespace Go.Proofs.YtgnlanfpholdaaaDoor
open Go.RowKit
theorem addr_lit (b o n : Nat) : (⟨b, o, none⟩ : Addr).add n = ⟨b, o + n, none⟩ := addr_add b o n
theorem below_cells {B b : Nat} {a : World} (hb : B ≤ b) : ∀ (vs : List Value) (o : Nat) (w : World), Below B a w → Below B a (w.setCells b o vs)
  | [], _, _, h => h
  | v :: r, o, _, h => below_cells hb r (o + 1) _ (h.setCell (p := ⟨b, o, none⟩) hb v)
def conZ : List Value := List.replicate 7 (.int .i64 0)
theorem run_clear_con (w : World) (ty : TypeId) (b o c : Nat) (hc : ∀ j, j < 7 → (w.cell? ⟨b, o + j, none⟩).isSome = true) (hf : ∀ j, j < 7 → w.frozen? ⟨b, o + j, none⟩ = false) :
    (Builtin.clear_ #[23] ty #[.slice (some ⟨b, o, none⟩) 1 c]).run Tryd.prog w = .ok (.tuple #[]) (w.setCells b o conZ) := by
  have hzc : (Builtin.zeroCells (Value.agg #[.int .i64 0, .int .i64 0, .int .i64 0, .int .i64 0, .int .i64 0, .int .i64 0, .int .i64 0]).cells 1).toList = conZ := by kernel_rfl
  have hst := run_storeCells_cells (P := Tryd.prog) b o conZ 0 w (by simpa [conZ] using hc) (by simpa [conZ] using hf) (by intro v hv'; rw [List.eq_of_mem_replicate hv']; rfl)
  simp only [Nat.add_zero] at hst
  simp [Builtin.clear_, run_underlying Tryd.underlying23, Tryd.zeroValue40, hzc, hst]
/-- a list of contacts without one -/
def delL (cs : List Con) (i : Nat) : List Con := cs.take i ++ cs.drop (i + 1)
theorem delL_len {cs : List Con} {i : Nat} (h : i < cs.length) : (delL cs i).length = cs.length - 1 := by
  unfold delL; rw [List.length_append, List.length_take, List.length_drop]; omega
theorem delL_lt {cs : List Con} {i j : Nat} (h : j < i) (hi : i < cs.length) : (delL cs i).getD j Con.zero = cs.getD j Con.zero := by
  unfold delL
  rw [List.getD_eq_getElem?_getD, List.getElem?_append_left (by rw [List.length_take]; omega), List.getElem?_take_of_lt h, List.getD_eq_getElem?_getD]
theorem delL_ge {cs : List Con} {i j : Nat} (h : i ≤ j) (hi : i < cs.length) : (delL cs i).getD j Con.zero = cs.getD (j + 1) Con.zero := by
  unfold delL
  rw [List.getD_eq_getElem?_getD, List.getElem?_append_right (by rw [List.length_take]; omega), List.length_take, List.getElem?_drop, List.getD_eq_getElem?_getD]
  congr 2; omega
theorem conAt_of {w : World} {b o : Nat} {c : Con} (h : ∀ k, k < 7 → w.cell? ⟨b, o + k, none⟩ = (conVals c)[k]?) : ConAt w b o c :=
  ⟨h 0 (by omega), h 1 (by omega), h 2 (by omega), h 3 (by omega), h 4 (by omega), h 5 (by omega), h 6 (by omega)⟩
theorem conAt_get {w : World} {b o : Nat} {c : Con} (h : ConAt w b o c) : ∀ k, k < 7 → w.cell? ⟨b, o + k, none⟩ = (conVals c)[k]? := fun k hk => by
  have := conVals_at h k (conVals c)[k] (List.getElem?_eq_getElem hk)
  rw [this, List.getElem?_eq_getElem hk]
set_option maxHeartbeats 4000000 in
set_option maxRecDepth 100000 in
theorem del_any (g n cap i j : Nat) (cs : List Con) (w : World) (hn : n = cs.length) (hnc : n ≤ cap) (_hcap : cap ≤ maxLen) (hi : i < n) (hj : j = i + 1) (hcell : ∀ j, j < cs.length → ConAt w g (j * 7) (cs.getD j Con.zero)) (hfz : ∀ k, w.frozen? ⟨g, k, none⟩ = false) :
    Calls Tryd.prog 62 #[.slice (some ⟨g, 0, none⟩) n cap, .int .i64 i, .int .i64 j] w fun e w' => e = .returned (.slice (some ⟨g, 0, none⟩) (n - 1) cap) ∧ (∀ j, j < n - 1 → ConAt w' g (j * 7) ((delL cs i).getD j Con.zero)) ∧ Below g w w' := by
  unfold maxLen at _hcap
  have hsome : ∀ t, t < n * 7 → (w.cell? ⟨g, t, none⟩).isSome = true := fun t ht => by
    have := conAt_get (hcell (t / 7) (by omega)) (t % 7) (by omega)
    rw [show t / 7 * 7 + t % 7 = t by omega] at this
    rw [this, List.getElem?_eq_getElem (show t % 7 < 7 by omega)]; rfl
  have hlen : (conCells (cs.drop j)).length = (n - j) * 7 := by rw [conCells_len, List.length_drop, hn]
  obtain ⟨A, hA, hsrc⟩ : ∃ A : Addr, (if cap = j then some (⟨g, 0, none⟩ : Addr) else some ⟨g, j * 7, none⟩) = some A ∧ Hid (∀ t u, (conCells (cs.drop j))[t]? = some u → w.drew.cell? (A.add t) = some u) := by
    by_cases h : cap = j
    · refine ⟨⟨g, 0, none⟩, by simp [h], fun t u hu => ?_⟩
      have h0 : (conCells (cs.drop j)).length = 0 := by rw [hlen]; omega
      rw [List.length_eq_zero_iff.1 h0] at hu
      simp at hu
    · refine ⟨⟨g, j * 7, none⟩, by simp [h], fun t u hu => ?_⟩
      show w.cell? _ = some u
      refine cons_cells (w := w) (b := g) (o := j * 7) (cs := cs.drop j) (fun k hk => ?_) t u hu
      rw [List.length_drop] at hk
      have := hcell (j + k) (by omega)
      rw [show (j + k) * 7 = j * 7 + k * 7 by omega] at this
      have e : (cs.drop j).getD k Con.zero = cs.getD (j + k) Con.zero := by simp [List.getD, List.getElem?_drop]
      rw [e]; exact this
  have s1 := Lib.hid hlen
  have s2 := Lib.hid (conCells_one (cs.drop j))
  have s3 : Hid (∀ t, t < (conCells (cs.drop j)).length → (w.drew.cell? ⟨g, 0 + i * 7 + t, none⟩).isSome = true ∧ w.drew.frozen? ⟨g, 0 + i * 7 + t, none⟩ = false) := by
    intro t ht
    rw [hlen] at ht
    exact ⟨by show (w.cell? _).isSome = true; exact hsome _ (by omega), hfz _⟩
  obtain ⟨W1, hW1⟩ : ∃ W1, W1 = w.drew.setCells g (0 + i * 7) (conCells (cs.drop j)) := ⟨_, rfl⟩
  have hsome1 : ∀ t, t < n * 7 → (W1.cell? ⟨g, t, none⟩).isSome = true := fun t ht => by rw [hW1]; exact Lib.isSome_setCells g _ _ _ _ (hsome t ht)
  have hfz1 : ∀ k, W1.frozen? ⟨g, k, none⟩ = false := fun k => by rw [hW1, World.frozen?_setCells]; exact hfz k
  have hcl : ∀ ty, (Builtin.clear_ #[23] ty #[.slice (some ⟨g, (n - 1) * 7, none⟩) 1 (cap - (n - 1))]).run Tryd.prog W1 = .ok (.tuple #[]) (W1.setCells g ((n - 1) * 7) conZ) :=
    fun ty => run_clear_con W1 ty g _ _ (fun k hk => hsome1 _ (by omega)) (fun k _ => hfz1 _)
  have hW : Hid (W1 = w.drew.setCells g (0 + i * 7) (conCells (cs.drop j))) := hW1
  obtain ⟨i0, hi0, hz0, hz1, hz2⟩ := info_parts info40
  have hic : i ≤ cap := by omega
  have hjc : j ≤ cap := by omega
  have hjn : j ≤ n := by omega
  have hne : ((i : Int) == (j : Int)) = false := by simp; omega
  have hlast : i + (n - j) = n - 1 := by omega
  have hone : n - (n - 1) = 1 := by omega
  have HCELL := Lib.hid hcell
  have HN := Lib.hid hn
  have HJ := Lib.hid hj
  clear hsome hsome1 hfz hfz1 hlen hcell hn hj hW1
  go_enter Tryd.func62, Tryd.ntmps62
  go_wp2_with fail
  go_region_law (refine step_append_room rfl (.tmp 22) (.tmp 25) 23 rfl 40 i0 7 Tryd.underlying23 hi0 hz1 g 0 i cap (by simp [Act.eval, Act.put]) A (n - j) (cap - j) (conCells (cs.drop j)) (by simp [Act.eval, Act.put]) s1.out hsrc.out s2.out (by omega) s3.out ?_; rw [← hW.out])
  go_wp2_with fail
  go_ret
  refine ⟨rfl, fun k hk => conAt_of fun m hm => ?_, ?_⟩
  · rw [World.cell?_setCells_out g _ _ _ _ (fun _ _ => .inl (by show k * 7 + m < _; omega)), hW.out]
    by_cases hki : k < i
    · rw [World.cell?_setCells_out g _ _ _ _ (fun _ _ => .inl (by show k * 7 + m < _; omega)), delL_lt hki (by rw [← HN.out]; omega)]
      exact conAt_get (HCELL.out k (by rw [← HN.out]; omega)) m hm
    · have hlt : (k - i) * 7 + m < (conCells (cs.drop j)).length := by rw [s1.out, HJ.out]; omega
      have := World.cell?_setCells_in g (conCells (cs.drop j)) (0 + i * 7) w.drew (fun t ht => (s3.out t ht).1) _ hlt
      rw [show 0 + i * 7 + ((k - i) * 7 + m) = k * 7 + m by omega] at this
      rw [this, ← List.getElem?_eq_getElem hlt, conCells_get _ (k - i) m (by rw [List.length_drop, HJ.out, ← HN.out]; omega) hm, delL_ge (by omega) (by rw [← HN.out]; omega)]
      have e : (cs.drop j).getD (k - i) Con.zero = cs.getD (k + 1) Con.zero := by
        rw [HJ.out]
        simp only [List.getD_eq_getElem?_getD, List.getElem?_drop]
        congr 2; omega
      rw [e]
  · rw [hW.out]
    exact below_cells (Nat.le_refl _) _ _ _ (below_cells (Nat.le_refl _) _ _ _ (Below.drew (Below.refl _ _)))
end Go.Proofs.YtgnlanfpholdaaaDoor

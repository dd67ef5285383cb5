/- MetricsMerging: the law returns true. -/
import Derived.Test.YtpcbccpobhdokaaGreatDoorE7
import Derived.Test.YtpcbccpobhdokaaGreatDoorA7
import Derived.Test.YtpcbccpobhdokaaGreatDoorP5
set_option linter.unusedSimpArgs false
set_option linter.unusedVariables false
set_option linter.all false
namespace Go.Proofs.YtpcbccpobhdokaaGreatDoor
open Go.RowKit
def AwakeOk : Prop := ∀ w : World, GOk w → Calls Tryz.prog 7 #[] w fun e w' => e = .returned (.bool true) ∧ Below w.heap.size w w'
def LawPost (w : World) (e : Ending) (w' : World) : Prop := e = .returned (.bool true) ∧ Below w.heap.size w w'
theorem merge_comm {a b : List Met} (h1 : chkE a = 0) (h2 : chkE b = 0) : mergeE b a = mergeE a b ∧ mergeL b a = mergeL a b := by
  have e : mrg b a = mrg a b := mrg_comm _ b a rfl
  have e1 : mergeE b a = mergeE a b := by
    rw [mergeE, mergeE, if_neg (by simp [h1, h2]), if_neg (by simp [h1, h2]), e]
  exact ⟨e1, by rw [mergeL, mergeL, e1, e]⟩
theorem merge_nil {a : List Met} (h1 : chkE a = 0) : mergeE a [] = 0 ∧ mergeL a [] = a := by
  have e : mergeE a [] = 0 := by
    rw [mergeE, if_neg (fun h => by rcases h with h | h; exact h h1; exact h rfl), mrg_nil_right]
    exact if_neg (by have := chk_len h1; omega)
  exact ⟨e, by rw [mergeL, if_pos e, mrg_nil_right]; rfl⟩
theorem merge_some {a b : List Met} (h1 : chkE a = 0) (h2 : chkE b = 0) (h : mergeE a b = 0) : mrg a b = some (mergeL a b) := by
  have h3 := h
  rw [mergeE, if_neg (by simp [h1, h2])] at h3
  rw [mergeL, if_pos h]
  cases hm : mrg a b with
  | none => rw [hm] at h3; cases h3
  | some l => rfl
theorem merge_two {a b : List Met} (h1 : chkE a = 0) (h2 : chkE b = 0) (ha : a.length ≤ 60) (hb : b.length ≤ 60) : mergeE a b = 0 ∨ mergeE a b = 5 := by
  rw [mergeE, if_neg (by simp [h1, h2])]
  cases hm : mrg a b with
  | none => right; rfl
  | some l =>
    left
    have := (mrg_info _ a b l rfl (chk_asc h1) (chk_asc h2) hm).1.len
    exact if_neg (by omega)
structure XInfo (a b x : List Met) : Prop where
  len : x.length ≤ 120
  chk : chkE x = 0
  jn : ∀ m ∈ x, Jn (findV a m.n m.i) (findV b m.n m.i) (some (m.a, m.b))
theorem find_self {l : List Met} (h : Asc l) {m : Met} (hm : m ∈ l) : findV l m.n m.i = some (m.a, m.b) := by
  induction l with
  | nil => cases hm
  | cons x l ih =>
    have h' := List.pairwise_cons.1 h
    rw [find_cons]
    rcases List.mem_cons.1 hm with rfl | hm'
    · rw [if_pos ((hit_iff _ _ _).2 ⟨rfl, rfl⟩)]
    · have hl := h'.1 m hm'
      have : ¬ hitM m.n m.i x = true := fun hh => by
        rw [hit_iff] at hh
        exact sk_not ⟨hh.1, hh.2⟩ hl
      rw [if_neg this]
      exact ih h'.2 hm'
theorem x_info {a b : List Met} (h1 : chkE a = 0) (h2 : chkE b = 0) (ha : a.length ≤ 60) (hb : b.length ≤ 60) (h : mergeE a b = 0) : XInfo a b (mergeL a b) := by
  obtain ⟨I, J⟩ := mrg_info _ a b _ rfl (chk_asc h1) (chk_asc h2) (merge_some h1 h2 h)
  have hl : (mergeL a b).length ≤ 120 := by have := I.len; omega
  refine ⟨hl, ?_, fun m hm => ?_⟩
  · unfold chkE
    rw [if_neg (by omega)]
    exact chk_of _ none I.asc (I.ok (chk_all h1) (chk_all h2)) (fun y hy => by cases hy)
  · have := J m.n m.i
    rwa [find_self I.asc hm] at this
theorem assoc_same {a b c : List Met} (h1 : chkE a = 0) (h2 : chkE b = 0) (h3 : chkE c = 0) (ha : a.length ≤ 60) (hb : b.length ≤ 60) (hc : c.length ≤ 60) (e1 : mergeE a b = 0) (e2 : mergeE b c = 0) (e3 : mergeE (mergeL a b) c = 0) (e4 : mergeE a (mergeL b c) = 0) : sameL (mergeL (mergeL a b) c) (mergeL a (mergeL b c)) = true := by
  rw [sameL_iff]
  have hx := (x_info h1 h2 ha hb e1).chk
  have hw := (x_info h2 h3 hb hc e2).chk
  exact mrg_assoc (chk_asc h1) (chk_asc h2) (chk_asc h3) (chk_all h1) (chk_all h2) (chk_all h3) (merge_some h1 h2 e1) (merge_some hx h3 e3) (merge_some h2 h3 e2) (merge_some h1 hw e4)
theorem f_any (w : World) (vs : Array Value) (o : Nat) : (w.alloc (.cells vs 30)).frozen? ⟨w.heap.size, o, none⟩ = false := by simp
theorem rat_of_find {l : List Met} (h : ∀ u ∈ l, MOk u) {n : ByteArray} {i : Int} {p : Int × Int} (hp : findV l n i = some p) : ratE p.1 p.2 = 0 := by
  unfold findV at hp
  rw [Option.map_eq_some_iff] at hp
  obtain ⟨x, h1, rfl⟩ := hp
  exact (h x (List.mem_of_find?_eq_some h1)).2.2.2
theorem neq_rat (u v : Int) (W : World) : (binOp .neq 30 (.agg #[.int .i64 u, .int .i64 v]) (.agg #[.int .i64 u, .int .i64 v])).run Tryz.prog W = .ok (.bool false) W := by
  go_simp
set_option maxRecDepth 100000 in
set_option maxHeartbeats 8000000 in
theorem mg_1 (HW : AwakeOk) (a b c : List Met) (V U T : Value) (w : World) (ha : Mets w w.heap.size V a) (hb : Mets w w.heap.size U b) (hc : Mets w w.heap.size T c) (hG : GOk w) (h1 : (a.length : Int) > 60) : Calls Tryz.prog 5 #[V, U, T] w (LawPost w) := by
  have HG := Lib.hid (fun (W : World) (h : Below w.heap.size w W) => hG.below h)
  obtain ⟨A1, c1, rfl, _, _, _⟩ := ha
  obtain ⟨A2, c2, rfl, _, _, _⟩ := hb
  obtain ⟨A3, c3, rfl, _, _, _⟩ := hc
  have B0 : Hid (Below w.heap.size w w) := Below.refl _ _
  clear hG
  go_enter Tryz.func5, Tryz.ntmps5
  go_wp2_with fail
  refine (HW _ (HG.out _ B0.out)).mono ?_
  rintro e w9 ⟨rfl, hb9⟩
  have B9 : Hid (Below w.heap.size w w9) := B0.out.trans (hb9.mono B0.out.size)
  clear hb9
  go_wp2_with fail
  go_ret
  exact ⟨rfl, B9.out⟩
set_option maxRecDepth 100000 in
set_option maxHeartbeats 8000000 in
theorem mg_2 (HW : AwakeOk) (a b c : List Met) (V U T : Value) (w : World) (ha : Mets w w.heap.size V a) (hb : Mets w w.heap.size U b) (hc : Mets w w.heap.size T c) (hG : GOk w) (h1 : ¬ (a.length : Int) > 60) (h2 : (b.length : Int) > 60) : Calls Tryz.prog 5 #[V, U, T] w (LawPost w) := by
  have HG := Lib.hid (fun (W : World) (h : Below w.heap.size w W) => hG.below h)
  obtain ⟨A1, c1, rfl, _, _, _⟩ := ha
  obtain ⟨A2, c2, rfl, _, _, _⟩ := hb
  obtain ⟨A3, c3, rfl, _, _, _⟩ := hc
  have B0 : Hid (Below w.heap.size w w) := Below.refl _ _
  clear hG
  go_enter Tryz.func5, Tryz.ntmps5
  go_wp2_with fail
  refine (HW _ (HG.out _ B0.out)).mono ?_
  rintro e w9 ⟨rfl, hb9⟩
  have B9 : Hid (Below w.heap.size w w9) := B0.out.trans (hb9.mono B0.out.size)
  clear hb9
  go_wp2_with fail
  go_ret
  exact ⟨rfl, B9.out⟩
set_option maxRecDepth 100000 in
set_option maxHeartbeats 8000000 in
theorem mg_3 (HW : AwakeOk) (a b c : List Met) (V U T : Value) (w : World) (ha : Mets w w.heap.size V a) (hb : Mets w w.heap.size U b) (hc : Mets w w.heap.size T c) (hG : GOk w) (h1 : ¬ (a.length : Int) > 60) (h2 : ¬ (b.length : Int) > 60) (h3 : (c.length : Int) > 60) : Calls Tryz.prog 5 #[V, U, T] w (LawPost w) := by
  have HG := Lib.hid (fun (W : World) (h : Below w.heap.size w W) => hG.below h)
  obtain ⟨A1, c1, rfl, _, _, _⟩ := ha
  obtain ⟨A2, c2, rfl, _, _, _⟩ := hb
  obtain ⟨A3, c3, rfl, _, _, _⟩ := hc
  have B0 : Hid (Below w.heap.size w w) := Below.refl _ _
  clear hG
  go_enter Tryz.func5, Tryz.ntmps5
  go_wp2_with fail
  refine (HW _ (HG.out _ B0.out)).mono ?_
  rintro e w9 ⟨rfl, hb9⟩
  have B9 : Hid (Below w.heap.size w w9) := B0.out.trans (hb9.mono B0.out.size)
  clear hb9
  go_wp2_with fail
  go_ret
  exact ⟨rfl, B9.out⟩
set_option maxRecDepth 100000 in
set_option maxHeartbeats 8000000 in
theorem mg_4 (HW : AwakeOk) (a b c : List Met) (V U T : Value) (w : World) (ha : Mets w w.heap.size V a) (hb : Mets w w.heap.size U b) (hc : Mets w w.heap.size T c) (hG : GOk w) (h1 : ¬ (a.length : Int) > 60) (h2 : ¬ (b.length : Int) > 60) (h3 : ¬ (c.length : Int) > 60) (k1 : chkE a ≠ 0) : Calls Tryz.prog 5 #[V, U, T] w (LawPost w) := by
  have MA := Lib.hid (fun (W : World) (h : Below w.heap.size w W) => ha.base h h.size)
  have HG := Lib.hid (fun (W : World) (h : Below w.heap.size w W) => hG.below h)
  have CA := Lib.hid (fun (W : World) (h : Mets W W.heap.size V a) => check_any a V W h)
  obtain ⟨A1, c1, rfl, _, _, _⟩ := ha
  obtain ⟨A2, c2, rfl, _, _, _⟩ := hb
  obtain ⟨A3, c3, rfl, _, _, _⟩ := hc
  have B0 : Hid (Below w.heap.size w w) := Below.refl _ _
  clear hG
  generalize chkE a = ex at *
  go_enter Tryz.func5, Tryz.ntmps5
  go_wp2_with fail
  refine (CA.out _ (MA.out _ B0.out)).mono ?_
  rintro e w1 ⟨rfl, hb1⟩
  have B1 : Hid (Below w.heap.size w w1) := B0.out.trans (hb1.mono B0.out.size)
  clear hb1
  go_wp2_with fail
  refine (HW _ (HG.out _ B1.out)).mono ?_
  rintro e w9 ⟨rfl, hb9⟩
  have B9 : Hid (Below w.heap.size w w9) := B1.out.trans (hb9.mono B1.out.size)
  clear hb9
  go_wp2_with fail
  go_ret
  exact ⟨rfl, B9.out⟩
set_option maxRecDepth 100000 in
set_option maxHeartbeats 8000000 in
theorem mg_5 (HW : AwakeOk) (a b c : List Met) (V U T : Value) (w : World) (ha : Mets w w.heap.size V a) (hb : Mets w w.heap.size U b) (hc : Mets w w.heap.size T c) (hG : GOk w) (h1 : ¬ (a.length : Int) > 60) (h2 : ¬ (b.length : Int) > 60) (h3 : ¬ (c.length : Int) > 60) (k1 : chkE a = 0) (k2 : chkE b ≠ 0) : Calls Tryz.prog 5 #[V, U, T] w (LawPost w) := by
  have MA := Lib.hid (fun (W : World) (h : Below w.heap.size w W) => ha.base h h.size)
  have MB := Lib.hid (fun (W : World) (h : Below w.heap.size w W) => hb.base h h.size)
  have HG := Lib.hid (fun (W : World) (h : Below w.heap.size w W) => hG.below h)
  have CA := Lib.hid (fun (W : World) (h : Mets W W.heap.size V a) => check_any a V W h)
  have CB := Lib.hid (fun (W : World) (h : Mets W W.heap.size U b) => check_any b U W h)
  obtain ⟨A1, c1, rfl, _, _, _⟩ := ha
  obtain ⟨A2, c2, rfl, _, _, _⟩ := hb
  obtain ⟨A3, c3, rfl, _, _, _⟩ := hc
  have B0 : Hid (Below w.heap.size w w) := Below.refl _ _
  clear hG
  rw [k1] at CA
  clear k1
  generalize chkE b = ex at *
  go_enter Tryz.func5, Tryz.ntmps5
  go_wp2_with fail
  refine (CA.out _ (MA.out _ B0.out)).mono ?_
  rintro e w1 ⟨rfl, hb1⟩
  have B1 : Hid (Below w.heap.size w w1) := B0.out.trans (hb1.mono B0.out.size)
  clear hb1
  go_wp2_with fail
  refine (CB.out _ (MB.out _ B1.out)).mono ?_
  rintro e w2 ⟨rfl, hb1⟩
  have B2 : Hid (Below w.heap.size w w2) := B1.out.trans (hb1.mono B1.out.size)
  clear hb1
  go_wp2_with fail
  refine (HW _ (HG.out _ B2.out)).mono ?_
  rintro e w9 ⟨rfl, hb9⟩
  have B9 : Hid (Below w.heap.size w w9) := B2.out.trans (hb9.mono B2.out.size)
  clear hb9
  go_wp2_with fail
  go_ret
  exact ⟨rfl, B9.out⟩
set_option maxRecDepth 100000 in
set_option maxHeartbeats 8000000 in
theorem mg_6 (HW : AwakeOk) (a b c : List Met) (V U T : Value) (w : World) (ha : Mets w w.heap.size V a) (hb : Mets w w.heap.size U b) (hc : Mets w w.heap.size T c) (hG : GOk w) (h1 : ¬ (a.length : Int) > 60) (h2 : ¬ (b.length : Int) > 60) (h3 : ¬ (c.length : Int) > 60) (k1 : chkE a = 0) (k2 : chkE b = 0) (k3 : chkE c ≠ 0) : Calls Tryz.prog 5 #[V, U, T] w (LawPost w) := by
  have MA := Lib.hid (fun (W : World) (h : Below w.heap.size w W) => ha.base h h.size)
  have MB := Lib.hid (fun (W : World) (h : Below w.heap.size w W) => hb.base h h.size)
  have MC := Lib.hid (fun (W : World) (h : Below w.heap.size w W) => hc.base h h.size)
  have HG := Lib.hid (fun (W : World) (h : Below w.heap.size w W) => hG.below h)
  have CA := Lib.hid (fun (W : World) (h : Mets W W.heap.size V a) => check_any a V W h)
  have CB := Lib.hid (fun (W : World) (h : Mets W W.heap.size U b) => check_any b U W h)
  have CC := Lib.hid (fun (W : World) (h : Mets W W.heap.size T c) => check_any c T W h)
  obtain ⟨A1, c1, rfl, _, _, _⟩ := ha
  obtain ⟨A2, c2, rfl, _, _, _⟩ := hb
  obtain ⟨A3, c3, rfl, _, _, _⟩ := hc
  have B0 : Hid (Below w.heap.size w w) := Below.refl _ _
  clear hG
  rw [k1] at CA
  clear k1
  rw [k2] at CB
  clear k2
  generalize chkE c = ex at *
  go_enter Tryz.func5, Tryz.ntmps5
  go_wp2_with fail
  refine (CA.out _ (MA.out _ B0.out)).mono ?_
  rintro e w1 ⟨rfl, hb1⟩
  have B1 : Hid (Below w.heap.size w w1) := B0.out.trans (hb1.mono B0.out.size)
  clear hb1
  go_wp2_with fail
  refine (CB.out _ (MB.out _ B1.out)).mono ?_
  rintro e w2 ⟨rfl, hb1⟩
  have B2 : Hid (Below w.heap.size w w2) := B1.out.trans (hb1.mono B1.out.size)
  clear hb1
  go_wp2_with fail
  refine (CC.out _ (MC.out _ B2.out)).mono ?_
  rintro e w3 ⟨rfl, hb1⟩
  have B3 : Hid (Below w.heap.size w w3) := B2.out.trans (hb1.mono B2.out.size)
  clear hb1
  go_wp2_with fail
  refine (HW _ (HG.out _ B3.out)).mono ?_
  rintro e w9 ⟨rfl, hb9⟩
  have B9 : Hid (Below w.heap.size w w9) := B3.out.trans (hb9.mono B3.out.size)
  clear hb9
  go_wp2_with fail
  go_ret
  exact ⟨rfl, B9.out⟩
set_option maxRecDepth 100000 in
set_option maxHeartbeats 8000000 in
theorem mg_7 (HW : AwakeOk) (a b c : List Met) (V U T : Value) (w : World) (ha : Mets w w.heap.size V a) (hb : Mets w w.heap.size U b) (hc : Mets w w.heap.size T c) (hG : GOk w) (h1 : ¬ (a.length : Int) > 60) (h2 : ¬ (b.length : Int) > 60) (h3 : ¬ (c.length : Int) > 60) (k1 : chkE a = 0) (k2 : chkE b = 0) (k3 : chkE c = 0) (he : mergeE a b = 5) : Calls Tryz.prog 5 #[V, U, T] w (LawPost w) := by
  have MA := Lib.hid (fun (W : World) (h : Below w.heap.size w W) => ha.base h h.size)
  have MB := Lib.hid (fun (W : World) (h : Below w.heap.size w W) => hb.base h h.size)
  have MC := Lib.hid (fun (W : World) (h : Below w.heap.size w W) => hc.base h h.size)
  have HG := Lib.hid (fun (W : World) (h : Below w.heap.size w W) => hG.below h)
  have CA := Lib.hid (fun (W : World) (h : Mets W W.heap.size V a) => check_any a V W h)
  have CB := Lib.hid (fun (W : World) (h : Mets W W.heap.size U b) => check_any b U W h)
  have CC := Lib.hid (fun (W : World) (h : Mets W W.heap.size T c) => check_any c T W h)
  obtain ⟨A1, c1, rfl, _, _, _⟩ := ha
  obtain ⟨A2, c2, rfl, _, _, _⟩ := hb
  obtain ⟨A3, c3, rfl, _, _, _⟩ := hc
  have B0 : Hid (Below w.heap.size w w) := Below.refl _ _
  clear hG
  have hla : a.length ≤ 60 := by omega
  have hlb : b.length ≤ 60 := by omega
  have hlc : c.length ≤ 60 := by omega
  have HCM := Lib.hid (merge_comm k1 k2)
  have HNI := Lib.hid (merge_nil k1)
  have HAB := Lib.hid (fun (W : World) (x : Mets W W.heap.size (.slice A1 a.length c1) a) (y : Mets W W.heap.size (.slice A2 b.length c2) b) => merge_any a b _ _ W x y)
  have HBA := Lib.hid (fun (W : World) (x : Mets W W.heap.size (.slice A2 b.length c2) b) (y : Mets W W.heap.size (.slice A1 a.length c1) a) => merge_any b a _ _ W x y)
  have HAN := Lib.hid (fun (W : World) (x : Mets W W.heap.size (.slice A1 a.length c1) a) => merge_any a [] _ _ W x (mets_nil W _))
  have HBC := Lib.hid (fun (W : World) (x : Mets W W.heap.size (.slice A2 b.length c2) b) (y : Mets W W.heap.size (.slice A3 c.length c3) c) => merge_any b c _ _ W x y)
  have HMM := Lib.hid (fun (p q : List Met) (P Q : Value) (W : World) (x : Mets W W.heap.size P p) (y : Mets W W.heap.size Q q) => merge_any p q P Q W x y)
  have HSA := Lib.hid (fun (p q : List Met) (P Q : Value) (W : World) (x : Mets W W.heap.size P p) (y : Mets W W.heap.size Q q) => same_any P Q p q W x y)
  have HCK := Lib.hid (fun (p : List Met) (P : Value) (W : World) (x : Mets W W.heap.size P p) => check_any p P W x)
  have HFI := Lib.hid (fun (p : List Met) (P : Value) (n : ByteArray) (i : Int) (W : World) (x : Mets W W.heap.size P p) (hl : p.length < 1000000) => find_any p P n i W x hl)
  have HK := Lib.hid (And.intro k1 (And.intro k2 k3))
  have HL := Lib.hid (And.intro hla (And.intro hlb hlc))
  rw [k1] at CA
  rw [k2] at CB
  rw [k3] at CC
  have HE := Lib.hid he
  unfold MergePost at HAB HBA HAN HBC HMM
  rw [HCM.out.1, HCM.out.2, he] at HBA
  rw [HNI.out.1, HNI.out.2] at HAN
  rw [he] at HAB
  have HXI := Lib.hid (x_info k1 k2 hla hlb)
  clear k1 k2 k3 he hla hlb hlc
  obtain ⟨x, hx⟩ : ∃ x, mergeL a b = x := ⟨_, rfl⟩
  rw [hx] at HAB HBA HXI
  have HX := Lib.hid hx
  clear hx
  go_enter Tryz.func5, Tryz.ntmps5
  go_wp2_with fail
  refine (CA.out _ (MA.out _ B0.out)).mono ?_
  rintro e w1 ⟨rfl, hb1⟩
  have B1 : Hid (Below w.heap.size w w1) := B0.out.trans (hb1.mono B0.out.size)
  clear hb1
  go_wp2_with fail
  refine (CB.out _ (MB.out _ B1.out)).mono ?_
  rintro e w2 ⟨rfl, hb1⟩
  have B2 : Hid (Below w.heap.size w w2) := B1.out.trans (hb1.mono B1.out.size)
  clear hb1
  go_wp2_with fail
  refine (CC.out _ (MC.out _ B2.out)).mono ?_
  rintro e w3 ⟨rfl, hb1⟩
  have B3 : Hid (Below w.heap.size w w3) := B2.out.trans (hb1.mono B2.out.size)
  clear hb1
  go_wp2_with fail
  refine (HAB.out _ (MA.out _ B3.out) (MB.out _ B3.out)).mono ?_
  rintro e w4 ⟨Vx, rfl, hm1, hb1⟩
  have B4 : Hid (Below w.heap.size w w4) := B3.out.trans (hb1.mono B3.out.size)
  have MX := Lib.hid hm1
  have T4 := Lib.hid hb1
  clear hb1 hm1
  go_wp2_with fail
  refine (HBA.out _ (MB.out _ B4.out) (MA.out _ B4.out)).mono ?_
  rintro e w5 ⟨Vy, rfl, hm1, hb1⟩
  have B5 : Hid (Below w.heap.size w w5) := B4.out.trans (hb1.mono B4.out.size)
  have MY := Lib.hid hm1
  have T5 := Lib.hid hb1
  clear hb1 hm1
  go_wp2_with fail
  refine (HAN.out _ (MA.out _ B5.out)).mono ?_
  rintro e w6 ⟨Vz, rfl, hm1, hb1⟩
  have B6 : Hid (Below w.heap.size w w6) := B5.out.trans (hb1.mono B5.out.size)
  have MZ := Lib.hid hm1
  have T6 := Lib.hid hb1
  clear hb1 hm1
  have MX6 := Lib.hid ((MX.out.base T5.out T5.out.size).base T6.out T6.out.size)
  have MY6 := Lib.hid (MY.out.base T6.out T6.out.size)
  have S1 := HSA.out x x _ _ w6 MX6.out MY6.out
  rw [(sameL_iff x x).2 rfl] at S1
  have S1H := Lib.hid S1
  clear S1
  go_wp2_with fail
  refine S1H.out.mono ?_
  rintro e w7 ⟨rfl, hb1⟩
  have B7 : Hid (Below w.heap.size w w7) := B6.out.trans (hb1.mono B6.out.size)
  have T7 := Lib.hid hb1
  clear hb1 S1H
  have S2 := HSA.out a a _ _ w7 (MZ.out.base T7.out T7.out.size) (MA.out _ B7.out)
  rw [(sameL_iff a a).2 rfl] at S2
  have S2H := Lib.hid S2
  clear S2
  go_wp2_with fail
  refine S2H.out.mono ?_
  rintro e w8 ⟨rfl, hb1⟩
  have B8 : Hid (Below w.heap.size w w8) := B7.out.trans (hb1.mono B7.out.size)
  have T8 := Lib.hid hb1
  clear hb1 S2H
  go_wp2_with fail
  refine (HW _ (HG.out _ B8.out)).mono ?_
  rintro e w9 ⟨rfl, hb9⟩
  have B9 : Hid (Below w.heap.size w w9) := B8.out.trans (hb9.mono B8.out.size)
  clear hb9
  go_wp2_with fail
  go_ret
  exact ⟨rfl, B9.out⟩
set_option maxRecDepth 100000 in
set_option maxHeartbeats 8000000 in
theorem mg_8 (HW : AwakeOk) (a b c : List Met) (V U T : Value) (w : World) (ha : Mets w w.heap.size V a) (hb : Mets w w.heap.size U b) (hc : Mets w w.heap.size T c) (hG : GOk w) (h1 : ¬ (a.length : Int) > 60) (h2 : ¬ (b.length : Int) > 60) (h3 : ¬ (c.length : Int) > 60) (k1 : chkE a = 0) (k2 : chkE b = 0) (k3 : chkE c = 0) (he : mergeE a b = 0) : Calls Tryz.prog 5 #[V, U, T] w (LawPost w) := by
  have MA := Lib.hid (fun (W : World) (h : Below w.heap.size w W) => ha.base h h.size)
  have MB := Lib.hid (fun (W : World) (h : Below w.heap.size w W) => hb.base h h.size)
  have MC := Lib.hid (fun (W : World) (h : Below w.heap.size w W) => hc.base h h.size)
  have HG := Lib.hid (fun (W : World) (h : Below w.heap.size w W) => hG.below h)
  have CA := Lib.hid (fun (W : World) (h : Mets W W.heap.size V a) => check_any a V W h)
  have CB := Lib.hid (fun (W : World) (h : Mets W W.heap.size U b) => check_any b U W h)
  have CC := Lib.hid (fun (W : World) (h : Mets W W.heap.size T c) => check_any c T W h)
  obtain ⟨A1, c1, rfl, _, _, _⟩ := ha
  obtain ⟨A2, c2, rfl, _, _, _⟩ := hb
  obtain ⟨A3, c3, rfl, _, _, _⟩ := hc
  have B0 : Hid (Below w.heap.size w w) := Below.refl _ _
  clear hG
  have hla : a.length ≤ 60 := by omega
  have hlb : b.length ≤ 60 := by omega
  have hlc : c.length ≤ 60 := by omega
  have HCM := Lib.hid (merge_comm k1 k2)
  have HNI := Lib.hid (merge_nil k1)
  have HAB := Lib.hid (fun (W : World) (x : Mets W W.heap.size (.slice A1 a.length c1) a) (y : Mets W W.heap.size (.slice A2 b.length c2) b) => merge_any a b _ _ W x y)
  have HBA := Lib.hid (fun (W : World) (x : Mets W W.heap.size (.slice A2 b.length c2) b) (y : Mets W W.heap.size (.slice A1 a.length c1) a) => merge_any b a _ _ W x y)
  have HAN := Lib.hid (fun (W : World) (x : Mets W W.heap.size (.slice A1 a.length c1) a) => merge_any a [] _ _ W x (mets_nil W _))
  have HBC := Lib.hid (fun (W : World) (x : Mets W W.heap.size (.slice A2 b.length c2) b) (y : Mets W W.heap.size (.slice A3 c.length c3) c) => merge_any b c _ _ W x y)
  have HMM := Lib.hid (fun (p q : List Met) (P Q : Value) (W : World) (x : Mets W W.heap.size P p) (y : Mets W W.heap.size Q q) => merge_any p q P Q W x y)
  have HSA := Lib.hid (fun (p q : List Met) (P Q : Value) (W : World) (x : Mets W W.heap.size P p) (y : Mets W W.heap.size Q q) => same_any P Q p q W x y)
  have HCK := Lib.hid (fun (p : List Met) (P : Value) (W : World) (x : Mets W W.heap.size P p) => check_any p P W x)
  have HFI := Lib.hid (fun (p : List Met) (P : Value) (n : ByteArray) (i : Int) (W : World) (x : Mets W W.heap.size P p) (hl : p.length < 1000000) => find_any p P n i W x hl)
  have HK := Lib.hid (And.intro k1 (And.intro k2 k3))
  have HL := Lib.hid (And.intro hla (And.intro hlb hlc))
  rw [k1] at CA
  rw [k2] at CB
  rw [k3] at CC
  have HE := Lib.hid he
  unfold MergePost at HAB HBA HAN HBC HMM
  rw [HCM.out.1, HCM.out.2, he] at HBA
  rw [HNI.out.1, HNI.out.2] at HAN
  rw [he] at HAB
  have HXI := Lib.hid (x_info k1 k2 hla hlb)
  clear k1 k2 k3 he hla hlb hlc
  obtain ⟨x, hx⟩ : ∃ x, mergeL a b = x := ⟨_, rfl⟩
  rw [hx] at HAB HBA HXI
  have HX := Lib.hid hx
  clear hx
  go_enter Tryz.func5, Tryz.ntmps5
  go_wp2_with fail
  refine (CA.out _ (MA.out _ B0.out)).mono ?_
  rintro e w1 ⟨rfl, hb1⟩
  have B1 : Hid (Below w.heap.size w w1) := B0.out.trans (hb1.mono B0.out.size)
  clear hb1
  go_wp2_with fail
  refine (CB.out _ (MB.out _ B1.out)).mono ?_
  rintro e w2 ⟨rfl, hb1⟩
  have B2 : Hid (Below w.heap.size w w2) := B1.out.trans (hb1.mono B1.out.size)
  clear hb1
  go_wp2_with fail
  refine (CC.out _ (MC.out _ B2.out)).mono ?_
  rintro e w3 ⟨rfl, hb1⟩
  have B3 : Hid (Below w.heap.size w w3) := B2.out.trans (hb1.mono B2.out.size)
  clear hb1
  go_wp2_with fail
  refine (HAB.out _ (MA.out _ B3.out) (MB.out _ B3.out)).mono ?_
  rintro e w4 ⟨Vx, rfl, hm1, hb1⟩
  have B4 : Hid (Below w.heap.size w w4) := B3.out.trans (hb1.mono B3.out.size)
  have MX := Lib.hid hm1
  have T4 := Lib.hid hb1
  clear hb1 hm1
  obtain ⟨AX, cX, rfl, _, _, hX3⟩ := MX.out
  clear hX3
  go_wp2_with fail
  refine (HBA.out _ (MB.out _ B4.out) (MA.out _ B4.out)).mono ?_
  rintro e w5 ⟨Vy, rfl, hm1, hb1⟩
  have B5 : Hid (Below w.heap.size w w5) := B4.out.trans (hb1.mono B4.out.size)
  have MY := Lib.hid hm1
  have T5 := Lib.hid hb1
  clear hb1 hm1
  go_wp2_with fail
  refine (HAN.out _ (MA.out _ B5.out)).mono ?_
  rintro e w6 ⟨Vz, rfl, hm1, hb1⟩
  have B6 : Hid (Below w.heap.size w w6) := B5.out.trans (hb1.mono B5.out.size)
  have MZ := Lib.hid hm1
  have T6 := Lib.hid hb1
  clear hb1 hm1
  have MX6 := Lib.hid ((MX.out.base T5.out T5.out.size).base T6.out T6.out.size)
  have MY6 := Lib.hid (MY.out.base T6.out T6.out.size)
  have S1 := HSA.out x x _ _ w6 MX6.out MY6.out
  rw [(sameL_iff x x).2 rfl] at S1
  have S1H := Lib.hid S1
  clear S1
  go_wp2_with fail
  refine S1H.out.mono ?_
  rintro e w7 ⟨rfl, hb1⟩
  have B7 : Hid (Below w.heap.size w w7) := B6.out.trans (hb1.mono B6.out.size)
  have T7 := Lib.hid hb1
  clear hb1 S1H
  have S2 := HSA.out a a _ _ w7 (MZ.out.base T7.out T7.out.size) (MA.out _ B7.out)
  rw [(sameL_iff a a).2 rfl] at S2
  have S2H := Lib.hid S2
  clear S2
  go_wp2_with fail
  refine S2H.out.mono ?_
  rintro e w8 ⟨rfl, hb1⟩
  have B8 : Hid (Below w.heap.size w w8) := B7.out.trans (hb1.mono B7.out.size)
  have T8 := Lib.hid hb1
  clear hb1 S2H
  go_wp2_with fail
  have MX8 := Lib.hid ((MX6.out.base T7.out T7.out.size).base T8.out T8.out.size)
  obtain ⟨AX', cX', eX, _, _, hX3⟩ := MX8.out
  injection eX with eX1 eX2 eX3
  subst eX1
  have H3 := Lib.hid hX3
  have hXl := (HXI.out HE.out).len
  clear hX3 eX2 eX3
  have hneq := neq_rat
  go_loopw [101] (fun s wr => ∃ k : Nat, k ≤ x.length ∧ s = .int .i64 k ∧ Hid (Below w8.heap.size w8 wr)) (fun s _ => x.length - (intOf s).toNat)
  case atStart => exact ⟨0, Nat.zero_le _, rfl, Below.refl _ _⟩
  case round =>
    obtain ⟨k, hk, rfl, HBq⟩ := hrel
    rename World => wq
    by_cases hkt : k < x.length
    · obtain ⟨B, o, rfl, hBl, hcX⟩ := H3.out (by omega)
      have hxx := hcX k hkt
      have hkz : (k : Int) < (x.length : Int) := by omega
      obtain ⟨m, hme⟩ : ∃ m, x.getD k mz = m := ⟨_, rfl⟩
      have JN := (HXI.out HE.out).jn m (by rw [← hme]; simp [List.getD, hkt])
      rw [hme] at hxx
      obtain ⟨x0, x1, x2, x3⟩ := hxx
      have ec : ∀ q, wq.cell? ⟨B, q, none⟩ = w8.cell? ⟨B, q, none⟩ := fun q => HBq.out.cell (p := ⟨B, q, none⟩) hBl
      have c0 := (ec _).trans x0
      have c1 := (ec _).trans x1
      have c2 := (ec _).trans x2
      have c3 := (ec _).trans x3
      clear hcX hme x0 x1 x2 x3 ec
      go_upto_region 13 with fail
      clear c0 c1 c2 c3
      have b0 : (wq.alloc (.cells #[.string m.n, .int .i64 m.i, .int .i64 m.a, .int .i64 m.b] 37)).cell? ⟨wq.heap.size, 0, none⟩ = some (.string m.n) := cell_of_row _ _ 0 _ _ _ (heap_alloc_last _ _)
      have b1 : (wq.alloc (.cells #[.string m.n, .int .i64 m.i, .int .i64 m.a, .int .i64 m.b] 37)).cell? ⟨wq.heap.size, 1, none⟩ = some (.int .i64 m.i) := cell_of_row _ _ 1 _ _ _ (heap_alloc_last _ _)
      have b2 : (wq.alloc (.cells #[.string m.n, .int .i64 m.i, .int .i64 m.a, .int .i64 m.b] 37)).cell? ⟨wq.heap.size, 2, none⟩ = some (.int .i64 m.a) := cell_of_row _ _ 2 _ _ _ (heap_alloc_last _ _)
      have b3 : (wq.alloc (.cells #[.string m.n, .int .i64 m.i, .int .i64 m.a, .int .i64 m.b] 37)).cell? ⟨wq.heap.size, 3, none⟩ = some (.int .i64 m.b) := cell_of_row _ _ 3 _ _ _ (heap_alloc_last _ _)
      have HBW : Hid (Below w8.heap.size w8 (wq.alloc (.cells #[.string m.n, .int .i64 m.i, .int .i64 m.a, .int .i64 m.b] 37))) := HBq.out.alloc HBq.out.size _
      have hlt : wq.heap.size < (wq.alloc (.cells #[.string m.n, .int .i64 m.i, .int .i64 m.a, .int .i64 m.b] 37)).heap.size := by simp
      have hbq := HBq.out.size
      generalize wq.alloc (.cells #[.string m.n, .int .i64 m.i, .int .i64 m.a, .int .i64 m.b] 37) = W at *
      generalize wq.heap.size = nq at *
      clear HBq
      have HFA := Lib.hid (HFI.out a _ m.n m.i W (MA.out _ (B8.out.trans (HBW.out.mono B8.out.size))) (by have := HL.out.1; omega))
      have HOA := Lib.hid (fun p (hp : findV a m.n m.i = some p) => rat_of_find (chk_all HK.out.1) hp)
      have HOB := Lib.hid (fun p (hp : findV b m.n m.i = some p) => rat_of_find (chk_all HK.out.2.1) hp)
      cases hfa : findV a m.n m.i with
      | none =>
        rw [hfa] at HFA JN
        cases hfb : findV b m.n m.i with
        | none => rw [hfb] at JN; cases JN
        | some q =>
          rw [hfb] at JN
          obtain ⟨qb1, qb2⟩ := q
          obtain ⟨rfl, rfl⟩ : m.a = qb1 ∧ m.b = qb2 := by
            have h : some (m.a, m.b) = some (qb1, qb2) := JN
            injection h with h; injection h with h1 h2; exact ⟨h1, h2⟩
          clear JN hfa HOA HOB
          rw [show resV none = .tuple #[.agg #[.int .i64 0, .int .i64 0], .bool false] from rfl] at HFA
          go_wp2_with fail
          refine HFA.out.mono ?_
          rintro e w9 ⟨rfl, hb9⟩
          have HB9 := Lib.hid (HBW.out.trans (hb9.mono HBW.out.size))
          have hz9 := hb9.size
          have d0 : (w9.alloc (.cells #[.int .i64 0, .int .i64 0] 30)).cell? ⟨nq, 0, none⟩ = some (.string m.n) := cal ((hb9.cell (p := ⟨nq, 0, none⟩) hlt).trans b0)
          have d1 : (w9.alloc (.cells #[.int .i64 0, .int .i64 0] 30)).cell? ⟨nq, 1, none⟩ = some (.int .i64 m.i) := cal ((hb9.cell (p := ⟨nq, 1, none⟩) hlt).trans b1)
          have d2 : (w9.alloc (.cells #[.int .i64 0, .int .i64 0] 30)).cell? ⟨nq, 2, none⟩ = some (.int .i64 m.a) := cal ((hb9.cell (p := ⟨nq, 2, none⟩) hlt).trans b2)
          have d3 : (w9.alloc (.cells #[.int .i64 0, .int .i64 0] 30)).cell? ⟨nq, 3, none⟩ = some (.int .i64 m.b) := cal ((hb9.cell (p := ⟨nq, 3, none⟩) hlt).trans b3)
          have p0 : (w9.alloc (.cells #[.int .i64 0, .int .i64 0] 30)).cell? ⟨w9.heap.size, 0, none⟩ = some (.int .i64 0) := cell_of_row _ _ 0 _ _ _ (heap_alloc_last _ _)
          have p1 : (w9.alloc (.cells #[.int .i64 0, .int .i64 0] 30)).cell? ⟨w9.heap.size, 1, none⟩ = some (.int .i64 0) := cell_of_row _ _ 1 _ _ _ (heap_alloc_last _ _)
          have HBX := Lib.hid (HB9.out.alloc HB9.out.size (.cells #[.int .i64 0, .int .i64 0] 30))
          have HFB := Lib.hid (HFI.out b _ m.n m.i (w9.alloc (.cells #[.int .i64 0, .int .i64 0] 30)) (MB.out _ (B8.out.trans (HBX.out.mono B8.out.size))) (by have := HL.out.2.1; omega))
          rw [hfb, show resV (some (m.a, m.b)) = .tuple #[.agg #[.int .i64 m.a, .int .i64 m.b], .bool true] from rfl] at HFB
          have hlt9 : nq < (w9.alloc (.cells #[.int .i64 0, .int .i64 0] 30)).heap.size := by simp; omega
          have hl9 : w9.heap.size < (w9.alloc (.cells #[.int .i64 0, .int .i64 0] 30)).heap.size := by simp
          clear hb9 b0 b1 b2 b3 HFA
          go_wp2_with fail
          clear hz9
          generalize hWX : w9.alloc (.cells #[.int .i64 0, .int .i64 0] 30) = WX at *
          refine HFB.out.mono ?_
          rintro e w10 ⟨rfl, hb10⟩
          have HB10 := Lib.hid (HBX.out.trans (hb10.mono HBX.out.size))
          have hz10 := hb10.size
          have e0 : (w10.alloc (.cells #[.int .i64 m.a, .int .i64 m.b] 30)).cell? ⟨nq, 0, none⟩ = some (.string m.n) := cal ((hb10.cell (p := ⟨nq, 0, none⟩) hlt9).trans d0)
          have e1 : (w10.alloc (.cells #[.int .i64 m.a, .int .i64 m.b] 30)).cell? ⟨nq, 1, none⟩ = some (.int .i64 m.i) := cal ((hb10.cell (p := ⟨nq, 1, none⟩) hlt9).trans d1)
          have e2 : (w10.alloc (.cells #[.int .i64 m.a, .int .i64 m.b] 30)).cell? ⟨nq, 2, none⟩ = some (.int .i64 m.a) := cal ((hb10.cell (p := ⟨nq, 2, none⟩) hlt9).trans d2)
          have e3 : (w10.alloc (.cells #[.int .i64 m.a, .int .i64 m.b] 30)).cell? ⟨nq, 3, none⟩ = some (.int .i64 m.b) := cal ((hb10.cell (p := ⟨nq, 3, none⟩) hlt9).trans d3)
          have g0 : (w10.alloc (.cells #[.int .i64 m.a, .int .i64 m.b] 30)).cell? ⟨w9.heap.size, 0, none⟩ = some (.int .i64 0) := cal ((hb10.cell (p := ⟨w9.heap.size, 0, none⟩) hl9).trans p0)
          have g1 : (w10.alloc (.cells #[.int .i64 m.a, .int .i64 m.b] 30)).cell? ⟨w9.heap.size, 1, none⟩ = some (.int .i64 0) := cal ((hb10.cell (p := ⟨w9.heap.size, 1, none⟩) hl9).trans p1)
          have h0 : (w10.alloc (.cells #[.int .i64 m.a, .int .i64 m.b] 30)).cell? ⟨w10.heap.size, 0, none⟩ = some (.int .i64 m.a) := cell_of_row _ _ 0 _ _ _ (heap_alloc_last _ _)
          have h1 : (w10.alloc (.cells #[.int .i64 m.a, .int .i64 m.b] 30)).cell? ⟨w10.heap.size, 1, none⟩ = some (.int .i64 m.b) := cell_of_row _ _ 1 _ _ _ (heap_alloc_last _ _)
          have l0 : ((w10.alloc (.cells #[.int .i64 m.a, .int .i64 m.b] 30)).alloc (.cells #[.int .i64 0, .int .i64 0] 30)).cell? ⟨nq, 0, none⟩ = some (.string m.n) := cal e0
          have l1 : ((w10.alloc (.cells #[.int .i64 m.a, .int .i64 m.b] 30)).alloc (.cells #[.int .i64 0, .int .i64 0] 30)).cell? ⟨nq, 1, none⟩ = some (.int .i64 m.i) := cal e1
          have l2 : ((w10.alloc (.cells #[.int .i64 m.a, .int .i64 m.b] 30)).alloc (.cells #[.int .i64 0, .int .i64 0] 30)).cell? ⟨nq, 2, none⟩ = some (.int .i64 m.a) := cal e2
          have l3 : ((w10.alloc (.cells #[.int .i64 m.a, .int .i64 m.b] 30)).alloc (.cells #[.int .i64 0, .int .i64 0] 30)).cell? ⟨nq, 3, none⟩ = some (.int .i64 m.b) := cal e3
          have i0 : ((w10.alloc (.cells #[.int .i64 m.a, .int .i64 m.b] 30)).alloc (.cells #[.int .i64 0, .int .i64 0] 30)).cell? ⟨w9.heap.size, 0, none⟩ = some (.int .i64 0) := cal g0
          have i1 : ((w10.alloc (.cells #[.int .i64 m.a, .int .i64 m.b] 30)).alloc (.cells #[.int .i64 0, .int .i64 0] 30)).cell? ⟨w9.heap.size, 1, none⟩ = some (.int .i64 0) := cal g1
          have j0 : ((w10.alloc (.cells #[.int .i64 m.a, .int .i64 m.b] 30)).alloc (.cells #[.int .i64 0, .int .i64 0] 30)).cell? ⟨w10.heap.size, 0, none⟩ = some (.int .i64 m.a) := cal h0
          have j1 : ((w10.alloc (.cells #[.int .i64 m.a, .int .i64 m.b] 30)).alloc (.cells #[.int .i64 0, .int .i64 0] 30)).cell? ⟨w10.heap.size, 1, none⟩ = some (.int .i64 m.b) := cal h1
          have y0 : ((w10.alloc (.cells #[.int .i64 m.a, .int .i64 m.b] 30)).alloc (.cells #[.int .i64 0, .int .i64 0] 30)).cell? ⟨w10.heap.size + 1, 0, none⟩ = some (.int .i64 0) := cell_last1 w10 _ _ 0 rfl
          have y1 : ((w10.alloc (.cells #[.int .i64 m.a, .int .i64 m.b] 30)).alloc (.cells #[.int .i64 0, .int .i64 0] 30)).cell? ⟨w10.heap.size + 1, 1, none⟩ = some (.int .i64 0) := cell_last1 w10 _ _ 1 rfl
          have HBY : Hid (Below w8.heap.size w8 ((w10.alloc (.cells #[.int .i64 m.a, .int .i64 m.b] 30)).alloc (.cells #[.int .i64 0, .int .i64 0] 30))) := (HB10.out.alloc HB10.out.size _).alloc (by have := HB10.out.size; simp; omega) _
          have yz : ∀ o, ((w10.alloc (.cells #[.int .i64 m.a, .int .i64 m.b] 30)).alloc (.cells #[.int .i64 0, .int .i64 0] 30)).frozen? ⟨w10.heap.size + 1, o, none⟩ = false := fun o => by
            have h := f_any (w10.alloc (.cells #[.int .i64 m.a, .int .i64 m.b] 30)) #[.int .i64 0, .int .i64 0] o
            simp only [World.size_alloc] at h
            exact h
          have y0f := yz 0
          have y1f := yz 1
          have hyl : w10.heap.size + 1 < ((w10.alloc (.cells #[.int .i64 m.a, .int .i64 m.b] 30)).alloc (.cells #[.int .i64 0, .int .i64 0] 30)).heap.size := by simp
          have hnl : nq < ((w10.alloc (.cells #[.int .i64 m.a, .int .i64 m.b] 30)).alloc (.cells #[.int .i64 0, .int .i64 0] 30)).heap.size := by simp; omega
          clear hb10 d0 d1 d2 d3 p0 p1 yz HFB
          have l3' := l3
          go_upto_region 16 with fail
          clear e0 e1 e2 e3 g0 g1 h0 h1 hlt9 hl9 hz10
          generalize (w10.alloc (.cells #[.int .i64 m.a, .int .i64 m.b] 30)).alloc (.cells #[.int .i64 0, .int .i64 0] 30) = W11 at *
          go_wp2_with fail
          go_roundw
          case rel => exact ⟨k + 1, by omega, by go_num, (HBY.out.setCell (p := ⟨w10.heap.size + 1, 0, none⟩) (by show w8.heap.size ≤ w10.heap.size + 1; have := HB10.out.size; omega) _).setCell (p := ⟨w10.heap.size + 1, 1, none⟩) (by show w8.heap.size ≤ w10.heap.size + 1; have := HB10.out.size; omega) _⟩
          case measure => simp [intOf]; omega
      | some p =>
        obtain ⟨pa1, pa2⟩ := p
        rw [hfa] at HFA JN
        cases hfb : findV b m.n m.i with
        | none =>
          rw [hfb] at JN
          obtain ⟨rfl, rfl⟩ : m.a = pa1 ∧ m.b = pa2 := by
            have h : some (m.a, m.b) = some (pa1, pa2) := JN
            injection h with h; injection h with h1 h2; exact ⟨h1, h2⟩
          clear JN hfa HOA HOB
          rw [show resV (some (m.a, m.b)) = .tuple #[.agg #[.int .i64 m.a, .int .i64 m.b], .bool true] from rfl] at HFA
          go_wp2_with fail
          refine HFA.out.mono ?_
          rintro e w9 ⟨rfl, hb9⟩
          have HB9 := Lib.hid (HBW.out.trans (hb9.mono HBW.out.size))
          have hz9 := hb9.size
          have d0 : (w9.alloc (.cells #[.int .i64 m.a, .int .i64 m.b] 30)).cell? ⟨nq, 0, none⟩ = some (.string m.n) := cal ((hb9.cell (p := ⟨nq, 0, none⟩) hlt).trans b0)
          have d1 : (w9.alloc (.cells #[.int .i64 m.a, .int .i64 m.b] 30)).cell? ⟨nq, 1, none⟩ = some (.int .i64 m.i) := cal ((hb9.cell (p := ⟨nq, 1, none⟩) hlt).trans b1)
          have d2 : (w9.alloc (.cells #[.int .i64 m.a, .int .i64 m.b] 30)).cell? ⟨nq, 2, none⟩ = some (.int .i64 m.a) := cal ((hb9.cell (p := ⟨nq, 2, none⟩) hlt).trans b2)
          have d3 : (w9.alloc (.cells #[.int .i64 m.a, .int .i64 m.b] 30)).cell? ⟨nq, 3, none⟩ = some (.int .i64 m.b) := cal ((hb9.cell (p := ⟨nq, 3, none⟩) hlt).trans b3)
          have p0 : (w9.alloc (.cells #[.int .i64 m.a, .int .i64 m.b] 30)).cell? ⟨w9.heap.size, 0, none⟩ = some (.int .i64 m.a) := cell_of_row _ _ 0 _ _ _ (heap_alloc_last _ _)
          have p1 : (w9.alloc (.cells #[.int .i64 m.a, .int .i64 m.b] 30)).cell? ⟨w9.heap.size, 1, none⟩ = some (.int .i64 m.b) := cell_of_row _ _ 1 _ _ _ (heap_alloc_last _ _)
          have HBX := Lib.hid (HB9.out.alloc HB9.out.size (.cells #[.int .i64 m.a, .int .i64 m.b] 30))
          have HFB := Lib.hid (HFI.out b _ m.n m.i (w9.alloc (.cells #[.int .i64 m.a, .int .i64 m.b] 30)) (MB.out _ (B8.out.trans (HBX.out.mono B8.out.size))) (by have := HL.out.2.1; omega))
          rw [hfb, show resV none = .tuple #[.agg #[.int .i64 0, .int .i64 0], .bool false] from rfl] at HFB
          have hlt9 : nq < (w9.alloc (.cells #[.int .i64 m.a, .int .i64 m.b] 30)).heap.size := by simp; omega
          have hl9 : w9.heap.size < (w9.alloc (.cells #[.int .i64 m.a, .int .i64 m.b] 30)).heap.size := by simp
          clear hb9 b0 b1 b2 b3 HFA
          go_wp2_with fail
          clear hz9
          generalize hWX : w9.alloc (.cells #[.int .i64 m.a, .int .i64 m.b] 30) = WX at *
          refine HFB.out.mono ?_
          rintro e w10 ⟨rfl, hb10⟩
          have HB10 := Lib.hid (HBX.out.trans (hb10.mono HBX.out.size))
          have hz10 := hb10.size
          have e0 : (w10.alloc (.cells #[.int .i64 0, .int .i64 0] 30)).cell? ⟨nq, 0, none⟩ = some (.string m.n) := cal ((hb10.cell (p := ⟨nq, 0, none⟩) hlt9).trans d0)
          have e1 : (w10.alloc (.cells #[.int .i64 0, .int .i64 0] 30)).cell? ⟨nq, 1, none⟩ = some (.int .i64 m.i) := cal ((hb10.cell (p := ⟨nq, 1, none⟩) hlt9).trans d1)
          have e2 : (w10.alloc (.cells #[.int .i64 0, .int .i64 0] 30)).cell? ⟨nq, 2, none⟩ = some (.int .i64 m.a) := cal ((hb10.cell (p := ⟨nq, 2, none⟩) hlt9).trans d2)
          have e3 : (w10.alloc (.cells #[.int .i64 0, .int .i64 0] 30)).cell? ⟨nq, 3, none⟩ = some (.int .i64 m.b) := cal ((hb10.cell (p := ⟨nq, 3, none⟩) hlt9).trans d3)
          have g0 : (w10.alloc (.cells #[.int .i64 0, .int .i64 0] 30)).cell? ⟨w9.heap.size, 0, none⟩ = some (.int .i64 m.a) := cal ((hb10.cell (p := ⟨w9.heap.size, 0, none⟩) hl9).trans p0)
          have g1 : (w10.alloc (.cells #[.int .i64 0, .int .i64 0] 30)).cell? ⟨w9.heap.size, 1, none⟩ = some (.int .i64 m.b) := cal ((hb10.cell (p := ⟨w9.heap.size, 1, none⟩) hl9).trans p1)
          have h0 : (w10.alloc (.cells #[.int .i64 0, .int .i64 0] 30)).cell? ⟨w10.heap.size, 0, none⟩ = some (.int .i64 0) := cell_of_row _ _ 0 _ _ _ (heap_alloc_last _ _)
          have h1 : (w10.alloc (.cells #[.int .i64 0, .int .i64 0] 30)).cell? ⟨w10.heap.size, 1, none⟩ = some (.int .i64 0) := cell_of_row _ _ 1 _ _ _ (heap_alloc_last _ _)
          have l0 : ((w10.alloc (.cells #[.int .i64 0, .int .i64 0] 30)).alloc (.cells #[.int .i64 m.a, .int .i64 m.b] 30)).cell? ⟨nq, 0, none⟩ = some (.string m.n) := cal e0
          have l1 : ((w10.alloc (.cells #[.int .i64 0, .int .i64 0] 30)).alloc (.cells #[.int .i64 m.a, .int .i64 m.b] 30)).cell? ⟨nq, 1, none⟩ = some (.int .i64 m.i) := cal e1
          have l2 : ((w10.alloc (.cells #[.int .i64 0, .int .i64 0] 30)).alloc (.cells #[.int .i64 m.a, .int .i64 m.b] 30)).cell? ⟨nq, 2, none⟩ = some (.int .i64 m.a) := cal e2
          have l3 : ((w10.alloc (.cells #[.int .i64 0, .int .i64 0] 30)).alloc (.cells #[.int .i64 m.a, .int .i64 m.b] 30)).cell? ⟨nq, 3, none⟩ = some (.int .i64 m.b) := cal e3
          have i0 : ((w10.alloc (.cells #[.int .i64 0, .int .i64 0] 30)).alloc (.cells #[.int .i64 m.a, .int .i64 m.b] 30)).cell? ⟨w9.heap.size, 0, none⟩ = some (.int .i64 m.a) := cal g0
          have i1 : ((w10.alloc (.cells #[.int .i64 0, .int .i64 0] 30)).alloc (.cells #[.int .i64 m.a, .int .i64 m.b] 30)).cell? ⟨w9.heap.size, 1, none⟩ = some (.int .i64 m.b) := cal g1
          have j0 : ((w10.alloc (.cells #[.int .i64 0, .int .i64 0] 30)).alloc (.cells #[.int .i64 m.a, .int .i64 m.b] 30)).cell? ⟨w10.heap.size, 0, none⟩ = some (.int .i64 0) := cal h0
          have j1 : ((w10.alloc (.cells #[.int .i64 0, .int .i64 0] 30)).alloc (.cells #[.int .i64 m.a, .int .i64 m.b] 30)).cell? ⟨w10.heap.size, 1, none⟩ = some (.int .i64 0) := cal h1
          have y0 : ((w10.alloc (.cells #[.int .i64 0, .int .i64 0] 30)).alloc (.cells #[.int .i64 m.a, .int .i64 m.b] 30)).cell? ⟨w10.heap.size + 1, 0, none⟩ = some (.int .i64 m.a) := cell_last1 w10 _ _ 0 rfl
          have y1 : ((w10.alloc (.cells #[.int .i64 0, .int .i64 0] 30)).alloc (.cells #[.int .i64 m.a, .int .i64 m.b] 30)).cell? ⟨w10.heap.size + 1, 1, none⟩ = some (.int .i64 m.b) := cell_last1 w10 _ _ 1 rfl
          have HBY : Hid (Below w8.heap.size w8 ((w10.alloc (.cells #[.int .i64 0, .int .i64 0] 30)).alloc (.cells #[.int .i64 m.a, .int .i64 m.b] 30))) := (HB10.out.alloc HB10.out.size _).alloc (by have := HB10.out.size; simp; omega) _
          have yz : ∀ o, ((w10.alloc (.cells #[.int .i64 0, .int .i64 0] 30)).alloc (.cells #[.int .i64 m.a, .int .i64 m.b] 30)).frozen? ⟨w10.heap.size + 1, o, none⟩ = false := fun o => by
            have h := f_any (w10.alloc (.cells #[.int .i64 0, .int .i64 0] 30)) #[.int .i64 m.a, .int .i64 m.b] o
            simp only [World.size_alloc] at h
            exact h
          have y0f := yz 0
          have y1f := yz 1
          have hyl : w10.heap.size + 1 < ((w10.alloc (.cells #[.int .i64 0, .int .i64 0] 30)).alloc (.cells #[.int .i64 m.a, .int .i64 m.b] 30)).heap.size := by simp
          have hnl : nq < ((w10.alloc (.cells #[.int .i64 0, .int .i64 0] 30)).alloc (.cells #[.int .i64 m.a, .int .i64 m.b] 30)).heap.size := by simp; omega
          clear hb10 d0 d1 d2 d3 p0 p1 yz HFB
          have l3' := l3
          go_upto_region 16 with fail
          clear e0 e1 e2 e3 g0 g1 h0 h1 hlt9 hl9 hz10
          generalize (w10.alloc (.cells #[.int .i64 0, .int .i64 0] 30)).alloc (.cells #[.int .i64 m.a, .int .i64 m.b] 30) = W11 at *
          go_wp2_with fail
          go_roundw
          case rel => exact ⟨k + 1, by omega, by go_num, HBY.out⟩
          case measure => simp [intOf]; omega
        | some q =>
          obtain ⟨qb1, qb2⟩ := q
          rw [hfb] at JN
          have HADD := Lib.hid (show addR pa1 pa2 qb1 qb2 = some (m.a, m.b) by
            obtain ⟨s, h1, h2⟩ := JN
            rw [h2]; exact h1)
          have HRP := Lib.hid (HOA.out _ hfa)
          have HRQ := Lib.hid (HOB.out _ hfb)
          clear JN hfa HOA HOB
          rw [show resV (some (pa1, pa2)) = .tuple #[.agg #[.int .i64 pa1, .int .i64 pa2], .bool true] from rfl] at HFA
          go_wp2_with fail
          refine HFA.out.mono ?_
          rintro e w9 ⟨rfl, hb9⟩
          have HB9 := Lib.hid (HBW.out.trans (hb9.mono HBW.out.size))
          have hz9 := hb9.size
          have d0 : (w9.alloc (.cells #[.int .i64 pa1, .int .i64 pa2] 30)).cell? ⟨nq, 0, none⟩ = some (.string m.n) := cal ((hb9.cell (p := ⟨nq, 0, none⟩) hlt).trans b0)
          have d1 : (w9.alloc (.cells #[.int .i64 pa1, .int .i64 pa2] 30)).cell? ⟨nq, 1, none⟩ = some (.int .i64 m.i) := cal ((hb9.cell (p := ⟨nq, 1, none⟩) hlt).trans b1)
          have d2 : (w9.alloc (.cells #[.int .i64 pa1, .int .i64 pa2] 30)).cell? ⟨nq, 2, none⟩ = some (.int .i64 m.a) := cal ((hb9.cell (p := ⟨nq, 2, none⟩) hlt).trans b2)
          have d3 : (w9.alloc (.cells #[.int .i64 pa1, .int .i64 pa2] 30)).cell? ⟨nq, 3, none⟩ = some (.int .i64 m.b) := cal ((hb9.cell (p := ⟨nq, 3, none⟩) hlt).trans b3)
          have p0 : (w9.alloc (.cells #[.int .i64 pa1, .int .i64 pa2] 30)).cell? ⟨w9.heap.size, 0, none⟩ = some (.int .i64 pa1) := cell_of_row _ _ 0 _ _ _ (heap_alloc_last _ _)
          have p1 : (w9.alloc (.cells #[.int .i64 pa1, .int .i64 pa2] 30)).cell? ⟨w9.heap.size, 1, none⟩ = some (.int .i64 pa2) := cell_of_row _ _ 1 _ _ _ (heap_alloc_last _ _)
          have HBX := Lib.hid (HB9.out.alloc HB9.out.size (.cells #[.int .i64 pa1, .int .i64 pa2] 30))
          have HFB := Lib.hid (HFI.out b _ m.n m.i (w9.alloc (.cells #[.int .i64 pa1, .int .i64 pa2] 30)) (MB.out _ (B8.out.trans (HBX.out.mono B8.out.size))) (by have := HL.out.2.1; omega))
          rw [hfb, show resV (some (qb1, qb2)) = .tuple #[.agg #[.int .i64 qb1, .int .i64 qb2], .bool true] from rfl] at HFB
          have hlt9 : nq < (w9.alloc (.cells #[.int .i64 pa1, .int .i64 pa2] 30)).heap.size := by simp; omega
          have hl9 : w9.heap.size < (w9.alloc (.cells #[.int .i64 pa1, .int .i64 pa2] 30)).heap.size := by simp
          clear hb9 b0 b1 b2 b3 HFA
          go_wp2_with fail
          clear hz9
          generalize hWX : w9.alloc (.cells #[.int .i64 pa1, .int .i64 pa2] 30) = WX at *
          refine HFB.out.mono ?_
          rintro e w10 ⟨rfl, hb10⟩
          have HB10 := Lib.hid (HBX.out.trans (hb10.mono HBX.out.size))
          have hz10 := hb10.size
          have e0 : (w10.alloc (.cells #[.int .i64 qb1, .int .i64 qb2] 30)).cell? ⟨nq, 0, none⟩ = some (.string m.n) := cal ((hb10.cell (p := ⟨nq, 0, none⟩) hlt9).trans d0)
          have e1 : (w10.alloc (.cells #[.int .i64 qb1, .int .i64 qb2] 30)).cell? ⟨nq, 1, none⟩ = some (.int .i64 m.i) := cal ((hb10.cell (p := ⟨nq, 1, none⟩) hlt9).trans d1)
          have e2 : (w10.alloc (.cells #[.int .i64 qb1, .int .i64 qb2] 30)).cell? ⟨nq, 2, none⟩ = some (.int .i64 m.a) := cal ((hb10.cell (p := ⟨nq, 2, none⟩) hlt9).trans d2)
          have e3 : (w10.alloc (.cells #[.int .i64 qb1, .int .i64 qb2] 30)).cell? ⟨nq, 3, none⟩ = some (.int .i64 m.b) := cal ((hb10.cell (p := ⟨nq, 3, none⟩) hlt9).trans d3)
          have g0 : (w10.alloc (.cells #[.int .i64 qb1, .int .i64 qb2] 30)).cell? ⟨w9.heap.size, 0, none⟩ = some (.int .i64 pa1) := cal ((hb10.cell (p := ⟨w9.heap.size, 0, none⟩) hl9).trans p0)
          have g1 : (w10.alloc (.cells #[.int .i64 qb1, .int .i64 qb2] 30)).cell? ⟨w9.heap.size, 1, none⟩ = some (.int .i64 pa2) := cal ((hb10.cell (p := ⟨w9.heap.size, 1, none⟩) hl9).trans p1)
          have h0 : (w10.alloc (.cells #[.int .i64 qb1, .int .i64 qb2] 30)).cell? ⟨w10.heap.size, 0, none⟩ = some (.int .i64 qb1) := cell_of_row _ _ 0 _ _ _ (heap_alloc_last _ _)
          have h1 : (w10.alloc (.cells #[.int .i64 qb1, .int .i64 qb2] 30)).cell? ⟨w10.heap.size, 1, none⟩ = some (.int .i64 qb2) := cell_of_row _ _ 1 _ _ _ (heap_alloc_last _ _)
          have l0 : ((w10.alloc (.cells #[.int .i64 qb1, .int .i64 qb2] 30)).alloc (.cells #[.int .i64 pa1, .int .i64 pa2] 30)).cell? ⟨nq, 0, none⟩ = some (.string m.n) := cal e0
          have l1 : ((w10.alloc (.cells #[.int .i64 qb1, .int .i64 qb2] 30)).alloc (.cells #[.int .i64 pa1, .int .i64 pa2] 30)).cell? ⟨nq, 1, none⟩ = some (.int .i64 m.i) := cal e1
          have l2 : ((w10.alloc (.cells #[.int .i64 qb1, .int .i64 qb2] 30)).alloc (.cells #[.int .i64 pa1, .int .i64 pa2] 30)).cell? ⟨nq, 2, none⟩ = some (.int .i64 m.a) := cal e2
          have l3 : ((w10.alloc (.cells #[.int .i64 qb1, .int .i64 qb2] 30)).alloc (.cells #[.int .i64 pa1, .int .i64 pa2] 30)).cell? ⟨nq, 3, none⟩ = some (.int .i64 m.b) := cal e3
          have i0 : ((w10.alloc (.cells #[.int .i64 qb1, .int .i64 qb2] 30)).alloc (.cells #[.int .i64 pa1, .int .i64 pa2] 30)).cell? ⟨w9.heap.size, 0, none⟩ = some (.int .i64 pa1) := cal g0
          have i1 : ((w10.alloc (.cells #[.int .i64 qb1, .int .i64 qb2] 30)).alloc (.cells #[.int .i64 pa1, .int .i64 pa2] 30)).cell? ⟨w9.heap.size, 1, none⟩ = some (.int .i64 pa2) := cal g1
          have j0 : ((w10.alloc (.cells #[.int .i64 qb1, .int .i64 qb2] 30)).alloc (.cells #[.int .i64 pa1, .int .i64 pa2] 30)).cell? ⟨w10.heap.size, 0, none⟩ = some (.int .i64 qb1) := cal h0
          have j1 : ((w10.alloc (.cells #[.int .i64 qb1, .int .i64 qb2] 30)).alloc (.cells #[.int .i64 pa1, .int .i64 pa2] 30)).cell? ⟨w10.heap.size, 1, none⟩ = some (.int .i64 qb2) := cal h1
          have y0 : ((w10.alloc (.cells #[.int .i64 qb1, .int .i64 qb2] 30)).alloc (.cells #[.int .i64 pa1, .int .i64 pa2] 30)).cell? ⟨w10.heap.size + 1, 0, none⟩ = some (.int .i64 pa1) := cell_last1 w10 _ _ 0 rfl
          have y1 : ((w10.alloc (.cells #[.int .i64 qb1, .int .i64 qb2] 30)).alloc (.cells #[.int .i64 pa1, .int .i64 pa2] 30)).cell? ⟨w10.heap.size + 1, 1, none⟩ = some (.int .i64 pa2) := cell_last1 w10 _ _ 1 rfl
          have HBY : Hid (Below w8.heap.size w8 ((w10.alloc (.cells #[.int .i64 qb1, .int .i64 qb2] 30)).alloc (.cells #[.int .i64 pa1, .int .i64 pa2] 30))) := (HB10.out.alloc HB10.out.size _).alloc (by have := HB10.out.size; simp; omega) _
          have yz : ∀ o, ((w10.alloc (.cells #[.int .i64 qb1, .int .i64 qb2] 30)).alloc (.cells #[.int .i64 pa1, .int .i64 pa2] 30)).frozen? ⟨w10.heap.size + 1, o, none⟩ = false := fun o => by
            have h := f_any (w10.alloc (.cells #[.int .i64 qb1, .int .i64 qb2] 30)) #[.int .i64 pa1, .int .i64 pa2] o
            simp only [World.size_alloc] at h
            exact h
          have y0f := yz 0
          have y1f := yz 1
          have hyl : w10.heap.size + 1 < ((w10.alloc (.cells #[.int .i64 qb1, .int .i64 qb2] 30)).alloc (.cells #[.int .i64 pa1, .int .i64 pa2] 30)).heap.size := by simp
          have hnl : nq < ((w10.alloc (.cells #[.int .i64 qb1, .int .i64 qb2] 30)).alloc (.cells #[.int .i64 pa1, .int .i64 pa2] 30)).heap.size := by simp; omega
          clear hb10 d0 d1 d2 d3 p0 p1 yz HFB
          have HAD := Lib.hid (add_any pa1 pa2 qb1 qb2 HRP.out HRQ.out ((w10.alloc (.cells #[.int .i64 qb1, .int .i64 qb2] 30)).alloc (.cells #[.int .i64 pa1, .int .i64 pa2] 30)))
          rw [HADD.out, show resR (some (m.a, m.b)) = .tuple #[.agg #[.int .i64 m.a, .int .i64 m.b], .int .i64 0] from rfl] at HAD
          go_upto_region 16 with fail
          clear e0 e1 e2 e3 g0 g1 h0 h1 hlt9 hl9 hz10
          generalize (w10.alloc (.cells #[.int .i64 qb1, .int .i64 qb2] 30)).alloc (.cells #[.int .i64 pa1, .int .i64 pa2] 30) = W11 at *
          go_wp2_with fail
          refine HAD.out.mono ?_
          rintro e w12 ⟨rfl, hb12⟩
          have HB12 := Lib.hid (HBY.out.trans (hb12.mono HBY.out.size))
          have k0 := (hb12.cell (p := ⟨w10.heap.size + 1, 0, none⟩) hyl).trans y0
          have k1 := (hb12.cell (p := ⟨w10.heap.size + 1, 1, none⟩) hyl).trans y1
          have kf0 := (hb12.frozen (p := ⟨w10.heap.size + 1, 0, none⟩) hyl).trans y0f
          have kf1 := (hb12.frozen (p := ⟨w10.heap.size + 1, 1, none⟩) hyl).trans y1f
          have m2 := (hb12.cell (p := ⟨nq, 2, none⟩) hnl).trans l2
          have m3 := (hb12.cell (p := ⟨nq, 2 + 1, none⟩) hnl).trans l3
          clear hb12 l0 l1 l2 l3 i0 i1 j0 j1 y0 y1 y0f y1f
          go_wp2_with fail
          go_roundw
          case rel => exact ⟨k + 1, by omega, by go_num, (HB12.out.setCell (p := ⟨w10.heap.size + 1, 0, none⟩) (by show w8.heap.size ≤ w10.heap.size + 1; have := HB10.out.size; omega) _).setCell (p := ⟨w10.heap.size + 1, 1, none⟩) (by show w8.heap.size ≤ w10.heap.size + 1; have := HB10.out.size; omega) _⟩
          case measure => simp [intOf]; omega
    · have hkz : ¬ (k : Int) < (x.length : Int) := by omega
      have BQ := Lib.hid (B8.out.trans (HBq.out.mono B8.out.size))
      have MXQ := Lib.hid (MX8.out.base HBq.out HBq.out.size)
      by_cases e2 : mergeE b c = 0
      · by_cases e3 : mergeE x c = 0
        · by_cases e4 : mergeE a (mergeL b c) = 0
          · have HSM := Lib.hid (show sameL (mergeL x c) (mergeL a (mergeL b c)) = true from by
              have hx := HX.out
              subst hx
              exact assoc_same HK.out.1 HK.out.2.1 HK.out.2.2 HL.out.1 HL.out.2.1 HL.out.2.2 HE.out e2 e3 e4)
            have HBC2 := HBC.out wq (MB.out _ BQ.out) (MC.out _ BQ.out)
            rw [e2] at HBC2
            have HBC3 := Lib.hid HBC2
            clear HBC2
            go_wp2_with fail
            refine HBC3.out.mono ?_
            rintro e u1 ⟨Vw, rfl, hm1, hb1⟩
            have MW := Lib.hid hm1
            have BU1 : Hid (Below w.heap.size w u1) := BQ.out.trans (hb1.mono BQ.out.size)
            have MX1 := Lib.hid (MXQ.out.base hb1 hb1.size)
            clear hm1 hb1 HBC3
            have HXC2 := HMM.out x c _ _ u1 MX1.out (MC.out _ BU1.out)
            rw [e3] at HXC2
            have HXC3 := Lib.hid HXC2
            clear HXC2
            go_wp2_with fail
            refine HXC3.out.mono ?_
            rintro e u2 ⟨Vl, rfl, hm1, hb1⟩
            have ML := Lib.hid hm1
            have BU2 : Hid (Below w.heap.size w u2) := BU1.out.trans (hb1.mono BU1.out.size)
            have MX2 := Lib.hid (MX1.out.base hb1 hb1.size)
            have MW2 := Lib.hid (MW.out.base hb1 hb1.size)
            clear hm1 hb1 HXC3
            have HAW2 := HMM.out a (mergeL b c) _ _ u2 (MA.out _ BU2.out) MW2.out
            rw [e4] at HAW2
            have HAW3 := Lib.hid HAW2
            clear HAW2
            go_wp2_with fail
            refine HAW3.out.mono ?_
            rintro e u3 ⟨Vr, rfl, hm1, hb1⟩
            have MR := Lib.hid hm1
            have BU3 : Hid (Below w.heap.size w u3) := BU2.out.trans (hb1.mono BU2.out.size)
            have MX3 := Lib.hid (MX2.out.base hb1 hb1.size)
            have ML3 := Lib.hid (ML.out.base hb1 hb1.size)
            clear hm1 hb1 HAW3
            have HS2 := HSA.out (mergeL x c) (mergeL a (mergeL b c)) _ _ u3 ML3.out MR.out
            rw [HSM.out] at HS2
            have HS3 := Lib.hid HS2
            clear HS2
            go_wp2_with fail
            refine HS3.out.mono ?_
            rintro e u4 ⟨rfl, hb1⟩
            have BU4 : Hid (Below w.heap.size w u4) := BU3.out.trans (hb1.mono BU3.out.size)
            have MX4 := Lib.hid (MX3.out.base hb1 hb1.size)
            clear hb1 HS3
            have HC2 := HCK.out x _ u4 MX4.out
            rw [(HXI.out HE.out).chk] at HC2
            have HC3 := Lib.hid HC2
            clear HC2
            go_wp2_with fail
            refine HC3.out.mono ?_
            rintro e u5 ⟨rfl, hb1⟩
            have BU5 : Hid (Below w.heap.size w u5) := BU4.out.trans (hb1.mono BU4.out.size)
            clear hb1 HC3
            go_wp2_with fail
            refine (HW _ (HG.out _ BU5.out)).mono ?_
            rintro e u9 ⟨rfl, hb9⟩
            have B9 : Hid (Below w.heap.size w u9) := BU5.out.trans (hb9.mono BU5.out.size)
            clear hb9
            go_wp2_with fail
            go_ret
            exact ⟨rfl, B9.out⟩
          · have e4b : (mergeE a (mergeL b c) == 0) = false := by simp [e4]
            have HBC2 := HBC.out wq (MB.out _ BQ.out) (MC.out _ BQ.out)
            rw [e2] at HBC2
            have HBC3 := Lib.hid HBC2
            clear HBC2
            go_wp2_with fail
            refine HBC3.out.mono ?_
            rintro e u1 ⟨Vw, rfl, hm1, hb1⟩
            have MW := Lib.hid hm1
            have BU1 : Hid (Below w.heap.size w u1) := BQ.out.trans (hb1.mono BQ.out.size)
            have MX1 := Lib.hid (MXQ.out.base hb1 hb1.size)
            clear hm1 hb1 HBC3
            have HXC2 := HMM.out x c _ _ u1 MX1.out (MC.out _ BU1.out)
            rw [e3] at HXC2
            have HXC3 := Lib.hid HXC2
            clear HXC2
            go_wp2_with fail
            refine HXC3.out.mono ?_
            rintro e u2 ⟨Vl, rfl, hm1, hb1⟩
            have ML := Lib.hid hm1
            have BU2 : Hid (Below w.heap.size w u2) := BU1.out.trans (hb1.mono BU1.out.size)
            have MX2 := Lib.hid (MX1.out.base hb1 hb1.size)
            have MW2 := Lib.hid (MW.out.base hb1 hb1.size)
            clear hm1 hb1 HXC3
            have HAW2 := HMM.out a (mergeL b c) _ _ u2 (MA.out _ BU2.out) MW2.out
            have HAW3 := Lib.hid HAW2
            clear HAW2
            go_wp2_with fail
            refine HAW3.out.mono ?_
            rintro e u3 ⟨Vr, rfl, hm1, hb1⟩
            have MR := Lib.hid hm1
            have BU3 : Hid (Below w.heap.size w u3) := BU2.out.trans (hb1.mono BU2.out.size)
            have MX3 := Lib.hid (MX2.out.base hb1 hb1.size)
            have ML3 := Lib.hid (ML.out.base hb1 hb1.size)
            clear hm1 hb1 HAW3
            have HC2 := HCK.out x _ u3 MX3.out
            rw [(HXI.out HE.out).chk] at HC2
            have HC3 := Lib.hid HC2
            clear HC2
            go_wp2_with fail
            refine HC3.out.mono ?_
            rintro e u5 ⟨rfl, hb1⟩
            have BU5 : Hid (Below w.heap.size w u5) := BU3.out.trans (hb1.mono BU3.out.size)
            clear hb1 HC3
            go_wp2_with fail
            refine (HW _ (HG.out _ BU5.out)).mono ?_
            rintro e u9 ⟨rfl, hb9⟩
            have B9 : Hid (Below w.heap.size w u9) := BU5.out.trans (hb9.mono BU5.out.size)
            clear hb9
            go_wp2_with fail
            go_ret
            exact ⟨rfl, B9.out⟩
        · have e3b : (mergeE x c == 0) = false := by simp [e3]
          have HBC2 := HBC.out wq (MB.out _ BQ.out) (MC.out _ BQ.out)
          rw [e2] at HBC2
          have HBC3 := Lib.hid HBC2
          clear HBC2
          go_wp2_with fail
          refine HBC3.out.mono ?_
          rintro e u1 ⟨Vw, rfl, hm1, hb1⟩
          have MW := Lib.hid hm1
          have BU1 : Hid (Below w.heap.size w u1) := BQ.out.trans (hb1.mono BQ.out.size)
          have MX1 := Lib.hid (MXQ.out.base hb1 hb1.size)
          clear hm1 hb1 HBC3
          have HXC2 := HMM.out x c _ _ u1 MX1.out (MC.out _ BU1.out)
          have HXC3 := Lib.hid HXC2
          clear HXC2
          go_wp2_with fail
          refine HXC3.out.mono ?_
          rintro e u2 ⟨Vl, rfl, hm1, hb1⟩
          have ML := Lib.hid hm1
          have BU2 : Hid (Below w.heap.size w u2) := BU1.out.trans (hb1.mono BU1.out.size)
          have MX2 := Lib.hid (MX1.out.base hb1 hb1.size)
          have MW2 := Lib.hid (MW.out.base hb1 hb1.size)
          clear hm1 hb1 HXC3
          have HAW2 := HMM.out a (mergeL b c) _ _ u2 (MA.out _ BU2.out) MW2.out
          have HAW3 := Lib.hid HAW2
          clear HAW2
          go_wp2_with fail
          refine HAW3.out.mono ?_
          rintro e u3 ⟨Vr, rfl, hm1, hb1⟩
          have MR := Lib.hid hm1
          have BU3 : Hid (Below w.heap.size w u3) := BU2.out.trans (hb1.mono BU2.out.size)
          have MX3 := Lib.hid (MX2.out.base hb1 hb1.size)
          have ML3 := Lib.hid (ML.out.base hb1 hb1.size)
          clear hm1 hb1 HAW3
          have HC2 := HCK.out x _ u3 MX3.out
          rw [(HXI.out HE.out).chk] at HC2
          have HC3 := Lib.hid HC2
          clear HC2
          go_wp2_with fail
          refine HC3.out.mono ?_
          rintro e u5 ⟨rfl, hb1⟩
          have BU5 : Hid (Below w.heap.size w u5) := BU3.out.trans (hb1.mono BU3.out.size)
          clear hb1 HC3
          go_wp2_with fail
          refine (HW _ (HG.out _ BU5.out)).mono ?_
          rintro e u9 ⟨rfl, hb9⟩
          have B9 : Hid (Below w.heap.size w u9) := BU5.out.trans (hb9.mono BU5.out.size)
          clear hb9
          go_wp2_with fail
          go_ret
          exact ⟨rfl, B9.out⟩
      · have e2b : (mergeE b c == 0) = false := by simp [e2]
        have HBC2 := HBC.out wq (MB.out _ BQ.out) (MC.out _ BQ.out)
        have HBC3 := Lib.hid HBC2
        clear HBC2
        go_wp2_with fail
        refine HBC3.out.mono ?_
        rintro e u1 ⟨Vw, rfl, hm1, hb1⟩
        have MW := Lib.hid hm1
        have BU1 : Hid (Below w.heap.size w u1) := BQ.out.trans (hb1.mono BQ.out.size)
        have MX1 := Lib.hid (MXQ.out.base hb1 hb1.size)
        clear hm1 hb1 HBC3
        have HXC2 := HMM.out x c _ _ u1 MX1.out (MC.out _ BU1.out)
        have HXC3 := Lib.hid HXC2
        clear HXC2
        go_wp2_with fail
        refine HXC3.out.mono ?_
        rintro e u2 ⟨Vl, rfl, hm1, hb1⟩
        have ML := Lib.hid hm1
        have BU2 : Hid (Below w.heap.size w u2) := BU1.out.trans (hb1.mono BU1.out.size)
        have MX2 := Lib.hid (MX1.out.base hb1 hb1.size)
        have MW2 := Lib.hid (MW.out.base hb1 hb1.size)
        clear hm1 hb1 HXC3
        have HAW2 := HMM.out a (mergeL b c) _ _ u2 (MA.out _ BU2.out) MW2.out
        have HAW3 := Lib.hid HAW2
        clear HAW2
        go_wp2_with fail
        refine HAW3.out.mono ?_
        rintro e u3 ⟨Vr, rfl, hm1, hb1⟩
        have MR := Lib.hid hm1
        have BU3 : Hid (Below w.heap.size w u3) := BU2.out.trans (hb1.mono BU2.out.size)
        have MX3 := Lib.hid (MX2.out.base hb1 hb1.size)
        have ML3 := Lib.hid (ML.out.base hb1 hb1.size)
        clear hm1 hb1 HAW3
        have HC2 := HCK.out x _ u3 MX3.out
        rw [(HXI.out HE.out).chk] at HC2
        have HC3 := Lib.hid HC2
        clear HC2
        go_wp2_with fail
        refine HC3.out.mono ?_
        rintro e u5 ⟨rfl, hb1⟩
        have BU5 : Hid (Below w.heap.size w u5) := BU3.out.trans (hb1.mono BU3.out.size)
        clear hb1 HC3
        go_wp2_with fail
        refine (HW _ (HG.out _ BU5.out)).mono ?_
        rintro e u9 ⟨rfl, hb9⟩
        have B9 : Hid (Below w.heap.size w u9) := BU5.out.trans (hb9.mono BU5.out.size)
        clear hb9
        go_wp2_with fail
        go_ret
        exact ⟨rfl, B9.out⟩
theorem merging_any (HW : AwakeOk) (a b c : List Met) (V U T : Value) (w : World) (ha : Mets w w.heap.size V a) (hb : Mets w w.heap.size U b) (hc : Mets w w.heap.size T c) (hG : GOk w) : Calls Tryz.prog 5 #[V, U, T] w (LawPost w) := by
  by_cases h1 : (a.length : Int) > 60
  · exact mg_1 HW a b c V U T w ha hb hc hG h1
  by_cases h2 : (b.length : Int) > 60
  · exact mg_2 HW a b c V U T w ha hb hc hG h1 h2
  by_cases h3 : (c.length : Int) > 60
  · exact mg_3 HW a b c V U T w ha hb hc hG h1 h2 h3
  by_cases k1 : chkE a = 0
  · by_cases k2 : chkE b = 0
    · by_cases k3 : chkE c = 0
      · rcases merge_two k1 k2 (by omega) (by omega) with he | he
        · exact mg_8 HW a b c V U T w ha hb hc hG h1 h2 h3 k1 k2 k3 he
        · exact mg_7 HW a b c V U T w ha hb hc hG h1 h2 h3 k1 k2 k3 he
      · exact mg_6 HW a b c V U T w ha hb hc hG h1 h2 h3 k1 k2 k3
    · exact mg_5 HW a b c V U T w ha hb hc hG h1 h2 h3 k1 k2
  · exact mg_4 HW a b c V U T w ha hb hc hG h1 h2 h3 k1
end Go.Proofs.YtpcbccpobhdokaaGreatDoor

/- The program's reading of a line: entry. -/
import Derived.Test.YtekpnphfdoplfaaDoorB4
namespace Go.Proofs.YtekpnphfdoplfaaDoor
open Go.RowKit
/-- z is valid, and its text is the line -/
def IsT (line : List UInt8) (z : Ent) : Prop := entE z = 0 ∧ textL z = line
def EntryPost (line : List UInt8) (w : World) (e : Ending) (w' : World) : Prop :=
  ∃ (y : Ent) (b : Bool), e = .returned (.tuple #[.agg #[.int .i64 y.t, .int .i64 y.k, .int .i64 y.n, .int .i64 y.j, .int .i64 y.c, .int .i64 y.v], .bool b]) ∧ Below w.heap.size w w' ∧ (b = true → IsT line y) ∧ (∀ z, IsT line z → b = true ∧ y = z)
theorem fieldsD_size (s : ByteArray) : ∀ l ∈ Lib.fieldsD s.data.toList, l.length ≤ s.size := by
  intro l hl
  rw [← Lib.goFields_eq] at hl
  obtain ⟨p, hp, rfl⟩ := List.mem_map.1 hl
  unfold Lib.goFields at hp
  obtain ⟨q, _, rfl⟩ := List.mem_map.1 hp
  have h2 : (s.extract q.1 q.2).data.toList.length = (s.extract q.1 q.2).size := rfl
  rw [h2, ByteArray.size_extract]; omega
set_option maxRecDepth 10000 in
theorem words_of {line : List UInt8} {z : Ent} (h : IsT line z) : Lib.fieldsD line = wordsL z := by rw [← h.2]; exact fields_text h.1
theorem not_short {line : List UInt8} {z : Ent} (h : IsT line z) : ¬ (Lib.fieldsD line).length < 2 := by
  rw [words_of h, words_len]; have := (offs_len z.k).1; omega
def kindW (line : List UInt8) : Int := findI (fun x => x == (Lib.fieldsD line).getD 1 []) tabW 0
theorem kind_of {line : List UInt8} {z : Ent} (h : IsT line z) : kindW line = z.k := by
  have hk := entE_ok h.1
  unfold kindW
  rw [words_of h]
  exact find_word hk.1 hk.2.1
theorem kind_le (line : List UInt8) : kindW line ≤ 17 := by
  unfold kindW
  rcases find_le (fun x => x == (Lib.fieldsD line).getD 1 []) tabW 0 with h | h
  · rw [tabW_len] at h; omega
  · omega
theorem len_of {line : List UInt8} {z : Ent} (h : IsT line z) : (Lib.fieldsD line).length = 2 * (offs (kindW line)).length := by
  rw [kind_of h, words_of h, words_len]
theorem row_set {w : World} {g : Nat} {cs : Array Value} {t : TypeId} {z : Nat × Nat} (h : w.heap[g]? = some (.cells cs t z)) (cs' : Array Value) : (w.setRow g cs').heap[g]? = some (.cells cs' t z) := by
  simp [World.setRow, Array.getElem?_modify, h]
theorem row_other {w : World} {g k : Nat} (cs' : Array Value) (h : k ≠ g) : (w.setRow g cs').heap[k]? = w.heap[k]? := by
  simp [World.setRow, Array.getElem?_modify, show ¬ g = k from fun e => h e.symm]
theorem below_setRow {B g : Nat} {a w : World} (h : Below B a w) (hg : B ≤ g) (cs : Array Value) : Below B a (w.setRow g cs) :=
  ⟨h.os, h.tape, h.output, by simpa [World.setRow] using h.size, fun k hk => (row_other cs (by omega)).trans (h.block k hk)⟩
theorem res29 (tmps : Array Value) (W : World) (rb : Nat) (y : Ent) (b : Bool) (h2 : tmps.getD 2 undef = .pointer (some ⟨rb, 0, none⟩)) (h3 : tmps.getD 3 undef = .bool b) (hb : W.heap[rb]? = some (.cells (entVals y).toArray 37 (0, 0))) :
    (results Tryd.f29 tmps).run Tryd.prog W = .ok (.tuple #[.agg #[.int .i64 y.t, .int .i64 y.k, .int .i64 y.n, .int .i64 y.j, .int .i64 y.c, .int .i64 y.v], .bool b]) W := by
  have c0 := cell_blk hb 0
  have c1 := cell_blk hb 1
  have c2 := cell_blk hb 2
  have c3 := cell_blk hb 3
  have c4 := cell_blk hb 4
  have c5 := cell_blk hb 5
  simp only [entVals, List.getElem?_toArray, List.getElem?_cons_zero, List.getElem?_cons_succ] at c0 c1 c2 c3 c4 c5
  clear hb
  rw [Array.getD_eq_getD_getElem?] at h2 h3
  simp [results, Tryd.results29, go_sem, h2, h3, c0, c1, c2, c3, c4, c5]
def ptrCells (eb : Nat) (os : List Nat) : List Value := os.map fun o => .pointer (some ⟨eb, o, none⟩)
theorem info82 : (Tryd.prog.info? 82).map (fun i => (i.zero, i.size, i.bytes)) = some (some (.pointer none), 1, 8) := by kernel_rfl
/-- append of one pointer, which lies in the block that was made last -/
theorem app_ptr {ops : Array Oper} {rest : List Oper} {o : Oper} {a : Act} {Q : Exit → Act → World → Prop} (Wp : World) (hgd : o.guard = none) (s x : Operand) (ho : o.op = .call { callee := .builtin .append, args := #[s, x], argTypes := #[83, 83] })
    (base : Nat) (v : Value) (eb : Nat) (l : List Nat) (d : Nat) (hs : a.eval s = v) (hx : a.eval x = .slice (some ⟨Wp.heap.size, 0, none⟩) 1 1) (hown : Wp.ownsRow base 82 1 v l.length (ptrCells eb l)) (hl : l.length ≤ 70000) (hbase : base ≤ Wp.heap.size)
    (h : ∀ g c w', w'.ownsRow base 82 1 (.slice (some ⟨g, 0, none⟩) (l.length + 1) c) (l ++ [d]).length (ptrCells eb (l ++ [d])) → (Wp.alloc (.cells #[.pointer (some ⟨eb, d, none⟩)] 82)).grownBy w' v.ownBlock → Below base Wp w' → (v.ownBlock = some g ∨ Wp.heap.size + 1 = g) →
      wpList Tryd.prog ops Q rest (a.put o.dst (.slice (some ⟨g, 0, none⟩) (l.length + 1) c)) w') : wpList Tryd.prog ops Q (o :: rest) a (Wp.alloc (.cells #[.pointer (some ⟨eb, d, none⟩)] 82)) := by
  obtain ⟨i0, hi, hz0, hz1, hz2⟩ := info_parts info82
  refine wpList_append_own_at _ hgd s x 83 ho base 82 i0 _ 1 8 Tryd.underlying83 hi hz0 hz1 hz2 rfl (by decide) v l.length (ptrCells eb l) hs (hown.alloc _) ⟨Wp.heap.size, 0, none⟩ 1 1 [.pointer (some ⟨eb, d, none⟩)] hx rfl (World.news_of_block (heap_alloc_last Wp _)) (by simp [Value.oneCell']) (by unfold maxLen; omega) (by omega) (by simp; omega) ?_
  intro v' w' hown' hgrow _ hat
  obtain ⟨g, c, rfl⟩ := own_shape hown' (by omega)
  refine h g c w' (by rw [List.length_append, show ptrCells eb (l ++ [d]) = ptrCells eb l ++ [.pointer (some ⟨eb, d, none⟩)] by simp [ptrCells]]; exact hown') hgrow (Below.grown ((Below.refl _ Wp).mono hbase |>.alloc hbase _) hgrow (by simp; omega) (fun j e => (hown.lt j e).1)) ?_
  rcases hat with e | e
  · exact .inl (e.symm.trans rfl)
  · have h9 : g = Wp.heap.size + 1 := (by simpa [Value.ownBlock] using e)
    exact .inr h9.symm
def offK (k : Int) (i : Nat) : List Nat := 0 :: ((fldL (base k)).take i).flatMap fun f => if f.has = true then [f.o] else []
theorem offK_all (k : Int) : offK k 4 = offs k := by
  simp [offK, offs, fldL, base]
theorem offK_succ (k : Int) (i : Nat) (h : i < 4) : offK k (i + 1) = offK k i ++ (if ((fldL (base k)).getD i Fld.zero).has = true then [((fldL (base k)).getD i Fld.zero).o] else []) := by
  unfold offK
  rw [take_get (fldL (base k)) Fld.zero i h, List.flatMap_append]
  simp
theorem offK_len (k : Int) (i : Nat) (h : i ≤ 4) : (offK k i).length ≤ i + 1 := by
  induction i with
  | zero => simp [offK]
  | succ i ih =>
    have := ih (by omega)
    rw [offK_succ k i (by omega), List.length_append]
    split <;> simp <;> omega
theorem setO_row (y : Ent) (o : Nat) (x : Int) (h : o = 0 ∨ o = 2 ∨ o = 3 ∨ o = 4 ∨ o = 5) : (entVals y).toArray.setIfInBounds o (.int .i64 x) = (entVals (setO y o x)).toArray := by
  rcases h with rfl | rfl | rfl | rfl | rfl <;> simp [entVals, setO]
theorem getO_row (y : Ent) (o : Nat) (h : o = 0 ∨ o = 2 ∨ o = 3 ∨ o = 4 ∨ o = 5) : (entVals y).toArray[o]? = some (.int .i64 (getO y o)) := by
  rcases h with rfl | rfl | rfl | rfl | rfl <;> simp [entVals, getO]
theorem getO_ok {z : Ent} (h : entE z = 0) : ∀ o ∈ offs z.k, 0 ≤ getO z o ∧ getO z o ≤ 1152921504606846976 := by
  obtain ⟨_, _, ht1, ht2, h1, h2, h3, h4⟩ := entE_ok h
  intro o ho
  unfold offs at ho
  cases e1 : hasN z.k <;> cases e2 : hasJ z.k <;> cases e3 : hasC z.k <;> cases e4 : hasV z.k
  all_goals
    rw [e1] at h1; rw [e2] at h2; rw [e3] at h3; rw [e4] at h4
    simp [fldB] at h1 h2 h3 h4
    simp [e1, e2, e3, e4] at ho
  all_goals first
    | (subst ho; simp [getO]; omega)
    | (rcases ho with rfl | rfl <;> simp [getO] <;> omega)
    | (rcases ho with rfl | rfl | rfl <;> simp [getO] <;> omega)
    | (rcases ho with rfl | rfl | rfl | rfl <;> simp [getO] <;> omega)
    | (rcases ho with rfl | rfl | rfl | rfl | rfl <;> simp [getO] <;> omega)
theorem grown_below {w w1 w2 : World} {g : Nat} (h : w.grownBy w1 (some g)) (k : Below w1.heap.size w1 w2) : w.grownBy w2 (some g) :=
  ⟨k.os.trans h.os, k.tape.trans h.tape, k.output.trans h.output, Nat.le_trans h.size k.size, fun j hj hne => (k.block j (Nat.lt_of_lt_of_le hj h.size)).trans (h.block j hj hne)⟩
theorem grown_set {w w1 : World} {g : Nat} (h : w.grownBy w1 (some g)) (i : Nat) (v : Value) : w.grownBy (w1.setCell ⟨g, i, none⟩ v) (some g) :=
  ⟨h.os, h.tape, h.output, by simpa [World.setCell] using h.size, fun j hj hne => (Below.heap_setCell w1 ⟨g, i, none⟩ v j (by rintro rfl; exact hne rfl)).trans (h.block j hj hne)⟩
theorem grown_refl (w : World) (g : Nat) : w.grownBy w (some g) := ⟨rfl, rfl, rfl, Nat.le_refl _, fun _ _ _ => rfl⟩
theorem getD_mem_nat {l : List Nat} {j : Nat} (h : j < l.length) : l.getD j 0 ∈ l := by
  rw [List.getD_eq_getElem?_getD, List.getElem?_eq_getElem h]; exact List.getElem_mem h
/-- what the word of a number says of an entry with this text -/
theorem word_num {line : List UInt8} {z : Ent} {ws : List (List UInt8)} {kd : Int} {os : List Nat} (h : IsT line z) (hw : Lib.fieldsD line = ws) (hk : kindW line = kd) (ho : offs kd = os) {i : Nat} (hi : i < os.length) : Lib.atoiAll (ws.getD (widx i) []) = .ok (getO z (os.getD i 0)) := by
  have h1 := kind_of h
  rw [hk] at h1
  subst h1 ho
  rw [← hw, words_of h, words_at z i hi]
  have := getO_ok h.1 _ (getD_mem_nat hi)
  exact atoi_itoa this.1 this.2
theorem mix_next {line : List UInt8} {z y : Ent} {kd : Int} {os : List Nat} (h : IsT line z) (hk : kindW line = kd) (ho : offs kd = os) {i : Nat} (hi : i < os.length) (hy : y = mix z i) : setO y (os.getD i 0) (getO z (os.getD i 0)) = mix z (i + 1) := by
  have h1 := kind_of h
  rw [hk] at h1
  subst h1 ho
  rw [hy, mix_succ z i hi]
theorem setO_k (y : Ent) (o : Nat) (x : Int) : (setO y o x).k = y.k := by unfold setO; repeat' split
                                                                          all_goals rfl
set_option maxRecDepth 100000 in
set_option maxHeartbeats 8000000 in
theorem lentry_any (s : ByteArray) (w : World) (hG : Glob w) (hs : s.size ≤ 70000) : Calls Tryd.prog 29 #[.string s] w (EntryPost s.data.toList w) := by
  go_enter Tryd.func29, Tryd.ntmps29
  go_wp2_with fail
  have hbw : Below w.heap.size w (w.alloc (.cells #[.int .i64 0, .int .i64 0, .int .i64 0, .int .i64 0, .int .i64 0, .int .i64 0] 37)) := (Below.refl _ w).alloc (Nat.le_refl _) _
  have hrb0 : (w.alloc (.cells #[.int .i64 0, .int .i64 0, .int .i64 0, .int .i64 0, .int .i64 0, .int .i64 0] 37)).heap[w.heap.size]? = some (.cells #[.int .i64 0, .int .i64 0, .int .i64 0, .int .i64 0, .int .i64 0, .int .i64 0] 37 (0, 0)) := heap_alloc_last w _
  have hz0 : (w.alloc (.cells #[.int .i64 0, .int .i64 0, .int .i64 0, .int .i64 0, .int .i64 0, .int .i64 0] 37)).heap.size = w.heap.size + 1 := by simp
  have hG0 := hG.below hbw
  generalize (w.alloc (.cells #[.int .i64 0, .int .i64 0, .int .i64 0, .int .i64 0, .int .i64 0, .int .i64 0] 37)) = v0 at *
  refine (Tryd.strings_Fields_any s v0 (by omega) hG0.2.1 hG0.2.2.1).mono ?_
  rintro e v1 ⟨A, rfl, hA, hown, hb1⟩
  have hrb1 := (hb1.block w.heap.size (by omega)).trans hrb0
  have hcl : ∀ j, j < (Lib.fieldsD s.data.toList).length → v1.cell? ⟨A, j, none⟩ = some (.string ⟨((Lib.fieldsD s.data.toList).getD j []).toArray⟩) := fun j hj => by
    have ha : ∀ n, (⟨A, 0, none⟩ : Addr).add n = ⟨A, 0 + n, none⟩ := fun n => by unfold Addr.add; split <;> simp_all
    have := hown.cells (g := A) rfl j (.string ⟨((Lib.fieldsD s.data.toList).getD j []).toArray⟩) (by rw [List.getElem?_map, List.getD_eq_getElem?_getD, List.getElem?_eq_getElem hj]; rfl)
    rw [ha, Nat.zero_add] at this
    exact this
  have hm : (Lib.fieldsD s.data.toList).length ≤ maxLen := by
    rcases hown.2 with ⟨e, _⟩ | ⟨g', cap', cur', e, _, _, hn', hm', _⟩
    · cases e
    · cases e; exact hm'
  have hAl := (hown.lt A rfl).2
  have hB1 : Below w.heap.size w v1 := hbw.trans (hb1.mono (by omega))
  have HCL := Lib.hid hcl
  unfold maxLen at hm
  clear hcl hown hb1 hrb0 hbw
  have hfs := fieldsD_size s
  obtain ⟨ws, hws⟩ : ∃ ws, Lib.fieldsD s.data.toList = ws := ⟨_, rfl⟩
  rw [hws] at HCL hm hfs ⊢
  have HSZ : Hid (∀ j, j < ws.length → (ws.getD j []).length ≤ 70000) := fun j hj => by
    have h1 : ws.getD j [] ∈ ws := by rw [List.getD_eq_getElem?_getD, List.getElem?_eq_getElem hj]; exact List.getElem_mem hj
    have := hfs _ h1; omega
  clear hfs
  have HW := Lib.hid hws
  clear hws
  go_upto_region 2 with fail
  have htb : (v1.alloc (.cells #[.slice (some ⟨A, 0, none⟩) ws.length ws.length] 73)).heap[v1.heap.size]? = some (.cells #[.slice (some ⟨A, 0, none⟩) ws.length ws.length] 73 (0, 0)) := heap_alloc_last v1 _
  have hrb := (Below.heap_alloc v1 (.cells #[.slice (some ⟨A, 0, none⟩) ws.length ws.length] 73) w.heap.size (blk_lt hrb1)).trans hrb1
  have hb9 : Below v1.heap.size v1 (v1.alloc (.cells #[.slice (some ⟨A, 0, none⟩) ws.length ws.length] 73)) := (Below.refl _ v1).alloc (Nat.le_refl _) _
  have hB2 : Below w.heap.size w (v1.alloc (.cells #[.slice (some ⟨A, 0, none⟩) ws.length ws.length] 73)) := hB1.trans (hb9.mono hB1.size)
  have HC1 : Hid (∀ j, j < ws.length → (v1.alloc (.cells #[.slice (some ⟨A, 0, none⟩) ws.length ws.length] 73)).cell? ⟨A, j, none⟩ = some (.string ⟨(ws.getD j []).toArray⟩)) := fun j hj => (hb9.cell (p := ⟨A, j, none⟩) hAl).trans (HCL.out j hj)
  have hAl2 : A < (v1.alloc (.cells #[.slice (some ⟨A, 0, none⟩) ws.length ws.length] 73)).heap.size := by simp; omega
  have hA1 : w.heap.size + 1 ≤ A := by omega
  have hAt : A < v1.heap.size := hAl
  clear hb9 HCL hrb1 hAl hA hB1
  generalize (v1.alloc (.cells #[.slice (some ⟨A, 0, none⟩) ws.length ws.length] 73)) = W1 at *
  generalize v1.heap.size = tb at *
  have htl := blk_lt htb
  have hrl := blk_lt hrb
  have t0 := cell_blk htb 0
  simp only [List.getElem?_toArray, List.getElem?_cons_zero] at t0
  by_cases hn : ws.length < 2
  · have hni : (ws.length : Int) < 2 := by omega
    have HNO : Hid (∀ z, IsT s.data.toList z → False) := fun z hz => not_short hz (by rw [HW.out]; exact hn)
    clear hn
    go_wp2_with (refine wpList_store_row rfl 37 _ _ rfl w.heap.size #[.int .i64 0, .int .i64 0, .int .i64 0, .int .i64 0, .int .i64 0, .int .i64 0] (by kernel_rfl) (by kernel_rfl) 37 #[.int .i64 0, .int .i64 0, .int .i64 0, .int .i64 0, .int .i64 0, .int .i64 0] hrb (by kernel_rfl) (by kernel_rfl) (by kernel_rfl) ?_)
    refine bodyPost_ret (res29 _ _ w.heap.size Ent.zero false (by kernel_rfl) (by kernel_rfl) (row_set hrb _)) rfl ?_
    exact ⟨Ent.zero, false, rfl, below_setRow hB2 (Nat.le_refl _) _, (fun h => by cases h), fun z hz => (HNO.out z hz).elim⟩
  · have hni : ¬ (ws.length : Int) < 2 := by omega
    have hn2 : 2 ≤ ws.length := by omega
    have HNI := Lib.hid hni
    go_upto_region 5 with fail
    clear hni hn
    have heb : (W1.alloc (.cells #[.int .i64 0, .int .i64 0, .int .i64 (-1), .int .i64 (-1), .int .i64 (-1), .int .i64 (-1)] 37)).heap[W1.heap.size]? = some (.cells #[.int .i64 0, .int .i64 0, .int .i64 (-1), .int .i64 (-1), .int .i64 (-1), .int .i64 (-1)] 37 (0, 0)) := heap_alloc_last W1 _
    have hD2 : Below W1.heap.size W1 (W1.alloc (.cells #[.int .i64 0, .int .i64 0, .int .i64 (-1), .int .i64 (-1), .int .i64 (-1), .int .i64 (-1)] 37)) := (Below.refl _ W1).alloc (Nat.le_refl _) _
    have hz2 : (W1.alloc (.cells #[.int .i64 0, .int .i64 0, .int .i64 (-1), .int .i64 (-1), .int .i64 (-1), .int .i64 (-1)] 37)).heap.size = W1.heap.size + 1 := by simp
    generalize (W1.alloc (.cells #[.int .i64 0, .int .i64 0, .int .i64 (-1), .int .i64 (-1), .int .i64 (-1), .int .i64 (-1)] 37)) = W2 at *
    have hmk : (W2.alloc (.cells formC 77)).heap.size = W2.heap.size + 1 := by simp
    go_wp2_with (first
      | (go_at_call 47; refine (forms_any _).mono ?_; rintro e W3 ⟨rfl, rfl⟩)
      | (refine wpList_store_row rfl 77 _ _ rfl (W2.heap.size + 1) formC (by simp [go_sem]) (by kernel_rfl) 77 Tryd.zeroCells77 (by rw [← hmk]; exact heap_alloc_last (W2.alloc (.cells formC 77)) _) (by kernel_rfl) (by kernel_rfl) (by kernel_rfl) ?_))
    have hTi : W1.heap.size + 1 + 1 = (W2.alloc (.cells formC 77)).heap.size := by simp; omega
    rw [hTi, World.setRow_alloc_new]
    have hD4 : Below W1.heap.size W1 ((W2.alloc (.cells formC 77)).alloc (.cells formC 77)) := (hD2.alloc hD2.size _).alloc (by simp; omega) _
    have hF4 := heap_alloc_last (W2.alloc (.cells formC 77)) (.cells formC 77)
    refine (frm_index (W2.alloc (.cells formC 77)).heap.size tb A ws.length ws.length (ws.getD 1 []) _ hF4 ((hD4.cell (p := ⟨tb, 0, none⟩) htl).trans t0) hn2 ((hD4.cell (p := ⟨A, 1, none⟩) hAl2).trans (HC1.out 1 (by omega)))).mono ?_
    rintro e W5 ⟨rfl, hb5⟩
    have hD5 : Below W1.heap.size W1 W5 := hD4.trans (hb5.mono hD4.size)
    have heb4 : ((W2.alloc (.cells formC 77)).alloc (.cells formC 77)).heap[W1.heap.size]? = some (.cells #[.int .i64 0, .int .i64 0, .int .i64 (-1), .int .i64 (-1), .int .i64 (-1), .int .i64 (-1)] 37 (0, 0)) := (Below.heap_alloc _ _ _ (by simp; omega)).trans ((Below.heap_alloc _ _ _ (blk_lt heb)).trans heb)
    have heb5 := (hb5.block W1.heap.size (blk_lt heb4)).trans heb4
    have e1 := cell_blk heb5 1
    have fz1 := frozen_blk heb5 1
    simp only [List.getElem?_toArray, List.getElem?_cons_zero, List.getElem?_cons_succ] at e1
    clear hb5 heb4 hF4 hTi hmk hD4 hz2 hD2 heb
    obtain ⟨kd, hkd⟩ : ∃ kd, findI (fun x => x == ws.getD 1 []) tabW 0 = kd := ⟨_, rfl⟩
    rw [hkd]
    have HKD : Hid (kindW s.data.toList = kd) := by show _ = _; rw [kindW, HW.out]; exact hkd
    have hk17 : kd ≤ 17 := by rw [← HKD.out]; exact kind_le _
    clear hkd
    go_upto_region 7 with fail
    have heb6 : (W5.setCell ⟨W1.heap.size, 1, none⟩ (.int .i64 kd)).heap[W1.heap.size]? = some (.cells (entVals (base kd)).toArray 37 (0, 0)) := by
      have h := heap_set heb5 (i := 1) (.int .i64 kd)
      rw [h]; simp [entVals, base]
    have hD6 : Below W1.heap.size W1 (W5.setCell ⟨W1.heap.size, 1, none⟩ (.int .i64 kd)) := hD5.setCell (p := ⟨W1.heap.size, 1, none⟩) (Nat.le_refl _) _
    clear e1 fz1 heb5 hD5
    generalize (W5.setCell ⟨W1.heap.size, 1, none⟩ (.int .i64 kd)) = W6 at *
    have e1 := cell_blk heb6 1
    simp only [entVals, base, List.getElem?_toArray, List.getElem?_cons_zero, List.getElem?_cons_succ] at e1
    have hel := blk_lt heb6
    by_cases hk1 : kd < 1
    · have HNO : Hid (∀ z, IsT s.data.toList z → False) := fun z hz => by
        have h1 := kind_of hz
        rw [HKD.out] at h1
        have := (entE_ok hz.1).1
        omega
      have hrb6 := (hD6.block w.heap.size hrl).trans hrb
      go_wp2_with (refine wpList_store_row rfl 37 _ _ rfl w.heap.size #[.int .i64 0, .int .i64 0, .int .i64 0, .int .i64 0, .int .i64 0, .int .i64 0] (by kernel_rfl) (by kernel_rfl) 37 #[.int .i64 0, .int .i64 0, .int .i64 0, .int .i64 0, .int .i64 0, .int .i64 0] hrb6 (by kernel_rfl) (by kernel_rfl) (by kernel_rfl) ?_)
      refine bodyPost_ret (res29 _ _ w.heap.size Ent.zero false (by kernel_rfl) (by kernel_rfl) (row_set hrb6 _)) rfl ?_
      exact ⟨Ent.zero, false, rfl, below_setRow (hB2.trans (hD6.mono hB2.size)) (Nat.le_refl _) _, (fun h => by cases h), fun z hz => (HNO.out z hz).elim⟩
    · have hk0 : 1 ≤ kd := by omega
      have hE6 : EntAt W6 W1.heap.size 0 (base kd) := ⟨cell_blk heb6 0, cell_blk heb6 1, cell_blk heb6 2, cell_blk heb6 3, cell_blk heb6 4, cell_blk heb6 5⟩
      have HE6 := Lib.hid hE6
      clear hE6
      go_wp2_with fail
      have hD7 : Below W1.heap.size W1 (W6.alloc (.cells #[.pointer (some ⟨W1.heap.size, 0, none⟩)] 82)) := hD6.alloc hD6.size _
      have h67 : Below W6.heap.size W6 (W6.alloc (.cells #[.pointer (some ⟨W1.heap.size, 0, none⟩)] 82)) := (Below.refl _ W6).alloc (Nat.le_refl _) _
      have ho7 := World.ownsRow_lit (e := 82) (size := 1) (base := W6.heap.size) W6 #[.pointer (some ⟨W1.heap.size, 0, none⟩)] 1 (Nat.le_refl _) (by simp [maxLen]) rfl
      have HO7 : Hid ((W6.alloc (.cells #[.pointer (some ⟨W1.heap.size, 0, none⟩)] 82)).ownsRow W6.heap.size 82 1 (.slice (some ⟨W6.heap.size, 0, none⟩) 1 1) (offK kd 0).length (ptrCells W1.heap.size (offK kd 0))) := ho7
      have heb7 := (h67.block W1.heap.size hel).trans heb6
      have hnl : W6.heap.size < (W6.alloc (.cells #[.pointer (some ⟨W1.heap.size, 0, none⟩)] 82)).heap.size := by simp
      clear ho7
      generalize (W6.alloc (.cells #[.pointer (some ⟨W1.heap.size, 0, none⟩)] 82)) = W7 at *
      refine (fields_list W1.heap.size (base kd) W7 (by omega) (HE6.out.below h67 hel) hk0 hk17).mono ?_
      rintro e W8 ⟨g, rfl, hF, hg, hb8⟩
      have hD8 : Below W1.heap.size W1 W8 := hD7.trans (hb8.mono hD7.size)
      have heb8 := (hb8.block W1.heap.size (by omega)).trans heb7
      have HF8 := Lib.hid hF
      have HO8 := Lib.hid (own_below HO7.out hb8)
      have hgn : W6.heap.size ≠ g := by omega
      have hgl := hF.gl
      have hn8 : W6.heap.size < W8.heap.size := Nat.lt_of_lt_of_le hnl hb8.size
      clear hF hb8 HO7 heb7 hD7 h67 e1 HE6
      generalize W6.heap.size = nb at *
      go_wp2_with fail
      clear hgl
      go_loopw [7, 35] (fun V i wr => ∃ k : Nat, k ≤ 4 ∧ i = .int .i64 k ∧ wr.ownsRow nb 82 1 V (offK kd k).length (ptrCells W1.heap.size (offK kd k)) ∧ Flds wr g W1.heap.size (fldL (base kd)) ∧ V.ownBlock ≠ some g ∧ Below nb W8 wr ∧ W8.heap.size ≤ wr.heap.size) (fun _ i _ => 4 - (intOf i).toNat)
      case atStart => exact ⟨0, by omega, rfl, HO8.out, HF8.out, (by simp [Value.ownBlock]; exact hgn), Below.refl _ _, Nat.le_refl _⟩
      case round =>
        obtain ⟨k, hk, rfl, hown, hF, hne, hBn, hs8⟩ := hrel
        have HO := Lib.hid hown
        have HF := Lib.hid hF
        have hol := offK_len kd k hk
        have hnr : nb < wr.heap.size := by omega
        clear hown hF
        by_cases hlt : k < 4
        · obtain ⟨f0, f1, f2, f3, f4⟩ := HF.out.row k (by exact hlt)
          have HSU := Lib.hid (offK_succ kd k hlt)
          generalize (fldL (base kd)).getD k Fld.zero = f at *
          have hgr : g < wr.heap.size := HF.out.gl
          have hki : (k : Int) < 4 := by omega
          have HOW := Lib.hid (HO.out.alloc (.cells #[.string ⟨f.wd.toArray⟩, .pointer (some ⟨W1.heap.size, f.o, none⟩), .int .i64 f.most, .bool f.has] 88))
          have HFW := Lib.hid (HF.out.grown (World.grownBy_alloc wr (.cells #[.string ⟨f.wd.toArray⟩, .pointer (some ⟨W1.heap.size, f.o, none⟩), .int .i64 f.most, .bool f.has] 88) none) (by simp) (by simp))
          have hBW := hBn.alloc (Nat.le_of_lt hnr) (.cells #[.string ⟨f.wd.toArray⟩, .pointer (some ⟨W1.heap.size, f.o, none⟩), .int .i64 f.most, .bool f.has] 88)
          cases hh : f.has
          · have HT : Hid (offK kd (k + 1) = offK kd k) := by show _ = _; rw [HSU.out, hh]; simp
            rw [hh] at f3 hBW HOW HFW
            clear hh
            go_wp2_with fail
            go_roundw
            case rel => exact ⟨k + 1, by omega, by go_num, by rw [HT.out]; exact HOW.out, HFW.out, hne, hBW, by simp; omega⟩
            case measure => simp [intOf]; omega
          · have HT : Hid (offK kd (k + 1) = offK kd k ++ [f.o]) := by show _ = _; rw [HSU.out, hh]; simp
            rw [hh] at f3 hBW HOW HFW
            clear hh HSU
            go_wp2_with (at_builtin; refine app_ptr (wr.alloc (.cells #[.string ⟨f.wd.toArray⟩, .pointer (some ⟨W1.heap.size, f.o, none⟩), .int .i64 f.most, .bool true] 88)) rfl (.tmp 41) (.tmp 44) rfl nb _ W1.heap.size (offK kd k) f.o rfl ?c1 HOW.out ?c2 ?c3 ?_)
            case c1 => simp [go_sem]
            case c2 => omega
            case c3 => simp; omega
            intro g5 c5 w5 hown5 hgrow5 hB5 hat5
            have HO5 := Lib.hid hown5
            have HF5 := Lib.hid ((HFW.out.grown (World.grownBy_alloc _ (.cells #[.pointer (some ⟨W1.heap.size, f.o, none⟩)] 82) none) (by simp) (by simp)).grown hgrow5 (fun e => hne e.symm) (fun e => own_ne_lt HO.out (g := W1.heap.size) (.inl hel) e.symm))
            have hne5 : g5 ≠ g := by
              rcases hat5 with h | h
              · intro e; rw [e] at h; exact hne h
              · first
                  | omega
                  | (simp at h; omega)
            have hD5 : Below nb W8 w5 := hBW.trans hB5
            have hs5 : W8.heap.size ≤ w5.heap.size := Nat.le_trans (by simp; omega) hB5.size
            clear hown5 hgrow5 hB5 hat5
            go_wp2_with fail
            go_roundw
            case rel => exact ⟨k + 1, by omega, by go_num, by rw [HT.out, List.length_append]; exact HO5.out, HF5.out, (by simp [Value.ownBlock]; exact hne5), hD5, hs5⟩
            case measure => simp [intOf]; omega
        · have HK4 : Hid (k = 4) := by show _ = _; omega
          have hkni : ¬ (k : Int) < 4 := by omega
          have hos := HO.out
          rw [HK4.out, offK_all] at hos
          obtain ⟨os, hoe⟩ : ∃ os, offs kd = os := ⟨_, rfl⟩
          rw [hoe] at hos
          have hol2 := offs_len kd
          rw [hoe] at hol2
          have hom := offs_mem kd
          rw [hoe] at hom
          have HOE := Lib.hid hoe
          have HOM := Lib.hid hom
          clear hoe hom
          obtain ⟨h, c9, rfl⟩ := own_shape hos (by omega)
          have hptr : ∀ i, i < os.length → wr.cell? ⟨h, i, none⟩ = some (.pointer (some ⟨W1.heap.size, os.getD i 0, none⟩)) := fun i hi => by
            have ha : ∀ n, (⟨h, 0, none⟩ : Addr).add n = ⟨h, 0 + n, none⟩ := fun n => by unfold Addr.add; split <;> simp_all
            have := hos.cells (g := h) rfl i (.pointer (some ⟨W1.heap.size, os.getD i 0, none⟩)) (by rw [ptrCells, List.getElem?_map, List.getD_eq_getElem?_getD, List.getElem?_eq_getElem hi]; rfl)
            rw [ha, Nat.zero_add] at this
            exact this
          have hlh := hos.lt h rfl
          have HPT := Lib.hid hptr
          have hc9 : os.length ≤ c9 ∧ c9 ≤ maxLen := by
            rcases hos.2 with ⟨e, _⟩ | ⟨g', cap', cur', e, _, _, hn', hm', _⟩
            · cases e
            · cases e; exact ⟨hn', hm'⟩
          unfold maxLen at hc9
          have hrbR := (hBn.block w.heap.size (by omega)).trans ((hD8.block w.heap.size hrl).trans hrb)
          have htbR := (hBn.block tb (by omega)).trans ((hD8.block tb htl).trans htb)
          have hebR := (hBn.block W1.heap.size hel).trans heb8
          have HCR : Hid (∀ j, j < ws.length → wr.cell? ⟨A, j, none⟩ = some (.string ⟨(ws.getD j []).toArray⟩)) := fun j hj => (hBn.cell (p := ⟨A, j, none⟩) (show A < nb by omega)).trans ((hD8.cell (p := ⟨A, j, none⟩) hAl2).trans (HC1.out j hj))
          have hDR : Below W1.heap.size W1 wr := hD8.trans (hBn.mono (by omega))
          have hBR : Below w.heap.size w wr := hB2.trans (hDR.mono hB2.size)
          have hAr : A < wr.heap.size := Nat.lt_of_lt_of_le hAl2 hDR.size
          have htr : tb < wr.heap.size := Nat.lt_of_lt_of_le htl hDR.size
          have her : W1.heap.size < wr.heap.size := blk_lt hebR
          have t4 := cell_blk htbR 0
          simp only [List.getElem?_toArray, List.getElem?_cons_zero] at t4
          clear hos hptr HO HF hne hBn hD8 heb8 HO8 HF8 hgn hD6 heb6
          by_cases hlen : ws.length = 2 * os.length
          · have hli : ((ws.length : Int) != 2 * (os.length : Int)) = false := by simp; omega
            have hlq : (ws.length : Int) = 2 * (os.length : Int) := by omega
            have hmle := HOE.out
            clear hmle hlen
            go_wp2_with fail
            generalize wr = wq at *
            have HLQ := Lib.hid hlq
            clear hlq hli
            go_loopw [56] (fun i wr => ∃ (n : Nat) (y : Ent), n ≤ os.length ∧ i = .int .i64 n ∧ wq.grownBy wr (some W1.heap.size) ∧ wr.heap[W1.heap.size]? = some (.cells (entVals y).toArray 37 (0, 0)) ∧ Hid (∀ z, IsT s.data.toList z → y = mix z n)) (fun i _ => os.length - (intOf i).toNat)
            case atStart => exact ⟨0, base kd, by omega, rfl, grown_refl _ _, hebR, fun z hz => by rw [← HKD.out, kind_of hz]; rfl⟩
            case round =>
              obtain ⟨n, y, hn9, rfl, hg9, heb9, hmx⟩ := hrel
              have hB9 : Below w.heap.size w wr := Below.grown hBR hg9 hBR.size (fun j e => by simp at e; omega)
              have hrb9 := (hg9.block w.heap.size (by omega) (by simp; omega)).trans hrbR
              have t9 : wr.cell? ⟨tb, 0, none⟩ = some (.slice (some ⟨A, 0, none⟩) ws.length ws.length) := (World.cell?_of_block (a := ⟨tb, 0, none⟩) (hg9.block tb htr (by simp; omega))).trans t4
              have ht9 : tb < wr.heap.size := Nat.lt_of_lt_of_le htr hg9.size
              have hA9 : A < wr.heap.size := Nat.lt_of_lt_of_le hAr hg9.size
              have hh9 : h < wr.heap.size := Nat.lt_of_lt_of_le hlh.2 hg9.size
              by_cases hlt9 : n < os.length
              · have p9 : wr.cell? ⟨h, n, none⟩ = some (.pointer (some ⟨W1.heap.size, os.getD n 0, none⟩)) := (World.cell?_of_block (a := ⟨h, n, none⟩) (hg9.block h hlh.2 (by simp; omega))).trans (HPT.out n hlt9)
                have hwi : widx n < ws.length := by have := HLQ.out; unfold widx; split <;> omega
                have x9 : wr.cell? ⟨A, widx n, none⟩ = some (.string ⟨(ws.getD (widx n) []).toArray⟩) := (World.cell?_of_block (a := ⟨A, widx n, none⟩) (hg9.block A hAr (by simp; omega))).trans (HCR.out _ hwi)
                have hsz9 := HSZ.out _ hwi
                have HWN : Hid (∀ z, IsT s.data.toList z → Lib.atoiAll (ws.getD (widx n) []) = .ok (getO z (os.getD n 0))) := fun z hz => word_num hz HW.out HKD.out HOE.out hlt9
                have HMN : Hid (∀ z, IsT s.data.toList z → setO y (os.getD n 0) (getO z (os.getD n 0)) = mix z (n + 1)) := fun z hz => mix_next hz HKD.out HOE.out hlt9 (hmx.out z hz)
                have hon := HOM.out _ (getD_mem_nat hlt9)
                have hno := getO_row y (os.getD n 0) hon
                have HSR := Lib.hid (fun x => setO_row y (os.getD n 0) x hon)
                have hsb : (⟨(ws.getD (widx n) []).toArray⟩ : ByteArray).size ≤ 70000 := by rw [mk_size]; exact hsz9
                have hsl : (⟨(ws.getD (widx n) []).toArray⟩ : ByteArray).data.toList = ws.getD (widx n) [] := by simp
                have HSL := Lib.hid hsl
                have hGR := hG.below hB9
                have hcn := (cell_blk heb9 (os.getD n 0)).trans hno
                clear hon hno hsl
                generalize os.getD n 0 = o at *
                generalize ws.getD (widx n) [] = wd at *
                have hni : (n : Int) < os.length := by omega
                have HMAIN : Hid (∀ w10, Below wr.heap.size wr w10 → w10.heap[W1.heap.size]? = some (.cells (entVals y).toArray 37 (0, 0)) ∧ w10.cell? ⟨W1.heap.size, o, none⟩ = some (.int .i64 (getO y o)) ∧ w10.frozen? ⟨W1.heap.size, o, none⟩ = false ∧ wq.grownBy w10 (some W1.heap.size) ∧ w10.heap[w.heap.size]? = some (.cells #[.int .i64 0, .int .i64 0, .int .i64 0, .int .i64 0, .int .i64 0, .int .i64 0] 37 (0, 0)) ∧ Below w.heap.size w w10) := fun w10 hb => by
                  have e := (hb.block W1.heap.size (blk_lt heb9)).trans heb9
                  exact ⟨e, (hb.cell (p := ⟨W1.heap.size, o, none⟩) (blk_lt heb9)).trans hcn, frozen_blk e o, grown_below hg9 hb, (hb.block w.heap.size (by omega)).trans hrb9, bt' hB9 hb hB9.size⟩
                have hgoal : ∀ w10, Below wr.heap.size wr w10 → True := fun _ _ => trivial
                clear hgoal hcn
                by_cases hn0 : n = 0
                · have hkp : decide (0 < n) = false := by simp; omega
                  have hwx : widx n = 0 := by simp [widx, hn0]
                  rw [hwx] at x9
                  have hn0' := Lib.hid hn0
                  clear hwi hwx hn0
                  have HAT := Lib.hid (fun v hv => atoi_ok ⟨wd.toArray⟩ hsb v (by rw [HSL.out]; exact hv) wr)
                  have HAB := Lib.hid (fun hv => atoi_bad ⟨wd.toArray⟩ hsb (by rw [HSL.out]; exact hv) wr hGR)
                  cases ha : Lib.atoiAll wd with
                  | ok v =>
                    have HV : Hid (∀ z, IsT s.data.toList z → setO y o v = mix z (n + 1)) := fun z hz => by
                      have h1 := HWN.out z hz
                      rw [ha] at h1
                      cases h1
                      exact HMN.out z hz
                    have HC := Lib.hid (HAT.out v ha)
                    clear ha HAT HAB
                    go_wp2_with fail
                    refine HC.out.mono ?_
                    rintro e w10 ⟨rfl, hb10⟩
                    obtain ⟨g1, g2, g3, g4, g5, g6⟩ := HMAIN.out w10 hb10
                    have hel10 := blk_lt g1
                    have g7 := grown_set g4 o (.int .i64 v)
                    have g8 := heap_set g1 (i := o) (.int .i64 v)
                    rw [HSR.out v] at g8
                    have G7 := Lib.hid g7
                    have G8 := Lib.hid g8
                    clear hb10 g7 g8 g4 g5 g6 g1
                    go_wp2_with fail
                    go_roundw
                    case rel => exact ⟨n + 1, setO y o v, by omega, by go_num, G7.out, G8.out, HV⟩
                    case measure => simp [intOf]; omega
                  | «syntax» =>
                    have HNO : Hid (∀ z, IsT s.data.toList z → False) := fun z hz => by have h1 := HWN.out z hz; rw [ha] at h1; cases h1
                    have HC := Lib.hid (HAB.out (fun v hv => by rw [ha] at hv; cases hv))
                    clear ha HAT HAB
                    go_wp2_with fail
                    refine HC.out.mono ?_
                    rintro e w10 ⟨⟨nn, tt, NN, rfl⟩, hb10⟩
                    obtain ⟨g1, g2, g3, g4, g5, g6⟩ := HMAIN.out w10 hb10
                    clear hb10 g1 g2 g3 g4
                    go_wp2_with (refine wpList_store_row rfl 37 _ _ rfl w.heap.size #[.int .i64 0, .int .i64 0, .int .i64 0, .int .i64 0, .int .i64 0, .int .i64 0] (by kernel_rfl) (by kernel_rfl) 37 #[.int .i64 0, .int .i64 0, .int .i64 0, .int .i64 0, .int .i64 0, .int .i64 0] g5 (by kernel_rfl) (by kernel_rfl) (by kernel_rfl) ?_)
                    refine bodyPost_ret (res29 _ _ w.heap.size Ent.zero false (by kernel_rfl) (by kernel_rfl) (row_set g5 _)) rfl ?_
                    exact ⟨Ent.zero, false, rfl, below_setRow g6 (Nat.le_refl _) _, (fun h => by cases h), fun z hz => (HNO.out z hz).elim⟩
                  | range =>
                    have HNO : Hid (∀ z, IsT s.data.toList z → False) := fun z hz => by have h1 := HWN.out z hz; rw [ha] at h1; cases h1
                    have HC := Lib.hid (HAB.out (fun v hv => by rw [ha] at hv; cases hv))
                    clear ha HAT HAB
                    go_wp2_with fail
                    refine HC.out.mono ?_
                    rintro e w10 ⟨⟨nn, tt, NN, rfl⟩, hb10⟩
                    obtain ⟨g1, g2, g3, g4, g5, g6⟩ := HMAIN.out w10 hb10
                    clear hb10 g1 g2 g3 g4
                    go_wp2_with (refine wpList_store_row rfl 37 _ _ rfl w.heap.size #[.int .i64 0, .int .i64 0, .int .i64 0, .int .i64 0, .int .i64 0, .int .i64 0] (by kernel_rfl) (by kernel_rfl) 37 #[.int .i64 0, .int .i64 0, .int .i64 0, .int .i64 0, .int .i64 0, .int .i64 0] g5 (by kernel_rfl) (by kernel_rfl) (by kernel_rfl) ?_)
                    refine bodyPost_ret (res29 _ _ w.heap.size Ent.zero false (by kernel_rfl) (by kernel_rfl) (row_set g5 _)) rfl ?_
                    exact ⟨Ent.zero, false, rfl, below_setRow g6 (Nat.le_refl _) _, (fun h => by cases h), fun z hz => (HNO.out z hz).elim⟩
                · obtain ⟨m9, hm9⟩ : ∃ m9, m9 = widx n := ⟨_, rfl⟩
                  have hkp : decide (0 < n) = true := by simp; omega
                  have hmv : (2 * (n : Int) + 1) = (m9 : Int) := by rw [hm9, widx, if_neg hn0]; omega
                  rw [← hm9] at x9 hwi
                  have hwi2 : (m9 : Int) < ws.length := by omega
                  have hm90 : (0 : Int) ≤ m9 := by omega
                  have hn4 : n ≤ 5 := by omega
                  have hw1 : IntKind.i64.wrap (2 * (n : Int)) = 2 * (n : Int) := IntWalk.i64_in _ (by omega)
                  have hw2 : IntKind.i64.wrap (2 * (n : Int) + 1) = m9 := by rw [hmv]; exact IntWalk.i64_in _ (by omega)
                  clear hn0 hm9
                  have HAT := Lib.hid (fun v hv => atoi_ok ⟨wd.toArray⟩ hsb v (by rw [HSL.out]; exact hv) wr)
                  have HAB := Lib.hid (fun hv => atoi_bad ⟨wd.toArray⟩ hsb (by rw [HSL.out]; exact hv) wr hGR)
                  cases ha : Lib.atoiAll wd with
                  | ok v =>
                    have HV : Hid (∀ z, IsT s.data.toList z → setO y o v = mix z (n + 1)) := fun z hz => by
                      have h1 := HWN.out z hz
                      rw [ha] at h1
                      cases h1
                      exact HMN.out z hz
                    have HC := Lib.hid (HAT.out v ha)
                    clear ha HAT HAB
                    go_wp2_with fail
                    refine HC.out.mono ?_
                    rintro e w10 ⟨rfl, hb10⟩
                    obtain ⟨g1, g2, g3, g4, g5, g6⟩ := HMAIN.out w10 hb10
                    have hel10 := blk_lt g1
                    have g7 := grown_set g4 o (.int .i64 v)
                    have g8 := heap_set g1 (i := o) (.int .i64 v)
                    rw [HSR.out v] at g8
                    have G7 := Lib.hid g7
                    have G8 := Lib.hid g8
                    clear hb10 g7 g8 g4 g5 g6 g1
                    go_wp2_with fail
                    go_roundw
                    case rel => exact ⟨n + 1, setO y o v, by omega, by go_num, G7.out, G8.out, HV⟩
                    case measure => simp [intOf]; omega
                  | «syntax» =>
                    have HNO : Hid (∀ z, IsT s.data.toList z → False) := fun z hz => by have h1 := HWN.out z hz; rw [ha] at h1; cases h1
                    have HC := Lib.hid (HAB.out (fun v hv => by rw [ha] at hv; cases hv))
                    clear ha HAT HAB
                    go_wp2_with fail
                    refine HC.out.mono ?_
                    rintro e w10 ⟨⟨nn, tt, NN, rfl⟩, hb10⟩
                    obtain ⟨g1, g2, g3, g4, g5, g6⟩ := HMAIN.out w10 hb10
                    clear hb10 g1 g2 g3 g4
                    go_wp2_with (refine wpList_store_row rfl 37 _ _ rfl w.heap.size #[.int .i64 0, .int .i64 0, .int .i64 0, .int .i64 0, .int .i64 0, .int .i64 0] (by kernel_rfl) (by kernel_rfl) 37 #[.int .i64 0, .int .i64 0, .int .i64 0, .int .i64 0, .int .i64 0, .int .i64 0] g5 (by kernel_rfl) (by kernel_rfl) (by kernel_rfl) ?_)
                    refine bodyPost_ret (res29 _ _ w.heap.size Ent.zero false (by kernel_rfl) (by kernel_rfl) (row_set g5 _)) rfl ?_
                    exact ⟨Ent.zero, false, rfl, below_setRow g6 (Nat.le_refl _) _, (fun h => by cases h), fun z hz => (HNO.out z hz).elim⟩
                  | range =>
                    have HNO : Hid (∀ z, IsT s.data.toList z → False) := fun z hz => by have h1 := HWN.out z hz; rw [ha] at h1; cases h1
                    have HC := Lib.hid (HAB.out (fun v hv => by rw [ha] at hv; cases hv))
                    clear ha HAT HAB
                    go_wp2_with fail
                    refine HC.out.mono ?_
                    rintro e w10 ⟨⟨nn, tt, NN, rfl⟩, hb10⟩
                    obtain ⟨g1, g2, g3, g4, g5, g6⟩ := HMAIN.out w10 hb10
                    clear hb10 g1 g2 g3 g4
                    go_wp2_with (refine wpList_store_row rfl 37 _ _ rfl w.heap.size #[.int .i64 0, .int .i64 0, .int .i64 0, .int .i64 0, .int .i64 0, .int .i64 0] (by kernel_rfl) (by kernel_rfl) 37 #[.int .i64 0, .int .i64 0, .int .i64 0, .int .i64 0, .int .i64 0, .int .i64 0] g5 (by kernel_rfl) (by kernel_rfl) (by kernel_rfl) ?_)
                    refine bodyPost_ret (res29 _ _ w.heap.size Ent.zero false (by kernel_rfl) (by kernel_rfl) (row_set g5 _)) rfl ?_
                    exact ⟨Ent.zero, false, rfl, below_setRow g6 (Nat.le_refl _) _, (fun h => by cases h), fun z hz => (HNO.out z hz).elim⟩
              · obtain rfl : n = os.length := by omega
                have HMX : Hid (∀ z, IsT s.data.toList z → y = z) := fun z hz => by
                  have h1 := hmx.out z hz
                  rw [show os.length = (offs z.k).length by rw [← HOE.out, ← HKD.out, kind_of hz], mix_all hz.1] at h1
                  exact h1
                have c0 := cell_blk heb9 0
                have c1 := cell_blk heb9 1
                have c2 := cell_blk heb9 2
                have c3 := cell_blk heb9 3
                have c4 := cell_blk heb9 4
                have c5 := cell_blk heb9 5
                simp only [entVals, List.getElem?_toArray, List.getElem?_cons_zero, List.getElem?_cons_succ] at c0 c1 c2 c3 c4 c5
                have hel9 := blk_lt heb9
                have hGR := hG.below hB9
                clear hmx heb9 hg9 t9
                cases hE : (entE y == 0)
                all_goals
                  have hd0 : Below wr.heap.size wr wr.drew := Below.drew (Below.refl _ _)
                  go_wp2_with fail
                  refine wp_region_held_drew (S := fun w' => w'.cell? ⟨W1.heap.size, 0, none⟩ = some (.int .i64 y.t) ∧ w'.cell? ⟨W1.heap.size, 1, none⟩ = some (.int .i64 y.k) ∧ w'.cell? ⟨W1.heap.size, 2, none⟩ = some (.int .i64 y.n) ∧ w'.cell? ⟨W1.heap.size, 3, none⟩ = some (.int .i64 y.j) ∧ w'.cell? ⟨W1.heap.size, 4, none⟩ = some (.int .i64 y.c) ∧ w'.cell? ⟨W1.heap.size, 5, none⟩ = some (.int .i64 y.v)) (by kernel_rfl) ⟨c0, c1, c2, c3, c4, c5⟩ (fun hHeld => ?_)
                  generalize hX0 : wr.drew = ud at *
                  clear hX0
                  (refine wpAnyH_take (i := 0) (v := ?_) rfl (by kernel_rfl) (by kernel_rfl) (by kernel_rfl) (fun _ _ _ h => h) (Or.inl ⟨by kernel_rfl, fun w0 hSw => ?_⟩) hHeld ?_; rotate_left; (focus ((try dsimp only at hSw); simp only [List.getElem_toArray, List.getElem_cons_zero]; (first | (go_simp; done) | (go_simp; with_reducible rfl)))); (try simp only [List.getElem_toArray, List.getElem_cons_zero, Act.put, List.setIfInBounds_toArray, List.set_cons_zero, List.set_cons_succ]))
                  (refine wpAnyH_take (i := 1) (v := ?_) rfl (by kernel_rfl) (by kernel_rfl) (by kernel_rfl) (fun _ _ _ h => h) (Or.inl ⟨by kernel_rfl, fun w0 hSw => ?_⟩) hHeld ?_; rotate_left; (focus ((try dsimp only at hSw); simp only [List.getElem_toArray, List.getElem_cons_zero, List.getElem_cons_succ]; (first | (go_simp; done) | (go_simp; with_reducible rfl)))); (try simp only [List.getElem_toArray, List.getElem_cons_zero, List.getElem_cons_succ, Act.put, List.setIfInBounds_toArray, List.set_cons_zero, List.set_cons_succ]))
                  refine wpAnyH_ready (rs := [2]) (by kernel_rfl) (by simp) ?_
                  refine AllReadyH.cons rfl (fun K hK => ?_) AllReadyH.nil
                  simp only [List.getElem_toArray, List.getElem_cons_zero, List.getElem_cons_succ]
                  go_simp
                  refine (entry_any y ud).mono ?_
                  rintro e u1 ⟨rfl, hb1⟩
                  have hd1 := hd0.trans (hb1.mono hd0.size)
                  clear hb1
                  go_wp2_with fail
                  refine hK.out _ _ ⟨(hd1.cell (p := ⟨W1.heap.size, 0, none⟩) hel9).trans c0, (hd1.cell (p := ⟨W1.heap.size, 1, none⟩) hel9).trans c1, (hd1.cell (p := ⟨W1.heap.size, 2, none⟩) hel9).trans c2, (hd1.cell (p := ⟨W1.heap.size, 3, none⟩) hel9).trans c3, (hd1.cell (p := ⟨W1.heap.size, 4, none⟩) hel9).trans c4, (hd1.cell (p := ⟨W1.heap.size, 5, none⟩) hel9).trans c5⟩ (fun hHeld => ?_)
                  clear hK K
                  (try simp only [List.getElem_toArray, List.getElem_cons_zero, List.getElem_cons_succ, Act.put, List.setIfInBounds_toArray, List.set_cons_zero, List.set_cons_succ])
                  (refine wpAnyH_take (i := 3) (v := ?_) rfl (by kernel_rfl) (by kernel_rfl) (by kernel_rfl) (fun _ _ _ h => h) (Or.inl ⟨by kernel_rfl, fun w0 hSw => ?_⟩) hHeld ?_; rotate_left; (focus ((try dsimp only at hSw); simp only [List.getElem_toArray, List.getElem_cons_zero, List.getElem_cons_succ]; (first | (go_simp; done) | (go_simp; with_reducible rfl)))); (try simp only [List.getElem_toArray, List.getElem_cons_zero, List.getElem_cons_succ, Act.put, List.setIfInBounds_toArray, List.set_cons_zero, List.set_cons_succ]))
                  (refine wpAnyH_take (i := 4) (v := ?_) rfl (by kernel_rfl) (by kernel_rfl) (by kernel_rfl) (fun _ _ _ h => h) (Or.inl ⟨by kernel_rfl, fun w0 hSw => ?_⟩) hHeld ?_; rotate_left; (focus ((try dsimp only at hSw); simp only [List.getElem_toArray, List.getElem_cons_zero, List.getElem_cons_succ]; (first | (go_simp; done) | (go_simp; with_reducible rfl)))); (try simp only [List.getElem_toArray, List.getElem_cons_zero, List.getElem_cons_succ, Act.put, List.setIfInBounds_toArray, List.set_cons_zero, List.set_cons_succ]))
                · (refine wpAnyH_take (i := 5) rfl (by kernel_rfl) (by kernel_rfl) (by kernel_rfl) (fun _ _ _ h => h) (Or.inr ⟨by kernel_rfl, rfl⟩) hHeld ?_; (try simp only [List.getElem_toArray, List.getElem_cons_zero, List.getElem_cons_succ, Act.put, List.setIfInBounds_toArray, List.set_cons_zero, List.set_cons_succ]))
                  (refine wpAnyH_take (i := 6) rfl (by kernel_rfl) (by kernel_rfl) (by kernel_rfl) (fun _ _ _ h => h) (Or.inr ⟨by kernel_rfl, rfl⟩) hHeld ?_; (try simp only [List.getElem_toArray, List.getElem_cons_zero, List.getElem_cons_succ, Act.put, List.setIfInBounds_toArray, List.set_cons_zero, List.set_cons_succ]))
                  (refine wpAnyH_take (i := 7) rfl (by kernel_rfl) (by kernel_rfl) (by kernel_rfl) (fun _ _ _ h => h) (Or.inr ⟨by kernel_rfl, rfl⟩) hHeld ?_; (try simp only [List.getElem_toArray, List.getElem_cons_zero, List.getElem_cons_succ, Act.put, List.setIfInBounds_toArray, List.set_cons_zero, List.set_cons_succ]))
                  (refine wpAnyH_take (i := 8) rfl (by kernel_rfl) (by kernel_rfl) (by kernel_rfl) (fun _ _ _ h => h) (Or.inr ⟨by kernel_rfl, rfl⟩) hHeld ?_; (try simp only [List.getElem_toArray, List.getElem_cons_zero, List.getElem_cons_succ, Act.put, List.setIfInBounds_toArray, List.set_cons_zero, List.set_cons_succ]))
                  (refine wpAnyH_take (i := 9) (v := ?_) rfl (by kernel_rfl) (by kernel_rfl) (by kernel_rfl) (fun _ _ _ h => h) (Or.inl ⟨by kernel_rfl, fun w0 hSw => ?_⟩) hHeld ?_; rotate_left; (focus ((try dsimp only at hSw); simp only [List.getElem_toArray, List.getElem_cons_zero, List.getElem_cons_succ]; (first | (go_simp; done) | (go_simp; with_reducible rfl)))); (try simp only [List.getElem_toArray, List.getElem_cons_zero, List.getElem_cons_succ, Act.put, List.setIfInBounds_toArray, List.set_cons_zero, List.set_cons_succ]))
                  have hrbU := (hd1.block w.heap.size (by omega)).trans hrb9
                  refine wpAnyH_ready (rs := [10]) (by kernel_rfl) (by simp) ?_
                  refine AllReadyH.cons rfl (fun K hK => ?_) AllReadyH.nil
                  simp only [List.getElem_toArray, List.getElem_cons_zero, List.getElem_cons_succ]
                  rw [if_pos (by simp [Region.wanted])]
                  refine wp_store_row 37 (.tmp 2) (.tmp 81) rfl w.heap.size (entVals y).toArray (by kernel_rfl) (by kernel_rfl) 37 #[.int .i64 0, .int .i64 0, .int .i64 0, .int .i64 0, .int .i64 0, .int .i64 0] hrbU (by kernel_rfl) (by kernel_rfl) (by kernel_rfl) ?_
                  have hz : ∀ k, (u1.setRow w.heap.size (entVals y).toArray).cell? ⟨W1.heap.size, k, none⟩ = u1.cell? ⟨W1.heap.size, k, none⟩ := fun k => World.cell?_of_block (a := ⟨W1.heap.size, k, none⟩) (row_other _ (show W1.heap.size ≠ w.heap.size by omega))
                  refine hK.out _ _ ⟨(hz 0).trans ((hd1.cell (p := ⟨W1.heap.size, 0, none⟩) hel9).trans c0), (hz 1).trans ((hd1.cell (p := ⟨W1.heap.size, 1, none⟩) hel9).trans c1), (hz 2).trans ((hd1.cell (p := ⟨W1.heap.size, 2, none⟩) hel9).trans c2), (hz 3).trans ((hd1.cell (p := ⟨W1.heap.size, 3, none⟩) hel9).trans c3), (hz 4).trans ((hd1.cell (p := ⟨W1.heap.size, 4, none⟩) hel9).trans c4), (hz 5).trans ((hd1.cell (p := ⟨W1.heap.size, 5, none⟩) hel9).trans c5)⟩ (fun hHeld => ?_)
                  clear hK K
                  (try simp only [Act.put])
                  (refine wpAnyH_take (i := 11) (v := ?_) rfl (by kernel_rfl) (by kernel_rfl) (by kernel_rfl) (fun _ _ _ h => h) (Or.inl ⟨by kernel_rfl, fun w0 hSw => ?_⟩) hHeld ?_; rotate_left; (focus ((try dsimp only at hSw); simp only [List.getElem_toArray, List.getElem_cons_zero, List.getElem_cons_succ]; (first | (go_simp; done) | (go_simp; with_reducible rfl)))); (try simp only [List.getElem_toArray, List.getElem_cons_zero, List.getElem_cons_succ, Act.put, List.setIfInBounds_toArray, List.set_cons_zero, List.set_cons_succ]))
                  refine wpAnyH_done (by kernel_rfl) ?_ _
                  clear hHeld
                  go_wp2_with fail
                  refine bodyPost_ret (res29 _ _ w.heap.size y false (by kernel_rfl) (by kernel_rfl) (row_set hrbU _)) rfl ?_
                  exact ⟨y, false, rfl, below_setRow (hB9.trans (hd1.mono hB9.size)) (Nat.le_refl _) _, (fun h => by cases h), fun z hz => by
                    have h1 := HMX.out z hz
                    rw [h1, hz.1] at hE
                    cases hE⟩
                · have hE0 : entE y = 0 := by simpa using hE
                  (refine wpAnyH_take (i := 5) (v := ?_) rfl (by kernel_rfl) (by kernel_rfl) (by kernel_rfl) (fun _ _ _ h => h) (Or.inl ⟨by kernel_rfl, fun w0 hSw => ?_⟩) hHeld ?_; rotate_left; (focus ((try dsimp only at hSw); simp only [List.getElem_toArray, List.getElem_cons_zero, List.getElem_cons_succ]; (first | (go_simp; done) | (go_simp; with_reducible rfl)))); (try simp only [List.getElem_toArray, List.getElem_cons_zero, List.getElem_cons_succ, Act.put, List.setIfInBounds_toArray, List.set_cons_zero, List.set_cons_succ]))
                  (refine wpAnyH_take (i := 7) (v := ?_) rfl (by kernel_rfl) (by kernel_rfl) (by kernel_rfl) (fun _ _ _ h => h) (Or.inl ⟨by kernel_rfl, fun w0 hSw => ?_⟩) hHeld ?_; rotate_left; (focus ((try dsimp only at hSw); simp only [List.getElem_toArray, List.getElem_cons_zero, List.getElem_cons_succ]; (first | (go_simp; done) | (go_simp; with_reducible rfl)))); (try simp only [List.getElem_toArray, List.getElem_cons_zero, List.getElem_cons_succ, Act.put, List.setIfInBounds_toArray, List.set_cons_zero, List.set_cons_succ]))
                  refine wpAnyH_ready (rs := [6]) (by kernel_rfl) (by simp) ?_
                  refine AllReadyH.cons rfl (fun K hK => ?_) AllReadyH.nil
                  simp only [List.getElem_toArray, List.getElem_cons_zero, List.getElem_cons_succ]
                  go_simp
                  refine (text_any y u1 (hGR.below hd1) hE0).mono ?_
                  rintro e u2 ⟨rfl, hb2⟩
                  have hd2 := hd1.trans (hb2.mono hd1.size)
                  clear hb2
                  go_wp2_with fail
                  refine hK.out _ _ ⟨(hd2.cell (p := ⟨W1.heap.size, 0, none⟩) hel9).trans c0, (hd2.cell (p := ⟨W1.heap.size, 1, none⟩) hel9).trans c1, (hd2.cell (p := ⟨W1.heap.size, 2, none⟩) hel9).trans c2, (hd2.cell (p := ⟨W1.heap.size, 3, none⟩) hel9).trans c3, (hd2.cell (p := ⟨W1.heap.size, 4, none⟩) hel9).trans c4, (hd2.cell (p := ⟨W1.heap.size, 5, none⟩) hel9).trans c5⟩ (fun hHeld => ?_)
                  clear hK K
                  (try simp only [List.getElem_toArray, List.getElem_cons_zero, List.getElem_cons_succ, Act.put, List.setIfInBounds_toArray, List.set_cons_zero, List.set_cons_succ])
                  (refine wpAnyH_take (i := 8) (v := ?_) rfl (by kernel_rfl) (by kernel_rfl) (by kernel_rfl) (fun _ _ _ h => h) (Or.inl ⟨by kernel_rfl, fun w0 hSw => ?_⟩) hHeld ?_; rotate_left; (focus ((try dsimp only at hSw); simp only [List.getElem_toArray, List.getElem_cons_zero, List.getElem_cons_succ]; (first | (go_simp; done) | (go_simp; with_reducible rfl)))); (try simp only [List.getElem_toArray, List.getElem_cons_zero, List.getElem_cons_succ, Act.put, List.setIfInBounds_toArray, List.set_cons_zero, List.set_cons_succ]))
                  (refine wpAnyH_take (i := 9) (v := ?_) rfl (by kernel_rfl) (by kernel_rfl) (by kernel_rfl) (fun _ _ _ h => h) (Or.inl ⟨by kernel_rfl, fun w0 hSw => ?_⟩) hHeld ?_; rotate_left; (focus ((try dsimp only at hSw); simp only [List.getElem_toArray, List.getElem_cons_zero, List.getElem_cons_succ]; (first | (go_simp; done) | (go_simp; with_reducible rfl)))); (try simp only [List.getElem_toArray, List.getElem_cons_zero, List.getElem_cons_succ, Act.put, List.setIfInBounds_toArray, List.set_cons_zero, List.set_cons_succ]))
                  have hrbU := (hd2.block w.heap.size (by omega)).trans hrb9
                  refine wpAnyH_ready (rs := [10]) (by kernel_rfl) (by simp) ?_
                  refine AllReadyH.cons rfl (fun K hK => ?_) AllReadyH.nil
                  simp only [List.getElem_toArray, List.getElem_cons_zero, List.getElem_cons_succ]
                  rw [if_pos (by simp [Region.wanted])]
                  refine wp_store_row 37 (.tmp 2) (.tmp 81) rfl w.heap.size (entVals y).toArray (by kernel_rfl) (by kernel_rfl) 37 #[.int .i64 0, .int .i64 0, .int .i64 0, .int .i64 0, .int .i64 0, .int .i64 0] hrbU (by kernel_rfl) (by kernel_rfl) (by kernel_rfl) ?_
                  have hz : ∀ k, (u2.setRow w.heap.size (entVals y).toArray).cell? ⟨W1.heap.size, k, none⟩ = u2.cell? ⟨W1.heap.size, k, none⟩ := fun k => World.cell?_of_block (a := ⟨W1.heap.size, k, none⟩) (row_other _ (show W1.heap.size ≠ w.heap.size by omega))
                  refine hK.out _ _ ⟨(hz 0).trans ((hd2.cell (p := ⟨W1.heap.size, 0, none⟩) hel9).trans c0), (hz 1).trans ((hd2.cell (p := ⟨W1.heap.size, 1, none⟩) hel9).trans c1), (hz 2).trans ((hd2.cell (p := ⟨W1.heap.size, 2, none⟩) hel9).trans c2), (hz 3).trans ((hd2.cell (p := ⟨W1.heap.size, 3, none⟩) hel9).trans c3), (hz 4).trans ((hd2.cell (p := ⟨W1.heap.size, 4, none⟩) hel9).trans c4), (hz 5).trans ((hd2.cell (p := ⟨W1.heap.size, 5, none⟩) hel9).trans c5)⟩ (fun hHeld => ?_)
                  clear hK K
                  (try simp only [Act.put])
                  (refine wpAnyH_take (i := 11) (v := ?_) rfl (by kernel_rfl) (by kernel_rfl) (by kernel_rfl) (fun _ _ _ h => h) (Or.inl ⟨by kernel_rfl, fun w0 hSw => ?_⟩) hHeld ?_; rotate_left; (focus ((try dsimp only at hSw); simp only [List.getElem_toArray, List.getElem_cons_zero, List.getElem_cons_succ]; (first | (go_simp; done) | (go_simp; with_reducible rfl)))); (try simp only [List.getElem_toArray, List.getElem_cons_zero, List.getElem_cons_succ, Act.put, List.setIfInBounds_toArray, List.set_cons_zero, List.set_cons_succ]))
                  refine wpAnyH_done (by kernel_rfl) ?_ _
                  clear hHeld
                  go_wp2_with fail
                  refine bodyPost_ret (res29 _ _ w.heap.size y (textL y == s.toList) (by kernel_rfl) (by kernel_rfl) (row_set hrbU _)) rfl ?_
                  exact ⟨y, _, rfl, below_setRow (hB9.trans (hd2.mono hB9.size)) (Nat.le_refl _) _, (fun h => ⟨hE0, by
                    have h1 := beq_iff_eq.1 h
                    rw [ByteArray.toList_eq] at h1
                    exact h1⟩), fun z hz => by
                    have h1 := HMX.out z hz
                    subst h1
                    exact ⟨by rw [beq_iff_eq, ByteArray.toList_eq]; exact hz.2, rfl⟩⟩
          · have HNO : Hid (∀ z, IsT s.data.toList z → False) := fun z hz => by
              have h1 := len_of hz
              rw [HW.out, HKD.out, HOE.out] at h1
              exact hlen h1
            have hli : ((ws.length : Int) != 2 * (os.length : Int)) = true := by simp; omega
            have hlq : ¬ (ws.length : Int) = 2 * (os.length : Int) := by omega
            go_wp2_with (refine wpList_store_row rfl 37 _ _ rfl w.heap.size #[.int .i64 0, .int .i64 0, .int .i64 0, .int .i64 0, .int .i64 0, .int .i64 0] (by kernel_rfl) (by kernel_rfl) 37 #[.int .i64 0, .int .i64 0, .int .i64 0, .int .i64 0, .int .i64 0, .int .i64 0] hrbR (by kernel_rfl) (by kernel_rfl) (by kernel_rfl) ?_)
            refine bodyPost_ret (res29 _ _ w.heap.size Ent.zero false (by kernel_rfl) (by kernel_rfl) (row_set hrbR _)) rfl ?_
            exact ⟨Ent.zero, false, rfl, below_setRow hBR (Nat.le_refl _) _, (fun h => by cases h), fun z hz => (HNO.out z hz).elim⟩
end Go.Proofs.YtekpnphfdoplfaaDoor

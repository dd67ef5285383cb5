/- What package-level variables hold; numbers and texts. -/
import Derived.Test.YtekpnphfdoplfaaDoorA8
import Derived.Test.YtekpnphfdoplfaaDoorSh
import Derived.Sort.Grow
namespace Go.Proofs.YtekpnphfdoplfaaDoor
open Go.RowKit Go.Sort
/-- what the package-level variables hold that the library reads -/
def Glob (w : World) : Prop := (∃ m, w.cell? ⟨0, 0, none⟩ = some (.int .i64 m)) ∧ Lib.TabIs Tryd.prog w "strings.asciiSpace" .u8 Lib.asciiSpaceTab ∧ Lib.WhiteTab 2 w ∧
  (∃ te pe, w.cell? ⟨3, 0, none⟩ = some (.iface te pe)) ∧ (∃ te pe, w.cell? ⟨4, 0, none⟩ = some (.iface te pe)) ∧ Lib.TabIs Tryd.prog w "internal/strconv.uint64pow10" .u64 Lib.pow10Tab
theorem Tryd.gPow : Tryd.prog.globalNamed "internal/strconv.uint64pow10" = some 5 := by kernel_rfl
theorem Tryd.gSpace : Tryd.prog.globalNamed "strings.asciiSpace" = some 1 := by kernel_rfl
theorem tabIs_keep {P : Program} {w w' : World} {nm : String} {k : IntKind} {zs : List Int} {g : Nat} (hg : P.globalNamed nm = some g) (h : Lib.TabIs P w nm k zs) (hb : w'.heap[g]? = w.heap[g]?) : Lib.TabIs P w' nm k zs := by
  unfold Lib.TabIs World.var? at h ⊢
  rw [hg] at h ⊢
  simp only [Option.bind_some] at h ⊢
  rw [hb]
  exact h
theorem tabIs_lt {P : Program} {w : World} {nm : String} {k : IntKind} {zs : List Int} {g : Nat} (hg : P.globalNamed nm = some g) (h : Lib.TabIs P w nm k zs) : g < w.heap.size := by
  unfold Lib.TabIs World.var? at h
  rw [hg] at h
  simp only [Option.bind_some] at h
  rcases Nat.lt_or_ge g w.heap.size with h' | h'
  · exact h'
  · rw [Array.getElem?_eq_none h'] at h
    simp at h
theorem cell_lt {w : World} {b o : Nat} {v : Value} (h : w.cell? ⟨b, o, none⟩ = some v) : b < w.heap.size := World.block_lt_of_cell? _ _ h
theorem Glob.below {w w' : World} (h : Glob w) (hb : Below w.heap.size w w') : Glob w' := by
  obtain ⟨⟨m, h1⟩, h2, h3, ⟨t1, p1, h4⟩, ⟨t2, p2, h5⟩, h6⟩ := h
  exact ⟨⟨m, (hb.cell (p := ⟨0, 0, none⟩) (cell_lt h1)).trans h1⟩, tabIs_keep Tryd.gSpace h2 (hb.block _ (tabIs_lt Tryd.gSpace h2)), WhiteTab_below h3 hb, ⟨t1, p1, (hb.cell (p := ⟨3, 0, none⟩) (cell_lt h4)).trans h4⟩, ⟨t2, p2, (hb.cell (p := ⟨4, 0, none⟩) (cell_lt h5)).trans h5⟩, tabIs_keep Tryd.gPow h6 (hb.block _ (tabIs_lt Tryd.gPow h6))⟩
theorem below_grow (w : World) (os : Array Obj) : Below w.heap.size w (grow w os) :=
  ⟨rfl, rfl, rfl, by simp [grow], fun k hk => by simp [grow, Array.getElem?_append, hk]⟩
theorem atoi_ok (s : ByteArray) (hs : s.size ≤ 70000) (v : Int) (h : Lib.atoiAll s.data.toList = .ok v) (w : World) : Calls Tryd.prog 51 #[.string s] w fun e w' => e = .returned (.tuple #[.int .i64 v, .nilIface]) ∧ Below w.heap.size w w' := by
  refine (Tryd.strconv_Atoi_ok s (by omega) v h w).mono ?_
  rintro e w' ⟨rfl, rfl | ⟨t, rfl⟩⟩
  · exact ⟨rfl, Below.refl _ _⟩
  · exact ⟨rfl, Lib.bytesWorld_below _ _ _⟩
theorem atoi_bad (s : ByteArray) (hs : s.size ≤ 70000) (h : ∀ v, Lib.atoiAll s.data.toList ≠ .ok v) (w : World) (hG : Glob w) : Calls Tryd.prog 51 #[.string s] w fun e w' => (∃ n t N, e = .returned (.tuple #[.int .i64 n, .iface t (.pointer (some ⟨N, 0, none⟩))])) ∧ Below w.heap.size w w' := by
  obtain ⟨_, _, _, ⟨t1, p1, h2⟩, ⟨t2, p2, h3⟩, _⟩ := hG
  cases ha : Lib.atoiAll s.data.toList with
  | ok v => exact absurd ha (h v)
  | «syntax» =>
    refine (Tryd.strconv_Atoi_syntax s (by omega) ha _ w h2 (.inr ⟨_, _, rfl⟩)).mono ?_
    rintro e w' ⟨N, rfl, _, _, hb⟩
    exact ⟨⟨_, _, N, rfl⟩, hb⟩
  | range =>
    refine (Tryd.strconv_Atoi_range s (by omega) ha _ w h3 (.inr ⟨_, _, rfl⟩)).mono ?_
    rintro e w' ⟨N, rfl, _, _, hb⟩
    exact ⟨⟨_, _, N, rfl⟩, hb⟩
theorem itoa_any (n : Int) (h0 : -9223372036854775808 ≤ n) (h1 : n ≤ 9223372036854775807) (w : World) (hG : Glob w) : Calls Tryd.prog 56 #[.int .i64 n] w fun e w' => e = .returned (.string ⟨(Lib.itoa n).toArray⟩) ∧ Below w.heap.size w w' := by
  refine (Tryd.strconv_Itoa n h0 h1 w hG.2.2.2.2.2).mono ?_
  rintro e w' ⟨rfl, k, os, rfl⟩
  exact ⟨rfl, (below_drewN (Below.refl _ w) k).trans (below_grow (w.drewN k) os)⟩
theorem cut_any (s : ByteArray) (hs : s.size ≤ 70000) (w : World) (hG : Glob w) : Calls Tryd.prog 25 #[.string s, .string ⟨#[10]⟩] w fun e w' => e = .returned (.tuple #[.string ⟨(Lib.cut s.data.toList [10]).1.toArray⟩, .string ⟨(Lib.cut s.data.toList [10]).2.1.toArray⟩, .bool (Lib.cut s.data.toList [10]).2.2]) ∧ ∃ q, w' = w.drewN q := by
  obtain ⟨⟨m, h1⟩, _⟩ := hG
  refine (Tryd.strings_Cut s ⟨#[10]⟩ m w (by omega) h1).mono ?_
  rintro e w' ⟨rfl, q, rfl⟩
  exact ⟨rfl, q, rfl⟩
/-- the words of an entry -/
def wordsL (x : Ent) : List (List UInt8) := Lib.itoa x.t :: wordL x.k :: (fldL x).flatMap fun f => if f.has = true then [f.wd, Lib.itoa f.n] else []
/-- the text of an entry -/
def textL (x : Ent) : List UInt8 := Lib.join (wordsL x) [32] ++ [10]
def strCells (l : List (List UInt8)) : List Value := l.map fun s => .string ⟨s.toArray⟩
theorem strCells_app (a b : List (List UInt8)) : strCells (a ++ b) = strCells a ++ strCells b := by simp [strCells]
theorem info9 : (Tryd.prog.info? 9).map (fun i => (i.zero, i.size, i.bytes)) = some (some (.string ⟨#[]⟩), 1, 16) := by kernel_rfl
/-- append of two strings, which lie in the block that was made last, at the operation -/
theorem wp_app_two {o : Oper} {a : Act} {K : Act → World → Prop} {Q : Exit → Act → World → Prop} (s x : Operand) (ho : o.op = .call { callee := .builtin .append, args := #[s, x], argTypes := #[73, 73] })
    (Wp : World) (base : Nat) (v : Value) (l : List (List UInt8)) (p q : List UInt8) (hs : a.eval s = v) (hx : a.eval x = .slice (some ⟨Wp.heap.size, 0, none⟩) 2 2) (hown : Wp.ownsRow base 9 1 v l.length (strCells l)) (hl : l.length ≤ 70000) (hbase : base ≤ Wp.heap.size)
    (h : ∀ g c w', w'.ownsRow base 9 1 (.slice (some ⟨g, 0, none⟩) (l.length + 2) c) (l ++ [p, q]).length (strCells (l ++ [p, q])) → Below base Wp w' → (Wp.alloc (.cells #[.string ⟨p.toArray⟩, .string ⟨q.toArray⟩] 9)).grownBy w' v.ownBlock → (v.ownBlock = some g ∨ Wp.heap.size + 1 = g) → K (a.put o.dst (.slice (some ⟨g, 0, none⟩) (l.length + 2) c)) w') : o.wp Tryd.prog a (Wp.alloc (.cells #[.string ⟨p.toArray⟩, .string ⟨q.toArray⟩] 9)) K Q := by
  obtain ⟨i0, hi, hz0, hz1, hz2⟩ := info_parts info9
  obtain ⟨v', w', hr, h2, h3, _, h5⟩ := run_append_own_at (P := Tryd.prog) (w := Wp.alloc (.cells #[.string ⟨p.toArray⟩, .string ⟨q.toArray⟩] 9)) base 73 o.type 9 i0 _ 1 16 Tryd.underlying73 hi hz0 hz1 hz2 rfl (by decide) v l.length (strCells l) (hown.alloc _) ⟨Wp.heap.size, 0, none⟩ 2 2 (strCells [p, q]) rfl (World.news_of_block (heap_alloc_last Wp _)) (by simp [strCells, Value.oneCell']) (by unfold maxLen; omega) (by omega) (by simp; omega)
  obtain ⟨g, c, rfl⟩ := own_shape h2 (by omega)
  unfold Oper.wp execOp
  simp only [ho, resolve, invoke, builtin, Sem.run_bind, Sem.run_pure, Result.andThen_ok, List.map_toArray, List.map_cons, List.map_nil, hs, hx, hr]
  exact h g c w' (by rw [List.length_append, strCells_app]; exact h2) (Below.grown ((Below.refl _ Wp).mono hbase |>.alloc hbase _) h3 (by simp; omega) (fun j e => (hown.lt j e).1)) h3 (h5.elim (fun e => .inl (e.symm.trans rfl)) (fun e => .inr (by have h9 : g = Wp.heap.size + 1 := (by simpa [Value.ownBlock] using e); exact h9.symm)))
end Go.Proofs.YtekpnphfdoplfaaDoor

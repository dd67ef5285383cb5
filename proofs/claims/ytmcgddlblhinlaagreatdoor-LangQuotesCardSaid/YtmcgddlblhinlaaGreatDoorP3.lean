/- Plain: the lines of a mission's text. -/
import Derived.Test.YtmcgddlblhinlaaGreatDoorP1
import Derived.Test.YtmcgddlblhinlaaGreatDoorP2
import Derived.Test.YtmcgddlblhinlaaGreatDoorH5
namespace Go.Proofs.YtmcgddlblhinlaaGreatDoor
def nodeW : List UInt8 := [110, 111, 100, 101]
def nodeS : ByteArray := ⟨#[110, 111, 100, 101]⟩
def conW : List UInt8 := [99, 111, 110, 116, 97, 99, 116]
def conS : ByteArray := ⟨#[99, 111, 110, 116, 97, 99, 116]⟩
def ordW : List UInt8 := [111, 114, 100, 101, 114]
def ordS : ByteArray := ⟨#[111, 114, 100, 101, 114]⟩
def blkW : List UInt8 := [98, 108, 111, 99, 107]
def blkS : ByteArray := ⟨#[98, 108, 111, 99, 107]⟩
def fltW : List UInt8 := [102, 97, 117, 108, 116]
def fltS : ByteArray := ⟨#[102, 97, 117, 108, 116]⟩
def otgW : List UInt8 := [111, 117, 116, 97, 103, 101]
def otgS : ByteArray := ⟨#[111, 117, 116, 97, 103, 101]⟩
def bndW : List UInt8 := [98, 111, 117, 110, 100, 101, 100]
def bndS : ByteArray := ⟨#[98, 111, 117, 110, 100, 101, 100]⟩
def nevW : List UInt8 := [110, 101, 118, 101, 114]
def nevS : ByteArray := ⟨#[110, 101, 118, 101, 114]⟩
def conNums (c : Con) : List Int := [c.a, c.b, c.s, c.e, c.r, c.g, c.l]
def bunNums (x : Bun) : List Int := [x.s, x.c, x.q, x.dn, x.lf, x.pr, x.fl]
def quoteS (s : ByteArray) : ByteArray := ⟨(quoteL s.data.toList).toArray⟩
/-- what a line says -/
inductive Item where
  | node (i q : Int)
  | con (c : Con)
  | ord (x : Bun)
  | blk (b : Blk)
  | flt (f : Flt)
  | otg (o : Otg)
  | bnd
def Item.kind : Item → Nat
  | .node _ _ => 1
  | .con _ => 2
  | .ord _ => 3
  | .blk _ => 4
  | .flt _ => 5
  | .otg _ => 6
  | .bnd => 7
def wordK : Nat → ByteArray
  | 1 => nodeS
  | 2 => conS
  | 3 => ordS
  | 4 => blkS
  | 5 => fltS
  | 6 => otgS
  | 7 => bndS
  | _ => ⟨#[]⟩
def rankK : Nat → Int
  | 1 => 1
  | 2 => 2
  | 3 => 3
  | 4 => 3
  | 5 => 4
  | 6 => 5
  | 7 => 6
  | _ => 0
def untS (u : Int) : ByteArray := if u = -1 then nevS else itoaS u
def Item.rest : Item → List ByteArray
  | .node i q => [i, q].map itoaS
  | .con c => (conNums c).map itoaS
  | .ord x => (bunNums x).map itoaS ++ [quoteS x.py]
  | .blk b => [b.k, b.f].map itoaS ++ [quoteS b.d]
  | .flt f => [f.n, f.a, f.k].map itoaS ++ [untS f.u]
  | .otg o => [o.c, o.f, o.t].map itoaS
  | .bnd => []
/-- the text of a line -/
def Item.text (x : Item) : List UInt8 := joinW (wordK x.kind) x.rest
def Item.ok : Item → Prop
  | .node i q => InR [i, q]
  | .con c => InR (conNums c)
  | .ord x => InR (bunNums x) ∧ x.o = 0 ∧ x.t = 0 ∧ x.dk = 1 ∧ x.bl = [] ∧ x.py.size ≤ 4096
  | .blk b => InR [b.k, b.f] ∧ b.d.size ≤ 4096
  | .flt f => InR [f.n, f.a, f.k] ∧ (f.u = -1 ∨ InR [f.u])
  | .otg o => InR [o.c, o.f, o.t]
  | .bnd => True
def IsI (l : List UInt8) (x : Item) : Prop := x.ok ∧ x.text = l
theorem word_nosp : ∀ k, (32 : UInt8) ∉ (wordK k).data.toList := by
  intro k
  match k with
  | 0 => decide
  | 1 => decide
  | 2 => decide
  | 3 => decide
  | 4 => decide
  | 5 => decide
  | 6 => decide
  | 7 => decide
  | k + 8 => show (32 : UInt8) ∉ []; simp
theorem IsI.cut {l : List UInt8} {x : Item} (h : IsI l x) : (Lib.cut l [32]).1 = (wordK x.kind).data.toList := by
  rw [← h.2]; exact cut_joinW (word_nosp _)
theorem kind_rng (x : Item) : 1 ≤ x.kind ∧ x.kind ≤ 7 := by cases x <;> simp [Item.kind]
theorem wordK_inj : ∀ i j, 1 ≤ i → i ≤ 7 → 1 ≤ j → j ≤ 7 → (wordK i).data.toList = (wordK j).data.toList → i = j := by
  intro i j h1 h2 h3 h4 h
  have hi : i = 1 ∨ i = 2 ∨ i = 3 ∨ i = 4 ∨ i = 5 ∨ i = 6 ∨ i = 7 := by omega
  have hj : j = 1 ∨ j = 2 ∨ j = 3 ∨ j = 4 ∨ j = 5 ∨ j = 6 ∨ j = 7 := by omega
  rcases hi with rfl | rfl | rfl | rfl | rfl | rfl | rfl <;> rcases hj with rfl | rfl | rfl | rfl | rfl | rfl | rfl <;> first | rfl | (revert h; decide)
/-- how many pieces the reader asks for, less one -/
def askK : Nat → Nat
  | 1 => 3
  | 2 => 8
  | 3 => 8
  | 4 => 3
  | 5 => 5
  | 6 => 4
  | _ => 0
theorem rest_len (x : Item) : x.rest.length ≤ askK x.kind := by cases x <;> simp [Item.rest, Item.kind, askK, conNums, bunNums]
theorem rest_last {x : Item} (h : x.ok) : lastOk (askK x.kind) x.rest := by
  cases x with
  | node i q => exact lastOk_nums _ _ h
  | con c => exact lastOk_nums _ _ h
  | ord x => exact lastOk_snoc _ h.1 _
  | blk b => exact lastOk_snoc _ h.1 _
  | flt f =>
    have hs : ∀ n ∈ [f.n, f.a, f.k], (32 : UInt8) ∉ (itoaS n).data.toList := fun n hn => by simpa [itoaS] using (not_space (itoa_bytes (h.1 n hn).1)).1
    have hu : (32 : UInt8) ∉ (untS f.u).data.toList := by
      unfold untS
      split
      · decide
      · rename_i hne
        rcases h.2 with h2 | h2
        · exact absurd h2 hne
        · simpa [itoaS] using (not_space (itoa_bytes (h2 f.u (by simp)).1)).1
    exact ⟨hs _ (by simp), hs _ (by simp), hs _ (by simp), .inr hu⟩
  | otg o => exact lastOk_nums _ _ h
  | bnd => trivial
theorem text_len (x : Item) : x.rest.length ≤ x.text.length := joinW_len _ _
theorem lastOk_more : ∀ (t : List ByteArray) (k : Nat), t.length < k → lastOk k t → ∀ j, t.length ≤ j → lastOk j t
  | [], _, _, _, _, _ => trivial
  | [y], k, hk, h, j, _ => by
    rcases h with h | h
    · subst h; simp at hk
    · exact .inr h
  | y :: z :: t, k, hk, h, j, hj => ⟨h.1, lastOk_more (z :: t) (k - 1) (by simp at hk ⊢; omega) h.2 (j - 1) (by simp at hj ⊢; omega)⟩
/-- a line is split into its words -/
theorem IsI.split {l : List UInt8} {x : Item} (h : IsI l x) : wsK (min (askK x.kind + 1) (l.length + 1) - 1) ⟨l.toArray⟩ = wordK x.kind :: x.rest := by
  have h1 := rest_len x
  have h2 := text_len x
  have h3 := rest_last h.1
  rw [h.2] at h2
  rw [show min (askK x.kind + 1) (l.length + 1) - 1 = min (askK x.kind) l.length by omega]
  rw [show (⟨l.toArray⟩ : ByteArray) = ⟨(joinW (wordK x.kind) x.rest).toArray⟩ by rw [← h.2]; rfl]
  refine wsK_join _ _ _ (word_nosp _) (by omega) ?_
  rcases Nat.lt_or_ge x.rest.length (askK x.kind) with hlt | hge
  · exact lastOk_more _ _ hlt h3 _ (by omega)
  · have e : min (askK x.kind) l.length = askK x.kind := by omega
    rw [e]; exact h3
theorem nums_inj {a b : List Int} (ha : InR a) (hb : InR b) (h : a.map itoaS = b.map itoaS) : a = b := by
  have h1 := numsOf_iff.2 ⟨ha, rfl⟩
  have h2 := numsOf_iff.2 ⟨hb, rfl⟩
  rw [h] at h1
  rw [h1] at h2
  exact Option.some.inj h2
theorem quoteS_inj {a b : ByteArray} (h : quoteS a = quoteS b) : a = b := by
  have e := congrArg (fun s : ByteArray => s.data.toList) h
  exact (bs_ext (quoteL_inj e)).trans rfl
theorem untS_inj {a b : Int} (ha : a = -1 ∨ InR [a]) (hb : b = -1 ∨ InR [b]) (h : untS a = untS b) : a = b := by
  have key : ∀ c : Int, InR [c] → nevS ≠ itoaS c := fun c hc e => by
    have e2 := congrArg (fun s : ByteArray => s.data.toList) e
    have hd := itoa_bytes (hc c (by simp)).1
    have : (110 : UInt8) ∈ Lib.itoa c := by
      have e3 : nevW = Lib.itoa c := e2
      rw [← e3]; decide
    have := hd 110 this
    revert this; decide
  have hm : ∀ c : Int, InR [c] → c ≠ -1 := fun c hc e => by have := (hc c (by simp)).1; omega
  unfold untS at h
  rcases ha with rfl | ha <;> rcases hb with rfl | hb
  · rfl
  · rw [if_pos rfl, if_neg (hm b hb)] at h; exact absurd h (key b hb)
  · rw [if_neg (hm a ha), if_pos rfl] at h; exact absurd h.symm (key a ha)
  · rw [if_neg (hm a ha), if_neg (hm b hb)] at h
    have := nums_inj ha hb (by simp [h])
    simpa using this
theorem IsI.unique {l : List UInt8} {x y : Item} (hx : IsI l x) (hy : IsI l y) : x = y := by
  have hk : x.kind = y.kind := wordK_inj _ _ (kind_rng x).1 (kind_rng x).2 (kind_rng y).1 (kind_rng y).2 (hx.cut.symm.trans hy.cut)
  have hs := hx.split
  rw [hk, hy.split] at hs
  have hr : y.rest = x.rest := (List.cons.inj hs).2
  have ox := hx.1
  have oy := hy.1
  cases x with
  | node i q =>
    cases y with
    | node j p => have := nums_inj oy ox hr; simp at this; obtain ⟨rfl, rfl⟩ := this; rfl
    | con | ord | blk | flt | otg | bnd => cases hk
  | con c =>
    cases y with
    | con d =>
      have := nums_inj oy ox hr
      obtain ⟨_, _, _, _, _, _, _⟩ := c
      obtain ⟨_, _, _, _, _, _, _⟩ := d
      simp [conNums] at this
      obtain ⟨rfl, rfl, rfl, rfl, rfl, rfl, rfl⟩ := this; rfl
    | node | ord | blk | flt | otg | bnd => cases hk
  | ord c =>
    cases y with
    | ord d =>
      have e := List.append_inj hr (by simp [bunNums])
      have h1 := nums_inj oy.1 ox.1 e.1
      have h2 := quoteS_inj (List.cons.inj e.2).1
      obtain ⟨_, _, _, _, _, _, _, _, _, _, _, _⟩ := c
      obtain ⟨_, _, _, _, _, _, _, _, _, _, _, _⟩ := d
      obtain ⟨_, x1, x2, x3, x4, _⟩ := ox
      obtain ⟨_, y1, y2, y3, y4, _⟩ := oy
      dsimp only at x1 x2 x3 x4 y1 y2 y3 y4 h2
      simp [bunNums] at h1
      obtain ⟨rfl, rfl, rfl, rfl, rfl, rfl, rfl⟩ := h1
      subst x1 x2 x3 x4 y1 y2 y3 y4 h2; rfl
    | node | con | blk | flt | otg | bnd => cases hk
  | blk c =>
    cases y with
    | blk d =>
      have e := List.append_inj hr (by simp)
      have h1 := nums_inj oy.1 ox.1 e.1
      have h2 := quoteS_inj (List.cons.inj e.2).1
      obtain ⟨_, _, _⟩ := c
      obtain ⟨_, _, _⟩ := d
      dsimp only at h2
      simp at h1
      obtain ⟨rfl, rfl⟩ := h1
      subst h2; rfl
    | node | con | ord | flt | otg | bnd => cases hk
  | flt c =>
    cases y with
    | flt d =>
      have e := List.append_inj hr (by simp)
      have h1 := nums_inj oy.1 ox.1 e.1
      have h2 := untS_inj oy.2 ox.2 (List.cons.inj e.2).1
      obtain ⟨_, _, _, _⟩ := c
      obtain ⟨_, _, _, _⟩ := d
      dsimp only at h2
      simp at h1
      obtain ⟨rfl, rfl, rfl⟩ := h1
      subst h2; rfl
    | node | con | ord | blk | otg | bnd => cases hk
  | otg c =>
    cases y with
    | otg d =>
      have := nums_inj oy ox hr
      obtain ⟨_, _, _⟩ := c
      obtain ⟨_, _, _⟩ := d
      simp at this
      obtain ⟨rfl, rfl, rfl⟩ := this; rfl
    | node | con | ord | blk | flt | bnd => cases hk
  | bnd =>
    cases y with
    | bnd => rfl
    | node | con | ord | blk | flt | otg => cases hk
/-- a mission that is being read: what was read, and the kind of the last line -/
structure St where
  m : Mis
  k : Nat
def St.zero : St := ⟨Mis.zero, 0⟩
/-- one more block of the last order -/
def addBlk (os : List Bun) (b : Blk) : List Bun := os.set (os.length - 1) { os.getD (os.length - 1) Bun.zero with bl := (os.getD (os.length - 1) Bun.zero).bl ++ [b] }
def addI (m : Mis) : Item → Mis
  | .node _ q => { m with q := m.q ++ [q] }
  | .con c => { m with cs := m.cs ++ [c] }
  | .ord x => { m with os := m.os ++ [x] }
  | .blk b => { m with os := addBlk m.os b }
  | .flt f => { m with fs := m.fs ++ [f] }
  | .otg o => { m with xs := m.xs ++ [o] }
  | .bnd => { m with bd := true }
def St.app (st : St) (x : Item) : St := ⟨addI st.m x, x.kind⟩
/-- an item can stand here -/
def fitI (st : St) : Item → Bool
  | .node i _ => decide (rankK st.k ≤ 1 ∧ i = st.m.q.length)
  | .con _ => decide (rankK st.k ≤ 2)
  | .ord _ => decide (rankK st.k ≤ 3)
  | .blk _ => decide (st.k = 3 ∨ st.k = 4)
  | .flt _ => decide (rankK st.k ≤ 4)
  | .otg _ => decide (rankK st.k ≤ 5)
  | .bnd => decide (rankK st.k ≤ 6 ∧ st.m.bd = false)
open Classical in
/-- the item of a line -/
noncomputable def itemOf (l : List UInt8) : Option Item := if h : ∃ x, IsI l x then some h.choose else none
theorem itemOf_some {l : List UInt8} {x : Item} (h : IsI l x) : itemOf l = some x := by
  have hx : ∃ x, IsI l x := ⟨x, h⟩
  unfold itemOf
  rw [dif_pos hx, hx.choose_spec.unique h]
theorem itemOf_none {l : List UInt8} (h : ∀ x, ¬ IsI l x) : itemOf l = none := by
  unfold itemOf
  rw [dif_neg (fun hx => h _ hx.choose_spec)]
theorem itemOf_iff {l : List UInt8} {x : Item} : itemOf l = some x ↔ IsI l x := by
  refine ⟨fun h => ?_, itemOf_some⟩
  by_cases hx : ∃ y, IsI l y
  · obtain ⟨y, hy⟩ := hx
    rw [itemOf_some hy] at h
    cases h; exact hy
  · rw [itemOf_none (fun y hy => hx ⟨y, hy⟩)] at h; cases h
/-- one line read -/
noncomputable def readS (st : St) (l : List UInt8) : Option St := match itemOf l with
  | some x => if fitI st x = true then some (st.app x) else none
  | none => none
theorem readS_some {st : St} {l : List UInt8} {x : Item} (h : IsI l x) (hf : fitI st x = true) : readS st l = some (st.app x) := by
  unfold readS; rw [itemOf_some h]; simp [hf]
theorem readS_none {st : St} {l : List UInt8} (h : ∀ x, IsI l x → fitI st x = false) : readS st l = none := by
  unfold readS
  cases hi : itemOf l with
  | none => rfl
  | some x => simp [h x (itemOf_iff.1 hi)]
theorem readS_inv {st st' : St} {l : List UInt8} (h : readS st l = some st') : ∃ x, IsI l x ∧ fitI st x = true ∧ st' = st.app x := by
  unfold readS at h
  cases hi : itemOf l with
  | none => simp [hi] at h
  | some x =>
    simp only [hi] at h
    split at h
    · rename_i hf; exact ⟨x, itemOf_iff.1 hi, hf, (Option.some.inj h).symm⟩
    · cases h
/-- lines read -/
noncomputable def scanM : St → List (Int × ByteArray) → Except Int St
  | st, [] => .ok st
  | st, x :: r => match readS st x.2.data.toList with
    | none => .error x.1
    | some st' => scanM st' r
theorem cut_len1 (l : List UInt8) : (Lib.cut l [10]).1.length ≤ l.length := by
  unfold Lib.cut
  split
  · simp; omega
  · exact Nat.le_refl _
theorem cut_len {l : List UInt8} (h : (Lib.cut l [10]).2.2 = true) (hl : l ≠ []) : (Lib.cut l [10]).2.1.length < l.length := by
  have hp := List.length_pos_iff.2 hl
  unfold Lib.cut at h ⊢
  split at h <;> rename_i hi
  · rw [if_pos hi]; simp; omega
  · cases h
theorem cut_none (l : List UInt8) (h : (Lib.cut l [10]).2.2 = false) : (Lib.cut l [10]).2.1 = [] := by
  unfold Lib.cut at h ⊢
  split at h
  · cases h
  · rename_i hi; rw [if_neg hi]
theorem cut_less {l : List UInt8} (hl : l ≠ []) : (Lib.cut l [10]).2.1.length < l.length := by
  have hp := List.length_pos_iff.2 hl
  cases h : (Lib.cut l [10]).2.2
  · rw [cut_none l h]; exact hp
  · exact cut_len h hl
/-- the first line; what is not ended is no line -/
def lineOf (l : List UInt8) : List UInt8 := if (Lib.cut l [10]).2.2 = true then (Lib.cut l [10]).1 else []
theorem lineOf_len (l : List UInt8) : (lineOf l).length ≤ l.length := by
  have := cut_len1 l
  unfold lineOf; split <;> simp <;> omega
/-- the lines from number n on -/
def linesT : Nat → Int → List UInt8 → List (Int × ByteArray)
  | 0, _, _ => []
  | f + 1, n, l => if l = [] then [] else (n, ⟨(lineOf l).toArray⟩) :: linesT f (n + 1) (Lib.cut l [10]).2.1
theorem linesT_succ (f : Nat) (n : Int) (l : List UInt8) : linesT (f + 1) n l = if l = [] then [] else (n, ⟨(lineOf l).toArray⟩) :: linesT f (n + 1) (Lib.cut l [10]).2.1 := rfl
theorem linesT_nil (f : Nat) (n : Int) : linesT f n [] = [] := by cases f <;> simp [linesT]
/-- what Parse answers: mission, line, error -/
noncomputable def parseR (s : ByteArray) : Mis × Int × Int :=
  if 8192 < s.size then (Mis.zero, 0, 4) else
  match scanM St.zero (linesT s.data.toList.length 1 s.data.toList) with
  | .error n => (Mis.zero, n, 3)
  | .ok st => if misE st.m ≠ 0 then (Mis.zero, 0, misE st.m) else (st.m, 0, 0)
end Go.Proofs.YtmcgddlblhinlaaGreatDoor

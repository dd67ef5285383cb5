/- Plain: the items of a mission. -/
import Derived.Test.YtmcgddlblhinlaaGreatDoorP3
namespace Go.Proofs.YtmcgddlblhinlaaGreatDoor
/-- a line of text -/
def lineI (x : Item) : List UInt8 := x.text ++ [10]
def ordItems (x : Bun) : List Item := .ord { x with bl := [] } :: x.bl.map .blk
def nodeItems : Nat → List Int → List Item
  | _, [] => []
  | i, q :: t => .node i q :: nodeItems (i + 1) t
def itemsM (m : Mis) : List Item := nodeItems 0 m.q ++ m.cs.map .con ++ m.os.flatMap ordItems ++ m.fs.map .flt ++ m.xs.map .otg ++ (if m.bd = true then [.bnd] else [])
def linesL (xs : List Item) : List UInt8 := xs.flatMap lineI
/-- a mission's text -/
def printL (m : Mis) : List UInt8 := linesL (itemsM m)
/-- what Print answers -/
def printR (m : Mis) : ByteArray × Int := if misE m ≠ 0 then (⟨#[]⟩, 1) else if 8192 < (printL m).length then (⟨#[]⟩, 4) else (⟨(printL m).toArray⟩, 0)
theorem linesL_append (a b : List Item) : linesL (a ++ b) = linesL a ++ linesL b := by simp [linesL]
theorem nodeItems_snoc (q : Int) : ∀ (l : List Int) (i : Nat), nodeItems i (l ++ [q]) = nodeItems i l ++ [.node ((i + l.length : Nat) : Int) q]
  | [], i => by simp [nodeItems]
  | x :: t, i => by
    simp only [List.cons_append, nodeItems, nodeItems_snoc q t (i + 1), List.length_cons]
    rw [show i + 1 + t.length = i + (t.length + 1) by omega]
theorem quE_rng : ∀ {qs : List Int}, quE qs = 0 → ∀ q ∈ qs, 0 ≤ q ∧ q ≤ 1073741824
  | [], _, q, hq => by simp at hq
  | x :: t, h, q, hq => by
    rw [quE] at h
    by_cases hx : x < 0 ∨ 1073741824 < x
    · rw [if_pos hx] at h; cases h
    · rw [if_neg hx] at h
      rcases List.mem_cons.1 hq with rfl | hq
      · omega
      · exact quE_rng h q hq
theorem consE_rng {n : Int} : ∀ {cs pre : List Con}, consE n pre cs = 0 → ∀ c ∈ cs, conE c = 0
  | [], _, _, c, hc => by simp at hc
  | x :: t, pre, h, c, hc => by
    rw [consE] at h
    split at h
    · rename_i h1; exact absurd h h1
    rename_i h1
    split at h
    · cases h
    split at h
    · cases h
    rcases List.mem_cons.1 hc with rfl | hc
    · simpa using h1
    · exact consE_rng h c hc
theorem ordsE_rng {n : Int} : ∀ {os pre : List Bun}, ordsE n pre os = 0 → ∀ x ∈ os, ∃ p, ordE p n x = 0
  | [], _, _, c, hc => by simp at hc
  | x :: t, pre, h, c, hc => by
    rw [ordsE] at h
    split at h
    · rename_i h1; exact absurd h h1
    rename_i h1
    rcases List.mem_cons.1 hc with rfl | hc
    · exact ⟨pre, by simpa using h1⟩
    · exact ordsE_rng h c hc
theorem bksE1_rng : ∀ {l : List Blk}, bksE1 l = 0 → ∀ b ∈ l, blE b = 0
  | [], _, b, hb => by simp at hb
  | x :: t, h, b, hb => by
    rw [bksE1] at h
    split at h
    · rename_i h1; exact absurd h h1
    rename_i h1
    rcases List.mem_cons.1 hb with rfl | hb
    · simpa using h1
    · exact bksE1_rng h b hb
/-- what an order that is valid keeps -/
structure OrdOk (x : Bun) : Prop where
  n : InR (bunNums x)
  o : x.o = 0
  t : x.t = 0
  dk : x.dk = 1
  py : x.py.size ≤ 4096
  bl : x.bl.length ≤ 8
  b : ∀ b ∈ x.bl, InR [b.k, b.f] ∧ b.d.size ≤ 1024
theorem ord_ok {p : List Bun} {n : Int} {x : Bun} (h : ordE p n x = 0) : OrdOk x := by
  unfold ordE at h
  split at h
  · rename_i h1; exact absurd h h1
  rename_i hb
  split at h
  · cases h
  rename_i htd
  clear h
  have ht : x.t ≤ 0 := by omega
  have hd : x.dk = 1 := by omega
  have hb : bunE x = 0 := by simpa using hb
  unfold bunE at hb
  split at hb
  · rename_i h1; exact absurd hb h1
  rename_i hid
  split at hb
  · rename_i h1; exact absurd hb h1
  rename_i hep
  split at hb
  · cases hb
  rename_i hlf
  split at hb
  · cases hb
  rename_i hpr
  split at hb
  · rename_i h1; exact absurd hb h1
  rename_i hfl
  split at hb
  · rename_i h1; exact absurd hb h1
  rename_i hbk
  have hid : idE x.s x.c x.q x.o x.t = 0 := by simpa using hid
  have hep : epE x.dk x.dn = 0 := by simpa using hep
  have hfl : flE x.t x.fl = 0 := by simpa using hfl
  have hbk : bksE x.bl = 0 := by simpa using hbk
  unfold idE at hid
  split at hid
  · cases hid
  rename_i hid1
  have hid1 : (inB 0 15 x.s && inB 0 1099511627776 x.c && inB 0 1099511627776 x.q) = true := Classical.not_not.1 hid1
  simp only [Bool.and_eq_true, inB, decide_eq_true_eq] at hid1
  obtain ⟨⟨⟨s1, s2⟩, c1, c2⟩, q1, q2⟩ := hid1
  have hot : x.o = 0 ∧ x.t = 0 := by
    by_cases h0 : x.o = 0 ∧ x.t = 0
    · exact h0
    · rw [if_neg h0] at hid
      split at hid
      · cases hid
      rename_i h1
      have h1 : (inB 1 4096 x.t && inB 0 (x.t - 1) x.o) = true := Classical.not_not.1 h1
      simp only [Bool.and_eq_true, inB, decide_eq_true_eq] at h1
      omega
  unfold epE at hep
  rw [hd, if_pos rfl] at hep
  have hdn : 0 ≤ x.dn ∧ x.dn < 16 := by
    split at hep
    · cases hep
    · omega
  have hpr2 : inB 0 2 x.pr = true := by simpa using hpr
  rw [inB_iff] at hpr2
  unfold flE at hfl
  split at hfl
  · cases hfl
  rename_i hf1
  have hf2 : inB 0 127 x.fl = true := by simpa using hf1
  rw [inB_iff] at hf2
  unfold bksE at hbk
  split at hbk
  · cases hbk
  rename_i h8
  split at hbk
  · rename_i h1; exact absurd hbk h1
  rename_i hb1
  have hb1 : bksE1 x.bl = 0 := by simpa using hb1
  have hpy : x.py.size ≤ 4096 := by
    unfold pyE at hb
    split at hb
    · cases hb
    · omega
  refine ⟨?_, hot.1, hot.2, hd, hpy, by omega, fun b hbm => ?_⟩
  · intro n hn
    simp only [bunNums, List.mem_cons, List.not_mem_nil, or_false] at hn
    rcases hn with rfl | rfl | rfl | rfl | rfl | rfl | rfl <;> omega
  · have := bksE1_rng hb1 b hbm
    unfold blE at this
    split at this
    · cases this
    split at this
    · cases this
    split at this
    · cases this
    refine ⟨fun n hn => ?_, by omega⟩
    simp only [List.mem_cons, List.not_mem_nil, or_false] at hn
    rcases hn with rfl | rfl <;> omega
/-- what a mission that is valid keeps -/
structure MisOk (m : Mis) : Prop where
  q : m.q.length ≤ 16 ∧ ∀ q ∈ m.q, 0 ≤ q ∧ q ≤ 1099511627776
  c : m.cs.length ≤ 64 ∧ ∀ c ∈ m.cs, InR (conNums c)
  o : m.os.length ≤ 8 ∧ ∀ x ∈ m.os, OrdOk x
  f : m.fs.length ≤ 8 ∧ ∀ f ∈ m.fs, InR [f.n, f.a, f.k] ∧ (f.u = -1 ∨ InR [f.u])
  x : m.xs.length ≤ 8 ∧ ∀ x ∈ m.xs, InR [x.c, x.f, x.t]
theorem mis_ok {m : Mis} (h : misE m = 0) : MisOk m := by
  unfold misE at h
  split at h
  · rename_i h1; exact absurd h h1
  rename_i hp
  have hp : planE m.q m.cs = 0 := by simpa using hp
  split at h
  · cases h
  rename_i h8
  split at h
  · rename_i h1; exact absurd h h1
  rename_i ho
  have ho : ordsE m.q.length [] m.os = 0 := by simpa using ho
  split at h
  · cases h
  rename_i hf
  split at h
  · cases h
  rename_i hx
  unfold planE at hp
  split at hp
  · cases hp
  rename_i hl
  split at hp
  · cases hp
  rename_i hq
  have hq : quE m.q = 0 := by simpa using hq
  refine ⟨⟨by omega, fun q hqm => by have := quE_rng hq q hqm; omega⟩, ⟨by omega, fun c hc n hn => ?_⟩, ⟨by omega, fun x hxm => ?_⟩, ⟨by omega, fun f hfm => ?_⟩, ⟨by omega, fun x hxm => ?_⟩⟩
  · have := conE_ok (consE_rng hp c hc)
    simp only [conNums, List.mem_cons, List.not_mem_nil, or_false] at hn
    rcases hn with rfl | rfl | rfl | rfl | rfl | rfl | rfl <;> omega
  · obtain ⟨p, hp⟩ := ordsE_rng ho x hxm
    exact ord_ok hp
  · have h1 : fltB m.q.length f = false := by
      have : m.fs.any (fltB m.q.length) = false := by simpa using hf
      rw [List.any_eq_false] at this
      simpa using this f hfm
    unfold fltB at h1
    rw [decide_eq_false_iff_not] at h1
    refine ⟨fun n hn => ?_, ?_⟩
    · simp only [List.mem_cons, List.not_mem_nil, or_false] at hn
      rcases hn with rfl | rfl | rfl <;> omega
    · by_cases hu : f.u = -1
      · exact .inl hu
      · right; intro n hn
        simp only [List.mem_cons, List.not_mem_nil, or_false] at hn
        subst hn; omega
  · have h1 : otgB m.cs.length x = false := by
      have : m.xs.any (otgB m.cs.length) = false := by simpa using hx
      rw [List.any_eq_false] at this
      simpa using this x hxm
    unfold otgB at h1
    rw [decide_eq_false_iff_not] at h1
    intro n hn
    simp only [List.mem_cons, List.not_mem_nil, or_false] at hn
    rcases hn with rfl | rfl | rfl <;> omega
theorem node_mem : ∀ {l : List Int} {i : Nat} {x : Item}, x ∈ nodeItems i l → ∃ (j : Nat) (q : Int), x = .node j q ∧ j < i + l.length ∧ q ∈ l
  | [], i, x, h => by simp [nodeItems] at h
  | a :: t, i, x, h => by
    rcases List.mem_cons.1 h with rfl | h
    · exact ⟨i, a, rfl, by simp, by simp⟩
    · obtain ⟨j, q, e, h1, h2⟩ := node_mem h
      exact ⟨j, q, e, by simp; omega, by simp [h2]⟩
theorem items_ok {m : Mis} (h : MisOk m) : ∀ x ∈ itemsM m, x.ok := by
  intro x hx
  simp only [itemsM, List.mem_append, List.mem_map, List.mem_flatMap] at hx
  rcases hx with ((((hx | ⟨c, hc, rfl⟩) | ⟨o, ho, hx⟩) | ⟨f, hf, rfl⟩) | ⟨g, hg, rfl⟩) | hx
  · obtain ⟨j, q, rfl, h1, h2⟩ := node_mem hx
    have := h.q.1
    have := h.q.2 q h2
    intro n hn
    simp only [List.mem_cons, List.not_mem_nil, or_false] at hn
    rcases hn with rfl | rfl <;> omega
  · exact h.c.2 c hc
  · have k := h.o.2 o ho
    rcases List.mem_cons.1 hx with rfl | hx
    · exact ⟨k.n, k.o, k.t, k.dk, rfl, k.py⟩
    · obtain ⟨b, hb, rfl⟩ := List.mem_map.1 hx
      exact ⟨(k.b b hb).1, by have := (k.b b hb).2; omega⟩
  · exact h.f.2 f hf
  · exact h.x.2 g hg
  · split at hx
    · rw [List.mem_singleton.1 hx]; trivial
    · simp at hx
end Go.Proofs.YtmcgddlblhinlaaGreatDoor

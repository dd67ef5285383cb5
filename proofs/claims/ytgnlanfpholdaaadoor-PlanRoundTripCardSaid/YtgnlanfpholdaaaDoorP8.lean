/- Plain laws about texts of plans: the text of a plan is read as the plan; what can be read is the text of what was read. -/
import Derived.Test.YtgnlanfpholdaaaDoorP7
import Derived.Test.YtgnlanfpholdaaaDoorP1
namespace Go.Proofs.YtgnlanfpholdaaaDoor
open Go.RowKit
/-- lines with their ends -/
def joinL (L : List ByteArray) : List UInt8 := L.flatMap fun x => x.data.toList ++ [10]
/-- lines read one by one -/
def foldR (Q : List Int) (C : List Con) : List ByteArray → Option (List Int × List Con)
  | [] => some (Q, C)
  | x :: r => match readL Q C x with
    | none => none
    | some p => foldR p.1 p.2 r
theorem linesF_join : ∀ (L : List ByteArray) (f : Nat) (n : Int), 1 ≤ n → L.length ≤ f → (∀ x ∈ L, (10 : UInt8) ∉ x.data.toList) → (linesF f n (joinL L)).map (·.2) = L ∧ ∀ p ∈ linesF f n (joinL L), p.1 ≠ 0
  | [], f, n, _, _, _ => by
    have e : joinL [] = [] := rfl
    rw [e, linesF_nil]
    exact ⟨rfl, fun p hp => by simp at hp⟩
  | x :: r, f, n, hn, hf, h => by
    match f, hf with
    | f + 1, hf =>
      have e : joinL (x :: r) = x.data.toList ++ 10 :: joinL r := by simp [joinL]
      obtain ⟨h1, h2⟩ := linesF_join r f (n + 1) (by omega) (by simpa using hf) (fun y hy => h y (by simp [hy]))
      rw [e, linesF_succ, if_neg (by simp), cut_hit (h x (by simp)), if_pos rfl]
      refine ⟨by rw [List.map_cons, h1], fun p hp => ?_⟩
      rcases List.mem_cons.1 hp with rfl | hp
      · show n ≠ 0; omega
      · exact h2 p hp
theorem linesF_back : ∀ (f : Nat) (n : Int) (l : List UInt8), l.length ≤ f → (∀ p ∈ linesF f n l, p.1 ≠ 0) → joinL ((linesF f n l).map (·.2)) = l
  | 0, n, l, hf, _ => by
    have : l = [] := List.eq_nil_of_length_eq_zero (by omega)
    rw [this]; rfl
  | f + 1, n, l, hf, h => by
    by_cases hl : l = []
    · rw [hl, linesF_nil]; rfl
    · by_cases hm : (10 : UInt8) ∈ l
      · obtain ⟨a, b, rfl, ha⟩ := mem_split hm
        rw [linesF_succ, if_neg hl, cut_hit ha, if_pos rfl] at h ⊢
        have ih := linesF_back f (n + 1) b (by simp at hf; omega) (fun p hp => h p (by simp [hp]))
        simp only [List.map_cons]
        show (ByteArray.mk a.toArray).data.toList ++ [10] ++ joinL _ = _
        rw [ih]; simp
      · rw [linesF_succ, if_neg hl, cut_miss hm, if_neg (by simp)] at h
        exact absurd rfl (h (0, ⟨l.toArray⟩) (List.mem_singleton.2 rfl))
theorem scan_fold : ∀ (X : List (Int × ByteArray)) (Q : List Int) (C : List Con) (n : Nat) (p : List Int × List Con), scan Q C n X = .ok p ↔ (∀ x ∈ X, x.1 ≠ 0) ∧ foldR Q C (X.map (·.2)) = some p
  | [], Q, C, n, p => by
    unfold scan foldR
    constructor
    · intro h; cases h; exact ⟨fun x hx => by simp at hx, rfl⟩
    · rintro ⟨_, h⟩; cases h; rfl
  | x :: r, Q, C, n, p => by
    rw [scan]
    by_cases hx : x.1 = 0
    · have e : stepL Q C x = none := by unfold stepL; rw [if_pos hx]
      rw [e]
      constructor
      · intro h; cases h
      · rintro ⟨h, _⟩; exact absurd hx (h x (by simp))
    · have e : stepL Q C x = readL Q C x.2 := by unfold stepL; rw [if_neg hx]
      rw [e, List.map_cons, foldR]
      cases readL Q C x.2 with
      | none =>
        constructor
        · intro h; cases h
        · rintro ⟨_, h⟩; cases h
      | some q =>
        simp only
        rw [scan_fold r q.1 q.2 (n + 1) p]
        constructor
        · rintro ⟨h1, h2⟩; exact ⟨fun y hy => by rcases List.mem_cons.1 hy with rfl | hy; exact hx; exact h1 y hy, h2⟩
        · rintro ⟨h1, h2⟩; exact ⟨fun y hy => h1 y (by simp [hy]), h2⟩
theorem foldR_append : ∀ (L M : List ByteArray) (Q : List Int) (C : List Con), foldR Q C (L ++ M) = (foldR Q C L).bind fun p => foldR p.1 p.2 M
  | [], M, Q, C => rfl
  | x :: r, M, Q, C => by
    show foldR Q C (x :: (r ++ M)) = _
    rw [foldR, foldR]
    cases readL Q C x with
    | none => rfl
    | some q => exact foldR_append r M q.1 q.2
theorem joinL_append (L M : List ByteArray) : joinL (L ++ M) = joinL L ++ joinL M := by simp [joinL]
def nodeB (k : Nat) (q : Int) : ByteArray := ⟨(lnA nodeW [(k : Int), q]).toArray⟩
def conB (c : Con) : ByteArray := ⟨(lnA conW (conNums c)).toArray⟩
theorem nodeW_sp : (32 : UInt8) ∉ nodeW ∧ (10 : UInt8) ∉ nodeW := by decide
theorem conW_sp : (32 : UInt8) ∉ conW ∧ (10 : UInt8) ∉ conW := by decide
theorem node_or_con {s : ByteArray} {ns : List Int} (h : lineOf conW 7 s = some ns) : lineOf nodeW 2 s = none := by
  cases hn : lineOf nodeW 2 s with
  | none => rfl
  | some ms =>
    unfold lineOf at h hn
    split at h
    · cases h
    · rename_i x t hw
      rw [hw] at hn
      simp only at hn
      split at h
      · rename_i hc
        split at hn
        · rename_i hd
          rw [hc.1] at hd
          exact absurd hd.1 (by decide)
        · cases hn
      · cases h
theorem readL_node {Q : List Int} {q : Int} (hk : (Q.length : Int) ≤ 1099511627776) (h0 : 0 ≤ q) (h1 : q ≤ 1099511627776) : readL Q [] (nodeB Q.length q) = some (Q ++ [q], []) := by
  have hl : lineOf nodeW 2 (nodeB Q.length q) = some [(Q.length : Int), q] := (lineOf_iff nodeW_sp.1).2 ⟨rfl, fun n hn => by
    rcases List.mem_cons.1 hn with rfl | hn
    · omega
    · rw [List.mem_singleton.1 hn]; omega, rfl⟩
  rw [readL_eq, hl]
  simp
theorem inR_con {c : Con} (h : conE c = 0) : InR (conNums c) := by
  have := conE_ok h
  intro n hn
  simp only [conNums, List.mem_cons, List.not_mem_nil, or_false] at hn
  rcases hn with rfl | rfl | rfl | rfl | rfl | rfl | rfl <;> omega
theorem readL_con {Q : List Int} {C : List Con} {c : Con} (h : conE c = 0) : readL Q C (conB c) = some (Q, C ++ [c]) := by
  have hl : lineOf conW 7 (conB c) = some (conNums c) := (lineOf_iff conW_sp.1).2 ⟨rfl, inR_con h, rfl⟩
  rw [readL_eq, node_or_con hl, hl]
  rfl
/-- the lines of a plan -/
def nodeLs (qs : List Int) : Nat → List ByteArray
  | 0 => []
  | k + 1 => nodeLs qs k ++ [nodeB k (qs.getD k 0)]
def conLs (cs : List Con) : List ByteArray := cs.map conB
theorem join_nodes (qs : List Int) : ∀ k, joinL (nodeLs qs k) = nodesL qs k
  | 0 => rfl
  | k + 1 => by
    rw [nodeLs, joinL_append, join_nodes qs k, nodesL, lineL_all]
    simp [joinL, nodeB]
theorem consL_take (cs : List Con) : ∀ k, k ≤ cs.length → consL cs k = joinL (conLs (cs.take k))
  | 0, _ => by simp [consL, conLs, joinL]
  | k + 1, h => by
    have e : cs.take (k + 1) = cs.take k ++ [cs.getD k Con.zero] := by rw [List.take_succ_eq_append_getElem (by omega)]; simp [List.getD, show k < cs.length from h]
    rw [consL, consL_take cs k (by omega), e, lineL_all]
    simp [conLs, joinL, conB]
theorem plan_lines (qs : List Int) (cs : List Con) : nodesL qs qs.length ++ consL cs cs.length = joinL (nodeLs qs qs.length ++ conLs cs) := by
  rw [joinL_append, join_nodes, consL_take cs _ (Nat.le_refl _), List.take_length]
theorem fold_nodes (qs : List Int) (hq : ∀ j, j < qs.length → 0 ≤ qs.getD j 0 ∧ qs.getD j 0 ≤ 1099511627776) (hl : qs.length ≤ 16) : ∀ k, k ≤ qs.length → foldR [] [] (nodeLs qs k) = some (qs.take k, [])
  | 0, _ => by simp [nodeLs, foldR]
  | k + 1, h => by
    have e : qs.take (k + 1) = qs.take k ++ [qs.getD k 0] := by rw [List.take_succ_eq_append_getElem (by omega)]; simp [List.getD, show k < qs.length from h]
    have hk : (qs.take k).length = k := by rw [List.length_take]; omega
    have hr := readL_node (Q := qs.take k) (q := qs.getD k 0) (by rw [hk]; omega) (hq k h).1 (hq k h).2
    rw [hk] at hr
    rw [nodeLs, foldR_append, fold_nodes qs hq hl k (by omega), e]
    simp only [Option.bind_some, foldR, hr]
theorem fold_cons (Q : List Int) : ∀ (cs C : List Con), (∀ c ∈ cs, conE c = 0) → foldR Q C (conLs cs) = some (Q, C ++ cs)
  | [], C, _ => by simp [conLs, foldR]
  | c :: t, C, h => by
    show foldR Q C (conB c :: conLs t) = _
    rw [foldR, readL_con (h c (by simp))]
    simp only
    rw [fold_cons Q t (C ++ [c]) (fun d hd => h d (by simp [hd]))]
    simp
theorem plan_ended (qs : List Int) (cs : List Con) (hq : ∀ j, j < qs.length → 0 ≤ qs.getD j 0 ∧ qs.getD j 0 ≤ 1099511627776) (hl : qs.length ≤ 16) (hc : ∀ c ∈ cs, conE c = 0) : ∀ x ∈ nodeLs qs qs.length ++ conLs cs, (10 : UInt8) ∉ x.data.toList := by
  have hn : ∀ k, k ≤ qs.length → ∀ x ∈ nodeLs qs k, (10 : UInt8) ∉ x.data.toList := by
    intro k
    induction k with
    | zero => intro _ x hx; simp [nodeLs] at hx
    | succ k ih =>
      intro hk x hx
      rw [nodeLs] at hx
      rcases List.mem_append.1 hx with hx | hx
      · exact ih (by omega) x hx
      · rw [List.mem_singleton.1 hx]
        have := hq k (by omega)
        have := lnA_ended nodeW_sp.2 (ns := [(k : Int), qs.getD k 0]) (fun n hn => by
          rcases List.mem_cons.1 hn with rfl | hn
          · omega
          · rw [List.mem_singleton.1 hn]; exact this)
        simpa [nodeB] using this
  intro x hx
  rcases List.mem_append.1 hx with hx | hx
  · exact hn _ (Nat.le_refl _) x hx
  · obtain ⟨c, hcm, rfl⟩ := List.mem_map.1 hx
    have := lnA_ended conW_sp.2 (inR_con (hc c hcm))
    simpa [conB] using this
theorem nodesL_pre (Q : List Int) (q : Int) : ∀ k, k ≤ Q.length → nodesL (Q ++ [q]) k = nodesL Q k
  | 0, _ => rfl
  | k + 1, h => by
    rw [nodesL, nodesL, nodesL_pre Q q k (by omega)]
    have : (Q ++ [q]).getD k 0 = Q.getD k 0 := by simp [List.getD, List.getElem?_append_left h]
    rw [this]
theorem consL_pre (C : List Con) (c : Con) : ∀ k, k ≤ C.length → consL (C ++ [c]) k = consL C k
  | 0, _ => rfl
  | k + 1, h => by
    rw [consL, consL, consL_pre C c k (by omega)]
    have : (C ++ [c]).getD k Con.zero = C.getD k Con.zero := by simp [List.getD, List.getElem?_append_left h]
    rw [this]
/-- what foldR reads is the text of what it has read -/
theorem fold_text : ∀ (L : List ByteArray) (Q Q' : List Int) (C C' : List Con), foldR Q C L = some (Q', C') → nodesL Q Q.length ++ consL C C.length ++ joinL L = nodesL Q' Q'.length ++ consL C' C'.length
  | [], Q, Q', C, C', h => by unfold foldR at h; cases h; simp [joinL]
  | x :: r, Q, Q', C, C', h => by
    rw [foldR, readL_eq] at h
    have ej : joinL (x :: r) = x.data.toList ++ [10] ++ joinL r := by simp [joinL]
    cases hn : lineOf nodeW 2 x with
    | some ns =>
      rw [hn] at h
      simp only at h
      by_cases hc : ns.getD 0 0 = Q.length ∧ C = []
      · rw [if_pos hc] at h
        simp only at h
        obtain ⟨g1, g2, g3⟩ := (lineOf_iff nodeW_sp.1).1 hn
        obtain ⟨hc0, rfl⟩ := hc
        match ns, g1 with
        | [a, q], _ =>
          simp only [List.getD_cons_zero, List.getD_cons_succ] at hc0 h
          have ih := fold_text r _ _ _ _ h
          rw [← ih, ej]
          have e1 : nodesL (Q ++ [q]) (Q ++ [q]).length = nodesL Q Q.length ++ (x.data.toList ++ [10]) := by
            rw [List.length_append, List.length_singleton, nodesL, lineL_all, nodesL_pre Q q _ (Nat.le_refl _)]
            have : (Q ++ [q]).getD Q.length 0 = q := by simp [List.getD]
            rw [this, g3, hc0]
          rw [e1]
          simp [consL]
      · rw [if_neg hc] at h; cases h
    | none =>
      rw [hn] at h
      simp only at h
      cases hm : lineOf conW 7 x with
      | none => rw [hm] at h; cases h
      | some ms =>
        rw [hm] at h
        simp only at h
        cases hc : conOf ms with
        | none => rw [hc] at h; cases h
        | some c =>
          rw [hc] at h
          simp only [Option.map_some] at h
          obtain ⟨g1, g2, g3⟩ := (lineOf_iff conW_sp.1).1 hm
          have ih := fold_text r _ _ _ _ h
          rw [← ih, ej]
          have e1 : consL (C ++ [c]) (C ++ [c]).length = consL C C.length ++ (x.data.toList ++ [10]) := by
            rw [List.length_append, List.length_singleton, consL, lineL_all, consL_pre C c _ (Nat.le_refl _)]
            have : (C ++ [c]).getD C.length Con.zero = c := by simp [List.getD]
            rw [this, g3, conOf_eq hc]
          rw [e1]
          simp
end Go.Proofs.YtgnlanfpholdaaaDoor

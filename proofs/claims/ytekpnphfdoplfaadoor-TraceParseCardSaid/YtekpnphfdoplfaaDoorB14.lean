/- The reference's line. -/
import Derived.Test.YtekpnphfdoplfaaDoorB13
import Derived.Test.YtekpnphfdoplfaaDoorP3
import Derived.Test.YtekpnphfdoplfaaDoorB5
namespace Go.Proofs.YtekpnphfdoplfaaDoor
open Go.RowKit Go.Shelf
theorem isT_split {s : List UInt8} {z : Ent} (h : IsT (s ++ [10]) z) : splitL s = wordsL z := by
  have e : Lib.join (wordsL z) [32] = s := by
    have := h.2
    unfold textL at this
    exact List.append_cancel_right this
  rw [← e]
  refine splitL_join _ ?_ ?_
  · rw [words_eq]; simp
  · intro w hw h32
    have := (okW_words h.1 w hw).2 32 h32
    revert this; decide
theorem isT_xR {s : List UInt8} {z : Ent} (h : IsT (s ++ [10]) z) : 2 ≤ (splitL s).length ∧ xR (splitL s) = z := by
  rw [isT_split h]
  refine ⟨?_, xR_words h.1⟩
  rw [words_len]; have := (offs_len z.k).1; omega
theorem splitA_len : ∀ (l cur : List UInt8), (splitA cur l).length ≤ l.length + 1
  | [], cur => by simp [splitA]
  | c :: r, cur => by
    rw [splitA]
    split
    · have := splitA_len r []; simp only [List.length_cons]; omega
    · have := splitA_len r (cur ++ [c]); simp only [List.length_cons]; omega
theorem kindA_step (w : List UInt8) (k : Nat) (h : 1 ≤ k) : kindA w k = if wordL (k : Int) = w then (k : Int) else kindA w (k - 1) := by
  obtain ⟨m, rfl⟩ : ∃ m, k = m + 1 := ⟨k - 1, by omega⟩
  rw [kindA]
  simp
theorem pairs_step (x : Ent) (L : List (List UInt8)) (i : Nat) (h : i + 1 < L.length) : pairsF x (L.drop i) = pairsF (setF x (L.getD i []) (numI (L.getD (i + 1) []))) (L.drop (i + 2)) := by
  rw [List.drop_eq_getElem_cons (show i < L.length by omega), List.drop_eq_getElem_cons h, pairsF]
  simp [List.getD, h, show i < L.length by omega]
theorem pairs_end (x : Ent) (L : List (List UInt8)) (i : Nat) (h : L.length ≤ i + 1) : pairsF x (L.drop i) = x := by
  have hl : (L.drop i).length ≤ 1 := by rw [List.length_drop]; omega
  match hd : L.drop i, hl with
  | [], _ => rfl
  | [a], _ => rfl
  | a :: b :: r, hl => simp at hl
theorem res30 (tmps : Array Value) (W : World) (rb : Nat) (y : Ent) (b : Bool) (h2 : tmps.getD 2 undef = .pointer (some ⟨rb, 0, none⟩)) (h3 : tmps.getD 3 undef = .bool b) (hb : W.heap[rb]? = some (.cells (entVals y).toArray 37 (0, 0))) :
    (results Tryd.f30 tmps).run Tryd.prog W = .ok (.tuple #[.agg #[.int .i64 y.t, .int .i64 y.k, .int .i64 y.n, .int .i64 y.j, .int .i64 y.c, .int .i64 y.v], .bool b]) W := by
  have c0 := cell_blk hb 0
  have c1 := cell_blk hb 1
  have c2 := cell_blk hb 2
  have c3 := cell_blk hb 3
  have c4 := cell_blk hb 4
  have c5 := cell_blk hb 5
  simp only [entVals, List.getElem?_toArray, List.getElem?_cons_zero, List.getElem?_cons_succ] at c0 c1 c2 c3 c4 c5
  clear hb
  rw [Array.getD_eq_getD_getElem?] at h2 h3
  simp [results, Tryd.results30, go_sem, h2, h3, c0, c1, c2, c3, c4, c5]
theorem bs_lit {a k : List UInt8} {r : Bool} (h : (a == k) = r) : ((⟨a.toArray⟩ : ByteArray).toList == k) = r := by rw [ByteArray.toList_eq]; exact h
/-- the entry under way, in its box -/
def EB (W : World) (n : Nat) (x : Ent) : Prop := W.heap[n]? = some (.cells (entVals x).toArray 37 (0, 0))
theorem EB.cells {W : World} {n : Nat} {x : Ent} (h : EB W n x) : EntAt W n 0 x := by
  have c0 := cell_blk h 0
  have c1 := cell_blk h 1
  have c2 := cell_blk h 2
  have c3 := cell_blk h 3
  have c4 := cell_blk h 4
  have c5 := cell_blk h 5
  simp only [entVals, List.getElem?_toArray, List.getElem?_cons_zero, List.getElem?_cons_succ] at c0 c1 c2 c3 c4 c5
  exact ⟨c0, c1, c2, c3, c4, c5⟩
theorem EB.frozen {W : World} {n : Nat} {x : Ent} (h : EB W n x) (i : Nat) : W.frozen? ⟨n, i, none⟩ = false := by
  simp [World.frozen?, show W.heap[n]? = _ from h]
theorem EB.set {W : World} {n : Nat} {x y : Ent} (h : EB W n x) (i : Nat) (v : Value) (hy : (entVals x).toArray.setIfInBounds i v = (entVals y).toArray) : EB (W.setCell ⟨n, i, none⟩ v) n y := by
  have h2 := heap_set h (i := i) v
  unfold EB
  rw [h2, hy]
theorem row_str {w : World} {base : Nat} {A : Option Addr} {n c : Nat} {L : List (List UInt8)} (h : w.ownsRow base 9 1 (.slice A n c) L.length (strCells L)) (hp : 0 < L.length) : ∃ g, A = some ⟨g, 0, none⟩ ∧ n = L.length ∧ base ≤ g ∧ g < w.heap.size ∧ L.length ≤ c ∧ c ≤ maxLen ∧ ∀ j, j < L.length → w.cell? ⟨g, j, none⟩ = some (.string ⟨(L.getD j []).toArray⟩) := by
  rcases h.2 with ⟨e, h0⟩ | ⟨g, cap, cur, e, hb, hg, hn, hm, hs, ht⟩
  · omega
  · injection e with e1 e2 e3
    subst e1; subst e2; subst e3
    refine ⟨g, rfl, rfl, hb, (Array.getElem?_eq_some_iff.1 hg).1, hn, hm, fun j hj => ?_⟩
    have := h.cells (g := g) rfl j (.string ⟨(L.getD j []).toArray⟩) (by simp [strCells, List.getD, hj])
    rw [add_none, Nat.zero_add] at this
    exact this
set_option maxRecDepth 100000 in
set_option maxHeartbeats 8000000 in
theorem rline_any (s : ByteArray) (w : World) (hs : s.size ≤ 65536) : Calls Tryd.prog 30 #[.string s] w (EntryPost (s.data.toList ++ [10]) w) := by
  go_enter Tryd.func30, Tryd.ntmps30
  go_wp2_with fail
  have hbw : Below w.heap.size w (w.alloc (.cells #[.int .i64 0, .int .i64 0, .int .i64 0, .int .i64 0, .int .i64 0, .int .i64 0] 37)) := (Below.refl _ w).alloc (Nat.le_refl _) _
  have hrb : (w.alloc (.cells #[.int .i64 0, .int .i64 0, .int .i64 0, .int .i64 0, .int .i64 0, .int .i64 0] 37)).heap[w.heap.size]? = some (.cells #[.int .i64 0, .int .i64 0, .int .i64 0, .int .i64 0, .int .i64 0, .int .i64 0] 37) := heap_alloc_last _ _
  have hn1 : w.heap.size < (w.alloc (.cells #[.int .i64 0, .int .i64 0, .int .i64 0, .int .i64 0, .int .i64 0, .int .i64 0] 37)).heap.size := by simp
  generalize (w.alloc (.cells #[.int .i64 0, .int .i64 0, .int .i64 0, .int .i64 0, .int .i64 0, .int .i64 0] 37)) = W1 at *
  refine (split_any s hs W1).mono ?_
  rintro e W2 ⟨v, rfl, hown, hb2⟩
  have hD2 := hbw.trans (hb2.mono hbw.size)
  have hrb2 := (hb2.block _ hn1).trans hrb
  have HZ : Hid (∀ z, IsT (s.data.toList ++ [10]) z → 2 ≤ (splitL s.data.toList).length ∧ xR (splitL s.data.toList) = z) := fun z hz => isT_xR hz
  have hz2 := hb2.size
  clear hbw hrb
  have hL5 : (splitL s.data.toList).length ≤ 65537 := by
    have h1 := splitA_len s.data.toList []
    have h2 : s.data.toList.length = s.size := rfl
    unfold splitL; omega
  generalize splitL s.data.toList = L at *
  by_cases h2 : L.length < 2
  · obtain ⟨A2, c2, rfl⟩ := slc_own hown
    have g2 : (L.length : Int) < 2 := by omega
    have HN : Hid (∀ z, ¬ IsT (s.data.toList ++ [10]) z) := fun z hz => by have := (HZ.out z hz).1; omega
    clear h2 hown
    go_wp2_with (refine wpList_store_row rfl 37 _ _ rfl w.heap.size #[.int .i64 0, .int .i64 0, .int .i64 0, .int .i64 0, .int .i64 0, .int .i64 0] (by kernel_rfl) (by kernel_rfl) 37 #[.int .i64 0, .int .i64 0, .int .i64 0, .int .i64 0, .int .i64 0, .int .i64 0] hrb2 (by kernel_rfl) (by kernel_rfl) (by kernel_rfl) ?_)
    refine bodyPost_ret (res30 _ _ w.heap.size Ent.zero false (by kernel_rfl) (by kernel_rfl) (row_set hrb2 _)) rfl ?_
    exact ⟨_, _, rfl, below_setRow hD2 (Nat.le_refl _) _, (fun h => by cases h), fun z hz => (HN.out z hz).elim⟩
  · have g2 : ¬ (L.length : Int) < 2 := by omega
    have h2' : 2 ≤ L.length := by omega
    obtain ⟨A2, c2, rfl⟩ := slc_own hown
    obtain ⟨g, rfl, -, hgb, hgl, hlc, hc2, hcell⟩ := row_str hown (by omega)
    obtain ⟨l0, hl0⟩ : ∃ l, L.getD 0 [] = l := ⟨_, rfl⟩
    obtain ⟨l1, hl1⟩ : ∃ l, L.getD 1 [] = l := ⟨_, rfl⟩
    have q0 := hcell 0 (by omega)
    have q1 := hcell 1 (by omega)
    rw [hl0] at q0
    rw [hl1] at q1
    obtain ⟨nt, hnt⟩ : ∃ i, numI l0 = i := ⟨_, rfl⟩
    have HX : Hid (xR L = pairsF ⟨nt, kindA l1 17, -1, -1, -1, -1⟩ (L.drop 2)) := by show _ = _; rw [xR, hl0, hl1, hnt]; rfl
    have HC := Lib.hid hcell
    clear h2 hown hcell hl0 hl1
    go_wp2_with fail
    refine (number_any ⟨l0.toArray⟩ W2).mono ?_
    rw [show (⟨l0.toArray⟩ : ByteArray).data.toList = l0 from rfl, hnt]
    rintro e W3 ⟨rfl, h9⟩
    rw [h9]
    clear h9 hnt
    go_wp2_with fail
    refine (rwords_any _).mono ?_
    rintro e W3' ⟨rfl, h9⟩
    rw [h9]
    clear h9 W3 W3'
    have heb : EB ((W2.alloc (.cells #[.int .i64 nt, .int .i64 0, .int .i64 (-1), .int .i64 (-1), .int .i64 (-1), .int .i64 (-1)] 37)).alloc (.cells wordC 9)) W2.heap.size ⟨nt, 0, -1, -1, -1, -1⟩ := (Below.heap_alloc _ _ _ (by simp)).trans (heap_alloc_last _ _)
    have hwd : ((W2.alloc (.cells #[.int .i64 nt, .int .i64 0, .int .i64 (-1), .int .i64 (-1), .int .i64 (-1), .int .i64 (-1)] 37)).alloc (.cells wordC 9)).heap[W2.heap.size + 1]? = some (.cells wordC 9) := by have := heap_alloc_last (W2.alloc (.cells #[.int .i64 nt, .int .i64 0, .int .i64 (-1), .int .i64 (-1), .int .i64 (-1), .int .i64 (-1)] 37)) (.cells wordC 9); simpa using this
    have hD4 := (hD2.alloc hD2.size (.cells #[.int .i64 nt, .int .i64 0, .int .i64 (-1), .int .i64 (-1), .int .i64 (-1), .int .i64 (-1)] 37)).alloc (hD2.alloc hD2.size (.cells #[.int .i64 nt, .int .i64 0, .int .i64 (-1), .int .i64 (-1), .int .i64 (-1), .int .i64 (-1)] 37)).size (.cells wordC 9)
    have hb4 : Below W2.heap.size W2 ((W2.alloc (.cells #[.int .i64 nt, .int .i64 0, .int .i64 (-1), .int .i64 (-1), .int .i64 (-1), .int .i64 (-1)] 37)).alloc (.cells wordC 9)) := ((Below.refl _ W2).alloc (Nat.le_refl _) _).alloc (by simp) _
    have hs4 : ((W2.alloc (.cells #[.int .i64 nt, .int .i64 0, .int .i64 (-1), .int .i64 (-1), .int .i64 (-1), .int .i64 (-1)] 37)).alloc (.cells wordC 9)).heap.size = W2.heap.size + 2 := by simp
    have hwn : W2.heap.size < ((W2.alloc (.cells #[.int .i64 nt, .int .i64 0, .int .i64 (-1), .int .i64 (-1), .int .i64 (-1), .int .i64 (-1)] 37)).alloc (.cells wordC 9)).heap.size := by omega
    simp only [World.size_alloc]
    obtain ⟨W4, hW4⟩ : ∃ W4, (W2.alloc (.cells #[.int .i64 nt, .int .i64 0, .int .i64 (-1), .int .i64 (-1), .int .i64 (-1), .int .i64 (-1)] 37)).alloc (.cells wordC 9) = W4 := ⟨_, rfl⟩
    rw [hW4] at heb hwd hD4 hb4 hs4 hwn ⊢
    clear hW4
    have hrb4 := (hb4.block _ (by omega)).trans hrb2
    have HC4 : Hid (∀ j, j < L.length → W4.cell? ⟨g, j, none⟩ = some (.string ⟨(L.getD j []).toArray⟩)) := fun j hj => (hb4.cell (p := ⟨g, j, none⟩) hgl).trans (HC.out j hj)
    have q14 := (hb4.cell (p := ⟨g, 1, none⟩) hgl).trans q1
    have hgn : g ≠ W2.heap.size := by omega
    have hrn : w.heap.size < W2.heap.size := by omega
    generalize W2.heap.size = n at *
    clear q0 q1 HC hrb2 hD2 hb4
    go_wp2_with fail
    go_loopw [7] (fun i W => ∃ k : Nat, 1 ≤ k ∧ k ≤ 18 ∧ i = .int .i64 k ∧ EB W n ⟨nt, kindA l1 (k - 1), -1, -1, -1, -1⟩ ∧ W4.grownBy W (some n)) (fun i _ => 18 - (intOf i).toNat)
    case atStart => exact ⟨1, by omega, by omega, rfl, heb, grown_refl _ _⟩
    case round =>
      clear heb
      obtain ⟨k, hk1, hk2, rfl, he, hg⟩ := hrel
      have hzr := hg.size
      have r1 := (World.cell?_of_block (a := ⟨g, 1, none⟩) (hg.block g (by omega) (fun e => hgn (by cases e; rfl)))).trans q14
      have hwd' := (hg.block (n + 1) (by omega) (fun e => by cases e)).trans hwd
      have hgr : g < wr.heap.size := by omega
      have hnr : n + 1 < wr.heap.size := by omega
      by_cases hlt : k < 18
      · have hwk := cell_blk hwd' k
        have hwg := wordC_get (k := (k : Int)) (by omega) (by omega)
        rw [Int.toNat_natCast] at hwg
        rw [hwg] at hwk
        have hks := kindA_step l1 k hk1
        have ki : (k : Int) < 18 := by omega
        clear hwd' hwg
        by_cases hq : wordL (k : Int) = l1
        · rw [if_pos hq] at hks
          rw [hq] at hwk
          have HK := Lib.hid hks
          clear hks hq
          generalize (⟨l1.toArray⟩ : ByteArray) = bl at *
          go_wp2_with fail
          go_quiet (fail)
          have he1 : EB (wr.drewN nq) n ⟨nt, kindA l1 (k - 1), -1, -1, -1, -1⟩ := ((below_drewN (Below.refl wr.heap.size wr) nq).block n (by omega)).trans he
          have hg1 := grown_below hg (below_drewN (Below.refl wr.heap.size wr) nq)
          generalize wr.drewN nq = wq at *
          have x1 := cell_blk he1 1
          have fz := he1.frozen 1
          simp only [entVals, List.getElem?_toArray, List.getElem?_cons_zero, List.getElem?_cons_succ] at x1
          have he2 : EB (wq.setCell ⟨n, 1, none⟩ (.int .i64 k)) n ⟨nt, kindA l1 (k + 1 - 1), -1, -1, -1, -1⟩ := he1.set 1 _ (by rw [show k + 1 - 1 = k from rfl, HK.out]; rfl)
          have hg2 := grown_set hg1 1 (.int .i64 (k : Int))
          clear he1 hg1
          go_wp2_with fail
          go_roundw
          case rel => exact ⟨k + 1, by omega, by omega, by go_num, he2, hg2⟩
          case measure => simp [intOf]; omega
        · rw [if_neg hq] at hks
          have eb := bs_ne hq
          have HK := Lib.hid hks
          clear hks hq
          generalize (⟨l1.toArray⟩ : ByteArray) = bl at *
          generalize (⟨(wordL (k : Int)).toArray⟩ : ByteArray) = bk at *
          go_wp2_with fail
          go_quiet (fail)
          have he1 : EB (wr.drewN nq) n ⟨nt, kindA l1 (k + 1 - 1), -1, -1, -1, -1⟩ := by rw [show k + 1 - 1 = k from rfl, HK.out]; exact ((below_drewN (Below.refl wr.heap.size wr) nq).block n (by omega)).trans he
          have hg1 := grown_below hg (below_drewN (Below.refl wr.heap.size wr) nq)
          go_wp2_with fail
          go_roundw
          case rel => exact ⟨k + 1, by omega, by omega, by go_num, he1, hg1⟩
          case measure => simp [intOf]; omega
      · have hke : k = 18 := by omega
        have ki : ¬ (k : Int) < 18 := by omega
        have he : EB wr n ⟨nt, kindA l1 17, -1, -1, -1, -1⟩ := by rw [hke] at he; exact he
        clear hke hk1 hk2 hlt
        have hrbR := (hg.block w.heap.size (by omega) (fun e => by cases e; omega)).trans hrb4
        clear r1 hwd'
        have HD5 : Below w.heap.size w wr := ⟨hg.os.trans hD4.os, hg.tape.trans hD4.tape, hg.output.trans hD4.output, Nat.le_trans hD4.size hg.size, fun j hj => (hg.block j (by have := hD4.size; omega) (fun e => by cases e; omega)).trans (hD4.block j hj)⟩
        have ho : Hid (∀ j, j < L.length → wr.cell? ⟨g, j, none⟩ = some (.string ⟨(L.getD j []).toArray⟩)) := fun j hj => (World.cell?_of_block (a := ⟨g, j, none⟩) (hg.block g (by omega) (fun e => hgn (by cases e; rfl)))).trans (HC4.out j hj)
        go_wp2_with fail
        clear hg ki
        simp only [show decide ((L.length : Int) < 2) = false from decide_eq_false (by omega)]
        obtain ⟨W5, rfl⟩ : ∃ W5, W5 = wr := ⟨_, rfl⟩
        have hB5 : Below w.heap.size w W5 := HD5
        clear hD4 hwd q14 HC4 hrb4
        go_loopw [8] (fun i W => ∃ (i' : Nat) (x : Ent), 2 ≤ i' ∧ i' ≤ L.length + 1 ∧ i = .int .i64 i' ∧ Hid (pairsF x (L.drop i') = xR L) ∧ EB W n x ∧ W5.grownBy W (some n)) (fun i _ => L.length + 2 - (intOf i).toNat)
        case atStart => exact ⟨2, _, by omega, by omega, rfl, HX.out.symm, he, grown_refl _ _⟩
        case round =>
          clear he
          obtain ⟨i, x, hi1, hi2, rfl, HP, he, hg⟩ := hrel
          have hzr := hg.size
          have hgr5 : g < wr.heap.size := by omega
          have hnr5 : n < wr.heap.size := by omega
          by_cases hlt : i + 1 < L.length
          · have r1 := (World.cell?_of_block (a := ⟨g, i, none⟩) (hg.block g (by omega) (fun e => hgn (by cases e; rfl)))).trans (ho.out i (by omega))
            have r2 := (World.cell?_of_block (a := ⟨g, i + 1, none⟩) (hg.block g (by omega) (fun e => hgn (by cases e; rfl)))).trans (ho.out (i + 1) hlt)
            have hpp := pairs_step x L i hlt
            rw [HP.out] at hpp
            obtain ⟨a, haa⟩ : ∃ l, L.getD i [] = l := ⟨_, rfl⟩
            obtain ⟨b, hbb⟩ : ∃ l, L.getD (i + 1) [] = l := ⟨_, rfl⟩
            rw [haa] at r1 hpp
            rw [hbb] at r2 hpp
            obtain ⟨nb, hnb⟩ : ∃ i, numI b = i := ⟨_, rfl⟩
            rw [hnb] at hpp
            have HP1 : Hid (pairsF (setF x a nb) (L.drop (i + 2)) = xR L) := hpp.symm
            have ki : (i : Int) + 1 < L.length := by omega
            clear hpp haa hbb HP
            go_wp2_with fail
            refine (number_any ⟨b.toArray⟩ wr).mono ?_
            rw [show (⟨b.toArray⟩ : ByteArray).data.toList = b from rfl, hnb]
            rintro e w9 ⟨rfl, h9⟩
            rw [h9]
            clear h9 w9 hnb r2
            by_cases h0 : a = nodeW
            · have ha := h0
              have e0 : ((⟨a.toArray⟩ : ByteArray).toList == ([110, 111, 100, 101] : List UInt8)) = true := bs_lit (by rw [ha]; decide)
              have e1 : ((⟨a.toArray⟩ : ByteArray).toList == ([116, 105, 99, 107, 101, 116] : List UInt8)) = false := bs_lit (by rw [ha]; decide)
              have e2 : ((⟨a.toArray⟩ : ByteArray).toList == ([99, 111, 110, 116, 97, 99, 116] : List UInt8)) = false := bs_lit (by rw [ha]; decide)
              have e3 : ((⟨a.toArray⟩ : ByteArray).toList == ([118, 97, 108, 117, 101] : List UInt8)) = false := bs_lit (by rw [ha]; decide)
              have he2 : EB (wr.setCell ⟨n, 2, none⟩ (.int .i64 nb)) n (setF x a nb) := he.set 2 _ (by rw [ha]; simp [entVals, setF, nodeW, ticketW, contactW, valueW])
              have hg2 := grown_set hg 2 (.int .i64 nb)
              have xo := cell_blk he 2
              have fz := he.frozen 2
              simp only [entVals, List.getElem?_toArray, List.getElem?_cons_zero, List.getElem?_cons_succ] at xo
              have y1 := (World.cell?_of_block (a := ⟨g, i, none⟩) ((grown_set (grown_refl wr n) 2 (.int .i64 nb)).block g (by omega) (fun e => hgn (by cases e; rfl)))).trans r1
              clear ha he hg
              generalize setF x a nb = x2 at *
              generalize (⟨a.toArray⟩ : ByteArray) = ba at *
              go_wp2_with fail
              go_roundw
              case rel => exact ⟨i + 2, x2, by omega, by omega, by go_num, HP1.out, he2, hg2⟩
              case measure => simp [intOf]; omega
            · skip
              by_cases h1 : a = ticketW
              · have ha := h1
                have e0 : ((⟨a.toArray⟩ : ByteArray).toList == ([110, 111, 100, 101] : List UInt8)) = false := bs_lit (by rw [ha]; decide)
                have e1 : ((⟨a.toArray⟩ : ByteArray).toList == ([116, 105, 99, 107, 101, 116] : List UInt8)) = true := bs_lit (by rw [ha]; decide)
                have e2 : ((⟨a.toArray⟩ : ByteArray).toList == ([99, 111, 110, 116, 97, 99, 116] : List UInt8)) = false := bs_lit (by rw [ha]; decide)
                have e3 : ((⟨a.toArray⟩ : ByteArray).toList == ([118, 97, 108, 117, 101] : List UInt8)) = false := bs_lit (by rw [ha]; decide)
                have he2 : EB (wr.setCell ⟨n, 3, none⟩ (.int .i64 nb)) n (setF x a nb) := he.set 3 _ (by rw [ha]; simp [entVals, setF, nodeW, ticketW, contactW, valueW])
                have hg2 := grown_set hg 3 (.int .i64 nb)
                have xo := cell_blk he 3
                have fz := he.frozen 3
                simp only [entVals, List.getElem?_toArray, List.getElem?_cons_zero, List.getElem?_cons_succ] at xo
                have y1 := (World.cell?_of_block (a := ⟨g, i, none⟩) ((grown_set (grown_refl wr n) 3 (.int .i64 nb)).block g (by omega) (fun e => hgn (by cases e; rfl)))).trans r1
                clear ha he hg
                generalize setF x a nb = x2 at *
                generalize (⟨a.toArray⟩ : ByteArray) = ba at *
                go_wp2_with fail
                go_roundw
                case rel => exact ⟨i + 2, x2, by omega, by omega, by go_num, HP1.out, he2, hg2⟩
                case measure => simp [intOf]; omega
              · skip
                by_cases h2 : a = contactW
                · have ha := h2
                  have e0 : ((⟨a.toArray⟩ : ByteArray).toList == ([110, 111, 100, 101] : List UInt8)) = false := bs_lit (by rw [ha]; decide)
                  have e1 : ((⟨a.toArray⟩ : ByteArray).toList == ([116, 105, 99, 107, 101, 116] : List UInt8)) = false := bs_lit (by rw [ha]; decide)
                  have e2 : ((⟨a.toArray⟩ : ByteArray).toList == ([99, 111, 110, 116, 97, 99, 116] : List UInt8)) = true := bs_lit (by rw [ha]; decide)
                  have e3 : ((⟨a.toArray⟩ : ByteArray).toList == ([118, 97, 108, 117, 101] : List UInt8)) = false := bs_lit (by rw [ha]; decide)
                  have he2 : EB (wr.setCell ⟨n, 4, none⟩ (.int .i64 nb)) n (setF x a nb) := he.set 4 _ (by rw [ha]; simp [entVals, setF, nodeW, ticketW, contactW, valueW])
                  have hg2 := grown_set hg 4 (.int .i64 nb)
                  have xo := cell_blk he 4
                  have fz := he.frozen 4
                  simp only [entVals, List.getElem?_toArray, List.getElem?_cons_zero, List.getElem?_cons_succ] at xo
                  have y1 := (World.cell?_of_block (a := ⟨g, i, none⟩) ((grown_set (grown_refl wr n) 4 (.int .i64 nb)).block g (by omega) (fun e => hgn (by cases e; rfl)))).trans r1
                  clear ha he hg
                  generalize setF x a nb = x2 at *
                  generalize (⟨a.toArray⟩ : ByteArray) = ba at *
                  go_wp2_with fail
                  go_roundw
                  case rel => exact ⟨i + 2, x2, by omega, by omega, by go_num, HP1.out, he2, hg2⟩
                  case measure => simp [intOf]; omega
                · skip
                  by_cases h3 : a = valueW
                  · have ha := h3
                    have e0 : ((⟨a.toArray⟩ : ByteArray).toList == ([110, 111, 100, 101] : List UInt8)) = false := bs_lit (by rw [ha]; decide)
                    have e1 : ((⟨a.toArray⟩ : ByteArray).toList == ([116, 105, 99, 107, 101, 116] : List UInt8)) = false := bs_lit (by rw [ha]; decide)
                    have e2 : ((⟨a.toArray⟩ : ByteArray).toList == ([99, 111, 110, 116, 97, 99, 116] : List UInt8)) = false := bs_lit (by rw [ha]; decide)
                    have e3 : ((⟨a.toArray⟩ : ByteArray).toList == ([118, 97, 108, 117, 101] : List UInt8)) = true := bs_lit (by rw [ha]; decide)
                    have he2 : EB (wr.setCell ⟨n, 5, none⟩ (.int .i64 nb)) n (setF x a nb) := he.set 5 _ (by rw [ha]; simp [entVals, setF, nodeW, ticketW, contactW, valueW])
                    have hg2 := grown_set hg 5 (.int .i64 nb)
                    have xo := cell_blk he 5
                    have fz := he.frozen 5
                    simp only [entVals, List.getElem?_toArray, List.getElem?_cons_zero, List.getElem?_cons_succ] at xo
                    have y1 := (World.cell?_of_block (a := ⟨g, i, none⟩) ((grown_set (grown_refl wr n) 5 (.int .i64 nb)).block g (by omega) (fun e => hgn (by cases e; rfl)))).trans r1
                    clear ha he hg
                    generalize setF x a nb = x2 at *
                    generalize (⟨a.toArray⟩ : ByteArray) = ba at *
                    go_wp2_with fail
                    go_roundw
                    case rel => exact ⟨i + 2, x2, by omega, by omega, by go_num, HP1.out, he2, hg2⟩
                    case measure => simp [intOf]; omega
                  · skip
                    have e0 : ((⟨a.toArray⟩ : ByteArray).toList == ([110, 111, 100, 101] : List UInt8)) = false := bs_lit (beq_eq_false_iff_ne.2 h0)
                    have e1 : ((⟨a.toArray⟩ : ByteArray).toList == ([116, 105, 99, 107, 101, 116] : List UInt8)) = false := bs_lit (beq_eq_false_iff_ne.2 h1)
                    have e2 : ((⟨a.toArray⟩ : ByteArray).toList == ([99, 111, 110, 116, 97, 99, 116] : List UInt8)) = false := bs_lit (beq_eq_false_iff_ne.2 h2)
                    have e3 : ((⟨a.toArray⟩ : ByteArray).toList == ([118, 97, 108, 117, 101] : List UInt8)) = false := bs_lit (beq_eq_false_iff_ne.2 h3)
                    have HS : Hid (setF x a nb = x) := by show _ = _; rw [setF, if_neg h0, if_neg h1, if_neg h2, if_neg h3]
                    have HP2 : Hid (pairsF x (L.drop (i + 2)) = xR L) := by show _ = _; rw [← HS.out]; exact HP1.out
                    clear h0 h1 h2 h3
                    generalize (⟨a.toArray⟩ : ByteArray) = ba at *
                    go_wp2_with fail
                    go_roundw
                    case rel => exact ⟨i + 2, x, by omega, by omega, by go_num, HP2.out, he, hg⟩
                    case measure => simp [intOf]; omega
          · have ki : ¬ (i : Int) + 1 < L.length := by omega
            have HXR : Hid (x = xR L) := by
              show _ = _
              rw [← HP.out, pairs_end x L i (by omega)]
            clear HP
            have hrbE := (hg.block w.heap.size (by omega) (fun e => by cases e; omega)).trans hrbR
            have HB9 : Below w.heap.size w wr := ⟨hg.os.trans hB5.os, hg.tape.trans hB5.tape, hg.output.trans hB5.output, Nat.le_trans hB5.size hg.size, fun j hj => (hg.block j (by have := hB5.size; omega) (fun e => by cases e; omega)).trans (hB5.block j hj)⟩
            have HZX : Hid (∀ z, IsT (s.data.toList ++ [10]) z → x = z) := fun z hz => HXR.out.trans (HZ.out z hz).2
            have ⟨c0, c1, c2', c3, c4, c5⟩ := he.cells
            have hE9 := Lib.hid he
            clear hrbR hg hB5 HXR HZ he ho HX
            go_wp2_with fail
            refine (rentry_any x wr).mono ?_
            rintro e w1 ⟨rfl, hb1⟩
            have hB1 := HB9.trans (hb1.mono HB9.size)
            have hE1 : EB w1 n x := (hb1.block n hnr5).trans hE9.out
            have hrb1 := (hb1.block w.heap.size (by omega)).trans hrbE
            have hz1 := hb1.size
            have k1 : ¬ 9223372036854775807 < s.size + 1 := by omega
            clear hb1 hrbE HB9 hE9 c0 c1 c2' c3 c4 c5
            by_cases hE : entE x = 0
            · have hEb : (entE x != 0) = false := by simp [hE]
              obtain ⟨ce, hce⟩ : ∃ ce, entE x = ce := ⟨_, rfl⟩
              have HE0 := Lib.hid hE
              rw [hce] at hEb ⊢
              clear hE hce
              have ⟨d0, d1, d2, d3, d4, d5⟩ := hE1.cells
              have HE1 := Lib.hid hE1
              clear hE1
              go_wp2_with fail
              refine (rtext_any x w1 HE0.out).mono ?_
              rintro e w2 ⟨rfl, hb2⟩
              have hB2 := hB1.trans (hb2.mono hB1.size)
              have hE2 : EB w2 n x := (hb2.block n (by omega)).trans HE1.out
              have hrb2 := (hb2.block w.heap.size (by omega)).trans hrb1
              have hz2' := hb2.size
              clear hb2 hrb1 hB1 HE1 d0 d1 d2 d3 d4 d5
              have ⟨d0, d1, d2, d3, d4, d5⟩ := hE2.cells
              clear hE2
              have hsn : (s ++ (⟨#[10]⟩ : ByteArray)).toList = s.data.toList ++ [10] := by rw [ByteArray.toList_eq]; simp [ByteArray.data_append]
              by_cases hT : textL x = s.data.toList ++ [10]
              · have hTb : (textL x == (s ++ (⟨#[10]⟩ : ByteArray)).toList) = true := by rw [hsn, hT]; exact beq_self_eq_true _
                have HI : Hid (IsT (s.data.toList ++ [10]) x) := ⟨HE0.out, hT⟩
                clear hsn hT
                generalize textL x = tx at *
                go_wp2_with (refine wpList_store_row rfl 37 _ _ rfl w.heap.size (entVals x).toArray (by kernel_rfl) (by kernel_rfl) 37 #[.int .i64 0, .int .i64 0, .int .i64 0, .int .i64 0, .int .i64 0, .int .i64 0] hrb2 (by kernel_rfl) (by kernel_rfl) (by kernel_rfl) ?_)
                refine bodyPost_ret (res30 _ _ w.heap.size x true (by kernel_rfl) (by kernel_rfl) (row_set hrb2 _)) rfl ?_
                exact ⟨_, _, rfl, below_setRow hB2 (Nat.le_refl _) _, (fun _ => HI.out), fun z hz => ⟨rfl, HZX.out z hz⟩⟩
              · have hTb : (textL x == (s ++ (⟨#[10]⟩ : ByteArray)).toList) = false := by rw [hsn]; exact beq_eq_false_iff_ne.2 hT
                have HNO : Hid (∀ z, IsT (s.data.toList ++ [10]) z → False) := fun z hz => hT (by rw [HZX.out z hz]; exact hz.2)
                clear hsn hT
                generalize textL x = tx at *
                go_wp2_with (refine wpList_store_row rfl 37 _ _ rfl w.heap.size #[.int .i64 0, .int .i64 0, .int .i64 0, .int .i64 0, .int .i64 0, .int .i64 0] (by kernel_rfl) (by kernel_rfl) 37 #[.int .i64 0, .int .i64 0, .int .i64 0, .int .i64 0, .int .i64 0, .int .i64 0] hrb2 (by kernel_rfl) (by kernel_rfl) (by kernel_rfl) ?_)
                refine bodyPost_ret (res30 _ _ w.heap.size Ent.zero false (by kernel_rfl) (by kernel_rfl) (row_set hrb2 _)) rfl ?_
                exact ⟨_, _, rfl, below_setRow hB2 (Nat.le_refl _) _, (fun h => by cases h), fun z hz => (HNO.out z hz).elim⟩
            · have hEb : (entE x != 0) = true := by simpa using hE
              have HNO : Hid (∀ z, IsT (s.data.toList ++ [10]) z → False) := fun z hz => hE (by rw [HZX.out z hz]; exact hz.1)
              clear hE hE1
              generalize entE x = ce at *
              go_wp2_with (refine wpList_store_row rfl 37 _ _ rfl w.heap.size #[.int .i64 0, .int .i64 0, .int .i64 0, .int .i64 0, .int .i64 0, .int .i64 0] (by kernel_rfl) (by kernel_rfl) 37 #[.int .i64 0, .int .i64 0, .int .i64 0, .int .i64 0, .int .i64 0, .int .i64 0] hrb1 (by kernel_rfl) (by kernel_rfl) (by kernel_rfl) ?_)
              refine bodyPost_ret (res30 _ _ w.heap.size Ent.zero false (by kernel_rfl) (by kernel_rfl) (row_set hrb1 _)) rfl ?_
              exact ⟨_, _, rfl, below_setRow hB1 (Nat.le_refl _) _, (fun h => by cases h), fun z hz => (HNO.out z hz).elim⟩
end Go.Proofs.YtekpnphfdoplfaaDoor

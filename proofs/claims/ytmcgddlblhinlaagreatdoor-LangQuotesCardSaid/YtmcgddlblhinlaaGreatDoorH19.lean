/- A mission's text is printed. -/
import Derived.Test.YtmcgddlblhinlaaGreatDoorH18
namespace Go.Proofs.YtmcgddlblhinlaaGreatDoor
open Go.RowKit
def fltI (f : Flt) : List Item := [.flt f]
def otgI (g : Otg) : List Item := [.otg g]
theorem untS_size {u : Int} (h : u = -1 ∨ InR [u]) : (untS u).size ≤ 21 := by
  unfold untS
  split
  · decide
  · rename_i hu
    have := h.resolve_left hu u (by simp)
    exact itoaS_size this.1 this.2
theorem fltArgs_ok {f : Flt} (h : InR [f.n, f.a, f.k] ∧ (f.u = -1 ∨ InR [f.u])) : ∀ a ∈ [Arg.num f.n, .num f.a, .num f.k, .str (untS f.u)], a.ok := by
  intro a ha
  simp only [List.mem_cons, List.not_mem_nil, or_false] at ha
  rcases ha with rfl | rfl | rfl | rfl
  · exact h.1 _ (by simp)
  · exact h.1 _ (by simp)
  · exact h.1 _ (by simp)
  · have := untS_size h.2; show (untS f.u).size ≤ 70000; omega
theorem otgArgs_ok {g : Otg} (h : InR [g.c, g.f, g.t]) : ∀ a ∈ [Arg.num g.c, .num g.f, .num g.t], a.ok := by
  intro a ha
  simp only [List.mem_cons, List.not_mem_nil, or_false] at ha
  rcases ha with rfl | rfl | rfl
  · exact h _ (by simp)
  · exact h _ (by simp)
  · exact h _ (by simp)
theorem flt_line (f : Flt) : joinS fltS ([Arg.num f.n, .num f.a, .num f.k, .str (untS f.u)].map Arg.s) ++ ⟨#[10]⟩ = ⟨(lineI (.flt f)).toArray⟩ := line_eq _ _
theorem otg_line (g : Otg) : joinS otgS ([Arg.num g.c, .num g.f, .num g.t].map Arg.s) ++ ⟨#[10]⟩ = ⟨(lineI (.otg g)).toArray⟩ := line_eq _ _
theorem bnd_line : joinS bndS (([] : List Arg).map Arg.s) ++ ⟨#[10]⟩ = ⟨(lineI .bnd).toArray⟩ := line_eq _ _
theorem bnd_len : (lineI .bnd).length = 8 := by decide
theorem printL_eq (m : Mis) : printL m = (((planT m.q m.cs ++ linesL (m.os.flatMap ordItems)) ++ linesL (m.fs.flatMap fltI)) ++ linesL (m.xs.flatMap otgI)) ++ linesL (if m.bd = true then [.bnd] else []) := by
  unfold printL itemsM planT
  rw [map_fm Item.con, map_fm Item.flt, map_fm Item.otg, segT_all]
  simp only [linesL_append]
  rw [nodesT, List.take_length]
  rfl
theorem plan_zero {m : Mis} (h : misE m = 0) : planE m.q m.cs = 0 := by
  unfold misE at h
  split at h
  · rename_i h1; exact absurd h h1
  · rename_i h1; simpa using h1
set_option maxHeartbeats 8000000 in
set_option maxRecDepth 100000 in
theorem print_ok (VQ VC VO VF VX : Value) (m : Mis) (w : World) (hM : MisAt w w.heap.size VQ VC VO VF VX m) (hG : Glob w) (hE : misE m = 0) :
    Calls Tryz.prog 14 #[.agg #[VQ, VC, VO, VF, VX, .bool m.bd]] w fun e w' => e = .returned (.tuple #[.string (printR m).1, .int .i64 (printR m).2]) ∧ Below w.heap.size w w' := by
  have HE := Lib.hid hE
  have HM := Lib.hid (mis_ok hE)
  have HPl := Lib.hid (printL_eq m)
  have HG := Lib.hid hG
  have HI := Lib.hid hM
  have hql := HM.out.q.1
  have hcl := HM.out.c.1
  have hol := HM.out.o.1
  have hfl := HM.out.f.1
  have hxl := HM.out.x.1
  have HLo : Hid (∀ k, (segT ordItems m.os k).length ≤ 7200000 * m.os.length) := segT_len _ m.os 7200000 fun x hx => by
    have h1 := HM.out.o.2 x hx
    have h2 := ordT_sz h1 _ (Nat.le_refl _)
    have h3 := h1.bl
    rw [ordT_all] at h2; omega
  have HLf : Hid (∀ k, (segT fltI m.fs k).length ≤ 800000 * m.fs.length) := segT_len _ m.fs 800000 fun x hx => by
    rw [fltI, linesL_one]; exact line_sz (by decide) (fltArgs_ok (HM.out.f.2 x hx)) (by simp) (flt_line x)
  have HLx : Hid (∀ k, (segT otgI m.xs k).length ≤ 800000 * m.xs.length) := segT_len _ m.xs 800000 fun x hx => by
    rw [otgI, linesL_one]; exact line_sz (by decide) (otgArgs_ok (HM.out.x.2 x hx)) (by simp) (otg_line x)
  have hpT : (planT m.q m.cs).length ≤ 800000 * 100 := by
    have h1 := nodesT_len hql HM.out.q.2 _ (Nat.le_refl _)
    have h2 := segT_len (fun c => [Item.con c]) m.cs 800000 (fun c hc => by
      rw [linesL_one]; exact num_sz (by decide) (HM.out.c.2 c hc) (by simp [conNums]) (con_line c)) m.cs.length
    rw [planT, List.length_append]; omega
  clear hE hG
  obtain ⟨hq, hc, ho, hf, hx⟩ := hM
  obtain ⟨A1, c1, rfl, hc1, hm1, -⟩ := hq
  obtain ⟨A2, c2, rfl, hc2, hm2, -⟩ := hc
  obtain ⟨A3, c3, rfl, hc3, hm3, hA3⟩ := ho
  obtain ⟨A4, c4, rfl, hc4, hm4, hA4⟩ := hf
  obtain ⟨A5, c5, rfl, hc5, hm5, hA5⟩ := hx
  have HA3 := Lib.hid hA3
  have HA4 := Lib.hid hA4
  have HA5 := Lib.hid hA5
  clear hA3 hA4 hA5
  unfold maxLen at hm1 hm2 hm3 hm4 hm5
  go_enter Tryz.func14, Tryz.ntmps14
  go_wp2_with fail
  have m0 : (w.alloc (.cells #[.slice A1 m.q.length c1, .slice A2 m.cs.length c2, .slice A3 m.os.length c3, .slice A4 m.fs.length c4, .slice A5 m.xs.length c5, .bool m.bd] 31)).cell? ⟨w.heap.size, 0, none⟩ = some (.slice A1 m.q.length c1) := by simp [go_sem]
  have m1 : (w.alloc (.cells #[.slice A1 m.q.length c1, .slice A2 m.cs.length c2, .slice A3 m.os.length c3, .slice A4 m.fs.length c4, .slice A5 m.xs.length c5, .bool m.bd] 31)).cell? ⟨w.heap.size, 1, none⟩ = some (.slice A2 m.cs.length c2) := by simp [go_sem]
  have m2 : (w.alloc (.cells #[.slice A1 m.q.length c1, .slice A2 m.cs.length c2, .slice A3 m.os.length c3, .slice A4 m.fs.length c4, .slice A5 m.xs.length c5, .bool m.bd] 31)).cell? ⟨w.heap.size, 2, none⟩ = some (.slice A3 m.os.length c3) := by simp [go_sem]
  have m3 : (w.alloc (.cells #[.slice A1 m.q.length c1, .slice A2 m.cs.length c2, .slice A3 m.os.length c3, .slice A4 m.fs.length c4, .slice A5 m.xs.length c5, .bool m.bd] 31)).cell? ⟨w.heap.size, 3, none⟩ = some (.slice A4 m.fs.length c4) := by simp [go_sem]
  have m4 : (w.alloc (.cells #[.slice A1 m.q.length c1, .slice A2 m.cs.length c2, .slice A3 m.os.length c3, .slice A4 m.fs.length c4, .slice A5 m.xs.length c5, .bool m.bd] 31)).cell? ⟨w.heap.size, 4, none⟩ = some (.slice A5 m.xs.length c5) := by simp [go_sem]
  have m5 : (w.alloc (.cells #[.slice A1 m.q.length c1, .slice A2 m.cs.length c2, .slice A3 m.os.length c3, .slice A4 m.fs.length c4, .slice A5 m.xs.length c5, .bool m.bd] 31)).cell? ⟨w.heap.size, 5, none⟩ = some (.bool m.bd) := by simp [go_sem]
  have hb0 : Below w.heap.size w (w.alloc (.cells #[.slice A1 m.q.length c1, .slice A2 m.cs.length c2, .slice A3 m.os.length c3, .slice A4 m.fs.length c4, .slice A5 m.xs.length c5, .bool m.bd] 31)) := (Below.refl _ w).alloc (Nat.le_refl _) _
  have hz0 : (w.alloc (.cells #[.slice A1 m.q.length c1, .slice A2 m.cs.length c2, .slice A3 m.os.length c3, .slice A4 m.fs.length c4, .slice A5 m.xs.length c5, .bool m.bd] 31)).heap.size = w.heap.size + 1 := by simp
  generalize w.alloc (.cells #[.slice A1 m.q.length c1, .slice A2 m.cs.length c2, .slice A3 m.os.length c3, .slice A4 m.fs.length c4, .slice A5 m.xs.length c5, .bool m.bd] 31) = v0 at *
  have HS0 : Hid (∀ W, Below v0.heap.size v0 W → W.cell? ⟨w.heap.size, 0, none⟩ = some (.slice A1 m.q.length c1) ∧ W.cell? ⟨w.heap.size, 1, none⟩ = some (.slice A2 m.cs.length c2) ∧ W.cell? ⟨w.heap.size, 2, none⟩ = some (.slice A3 m.os.length c3) ∧ W.cell? ⟨w.heap.size, 3, none⟩ = some (.slice A4 m.fs.length c4) ∧ W.cell? ⟨w.heap.size, 4, none⟩ = some (.slice A5 m.xs.length c5) ∧ W.cell? ⟨w.heap.size, 5, none⟩ = some (.bool m.bd)) := fun W h => by
    have e : ∀ k, W.cell? ⟨w.heap.size, k, none⟩ = v0.cell? ⟨w.heap.size, k, none⟩ := fun k => h.cell (p := ⟨w.heap.size, k, none⟩) (by show w.heap.size < v0.heap.size; omega)
    exact ⟨(e _).trans m0, (e _).trans m1, (e _).trans m2, (e _).trans m3, (e _).trans m4, (e _).trans m5⟩
  clear m0 m1 m2 m3 m4 m5
  refine (mis_any _ _ _ _ _ m v0 (HI.out.on hb0)).mono ?_
  rw [HE.out]
  rintro e w1 ⟨rfl, hb1⟩
  obtain ⟨q0, q1, q2, q3, q4, q5⟩ := HS0.out w1 hb1
  have hz1 := hb1.size
  have I1 := (HI.out.on hb0).on hb1
  go_wp2_with fail
  refine (pprint_any _ _ m.q m.cs w1 I1.q I1.c (HG.out.gw fun j hj => ((hb0.trans (hb1.mono hb0.size)).block j (by have := HG.out.lt; omega))) (plan_zero HE.out) hql HM.out.q.2 hcl HM.out.c.2).mono ?_
  rintro e w2 ⟨rfl, hb2⟩
  have b2 := hb1.trans (hb2.mono hz1)
  have hl := b2.size
  clear q0 q1 q2 q3 q4 q5 hb1 hb2 I1 hz1
  obtain ⟨q0, q1, q2, q3, q4, q5⟩ := HS0.out w2 b2
  have hnw : w.heap.size < w2.heap.size := by omega
  go_wp2_with fail
  have l2 := Bl.new w2
  have b3 := b2.alloc hl (.cells #[.pointer none, .slice none 0 0] 61)
  have hwn : w.heap.size ≤ w2.heap.size := by omega
  clear b2 q0 q1 q2 q3 q4 q5
  generalize (w2.alloc (.cells #[.pointer none, .slice none 0 0] 61)) = w3 at *
  generalize w2.heap.size = n1 at *
  refine (write_any n1 _ _ _ rfl w3 l2 (by rw [List.length_nil]; omega)).mono ?_
  rintro e wr ⟨⟨y, rfl⟩, lr, hbw⟩
  have br := b3.trans (hbw.mono hl)
  rw [List.nil_append] at lr
  generalize planT m.q m.cs = L0 at *
  clear b3 hbw l2
  obtain ⟨q0, q1, q2, q3, q4, q5⟩ := HS0.out wr br
  have hzr := br.size
  go_wp2_with fail
  obtain ⟨wo, rfl⟩ : ∃ wo : World, wo = wr := ⟨_, rfl⟩
  go_loopw [30] (fun i wx => ∃ k : Nat, k ≤ m.os.length ∧ i = .int .i64 k ∧ Below v0.heap.size v0 wx ∧ Bl wx n1 (L0 ++ segT ordItems m.os k)) (fun i _ => m.os.length - (intOf i).toNat)
  case atStart => exact ⟨0, by omega, rfl, br, by rw [segT_zero, List.append_nil]; exact lr⟩
  case round =>
    clear br lr hzr q0 q1 q2 q3 q4 q5
    obtain ⟨k, hk, rfl, br, lr⟩ := hrel
    obtain ⟨q0, q1, q2, q3, q4, q5⟩ := HS0.out wr br
    have hzr := br.size
    by_cases hlt : k < m.os.length
    · obtain ⟨b, o, rfl, hb, hcell⟩ := HA3.out (by omega)
      have hx := hcell k hlt
      have hbr : b < wr.heap.size := by omega
      have hm : m.os.getD k Bun.zero ∈ m.os := by simp [List.getD, hlt]
      have HOK := Lib.hid (HM.out.o.2 _ hm)
      have HST : Hid ((L0 ++ segT ordItems m.os k) ++ linesL (ordItems (m.os.getD k Bun.zero)) = L0 ++ segT ordItems m.os (k + 1)) := by show _ = _; rw [segT_succ _ m.os Bun.zero k hlt, List.append_assoc]
      have hln := HLo.out k
      have hll2 : (L0 ++ segT ordItems m.os k).length ≤ 800000 * 1000 := by rw [List.length_append]; omega
      have hll := ordT_sz HOK.out _ (Nat.le_refl _)
      rw [ordT_all] at hll
      have hb8 := HOK.out.bl
      clear hcell hm hln
      generalize m.os.getD k Bun.zero = x at *
      obtain ⟨x0, x1, x2, x3, x4, x5, x6, x7, x8, x9, ⟨V, x10, hV⟩, x11⟩ := hx.below (hb0.trans (br.mono hb0.size)) hb
      have hV2 := hV.blks_more (B' := wr.heap.size) (by omega)
      obtain ⟨AB, cB, rfl, hcB, hmB, -⟩ := hV
      go_wp2_with fail
      have b3 := br.alloc hzr (.cells #[.int .i64 x.s, .int .i64 x.c, .int .i64 x.q, .int .i64 x.o, .int .i64 x.t, .int .i64 x.dk, .int .i64 x.dn, .int .i64 x.lf, .int .i64 x.pr, .int .i64 x.fl, .slice AB x.bl.length cB, .string x.py] 50)
      have l3 := lr.below ((Below.refl _ wr).alloc (Nat.le_refl _) (.cells #[.int .i64 x.s, .int .i64 x.c, .int .i64 x.q, .int .i64 x.o, .int .i64 x.t, .int .i64 x.dk, .int .i64 x.dn, .int .i64 x.lf, .int .i64 x.pr, .int .i64 x.fl, .slice AB x.bl.length cB, .string x.py] 50))
      have hV3 := (hV2.blks ((Below.refl _ wr).alloc (Nat.le_refl _) (.cells #[.int .i64 x.s, .int .i64 x.c, .int .i64 x.q, .int .i64 x.o, .int .i64 x.t, .int .i64 x.dk, .int .i64 x.dn, .int .i64 x.lf, .int .i64 x.pr, .int .i64 x.fl, .slice AB x.bl.length cB, .string x.py] 50))).blks_more (B' := (wr.alloc (.cells #[.int .i64 x.s, .int .i64 x.c, .int .i64 x.q, .int .i64 x.o, .int .i64 x.t, .int .i64 x.dk, .int .i64 x.dn, .int .i64 x.lf, .int .i64 x.pr, .int .i64 x.fl, .slice AB x.bl.length cB, .string x.py] 50)).heap.size) (by simp)
      refine (order_pr x HOK.out _ _ hV3 (HG.out.gw fun j hj => ((hb0.trans (b3.mono hb0.size)).block j (by have := HG.out.lt; omega)))).mono ?_
      rintro e w4 ⟨rfl, hb4⟩
      have b5 := b3.trans (hb4.mono b3.size)
      have l5 := l3.below hb4
      clear b3 l3 hb4 hV2 hV3 x0 x1 x2 x3 x4 x5 x6 x7 x8 x9 x10 x11 q0 q1 q2 q3 q4 q5
      go_wp2_with fail
      refine (write_any n1 _ _ _ rfl w4 l5 (by omega)).mono ?_
      rintro e w5 ⟨⟨y, rfl⟩, l6, hb6⟩
      have b6 := b5.trans (hb6.mono hl)
      rw [HST.out] at l6
      clear hb6 l5 b5
      go_wp2_with fail
      go_roundw
      case rel => exact ⟨k + 1, by omega, by go_num, b6, l6⟩
      case measure => simp [intOf]; omega
    · obtain rfl : k = m.os.length := by omega
      go_wp2_with fail
      have hlo := HLo.out m.os.length
      have hL1 : (L0 ++ segT ordItems m.os m.os.length).length ≤ 800000 * 1000 := by rw [List.length_append]; omega
      rw [segT_all] at lr hL1
      generalize L0 ++ linesL (m.os.flatMap ordItems) = L1 at *
      obtain ⟨wo, rfl⟩ : ∃ wo : World, wo = wr := ⟨_, rfl⟩
      go_loopw [41] (fun i wx => ∃ k : Nat, k ≤ m.fs.length ∧ i = .int .i64 k ∧ Below v0.heap.size v0 wx ∧ Bl wx n1 (L1 ++ segT fltI m.fs k)) (fun i _ => m.fs.length - (intOf i).toNat)
      case atStart => exact ⟨0, by omega, rfl, br, by rw [segT_zero, List.append_nil]; exact lr⟩
      case round =>
        clear br lr hzr q0 q1 q2 q3 q4 q5
        obtain ⟨k, hk, rfl, br, lr⟩ := hrel
        obtain ⟨q0, q1, q2, q3, q4, q5⟩ := HS0.out wr br
        have hzr := br.size
        by_cases hlt : k < m.fs.length
        · obtain ⟨b, o, rfl, hb, hcell⟩ := HA4.out (by omega)
          have hx := (hcell k hlt).below (B' := 0) (hb0.trans (br.mono hb0.size)) hb
          have hbr : b < wr.heap.size := by omega
          have hm : m.fs.getD k Flt.zero ∈ m.fs := by simp [List.getD, hlt]
          have HOK := Lib.hid (HM.out.f.2 _ hm)
          have HST : Hid ((L1 ++ segT fltI m.fs k) ++ lineI (.flt (m.fs.getD k Flt.zero)) = L1 ++ segT fltI m.fs (k + 1)) := by show _ = _; rw [segT_succ _ m.fs Flt.zero k hlt, fltI, linesL_one, List.append_assoc]
          have hln := HLf.out k
          have hll2 : (L1 ++ segT fltI m.fs k).length ≤ 800000 * 2000 := by rw [List.length_append]; omega
          have hll := line_sz (by decide) (fltArgs_ok HOK.out) (by simp) (flt_line (m.fs.getD k Flt.zero))
          clear hcell hm hln
          generalize m.fs.getD k Flt.zero = f at *
          obtain ⟨x0, x1, x2, x3⟩ := hx
          by_cases hu : f.u = -1
          · have HU : Hid (untS f.u = ⟨#[110, 101, 118, 101, 114]⟩) := by show _ = _; rw [untS, if_pos hu]; rfl
            have qu : (f.u != -1) = false := by rw [hu]; rfl
            clear hu
            go_wp2_with fail
            rw [← HU.out]
            have b3 := br.alloc hzr (.cells #[.int .i64 f.n, .int .i64 f.a, .int .i64 f.k, .int .i64 f.u] 76)
            have l3 := lr.below ((Below.refl _ wr).alloc (Nat.le_refl _) (.cells #[.int .i64 f.n, .int .i64 f.a, .int .i64 f.k, .int .i64 f.u] 76))
            have hI := args_new (wr.alloc (.cells #[.int .i64 f.n, .int .i64 f.a, .int .i64 f.k, .int .i64 f.u] 76)) [.num f.n, .num f.a, .num f.k, .str (untS f.u)] #[.iface 3 (.int .i64 f.n), .iface 3 (.int .i64 f.a), .iface 3 (.int .i64 f.k), .iface 9 (.string (untS f.u))] (by simp [Arg.val]) (by simp) 4 rfl
            have b4 := b3.alloc b3.size (.cells #[.iface 3 (.int .i64 f.n), .iface 3 (.int .i64 f.a), .iface 3 (.int .i64 f.k), .iface 9 (.string (untS f.u))] 20)
            have l4 := l3.below ((Below.refl _ _).alloc (Nat.le_refl _) (.cells #[.iface 3 (.int .i64 f.n), .iface 3 (.int .i64 f.a), .iface 3 (.int .i64 f.k), .iface 9 (.string (untS f.u))] 20))
            rw [show (wr.alloc (.cells #[.int .i64 f.n, .int .i64 f.a, .int .i64 f.k, .int .i64 f.u] 76)).heap.size = wr.heap.size + 1 by simp] at hI
            refine (lline_any fltS (by decide) _ _ (fltArgs_ok HOK.out) (by simp) _ hI (HG.out.gw fun j hj => ((hb0.trans (b4.mono hb0.size)).block j (by have := HG.out.lt; omega)))).mono ?_
            rw [flt_line]
            rintro e w4 ⟨rfl, hb4⟩
            have b5 := b4.trans (hb4.mono b4.size)
            have l5 := l4.below hb4
            clear hI b3 l3 hb4 b4 l4 x0 x1 x2 x3 q0 q1 q2 q3 q4 q5
            go_wp2_with fail
            refine (write_any n1 _ _ _ rfl w4 l5 (by omega)).mono ?_
            rintro e w5 ⟨⟨y, rfl⟩, l6, hb6⟩
            have b6 := b5.trans (hb6.mono hl)
            rw [HST.out] at l6
            clear hb6 l5 b5
            go_wp2_with fail
            go_roundw
            case rel => exact ⟨k + 1, by omega, by go_num, b6, l6⟩
            case measure => simp [intOf]; omega
          · have HU : Hid (untS f.u = itoaS f.u) := by show _ = _; rw [untS, if_neg hu]
            have hur := HOK.out.2.resolve_left hu f.u (by simp)
            have qu : (f.u != -1) = true := by simpa using hu
            clear hu
            go_wp2_with fail
            have b30 := br.alloc hzr (.cells #[.int .i64 f.n, .int .i64 f.a, .int .i64 f.k, .int .i64 f.u] 76)
            have l30 := lr.below ((Below.refl _ wr).alloc (Nat.le_refl _) (.cells #[.int .i64 f.n, .int .i64 f.a, .int .i64 f.k, .int .i64 f.u] 76))
            have y0 : (wr.alloc (.cells #[.int .i64 f.n, .int .i64 f.a, .int .i64 f.k, .int .i64 f.u] 76)).cell? ⟨wr.heap.size, 0, none⟩ = some (.int .i64 f.n) := by simp [go_sem]
            have y1 : (wr.alloc (.cells #[.int .i64 f.n, .int .i64 f.a, .int .i64 f.k, .int .i64 f.u] 76)).cell? ⟨wr.heap.size, 1, none⟩ = some (.int .i64 f.a) := by simp [go_sem]
            have y2 : (wr.alloc (.cells #[.int .i64 f.n, .int .i64 f.a, .int .i64 f.k, .int .i64 f.u] 76)).cell? ⟨wr.heap.size, 2, none⟩ = some (.int .i64 f.k) := by simp [go_sem]
            have hws : wr.heap.size < (wr.alloc (.cells #[.int .i64 f.n, .int .i64 f.a, .int .i64 f.k, .int .i64 f.u] 76)).heap.size := by simp
            generalize (wr.alloc (.cells #[.int .i64 f.n, .int .i64 f.a, .int .i64 f.k, .int .i64 f.u] 76)) = w20 at *
            refine (itoa_any f.u (by omega) (by omega) _ (HG.out.gw fun j hj => ((hb0.trans (b30.mono hb0.size)).block j (by have := HG.out.lt; omega)))).mono ?_
            rintro e w2 ⟨rfl, hb2⟩
            have b3 := b30.trans (hb2.mono b30.size)
            have l3 := l30.below hb2
            have y0 := (hb2.cell (p := ⟨wr.heap.size, 0, none⟩) hws).trans y0
            have y1 := (hb2.cell (p := ⟨wr.heap.size, 1, none⟩) hws).trans y1
            have y2 := (hb2.cell (p := ⟨wr.heap.size, 2, none⟩) hws).trans y2
            have e1 : (⟨(Lib.itoa f.u).toArray⟩ : ByteArray) = untS f.u := HU.out.symm
            rw [e1]
            clear e1 b30 l30
            go_wp2_with fail
            have hI := args_new w2 [.num f.n, .num f.a, .num f.k, .str (untS f.u)] #[.iface 3 (.int .i64 f.n), .iface 3 (.int .i64 f.a), .iface 3 (.int .i64 f.k), .iface 9 (.string (untS f.u))] (by simp [Arg.val]) (by simp) 4 rfl
            have b4 := b3.alloc b3.size (.cells #[.iface 3 (.int .i64 f.n), .iface 3 (.int .i64 f.a), .iface 3 (.int .i64 f.k), .iface 9 (.string (untS f.u))] 20)
            have l4 := l3.below ((Below.refl _ _).alloc (Nat.le_refl _) (.cells #[.iface 3 (.int .i64 f.n), .iface 3 (.int .i64 f.a), .iface 3 (.int .i64 f.k), .iface 9 (.string (untS f.u))] 20))
            refine (lline_any fltS (by decide) _ _ (fltArgs_ok HOK.out) (by simp) _ hI (HG.out.gw fun j hj => ((hb0.trans (b4.mono hb0.size)).block j (by have := HG.out.lt; omega)))).mono ?_
            rw [flt_line]
            rintro e w4 ⟨rfl, hb4⟩
            have b5 := b4.trans (hb4.mono b4.size)
            have l5 := l4.below hb4
            clear hI b3 l3 hb4 b4 l4 x0 x1 x2 x3 q0 q1 q2 q3 q4 q5
            go_wp2_with fail
            refine (write_any n1 _ _ _ rfl w4 l5 (by omega)).mono ?_
            rintro e w5 ⟨⟨y, rfl⟩, l6, hb6⟩
            have b6 := b5.trans (hb6.mono hl)
            rw [HST.out] at l6
            clear hb6 l5 b5
            go_wp2_with fail
            go_roundw
            case rel => exact ⟨k + 1, by omega, by go_num, b6, l6⟩
            case measure => simp [intOf]; omega
        · obtain rfl : k = m.fs.length := by omega
          go_wp2_with fail
          have hlf := HLf.out m.fs.length
          have hL2 : (L1 ++ segT fltI m.fs m.fs.length).length ≤ 800000 * 2000 := by rw [List.length_append]; omega
          rw [segT_all] at lr hL2
          generalize L1 ++ linesL (m.fs.flatMap fltI) = L2 at *
          obtain ⟨wo, rfl⟩ : ∃ wo : World, wo = wr := ⟨_, rfl⟩
          go_loopw [69] (fun i wx => ∃ k : Nat, k ≤ m.xs.length ∧ i = .int .i64 k ∧ Below v0.heap.size v0 wx ∧ Bl wx n1 (L2 ++ segT otgI m.xs k)) (fun i _ => m.xs.length - (intOf i).toNat)
          case atStart => exact ⟨0, by omega, rfl, br, by rw [segT_zero, List.append_nil]; exact lr⟩
          case round =>
            clear br lr hzr q0 q1 q2 q3 q4 q5
            obtain ⟨k, hk, rfl, br, lr⟩ := hrel
            obtain ⟨q0, q1, q2, q3, q4, q5⟩ := HS0.out wr br
            have hzr := br.size
            by_cases hlt : k < m.xs.length
            · obtain ⟨b, o, rfl, hb, hcell⟩ := HA5.out (by omega)
              have hx := (hcell k hlt).below (B' := 0) (hb0.trans (br.mono hb0.size)) hb
              have hbr : b < wr.heap.size := by omega
              have hm : m.xs.getD k Otg.zero ∈ m.xs := by simp [List.getD, hlt]
              have HOK := Lib.hid (HM.out.x.2 _ hm)
              have HST : Hid ((L2 ++ segT otgI m.xs k) ++ lineI (.otg (m.xs.getD k Otg.zero)) = L2 ++ segT otgI m.xs (k + 1)) := by show _ = _; rw [segT_succ _ m.xs Otg.zero k hlt, otgI, linesL_one, List.append_assoc]
              have hln := HLx.out k
              have hll2 : (L2 ++ segT otgI m.xs k).length ≤ 800000 * 3000 := by rw [List.length_append]; omega
              have hll := line_sz (by decide) (otgArgs_ok HOK.out) (by simp) (otg_line (m.xs.getD k Otg.zero))
              clear hcell hm hln
              generalize m.xs.getD k Otg.zero = g at *
              obtain ⟨x0, x1, x2⟩ := hx
              go_wp2_with fail
              have b3 := br.alloc hzr (.cells #[.int .i64 g.c, .int .i64 g.f, .int .i64 g.t] 43)
              have l3 := lr.below ((Below.refl _ wr).alloc (Nat.le_refl _) (.cells #[.int .i64 g.c, .int .i64 g.f, .int .i64 g.t] 43))
              have hI := args_new (wr.alloc (.cells #[.int .i64 g.c, .int .i64 g.f, .int .i64 g.t] 43)) [.num g.c, .num g.f, .num g.t] #[.iface 3 (.int .i64 g.c), .iface 3 (.int .i64 g.f), .iface 3 (.int .i64 g.t)] (by simp [Arg.val]) (by simp) 3 rfl
              have b4 := b3.alloc b3.size (.cells #[.iface 3 (.int .i64 g.c), .iface 3 (.int .i64 g.f), .iface 3 (.int .i64 g.t)] 20)
              have l4 := l3.below ((Below.refl _ _).alloc (Nat.le_refl _) (.cells #[.iface 3 (.int .i64 g.c), .iface 3 (.int .i64 g.f), .iface 3 (.int .i64 g.t)] 20))
              rw [show (wr.alloc (.cells #[.int .i64 g.c, .int .i64 g.f, .int .i64 g.t] 43)).heap.size = wr.heap.size + 1 by simp] at hI
              refine (lline_any otgS (by decide) _ _ (otgArgs_ok HOK.out) (by simp) _ hI (HG.out.gw fun j hj => ((hb0.trans (b4.mono hb0.size)).block j (by have := HG.out.lt; omega)))).mono ?_
              rw [otg_line]
              rintro e w4 ⟨rfl, hb4⟩
              have b5 := b4.trans (hb4.mono b4.size)
              have l5 := l4.below hb4
              clear hI b3 l3 hb4 b4 l4 x0 x1 x2 q0 q1 q2 q3 q4 q5
              go_wp2_with fail
              refine (write_any n1 _ _ _ rfl w4 l5 (by omega)).mono ?_
              rintro e w5 ⟨⟨y, rfl⟩, l6, hb6⟩
              have b6 := b5.trans (hb6.mono hl)
              rw [HST.out] at l6
              clear hb6 l5 b5
              go_wp2_with fail
              go_roundw
              case rel => exact ⟨k + 1, by omega, by go_num, b6, l6⟩
              case measure => simp [intOf]; omega
            · obtain rfl : k = m.xs.length := by omega
              have hlx := HLx.out m.xs.length
              have hL3 : (L2 ++ segT otgI m.xs m.xs.length).length ≤ 800000 * 4000 := by rw [List.length_append]; omega
              rw [segT_all] at lr hL3
              generalize L2 ++ linesL (m.xs.flatMap otgI) = L3 at *
              by_cases hbd : m.bd = true
              · have HT : Hid (L3 ++ lineI .bnd = printL m) := by show _ = _; rw [HPl.out]; simp [hbd, linesL_one]
                have HBD := Lib.hid hbd
                have h3 : (L3).length ≤ 800000 * 4000 := hL3
                rw [hbd] at q5
                clear hbd
                go_wp2_with fail
                refine (lline_any bndS (by decide) _ [] (by simp) (by simp) wr (args_nil _ _) (HG.out.gw fun j hj => ((hb0.trans (br.mono hb0.size)).block j (by have := HG.out.lt; omega)))).mono ?_
                rw [bnd_line]
                rintro e w4 ⟨rfl, hb4⟩
                have b5 := br.trans (hb4.mono hzr)
                have l5 := lr.below hb4
                clear hb4 q0 q1 q2 q3 q4 q5
                go_wp2_with fail
                refine (write_any n1 _ _ _ rfl w4 l5 (by rw [bnd_len]; omega)).mono ?_
                rintro e wF ⟨⟨y, rfl⟩, lF, hb6⟩
                have bF := hb0.trans ((b5.trans (hb6.mono hl)).mono hb0.size)
                rw [HT.out] at lF
                clear hb6 l5 b5
                go_wp2_with fail
                refine (len_any n1 _ wF lF).mono ?_
                rintro e w6 ⟨rfl, rfl⟩
                by_cases hbig : 8192 < (printL m).length
                · have HR : Hid (printR m = (⟨#[]⟩, 4)) := by show _ = _; rw [printR, if_neg (by simp [HE.out]), if_pos hbig]
                  have hbi : (8192 : Int) < (printL m).length := by omega
                  clear hbig
                  go_wp2_with fail
                  go_ret2
                  exact ⟨by rw [HR.out]; rfl, bF⟩
                · have HR : Hid (printR m = (⟨(printL m).toArray⟩, 0)) := by show _ = _; rw [printR, if_neg (by simp [HE.out]), if_neg hbig]
                  have hbi : ¬ (8192 : Int) < (printL m).length := by omega
                  clear hbig
                  go_wp2_with fail
                  refine (str_any n1 _ w6 lF).mono ?_
                  rintro e w7 ⟨rfl, hb7⟩
                  have b7 := bF.trans (hb7.mono hwn)
                  go_wp2_with fail
                  go_ret2
                  exact ⟨by rw [HR.out]; rfl, b7⟩
              · have HT : Hid (L3 = printL m) := by show _ = _; rw [HPl.out]; simp [hbd, linesL]
                have hbd : m.bd = false := by simpa using hbd
                rw [hbd] at q5
                have lF := lr
                rw [HT.out] at lF
                have bF := hb0.trans (br.mono hb0.size)
                clear hbd
                obtain ⟨wF, rfl⟩ : ∃ wF : World, wF = wr := ⟨_, rfl⟩
                go_wp2_with fail
                refine (len_any n1 _ wF lF).mono ?_
                rintro e w6 ⟨rfl, rfl⟩
                by_cases hbig : 8192 < (printL m).length
                · have HR : Hid (printR m = (⟨#[]⟩, 4)) := by show _ = _; rw [printR, if_neg (by simp [HE.out]), if_pos hbig]
                  have hbi : (8192 : Int) < (printL m).length := by omega
                  clear hbig
                  go_wp2_with fail
                  go_ret2
                  exact ⟨by rw [HR.out]; rfl, bF⟩
                · have HR : Hid (printR m = (⟨(printL m).toArray⟩, 0)) := by show _ = _; rw [printR, if_neg (by simp [HE.out]), if_neg hbig]
                  have hbi : ¬ (8192 : Int) < (printL m).length := by omega
                  clear hbig
                  go_wp2_with fail
                  refine (str_any n1 _ w6 lF).mono ?_
                  rintro e w7 ⟨rfl, hb7⟩
                  have b7 := bF.trans (hb7.mono hwn)
                  go_wp2_with fail
                  go_ret2
                  exact ⟨by rw [HR.out]; rfl, b7⟩
theorem print_any (VQ VC VO VF VX : Value) (m : Mis) (w : World) (hM : MisAt w w.heap.size VQ VC VO VF VX m) (hG : Glob w) :
    Calls Tryz.prog 14 #[.agg #[VQ, VC, VO, VF, VX, .bool m.bd]] w fun e w' => e = .returned (.tuple #[.string (printR m).1, .int .i64 (printR m).2]) ∧ Below w.heap.size w w' := by
  by_cases hE : misE m = 0
  · exact print_ok VQ VC VO VF VX m w hM hG hE
  · have HR : Hid (printR m = (⟨#[]⟩, 1)) := by show _ = _; rw [printR, if_pos hE]
    have hEb : (misE m != 0) = true := by simpa using hE
    have HI := Lib.hid hM
    clear hE
    obtain ⟨hq, hc, ho, hf, hx⟩ := hM
    obtain ⟨A1, c1, rfl, hc1, hm1, -⟩ := hq
    obtain ⟨A2, c2, rfl, hc2, hm2, -⟩ := hc
    obtain ⟨A3, c3, rfl, hc3, hm3, -⟩ := ho
    obtain ⟨A4, c4, rfl, hc4, hm4, -⟩ := hf
    obtain ⟨A5, c5, rfl, hc5, hm5, -⟩ := hx
    go_enter Tryz.func14, Tryz.ntmps14
    go_wp2_with fail
    have hb0 : Below w.heap.size w (w.alloc (.cells #[.slice A1 m.q.length c1, .slice A2 m.cs.length c2, .slice A3 m.os.length c3, .slice A4 m.fs.length c4, .slice A5 m.xs.length c5, .bool m.bd] 31)) := (Below.refl _ w).alloc (Nat.le_refl _) _
    generalize w.alloc (.cells #[.slice A1 m.q.length c1, .slice A2 m.cs.length c2, .slice A3 m.os.length c3, .slice A4 m.fs.length c4, .slice A5 m.xs.length c5, .bool m.bd] 31) = v0 at *
    refine (mis_any _ _ _ _ _ m v0 (HI.out.on hb0)).mono ?_
    rintro e w1 ⟨rfl, hb1⟩
    have b1 := hb0.trans (hb1.mono hb0.size)
    clear hb1
    go_wp2_with fail
    go_ret2
    exact ⟨by rw [HR.out]; rfl, b1⟩
end Go.Proofs.YtmcgddlblhinlaaGreatDoor

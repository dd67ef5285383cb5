/- The reference's number. -/
import Derived.Test.YtekpnphfdoplfaaDoorP4
namespace Go.Proofs.YtekpnphfdoplfaaDoor
open Go.RowKit
theorem numA_step (s : ByteArray) (k acc : Nat) (h : k < s.size) : numA acc (s.data.toList.drop k) = if s[k].toNat < 48 ∨ 57 < s[k].toNat ∨ 115292150460684697 < acc then -1 else numA (10 * acc + (s[k].toNat - 48)) (s.data.toList.drop (k + 1)) := by
  have hl : k < s.data.toList.length := h
  rw [List.drop_eq_getElem_cons hl, numA]
  rfl
theorem head_get (s : ByteArray) (h : 0 < s.size) : s.data.toList.head? = some s[0] := by
  have hl : 0 < s.data.toList.length := h
  rw [List.head?_eq_getElem?, List.getElem?_eq_getElem hl]
  rfl
theorem u8_ne (d : UInt8) {c : UInt8} (h : c ≠ d) : ((c.toNat : Int) == (d.toNat : Int)) = false := by
  rw [beq_eq_false_iff_ne]
  intro e
  exact h (UInt8.toNat_inj.1 (by omega))
set_option maxHeartbeats 4000000 in
set_option maxRecDepth 100000 in
theorem number_any (s : ByteArray) (w : World) : Calls Tryd.prog 53 #[.string s] w fun e w' => e = .returned (.int .i64 (numI s.data.toList)) ∧ w' = w := by
  have hsl : s.data.toList.length = s.size := rfl
  by_cases hz : s.size = 0
  · have HT : Hid (numI s.data.toList = -1) := by show _ = _; rw [numI, if_pos (.inl hz)]
    have h0 : ((s.size : Int) == 0) = true := by simp [hz]
    clear hsl
    go_enter Tryd.func53, Tryd.ntmps53
    go_wp2_with fail
    go_ret
    exact ⟨by rw [HT.out]; rfl, rfl⟩
  · have h0 : ((s.size : Int) == 0) = false := by simpa using hz
    by_cases h19 : 19 < s.size
    · have HT : Hid (numI s.data.toList = -1) := by show _ = _; rw [numI, if_pos (.inr (.inl h19))]
      have d19 : (19 : Int) < s.size := by omega
      clear hsl
      go_enter Tryd.func53, Tryd.ntmps53
      go_wp2_with fail
      go_ret
      exact ⟨by rw [HT.out]; rfl, rfl⟩
    · have d19 : ¬ (19 : Int) < s.size := by omega
      have hp : 0 < s.size := by omega
      have hh := head_get s hp
      by_cases h48 : s[0] = 48
      · have d48 : ((s[0].toNat : Int) == 48) = true := by rw [h48]; rfl
        by_cases h1 : 1 < s.size
        · have HT : Hid (numI s.data.toList = -1) := by show _ = _; rw [numI, if_pos (.inr (.inr ⟨by rw [hh, h48], h1⟩))]
          have d1 : (1 : Int) < s.size := by omega
          clear hh h48 hsl
          go_enter Tryd.func53, Tryd.ntmps53
          go_wp2_with fail
          go_ret
          exact ⟨by rw [HT.out]; rfl, rfl⟩
        · have HN : Hid (numA 0 (s.data.toList.drop 0) = numI s.data.toList) := by
            show _ = _
            rw [numI, if_neg (fun h => h.elim (fun h => hz h) (fun h => h.elim (fun h => h19 h) (fun h => h1 h.2))), List.drop_zero]
          have d1 : ¬ (1 : Int) < s.size := by omega
          clear hh h48 hsl
          go_enter Tryd.func53, Tryd.ntmps53
          go_wp2_with fail
          go_loopw [3, 4] (fun n i wr => ∃ k acc : Nat, k ≤ s.size ∧ i = .int .i64 k ∧ n = .int .i64 acc ∧ acc ≤ 1152921504606846979 ∧ Hid (numA acc (s.data.toList.drop k) = numI s.data.toList) ∧ wr = w) (fun _ i _ => s.size - (intOf i).toNat)
          case atStart => exact ⟨0, 0, by omega, rfl, rfl, by omega, HN.out, rfl⟩
          case round =>
            obtain ⟨k, acc, hk, rfl, rfl, hacc, hN, rfl⟩ := hrel
            by_cases hlt : k < s.size
            · have hst := numA_step s k acc hlt
              have hb8 := s[k].toNat_lt
              have ki : (k : Int) < s.size := by omega
              by_cases h1 : s[k].toNat < 48
              · have HT : Hid (numI s.data.toList = -1) := by show _ = _; rw [← hN.out, hst, if_pos (.inl h1)]
                have d1 : (s[k].toNat : Int) < 48 := by omega
                clear hst
                go_wp2_with fail
                go_ret
                exact ⟨by rw [HT.out]; rfl, rfl⟩
              · have d1 : ¬ (s[k].toNat : Int) < 48 := by omega
                by_cases h2 : 57 < s[k].toNat
                · have HT : Hid (numI s.data.toList = -1) := by show _ = _; rw [← hN.out, hst, if_pos (.inr (.inl h2))]
                  have d2 : (57 : Int) < (s[k].toNat : Int) := by omega
                  clear hst
                  go_wp2_with fail
                  go_ret
                  exact ⟨by rw [HT.out]; rfl, rfl⟩
                · have d2 : ¬ (57 : Int) < (s[k].toNat : Int) := by omega
                  by_cases h3 : 115292150460684697 < acc
                  · have HT : Hid (numI s.data.toList = -1) := by show _ = _; rw [← hN.out, hst, if_pos (.inr (.inr h3))]
                    have d3 : (115292150460684697 : Int) < (acc : Int) := by omega
                    clear hst
                    go_wp2_with fail
                    go_ret
                    exact ⟨by rw [HT.out]; rfl, rfl⟩
                  · have d3 : ¬ (115292150460684697 : Int) < (acc : Int) := by omega
                    have HT : Hid (numA (10 * acc + (s[k].toNat - 48)) (s.data.toList.drop (k + 1)) = numI s.data.toList) := by show _ = _; rw [← hN.out, hst, if_neg (by omega)]
                    have hw8 : IntKind.u8.wrap ((s[k].toNat : Int) - 48) = ((s[k].toNat - 48 : Nat) : Int) := by rw [IntWalk.u8_in _ (by omega)]; omega
                    have hw1 : IntKind.i64.wrap ((s[k].toNat - 48 : Nat) : Int) = ((s[k].toNat - 48 : Nat) : Int) := by rw [IntWalk.i64_in _ (by omega)]
                    have hw2 : IntKind.i64.wrap (10 * (acc : Int)) = 10 * (acc : Int) := by rw [IntWalk.i64_in _ (by omega)]
                    clear hst
                    go_wp2_with fail
                    go_roundw
                    case rel => exact ⟨k + 1, 10 * acc + (s[k].toNat - 48), by omega, by go_num, by first | go_num | (congr 1; omega) | (congr 1; push_cast; omega), by omega, HT, by trivial⟩
                    case measure => simp [intOf]; omega
            · obtain rfl : k = s.size := by omega
              have hd : s.data.toList.drop s.size = [] := List.drop_of_length_le (Nat.le_refl _)
              by_cases h3 : 1152921504606846976 < acc
              · have HT : Hid (numI s.data.toList = -1) := by show _ = _; rw [← hN.out, hd, numA, if_pos h3]
                have d3 : (1152921504606846976 : Int) < (acc : Int) := by omega
                clear hd
                go_wp2_with fail
                go_ret
                exact ⟨by rw [HT.out]; rfl, rfl⟩
              · have HT : Hid (numI s.data.toList = (acc : Int)) := by show _ = _; rw [← hN.out, hd, numA, if_neg h3]
                have d3 : ¬ (1152921504606846976 : Int) < (acc : Int) := by omega
                clear hd
                go_wp2_with fail
                go_ret
                exact ⟨by rw [HT.out]; rfl, rfl⟩
      · have d48 : ((s[0].toNat : Int) == 48) = false := u8_ne 48 h48
        have HN : Hid (numA 0 (s.data.toList.drop 0) = numI s.data.toList) := by
          show _ = _
          rw [numI, if_neg (fun h => h.elim (fun h => hz h) (fun h => h.elim (fun h => h19 h) (fun h => h48 (by rw [hh] at h; exact Option.some.inj h.1)))), List.drop_zero]
        clear hh h48 hsl
        go_enter Tryd.func53, Tryd.ntmps53
        go_wp2_with fail
        go_loopw [3, 4] (fun n i wr => ∃ k acc : Nat, k ≤ s.size ∧ i = .int .i64 k ∧ n = .int .i64 acc ∧ acc ≤ 1152921504606846979 ∧ Hid (numA acc (s.data.toList.drop k) = numI s.data.toList) ∧ wr = w) (fun _ i _ => s.size - (intOf i).toNat)
        case atStart => exact ⟨0, 0, by omega, rfl, rfl, by omega, HN.out, rfl⟩
        case round =>
          obtain ⟨k, acc, hk, rfl, rfl, hacc, hN, rfl⟩ := hrel
          by_cases hlt : k < s.size
          · have hst := numA_step s k acc hlt
            have hb8 := s[k].toNat_lt
            have ki : (k : Int) < s.size := by omega
            by_cases h1 : s[k].toNat < 48
            · have HT : Hid (numI s.data.toList = -1) := by show _ = _; rw [← hN.out, hst, if_pos (.inl h1)]
              have d1 : (s[k].toNat : Int) < 48 := by omega
              clear hst
              go_wp2_with fail
              go_ret
              exact ⟨by rw [HT.out]; rfl, rfl⟩
            · have d1 : ¬ (s[k].toNat : Int) < 48 := by omega
              by_cases h2 : 57 < s[k].toNat
              · have HT : Hid (numI s.data.toList = -1) := by show _ = _; rw [← hN.out, hst, if_pos (.inr (.inl h2))]
                have d2 : (57 : Int) < (s[k].toNat : Int) := by omega
                clear hst
                go_wp2_with fail
                go_ret
                exact ⟨by rw [HT.out]; rfl, rfl⟩
              · have d2 : ¬ (57 : Int) < (s[k].toNat : Int) := by omega
                by_cases h3 : 115292150460684697 < acc
                · have HT : Hid (numI s.data.toList = -1) := by show _ = _; rw [← hN.out, hst, if_pos (.inr (.inr h3))]
                  have d3 : (115292150460684697 : Int) < (acc : Int) := by omega
                  clear hst
                  go_wp2_with fail
                  go_ret
                  exact ⟨by rw [HT.out]; rfl, rfl⟩
                · have d3 : ¬ (115292150460684697 : Int) < (acc : Int) := by omega
                  have HT : Hid (numA (10 * acc + (s[k].toNat - 48)) (s.data.toList.drop (k + 1)) = numI s.data.toList) := by show _ = _; rw [← hN.out, hst, if_neg (by omega)]
                  have hw8 : IntKind.u8.wrap ((s[k].toNat : Int) - 48) = ((s[k].toNat - 48 : Nat) : Int) := by rw [IntWalk.u8_in _ (by omega)]; omega
                  have hw1 : IntKind.i64.wrap ((s[k].toNat - 48 : Nat) : Int) = ((s[k].toNat - 48 : Nat) : Int) := by rw [IntWalk.i64_in _ (by omega)]
                  have hw2 : IntKind.i64.wrap (10 * (acc : Int)) = 10 * (acc : Int) := by rw [IntWalk.i64_in _ (by omega)]
                  clear hst
                  go_wp2_with fail
                  go_roundw
                  case rel => exact ⟨k + 1, 10 * acc + (s[k].toNat - 48), by omega, by go_num, by first | go_num | (congr 1; omega) | (congr 1; push_cast; omega), by omega, HT, by trivial⟩
                  case measure => simp [intOf]; omega
          · obtain rfl : k = s.size := by omega
            have hd : s.data.toList.drop s.size = [] := List.drop_of_length_le (Nat.le_refl _)
            by_cases h3 : 1152921504606846976 < acc
            · have HT : Hid (numI s.data.toList = -1) := by show _ = _; rw [← hN.out, hd, numA, if_pos h3]
              have d3 : (1152921504606846976 : Int) < (acc : Int) := by omega
              clear hd
              go_wp2_with fail
              go_ret
              exact ⟨by rw [HT.out]; rfl, rfl⟩
            · have HT : Hid (numI s.data.toList = (acc : Int)) := by show _ = _; rw [← hN.out, hd, numA, if_neg h3]
              have d3 : ¬ (1152921504606846976 : Int) < (acc : Int) := by omega
              clear hd
              go_wp2_with fail
              go_ret
              exact ⟨by rw [HT.out]; rfl, rfl⟩
end Go.Proofs.YtekpnphfdoplfaaDoor

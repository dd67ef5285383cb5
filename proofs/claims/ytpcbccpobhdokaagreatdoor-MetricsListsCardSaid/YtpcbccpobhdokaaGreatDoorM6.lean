/- slices.SortFunc on the metrics of the example. -/
import Derived.Test.YtpcbccpobhdokaaGreatDoorM5
import Derived.Shelf.SlSortCmp.WholeK
import Derived.Ground.SlsfProg
set_option linter.unusedSimpArgs false
set_option linter.unusedVariables false
set_option linter.all false
namespace Go.Proofs.YtpcbccpobhdokaaGreatDoor
open Go.RowKit Go.Sort Go.Shelf Go.Lib
open Go.Proofs.YtpcbccpobhdokaaGreatDoor.Eng
def Tryz.sortM_ren : Go.Shelf.Ren := ⟨fun | 6 => 55 | 15 => 92 | 14 => 91 | 28 => 132 | 29 => 133 | 20 => 93 | 21 => 125 | 22 => 126 | 23 => 127 | 24 => 128 | 25 => 129 | 26 => 130 | 27 => 131 | 46 => 188 | 47 => 189 | 48 => 190 | 49 => 191 | 50 => 192 | 57 => 245 | n => n, fun | 22 => 22 | 24 => 37 | 25 => 69 | 3 => 3 | 39 => 172 | 0 => 0 | 53 => 226 | 55 => 136 | 4 => 4 | 46 => 219 | 45 => 218 | 50 => 223 | 5 => 5 | 9 => 9 | 66 => 288 | 70 => 292 | 76 => 368 | 77 => 369 | n => n, fun | n => n⟩
theorem Tryz.sortM : Go.Proofs.SlLaysF0.n6 Tryz.prog Tryz.sortM_ren := {
  mixed := by kernel_rfl
  f6 := ⟨Tryz.f55.name, by decide, Tryz.func55.trans (congrArg some (by kernel_rfl))⟩
  f14 := ⟨Tryz.f91.name, by decide, Tryz.func91.trans (congrArg some (by kernel_rfl))⟩
  f15 := Tryz.func92.trans (congrArg some (by kernel_rfl))
  f20 := ⟨Tryz.f93.name, by decide, Tryz.func93.trans (congrArg some (by kernel_rfl))⟩
  f21 := ⟨Tryz.f125.name, by decide, Tryz.func125.trans (congrArg some (by kernel_rfl))⟩
  f22 := ⟨Tryz.f126.name, by decide, Tryz.func126.trans (congrArg some (by kernel_rfl))⟩
  f23 := ⟨Tryz.f127.name, by decide, Tryz.func127.trans (congrArg some (by kernel_rfl))⟩
  f24 := ⟨Tryz.f128.name, by decide, Tryz.func128.trans (congrArg some (by kernel_rfl))⟩
  f25 := ⟨Tryz.f129.name, by decide, Tryz.func129.trans (congrArg some (by kernel_rfl))⟩
  f26 := ⟨Tryz.f130.name, by decide, Tryz.func130.trans (congrArg some (by kernel_rfl))⟩
  f27 := ⟨Tryz.f131.name, by decide, Tryz.func131.trans (congrArg some (by kernel_rfl))⟩
  f28 := Tryz.func132.trans (congrArg some (by kernel_rfl))
  f29 := Tryz.func133.trans (congrArg some (by kernel_rfl))
  f46 := ⟨Tryz.f188.name, by decide, Tryz.func188.trans (congrArg some (by kernel_rfl))⟩
  f47 := Tryz.func189.trans (congrArg some (by kernel_rfl))
  f48 := Tryz.func190.trans (congrArg some (by kernel_rfl))
  f49 := ⟨Tryz.f191.name, by decide, Tryz.func191.trans (congrArg some (by kernel_rfl))⟩
  f50 := ⟨Tryz.f192.name, by decide, Tryz.func192.trans (congrArg some (by kernel_rfl))⟩
  f57 := ⟨Tryz.f245.name, by decide, Tryz.func245.trans (congrArg some (by kernel_rfl))⟩
  t0 := Tryz.underlying0
  a0 := Tryz.isAgg0
  z0 := Tryz.sizeOf0
  v0 := Tryz.zeroValue0
  t3 := Tryz.underlying3
  a3 := Tryz.isAgg3
  z3 := Tryz.sizeOf3
  v3 := Tryz.zeroValue3
  t4 := Tryz.underlying4
  a4 := Tryz.isAgg4
  z4 := Tryz.sizeOf4
  v4 := Tryz.zeroValue4
  t5 := Tryz.underlying5
  a5 := Tryz.isAgg5
  z5 := Tryz.sizeOf5
  v5 := Tryz.zeroValue5
  t9 := Tryz.underlying9
  a9 := Tryz.isAgg9
  z9 := Tryz.sizeOf9
  v9 := Tryz.zeroValue9
  t22 := Tryz.underlying22
  a22 := Tryz.isAgg22
  z22 := Tryz.sizeOf22
  v22 := Tryz.zeroValue22
  t25 := Tryz.underlying69
  a25 := Tryz.isAgg69
  z25 := Tryz.sizeOf69
  v25 := Tryz.zeroValue69
  t39 := Tryz.underlying172
  a39 := Tryz.isAgg172
  z39 := Tryz.sizeOf172
  v39 := Tryz.zeroValue172
  t45 := Tryz.underlying218
  a45 := Tryz.isAgg218
  z45 := Tryz.sizeOf218
  v45 := Tryz.zeroValue218
  t46 := Tryz.underlying219
  a46 := Tryz.isAgg219
  z46 := Tryz.sizeOf219
  v46 := Tryz.zeroValue219
  t50 := Tryz.underlying223
  a50 := Tryz.isAgg223
  z50 := Tryz.sizeOf223
  v50 := Tryz.zeroValue223
  t53 := Tryz.underlying226
  a53 := Tryz.isAgg226
  z53 := Tryz.sizeOf226
  v53 := Tryz.zeroValue226
  t55 := Tryz.underlying136
  a55 := Tryz.isAgg136
  z55 := Tryz.sizeOf136
  v55 := Tryz.zeroValue136
  t66 := Tryz.underlying288
  a66 := Tryz.isAgg288
  z66 := Tryz.sizeOf288
  v66 := Tryz.zeroValue288
  t70 := Tryz.underlying292
  a70 := Tryz.isAgg292
  z70 := Tryz.sizeOf292
  v70 := Tryz.zeroValue292
  t76 := Tryz.underlying368
  a76 := Tryz.isAgg368
  z76 := Tryz.sizeOf368
  v76 := Tryz.zeroValue368
  t77 := Tryz.underlying369
  a77 := Tryz.isAgg369
  z77 := Tryz.sizeOf369
  v77 := Tryz.zeroValue369 }
theorem cmp_lays (blk off size : Nat) (w : World) : CmpLays Tryz.prog 25 #[] encM 4 cmpF blk off size w := by
  intro m os dk _ x y
  refine (compare_any (MN x.val) (MN y.val) (MI x.val) (MI y.val) (MA x.val) (MA y.val) (MB x.val) (MB y.val) _).mono ?_
  rintro e w' ⟨rfl, q, os', rfl⟩
  exact ⟨rfl, q, os', rfl⟩
theorem sort_any (blk off cap : Nat) (d : Array (Fin 23)) (w : World) (hH : HoldsK encM 4 w blk off d) (hblk : blk < w.heap.size) (hsz : d.size < 4611686018427387904) :
    Calls Tryz.prog 55 #[.slice (some ⟨blk, off, none⟩) d.size cap, .func (.func 25) #[] #[]] w fun e w' => e = .returned (.tuple #[]) ∧ ∃ d' n os, PermIn 0 d.size d d' ∧ SortedIn (ltOf cmpF) 0 d.size d' ∧ w' = sortWorldK encM 4 w blk off n d' os := by
  have eg : ∀ args w, (callFunc 25 args).run Tryz.prog w = .ok (.enter 25 args) w := enters_of Tryz.func25 (by kernel_rfl) rfl
  exact AnyQ.slices_SortFunc Tryz.sortM 4 Tryz.isAgg37 Tryz.sizeOf37 encM (fun _ => rfl) (fun x v hv => by simp [encM] at hv; rcases hv with rfl | rfl | rfl | rfl <;> rfl) cmpF cmp_swo 25 #[] blk off cap d w eg (cmp_lays blk off d.size w) hH hblk hsz
end Go.Proofs.YtpcbccpobhdokaaGreatDoor
namespace Go.Proofs.YtpcbccpobhdokaaGreatDoor
open Go.RowKit Go.Sort Go.Shelf
open Go.Proofs.YtpcbccpobhdokaaGreatDoor.Eng
def CAPV : Nat := 4611686018427387927
def liS : List (Nat × AO) := (liV []).take ((liV []).length - 1) ++ [(4081, .cells (flatK encM 4 D0).toList 37)]
noncomputable def HS : AH := mkH 4082 liS
theorem HV_get (q : List (Value × Value)) : (HV q).get 4081 = some (.cells ((q ++ Q2).flatMap cel ++ TV) 37) := by kernel_rfl
theorem HV_put (q : List (Value × Value)) : (HV q).put 4081 (some (.cells (flatK encM 4 D0).toList 37)) = HS := by kernel_rfl
theorem encM_refl {J : Inj} {v v' : Value} {d : Array (Fin 23)} (hv : v ∈ (flatK encM 4 d).toList) : VR J v v ∧ (VR J v v' → v' = v) := by
  have this : (flatK encM 4 d).toList = d.toList.flatMap encM := by
    have := flatK_list encM (fun _ => rfl) d.toList
    rwa [show (⟨d.toList⟩ : Array (Fin 23)) = d from rfl] at this
  have h : v ∈ d.toList.flatMap encM := by rwa [this] at hv
  obtain ⟨x, _, hx⟩ := List.mem_flatMap.1 h
  simp only [encM, List.mem_cons, List.not_mem_nil, or_false] at hx
  rcases hx with rfl | rfl | rfl | rfl
  · exact ⟨.string _, fun h => by cases h; rfl⟩
  · exact ⟨.int _ _, fun h => by cases h; rfl⟩
  · exact ⟨.int _ _, fun h => by cases h; rfl⟩
  · exact ⟨.int _ _, fun h => by cases h; rfl⟩
theorem sort_rel (l : List Nat) (ho : Out l) (hl : l.length = 12) : CallRel Tryz.prog 6 (.func (.func 55) #[] #[]) [.slice (some ⟨4081, 0, none⟩) 23 CAPV, .func (.func 25) #[] #[]] (HV (l.map EV)) (fun v g => v = undef ∧ g = HS) := by
  intro base w0 J w f' args' hf ha hw
  cases hf with
  | func _ _ _ _ _ h1 h2 =>
    cases h1; cases h2
    cases ha with
    | cons _ s' _ _ hs hrest =>
      cases hrest with
      | cons _ c' _ _ hc hnil =>
        cases hnil
        cases hc with
        | func _ _ _ _ _ h1 h2 =>
          cases h1; cases h2
          obtain ⟨o', c', x, hJ, rfl, hx⟩ := hs.slice_inv
          have hget := HV_get (l.map EV)
          obtain ⟨cs', fz, hh, hz, hrel, hsz, hmod⟩ := hw.obj 4081 _ x hget hJ
          have hds := dOf_size hl
          have hrow := dOf_row ho
          obtain ⟨hx1, hx2, -⟩ := hx
          obtain rfl : o' = x.d := by omega
          have hH : HoldsK encM 4 w x.B x.d (dOf l) := by
            intro j hj
            have hv : ((flatK encM 4 (dOf l)).toList)[j]? = some ((flatK encM 4 (dOf l))[j]!) := by
              rw [getElem!_pos _ j hj]; simp
            have hv2 := hv
            rw [hrow] at hv2
            obtain ⟨v', k1, k2, k3⟩ := hw.cell hget hJ hv2
            have e := (encM_refl (List.mem_of_getElem? hv)).2 k2
            exact ⟨by rw [k1, e]; rfl, k3⟩
          have hc := sort_any x.B x.d c' (dOf l) w hH (hw.lt _ _ hJ) (by rw [hds]; decide)
          rw [hds] at hc
          have hent : (Go.Proofs.YtpcbccpobhdokaaGreatDoor.Eng.Callee (.func (.func 55) ⟨[]⟩ ⟨[]⟩) ⟨[.slice (some ⟨x.B, x.d, none⟩) 23 c', .func (.func 25) ⟨[]⟩ ⟨[]⟩]⟩).run Tryz.prog w = .ok (.enter 55 ⟨[.slice (some ⟨x.B, x.d, none⟩) 23 c', .func (.func 25) ⟨[]⟩ ⟨[]⟩]⟩) w := by
            rw [callee_func]
            exact call_enter Tryz.func55 (c := bodyOf Tryz.f55) (by kernel_rfl) (by kernel_rfl) _ w
          refine .inl ⟨55, _, hent, callsIn_wide.2 (hc.mono ?_)⟩
          rintro e w' ⟨rfl, d', n, os, hp, hso, rfl⟩
          have hd : d' = D0 := by
            have h1 := sorted_unique_holds cmp_swo cmp_total (dOf l) d' (by rw [hds]; exact hp) (by rw [hds]; exact hso)
            have h2 := sorted_unique_holds cmp_swo cmp_total (dOf l) D0 (by rw [hds]; exact dOf_perm ho hl) (by rw [hds]; exact D0_sorted)
            exact Array.toList_inj.1 (h1.trans h2.symm)
          subst hd
          have hcs : (flatK encM 4 D0).size = (((l.map EV ++ Q2).flatMap cel ++ TV)).length := by
            rw [← hrow, Array.length_toList, size_flatK, size_flatK, hds]; rfl
          obtain ⟨k1, k2⟩ := sort_wr encM 4 hw hw.top hget hJ (by decide) D0 n os hcs (fun v hv => (encM_refl (v' := v) hv).1)
          rw [HV_put] at k1 k2
          exact ⟨_, rfl, undef, HS, J, ⟨rfl, rfl⟩, VR.undef J, k1, k2⟩
end Go.Proofs.YtpcbccpobhdokaaGreatDoor
namespace Go.Proofs.YtpcbccpobhdokaaGreatDoor
open Go.RowKit Go.Sort Go.Shelf
open Go.Proofs.YtpcbccpobhdokaaGreatDoor.Eng
def fS : List Value := [.agg ⟨[.slice (some ⟨10, 0, none⟩) 3 3, .slice (some ⟨11, 0, none⟩) 2 2, .slice (some ⟨8, 0, none⟩) 1 1, .slice none 0 0, .slice none 0 0, .bool false, .int .i64 (.ofNat 200), .int .i64 (.ofNat 11), .slice (some ⟨10, 0, none⟩) 3 3, .slice (some ⟨11, 0, none⟩) 2 2, .slice none 0 0, .slice (some ⟨668, 0, none⟩) 1 12682136550675316737, .slice (some ⟨66, 0, none⟩) 3 9223372036854775811, .slice (some ⟨54, 0, none⟩) 3 3, .slice (some ⟨3052, 0, none⟩) 2 28823037615171174402, .slice (some ⟨3141, 15, none⟩) 0 3458764513820540928, .slice (some ⟨3531, 0, none⟩) 7 6917529027641081863]⟩, .pointer (some ⟨3900, 0, none⟩), .slice none 0 0, .int .i64 (.ofNat 0), .pointer (some ⟨3902, 0, none⟩), undef, undef, undef, .int .i64 (.ofNat 2), .pointer (some ⟨4074, 0, none⟩), .agg ⟨[.slice none 0 0]⟩, .pointer (some ⟨3901, 0, none⟩), .pointer (some ⟨3901, 0, none⟩), .agg ⟨[.slice (some ⟨10, 0, none⟩) 3 3, .slice (some ⟨11, 0, none⟩) 2 2, .slice (some ⟨8, 0, none⟩) 1 1, .slice none 0 0, .slice none 0 0, .bool false, .int .i64 (.ofNat 200), .int .i64 (.ofNat 11), .slice (some ⟨10, 0, none⟩) 3 3, .slice (some ⟨11, 0, none⟩) 2 2, .slice none 0 0, .slice (some ⟨668, 0, none⟩) 1 12682136550675316737, .slice (some ⟨66, 0, none⟩) 3 9223372036854775811, .slice (some ⟨54, 0, none⟩) 3 3, .slice (some ⟨3052, 0, none⟩) 2 28823037615171174402, .slice (some ⟨3141, 15, none⟩) 0 3458764513820540928, .slice (some ⟨3531, 0, none⟩) 7 6917529027641081863]⟩, undef, .agg ⟨[.slice (some ⟨10, 0, none⟩) 3 3, .slice (some ⟨11, 0, none⟩) 2 2, .slice (some ⟨8, 0, none⟩) 1 1, .slice none 0 0, .slice none 0 0, .bool false, .int .i64 (.ofNat 200), .int .i64 (.ofNat 11), .slice (some ⟨10, 0, none⟩) 3 3, .slice (some ⟨11, 0, none⟩) 2 2, .slice none 0 0, .slice (some ⟨668, 0, none⟩) 1 12682136550675316737, .slice (some ⟨66, 0, none⟩) 3 9223372036854775811, .slice (some ⟨54, 0, none⟩) 3 3, .slice (some ⟨3052, 0, none⟩) 2 28823037615171174402, .slice (some ⟨3141, 15, none⟩) 0 3458764513820540928, .slice (some ⟨3531, 0, none⟩) 7 6917529027641081863]⟩, .func (.func 90) ⟨[]⟩ ⟨[.pointer (some ⟨4010, 0, none⟩)]⟩, undef, undef, undef, undef, undef, undef, undef, undef, undef, undef, undef, undef, undef, undef, undef, undef, undef, undef, undef, undef, undef, undef, undef, undef, undef, undef, undef, undef, undef, .pointer (some ⟨3900, 12, none⟩), .slice (some ⟨66, 0, none⟩) 3 9223372036854775811, .int .i64 (.ofNat 3), .int .i64 (.ofNat 3), .bool false, .int .i64 (.ofNat 2), .pointer (some ⟨66, 16, none⟩), .agg ⟨[.int .i64 (.ofNat 2), .int .i64 (.ofNat 100), .bool true, .string ⟨⟨[78, 6, 129, 2, 2, 0, 0, 0, 0, 0, 4, 131, 16, 0, 0, 48, 38, 6, 77, 66, 49, 0, 0, 0, 0, 0, 2, 4, 131, 16, 0, 0, 0, 4, 104, 105, 212, 203, 109, 147, 32, 211, 105, 107]⟩⟩, .int .i64 (.ofNat 44), .slice none 0 0, .slice (some ⟨3525, 0, none⟩) 1 12682136550675316737, .slice none 0 0]⟩, .pointer (some ⟨3901, 0, none⟩), .int .i64 (.ofNat 2), .pointer (some ⟨4074, 5, none⟩), .agg ⟨[.slice none 0 0, .slice (some ⟨3525, 0, none⟩) 1 12682136550675316737]⟩, .int .i64 (.ofNat 0), undef, .int .i64 (.ofNat 3), .pointer (some ⟨3901, 0, none⟩), .pointer (some ⟨3901, 0, none⟩), .pointer (some ⟨3901, 0, none⟩), .slice (some ⟨4081, 0, none⟩) 23 4611686018427387927, undef, undef, undef, undef, undef]
def fT : List Value := [.agg ⟨[.slice (some ⟨10, 0, none⟩) 3 3, .slice (some ⟨11, 0, none⟩) 2 2, .slice (some ⟨8, 0, none⟩) 1 1, .slice none 0 0, .slice none 0 0, .bool false, .int .i64 (.ofNat 200), .int .i64 (.ofNat 11), .slice (some ⟨10, 0, none⟩) 3 3, .slice (some ⟨11, 0, none⟩) 2 2, .slice none 0 0, .slice (some ⟨668, 0, none⟩) 1 12682136550675316737, .slice (some ⟨66, 0, none⟩) 3 9223372036854775811, .slice (some ⟨54, 0, none⟩) 3 3, .slice (some ⟨3052, 0, none⟩) 2 28823037615171174402, .slice (some ⟨3141, 15, none⟩) 0 3458764513820540928, .slice (some ⟨3531, 0, none⟩) 7 6917529027641081863]⟩, .pointer (some ⟨3900, 0, none⟩), .slice (some ⟨4081, 0, none⟩) 23 4611686018427387927, .int .i64 (.ofNat 0), .pointer (some ⟨3902, 0, none⟩), undef, undef, undef, .int .i64 (.ofNat 2), .pointer (some ⟨4074, 0, none⟩), .agg ⟨[.slice none 0 0]⟩, .pointer (some ⟨3901, 0, none⟩), .pointer (some ⟨3901, 0, none⟩), .agg ⟨[.slice (some ⟨10, 0, none⟩) 3 3, .slice (some ⟨11, 0, none⟩) 2 2, .slice (some ⟨8, 0, none⟩) 1 1, .slice none 0 0, .slice none 0 0, .bool false, .int .i64 (.ofNat 200), .int .i64 (.ofNat 11), .slice (some ⟨10, 0, none⟩) 3 3, .slice (some ⟨11, 0, none⟩) 2 2, .slice none 0 0, .slice (some ⟨668, 0, none⟩) 1 12682136550675316737, .slice (some ⟨66, 0, none⟩) 3 9223372036854775811, .slice (some ⟨54, 0, none⟩) 3 3, .slice (some ⟨3052, 0, none⟩) 2 28823037615171174402, .slice (some ⟨3141, 15, none⟩) 0 3458764513820540928, .slice (some ⟨3531, 0, none⟩) 7 6917529027641081863]⟩, undef, .agg ⟨[.slice (some ⟨10, 0, none⟩) 3 3, .slice (some ⟨11, 0, none⟩) 2 2, .slice (some ⟨8, 0, none⟩) 1 1, .slice none 0 0, .slice none 0 0, .bool false, .int .i64 (.ofNat 200), .int .i64 (.ofNat 11), .slice (some ⟨10, 0, none⟩) 3 3, .slice (some ⟨11, 0, none⟩) 2 2, .slice none 0 0, .slice (some ⟨668, 0, none⟩) 1 12682136550675316737, .slice (some ⟨66, 0, none⟩) 3 9223372036854775811, .slice (some ⟨54, 0, none⟩) 3 3, .slice (some ⟨3052, 0, none⟩) 2 28823037615171174402, .slice (some ⟨3141, 15, none⟩) 0 3458764513820540928, .slice (some ⟨3531, 0, none⟩) 7 6917529027641081863]⟩, .func (.func 90) ⟨[]⟩ ⟨[.pointer (some ⟨4010, 0, none⟩)]⟩, undef, undef, undef, undef, undef, undef, undef, undef, undef, undef, undef, undef, undef, undef, undef, undef, undef, undef, undef, undef, undef, undef, undef, undef, undef, undef, undef, undef, undef, .pointer (some ⟨3900, 12, none⟩), .slice (some ⟨66, 0, none⟩) 3 9223372036854775811, .int .i64 (.ofNat 3), .int .i64 (.ofNat 3), .bool false, .int .i64 (.ofNat 2), .pointer (some ⟨66, 16, none⟩), .agg ⟨[.int .i64 (.ofNat 2), .int .i64 (.ofNat 100), .bool true, .string ⟨⟨[78, 6, 129, 2, 2, 0, 0, 0, 0, 0, 4, 131, 16, 0, 0, 48, 38, 6, 77, 66, 49, 0, 0, 0, 0, 0, 2, 4, 131, 16, 0, 0, 0, 4, 104, 105, 212, 203, 109, 147, 32, 211, 105, 107]⟩⟩, .int .i64 (.ofNat 44), .slice none 0 0, .slice (some ⟨3525, 0, none⟩) 1 12682136550675316737, .slice none 0 0]⟩, .pointer (some ⟨3901, 0, none⟩), .int .i64 (.ofNat 2), .pointer (some ⟨4074, 5, none⟩), .agg ⟨[.slice none 0 0, .slice (some ⟨3525, 0, none⟩) 1 12682136550675316737]⟩, .int .i64 (.ofNat 0), undef, .int .i64 (.ofNat 3), .pointer (some ⟨3901, 0, none⟩), .pointer (some ⟨3901, 0, none⟩), .pointer (some ⟨3901, 0, none⟩), .slice (some ⟨4081, 0, none⟩) 23 4611686018427387927, undef, .pointer (some ⟨3901, 0, none⟩), .pointer (some ⟨3901, 0, none⟩), .pointer (some ⟨3901, 0, none⟩), .slice (some ⟨4081, 0, none⟩) 23 4611686018427387927]
def liT : List (Nat × AO) := L21 ++ [(4081, .cells (flatK encM 4 D0).toList 37)]
noncomputable def HT : AH := mkH 4082 liT
def SLV : Value := .slice (some ⟨4081, 0, none⟩) 23 4611686018427387927
set_option maxRecDepth 100000 in
theorem run_15 (l : List Nat) (ho : Out l) (hl : l.length = 12) : CodeRel Tryz.prog 6 (.region 15 o15 false) (frOf fV) (HV (l.map EV)) (fun e f g => e = .normal ∧ f = frOf fS ∧ g = HS) := by
  refine CodeRel.region ?_
  rw [show o15.toList = [opAt o15 0, opAt o15 1, opAt o15 2, opAt o15 3, opAt o15 4] by kernel_rfl]
  refine .step (v := .pointer (some ⟨3901, 0, none⟩)) (H1 := HV (l.map EV)) (by kernel_rfl) ?_ (.step (v := .pointer (some ⟨3901, 0, none⟩)) (H1 := HV (l.map EV)) (by kernel_rfl) ?_ (.step (v := .pointer (some ⟨3901, 0, none⟩)) (H1 := HV (l.map EV)) (by kernel_rfl) ?_ (.step (v := SLV) (H1 := HV (l.map EV)) (by kernel_rfl) ?_ (.call (c := ⟨.value (.func 55), #[.tmp 64, .func 25], #[22, 69]⟩) (f := .func 55) (Ψ := fun v g => v = undef ∧ g = HS) (by kernel_rfl) (by kernel_rfl) rfl ?_ ?_))))
  · rw [show (opAt o15 0).op = .load 109 (.tmp 4) by kernel_rfl]; exact ⟨by kernel_rfl, rfl⟩
  · rw [show (opAt o15 1).op = .nilCheck (.tmp 61) by kernel_rfl]; exact ⟨by kernel_rfl, rfl⟩
  · rw [show (opAt o15 2).op = .fieldAddr 111 (.tmp 62) 0 by kernel_rfl]; exact ⟨by kernel_rfl, rfl⟩
  · rw [show (opAt o15 3).op = .load 22 (.tmp 63) by kernel_rfl]; exact ⟨by kernel_rfl, rfl⟩
  · have h : ([.tmp 64, .func 25] : List Operand).map (fun x => ev x (putD (opAt o15 3).dst SLV (putD (opAt o15 2).dst (.pointer (some ⟨3901, 0, none⟩)) (putD (opAt o15 1).dst (.pointer (some ⟨3901, 0, none⟩)) (putD (opAt o15 0).dst (.pointer (some ⟨3901, 0, none⟩)) (frOf fV)))))) = [.slice (some ⟨4081, 0, none⟩) 23 CAPV, .func (.func 25) #[] #[]] := by kernel_rfl
    rw [show (#[.tmp 64, .func 25] : Array Operand).toList = [.tmp 64, .func 25] from rfl, h]
    exact sort_rel l ho hl
  · rintro v g ⟨rfl, rfl⟩
    exact .nil ⟨by kernel_rfl, rfl⟩
theorem run_16 : CodeRel Tryz.prog 6 s16 (frOf fS) HS (fun e f g => e = .ret ∧ f = frOf fT ∧ g = HT) :=
  CodeRel.view hyp0 (m := 100000) (by kernel_rfl) (by kernel_rfl) (by kernel_rfl)
theorem of_rel : CallRel Tryz.prog 6 (.func (.func 21) #[] #[]) A21 H21 (fun v g => v = .tuple ⟨[SLV, .int .i64 (.ofNat 0)]⟩ ∧ g = HT) := by
  refine body_rel Tryz.func21 body21 ok21 (by decide) (Φ := fun e f g => e = .ret ∧ f = frOf fT ∧ g = HT) ?_ ?_
  · refine run_o0.seq (fun e f g h => h.1) ?_
    rintro f g ⟨-, rfl, rfl⟩
    refine run_o1.seq (fun e f g h => h.1) ?_
    rintro f g ⟨-, rfl, rfl⟩
    refine run_o2.seq (fun e f g h => h.1) ?_
    rintro f g ⟨-, rfl, l, ho, hl, rfl⟩
    refine (run_U (l.map EV) (by simpa using hl)).seq (fun e f g h => h.1) ?_
    rintro f g ⟨-, rfl, rfl⟩
    refine (run_V (l.map EV) (by simpa using hl)).seq (fun e f g h => h.1) ?_
    rintro f g ⟨-, rfl, rfl⟩
    refine (run_15 l ho hl).seq (fun e f g h => h.1) ?_
    rintro f g ⟨-, rfl, rfl⟩
    exact run_16
  · rintro e f g ⟨rfl, rfl, rfl⟩
    exact ⟨.inr rfl, [SLV, .int .i64 (.ofNat 0)], by kernel_rfl, rfl, rfl⟩
theorem of_sem : CallSem Tryz.prog 6 (.func (.func 21) #[] #[]) A21 H21 (.tuple ⟨[SLV, .int .i64 (.ofNat 0)]⟩) HT := of_rel.sem fun _ _ h => h
#print axioms of_sem
end Go.Proofs.YtpcbccpobhdokaaGreatDoor

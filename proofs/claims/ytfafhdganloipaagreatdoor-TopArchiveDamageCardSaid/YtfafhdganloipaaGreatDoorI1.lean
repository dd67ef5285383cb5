/- strconv.Itoa: the kit's contract, laid over this program. -/
import Derived.Shelf.LaysM
import Derived.Shelf.Strconv.Itoa0
import Derived.Shelf.Strconv.Itoa1
import Derived.Shelf.Strconv.Itoa2
import Derived.Shelf.Strconv.Itoa3
import Derived.Test.YtfafhdganloipaaGreatDoorProg
import Derived.Shelf.Strings.OnBuilder
namespace Go.Proofs
open Go.Shelf
def Tryz.laysM171_ren : Go.Shelf.Ren := ⟨fun | 171 => 82 | 243 => 129 | 246 => 213 | 283 => 313 | 284 => 314 | 285 => 315 | 286 => 316 | 129 => 348 | 317 => 415 | 318 => 416 | 319 => 417 | 320 => 418 | 337 => 506 | 338 => 507 | n => n, fun | 3 => 3 | 9 => 9 | 2 => 2 | 4 => 4 | 171 => 548 | 0 => 0 | 53 => 549 | 37 => 33 | 5 => 5 | 173 => 552 | 212 => 652 | 51 => 333 | 20 => 20 | 213 => 653 | 46 => 225 | 232 => 806 | 233 => 807 | n => n, fun | 17 => 0 | 18 => 2 | 19 => 3 | n => n⟩
theorem Tryz.laysM171 : Go.Proofs.LaysM.n171 Tryz.prog Tryz.laysM171_ren := {
  mixed := by kernel_rfl
  f129 := Tryz.func348.trans (congrArg some (by kernel_rfl))
  f171 := Tryz.func82.trans (congrArg some (by kernel_rfl))
  f243 := Tryz.func129.trans (congrArg some (by kernel_rfl))
  f246 := Tryz.func213.trans (congrArg some (by kernel_rfl))
  f283 := Tryz.func313.trans (congrArg some (by kernel_rfl))
  f284 := Tryz.func314.trans (congrArg some (by kernel_rfl))
  f285 := Tryz.func315.trans (congrArg some (by kernel_rfl))
  f286 := Tryz.func316.trans (congrArg some (by kernel_rfl))
  f317 := Tryz.func415.trans (congrArg some (by kernel_rfl))
  f318 := Tryz.func416.trans (congrArg some (by kernel_rfl))
  f319 := Tryz.func417.trans (congrArg some (by kernel_rfl))
  f320 := Tryz.func418.trans (congrArg some (by kernel_rfl))
  f337 := Tryz.func506.trans (congrArg some (by kernel_rfl))
  f338 := Tryz.func507.trans (congrArg some (by kernel_rfl))
  t0 := Tryz.underlying0
  a0 := Tryz.isAgg0
  z0 := Tryz.sizeOf0
  v0 := Tryz.zeroValue0
  t2 := Tryz.underlying2
  a2 := Tryz.isAgg2
  z2 := Tryz.sizeOf2
  v2 := Tryz.zeroValue2
  t3 := Tryz.underlying3
  a3 := Tryz.isAgg3
  z3 := Tryz.sizeOf3
  v3 := Tryz.zeroValue3
  t4 := Tryz.underlying4
  a4 := Tryz.isAgg4
  z4 := Tryz.sizeOf4
  v4 := Tryz.zeroValue4
  t5 := Tryz.underlying5
  a5 := Tryz.isAgg5
  z5 := Tryz.sizeOf5
  v5 := Tryz.zeroValue5
  t9 := Tryz.underlying9
  a9 := Tryz.isAgg9
  z9 := Tryz.sizeOf9
  v9 := Tryz.zeroValue9
  t20 := Tryz.underlying20
  a20 := Tryz.isAgg20
  z20 := Tryz.sizeOf20
  v20 := Tryz.zeroValue20
  t37 := Tryz.underlying33
  a37 := Tryz.isAgg33
  z37 := Tryz.sizeOf33
  v37 := Tryz.zeroValue33
  t46 := Tryz.underlying225
  a46 := Tryz.isAgg225
  z46 := Tryz.sizeOf225
  v46 := Tryz.zeroValue225
  t51 := Tryz.underlying333
  a51 := Tryz.isAgg333
  z51 := Tryz.sizeOf333
  v51 := Tryz.zeroValue333
  t53 := Tryz.underlying549
  a53 := Tryz.isAgg549
  z53 := Tryz.sizeOf549
  v53 := Tryz.zeroValue549
  t171 := Tryz.underlying548
  a171 := Tryz.isAgg548
  z171 := Tryz.sizeOf548
  v171 := Tryz.zeroValue548
  t173 := Tryz.underlying552
  a173 := Tryz.isAgg552
  z173 := Tryz.sizeOf552
  v173 := Tryz.zeroValue552
  t212 := Tryz.underlying652
  a212 := Tryz.isAgg652
  z212 := Tryz.sizeOf652
  v212 := Tryz.zeroValue652
  t213 := Tryz.underlying653
  a213 := Tryz.isAgg653
  z213 := Tryz.sizeOf653
  t232 := Tryz.underlying806
  a232 := Tryz.isAgg806
  z232 := Tryz.sizeOf806
  v232 := Tryz.zeroValue806
  t233 := Tryz.underlying807
  a233 := Tryz.isAgg807
  z233 := Tryz.sizeOf807
  v233 := Tryz.zeroValue807
  g17 := by kernel_rfl
  g18 := by kernel_rfl
  g19 := by kernel_rfl
  i0 := by kernel_rfl
  i2 := by kernel_rfl
  i3 := by kernel_rfl
  i4 := by kernel_rfl
  i5 := by kernel_rfl
  i9 := by kernel_rfl
  i20 := by kernel_rfl
  i37 := by kernel_rfl
  i46 := by kernel_rfl
  i51 := by kernel_rfl
  i53 := by kernel_rfl
  i171 := by kernel_rfl
  i173 := by kernel_rfl
  i212 := by kernel_rfl
  i232 := by kernel_rfl
  i233 := by kernel_rfl
  m17 := by kernel_rfl
  m18 := by kernel_rfl
  m19 := by kernel_rfl }
open Go.RowKit Go.Sort Go.Lib in
theorem Tryz.strconv_Itoa (n : Int) (h0 : -9223372036854775808 ≤ n) (h1 : n ≤ 9223372036854775807) (w : World) (htab : Lib.TabIs Tryz.prog w "internal/strconv.uint64pow10" .u64 Lib.pow10Tab) :
    Calls Tryz.prog 82 #[.int .i64 n] w fun e w' => e = .returned (.string ⟨(Lib.itoa n).toArray⟩) ∧ ∃ k os, w' = grow (w.drewN k) os := Any.strconv_Itoa Tryz.laysM171 n h0 h1 w htab
end Go.Proofs
namespace Go.Proofs
open Go.Shelf
def Tryz.lays156_ren : Go.Shelf.Ren := ⟨fun | 156 => 133 | 165 => 216 | 166 => 80 | 169 => 85 | 240 => 127 | 241 => 318 | 276 => 211 | 277 => 419 | n => n, fun | 31 => 84 | 9 => 9 | 3 => 3 | 4 => 4 | 0 => 0 | 20 => 20 | 72 => 202 | 76 => 205 | 70 => 200 | 37 => 33 | 75 => 204 | 127 => 280 | 164 => 392 | 5 => 5 | 80 => 188 | n => n, fun | n => n⟩
theorem Tryz.lays156 : Go.Proofs.Lays.n156 Tryz.prog Tryz.lays156_ren := {
  mixed := by kernel_rfl
  f156 := Tryz.func133.trans (congrArg some (by kernel_rfl))
  f165 := Tryz.func216.trans (congrArg some (by kernel_rfl))
  f166 := Tryz.func80.trans (congrArg some (by kernel_rfl))
  f169 := Tryz.func85.trans (congrArg some (by kernel_rfl))
  f240 := Tryz.func127.trans (congrArg some (by kernel_rfl))
  f241 := Tryz.func318.trans (congrArg some (by kernel_rfl))
  f276 := Tryz.func211.trans (congrArg some (by kernel_rfl))
  f277 := Tryz.func419.trans (congrArg some (by kernel_rfl))
  t0 := Tryz.underlying0
  a0 := Tryz.isAgg0
  z0 := Tryz.sizeOf0
  v0 := Tryz.zeroValue0
  t3 := Tryz.underlying3
  a3 := Tryz.isAgg3
  z3 := Tryz.sizeOf3
  v3 := Tryz.zeroValue3
  t4 := Tryz.underlying4
  a4 := Tryz.isAgg4
  z4 := Tryz.sizeOf4
  v4 := Tryz.zeroValue4
  t9 := Tryz.underlying9
  a9 := Tryz.isAgg9
  z9 := Tryz.sizeOf9
  v9 := Tryz.zeroValue9
  t20 := Tryz.underlying20
  a20 := Tryz.isAgg20
  z20 := Tryz.sizeOf20
  v20 := Tryz.zeroValue20
  t31 := Tryz.underlying84
  a31 := Tryz.isAgg84
  z31 := Tryz.sizeOf84
  v31 := Tryz.zeroValue84
  t37 := Tryz.underlying33
  a37 := Tryz.isAgg33
  z37 := Tryz.sizeOf33
  v37 := Tryz.zeroValue33
  t70 := Tryz.underlying200
  a70 := Tryz.isAgg200
  z70 := Tryz.sizeOf200
  v70 := Tryz.zeroValue200
  t72 := Tryz.underlying202
  a72 := Tryz.isAgg202
  z72 := Tryz.sizeOf202
  v72 := Tryz.zeroValue202
  t75 := Tryz.underlying204
  a75 := Tryz.isAgg204
  z75 := Tryz.sizeOf204
  v75 := Tryz.zeroValue204
  t76 := Tryz.underlying205
  a76 := Tryz.isAgg205
  z76 := Tryz.sizeOf205
  v76 := Tryz.zeroValue205
  t127 := Tryz.underlying280
  a127 := Tryz.isAgg280
  z127 := Tryz.sizeOf280
  v127 := Tryz.zeroValue280
  t164 := Tryz.underlying392
  a164 := Tryz.isAgg392
  z164 := Tryz.sizeOf392
  v164 := Tryz.zeroValue392 }
theorem Tryz.Builder_Extra_156 : Builder.Extra Tryz.prog Tryz.lays156_ren := {
  sizeBuilder := by kernel_rfl
  liesBuilder := by kernel_rfl
  t5 := Tryz.underlying5
  a5 := Tryz.isAgg5
  z5 := Tryz.sizeOf5
  v5 := Tryz.zeroValue5
  infoByte := by kernel_rfl
  cellsByte := by kernel_rfl
  sizeByte := by kernel_rfl
  neB5 := by decide }
open Go.RowKit in
theorem Tryz.strings_Join_none (a : Option Addr) (c : Nat) (sep : ByteArray) (w : World) :
    Calls Tryz.prog 133 #[.slice a 0 c, .string sep] w fun e w' => e = .returned (.string ⟨#[]⟩) ∧ w' = w := Any.strings_Join_none Tryz.lays156 Tryz.Builder_Extra_156 a c sep w
open Go.RowKit in
theorem Tryz.strings_Join (bk o c : Nat) (xs : List ByteArray) (sep : ByteArray) (w : World) (hcells : ∀ (j : Nat) x, xs[j]? = some x → w.cell? ⟨bk, o + j, none⟩ = some (.string x)) (hbk : bk < w.heap.size) (hN : xs.length ≤ 140737488355328) (hcap : xs.length ≤ c) (hlen : (Lib.join (xs.map (·.data.toList)) sep.data.toList).length ≤ 140737488355328) :
    Calls Tryz.prog 133 #[.slice (some ⟨bk, o, none⟩) xs.length c, .string sep] w fun e w' => e = .returned (.string ⟨(Lib.join (xs.map (·.data.toList)) sep.data.toList).toArray⟩) ∧ Below w.heap.size w w' := Any.strings_Join Tryz.lays156 Tryz.Builder_Extra_156 bk o c xs sep w hcells hbk hN hcap hlen

end Go.Proofs

/- awake answers true in every world; the law without premises. -/
import Derived.Test.YtfafhdganloipaaGreatDoorL1
import Derived.Test.YtfafhdganloipaaGreatDoorW10
import Derived.Test.YtfafhdganloipaaGreatDoorMh
namespace Go.Proofs.YtfafhdganloipaaGreatDoor
open Go.RowKit
theorem awake_ok : AwakeOk := fun w h => top_any w h.1 h.2
theorem law_all (a : Arc) (VT VA VD : Value) (n c k : Nat) (hn : n < 65536) (hc : c < 256) (hk : k < 65536) (w : World) (h : ArcAt w w.heap.size VT VA VD a) (h6 : GOk w) :
    Calls Tryz.prog 3 #[.agg #[.string a.ms, .string a.lg, VT, VA, VD], .int .u16 (n : Int), .int .u8 (c : Int), .int .u16 (k : Int)] w (LawPost w) :=
  law_any table_ok awake_ok a VT VA VD n c k hn hc hk w h h6
end Go.Proofs.YtfafhdganloipaaGreatDoor

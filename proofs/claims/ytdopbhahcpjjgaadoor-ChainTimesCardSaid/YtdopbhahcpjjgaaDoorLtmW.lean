/- ChainTimes for the frame. -/
import Derived.Test.YtdopbhahcpjjgaaDoorLtm
import Derived.Test.YtdopbhahcpjjgaaDoorOpenT
namespace Go.Proofs.YtdopbhahcpjjgaaDoor
open Go.RowKit

theorem lawTimes' (a b c : Int) (_ha : (Lit.int .i64 a).wf = true) (_hb : (Lit.int .i64 b).wf = true) (_hc : (Lit.int .i64 c).wf = true) (w : World) (ht : Tabs w) :
    Calls Tryd.prog 5 #[.int .i64 a, .int .i64 b, .int .i64 c] w (fun e w' => e = .returned (.bool true) ∧ Below w.heap.size w w') := lawTimes a b c w ht
end Go.Proofs.YtdopbhahcpjjgaaDoor

/- ChainNever for the frame. -/
import Derived.Test.YtdopbhahcpjjgaaDoorLnv
import Derived.Test.YtdopbhahcpjjgaaDoorOpx
import Derived.Test.YtdopbhahcpjjgaaDoorOpenT
namespace Go.Proofs.YtdopbhahcpjjgaaDoor
open Go.RowKit

theorem lawNever' (cs : Array Value) (x : TxD) (co : Array Value) (o : OutD) (p : Int) (_hp : (Lit.int .i64 p).wf = true) (w : World) (e : Value.agg cs = .agg x.cells.toArray) (s : x.good w) (e2 : Value.agg co = .agg o.cells.toArray) (s2 : o.good w) (ht : Tabs w) :
    Calls Tryd.prog 4 #[.agg cs, .agg co, .int .i64 p] w (fun e w' => e = .returned (.bool true) ∧ Below w.heap.size w w') := by
  rw [e, e2]
  exact lawNever x o p w s s2 ht
end Go.Proofs.YtdopbhahcpjjgaaDoor

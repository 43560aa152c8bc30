/- ChainIds for the frame. -/
import Derived.Test.YtdopbhahcpjjgaaDoorLid
import Derived.Test.YtdopbhahcpjjgaaDoorOpx
import Derived.Test.YtdopbhahcpjjgaaDoorOpenT
namespace Go.Proofs.YtdopbhahcpjjgaaDoor
open Go.RowKit

theorem i64_of_wf {p : Int} (h : (Lit.int .i64 p).wf = true) : i64ok p := by
  have e1 : IntKind.i64.min = -9223372036854775808 := by decide
  have e2 : IntKind.i64.max = 9223372036854775807 := by decide
  simp [Lit.wf, e1, e2] at h
  exact ⟨by omega, by omega⟩
theorem lawIds' (cs : Array Value) (x : TxD) (h : List Nat) (p : Int) (hh : h.length = 32 ∧ ∀ d ∈ h, d < 256) (hp : (Lit.int .i64 p).wf = true) (w : World) (e : Value.agg cs = .agg x.cells.toArray) (s : x.good w) (ht : Tabs w) :
    Calls Tryd.prog 3 #[.agg cs, .agg (nums .u8 h).toArray, .int .i64 p] w (fun e w' => e = .returned (.bool true) ∧ Below w.heap.size w w') := by
  rw [e]
  exact lawIds x h hh p (i64_of_wf hp) w s ht
end Go.Proofs.YtdopbhahcpjjgaaDoor

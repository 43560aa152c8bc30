/- The digest of noughts, as a value. -/
import Derived.Test.YtpncdgogefhjlaaDoorMem
import Derived.Test.YtpncdgogefhjlaaDoorHash
namespace Go.Proofs.YtpncdgogefhjlaaDoor
open Go.RowKit

def za : Array Value := #[.int .u8 0, .int .u8 0, .int .u8 0, .int .u8 0, .int .u8 0, .int .u8 0, .int .u8 0, .int .u8 0, .int .u8 0, .int .u8 0, .int .u8 0, .int .u8 0, .int .u8 0, .int .u8 0, .int .u8 0, .int .u8 0, .int .u8 0, .int .u8 0, .int .u8 0, .int .u8 0, .int .u8 0, .int .u8 0, .int .u8 0, .int .u8 0, .int .u8 0, .int .u8 0, .int .u8 0, .int .u8 0, .int .u8 0, .int .u8 0, .int .u8 0, .int .u8 0]
def z32 : Value := .agg za
theorem za_one : za.all (·.oneCell') = true := by kernel_rfl
theorem z32_hv : z32 = hv (List.replicate 32 0) := by unfold z32 hv za; rw [nums_replicate]; rfl
theorem z32_rules : (∀ (op : BinOp) (x y : Operand) (w : World), (eqGuard op 26 x y z32 (.agg #[.int .u8 0, .int .u8 0, .int .u8 0, .int .u8 0, .int .u8 0, .int .u8 0, .int .u8 0, .int .u8 0, .int .u8 0, .int .u8 0, .int .u8 0, .int .u8 0, .int .u8 0, .int .u8 0, .int .u8 0, .int .u8 0, .int .u8 0, .int .u8 0, .int .u8 0, .int .u8 0, .int .u8 0, .int .u8 0, .int .u8 0, .int .u8 0, .int .u8 0, .int .u8 0, .int .u8 0, .int .u8 0, .int .u8 0, .int .u8 0, .int .u8 0, .int .u8 0])).run Tryd.prog w = .ok () w) ∧ (∀ w : World, (binOp .eql 26 z32 (.agg #[.int .u8 0, .int .u8 0, .int .u8 0, .int .u8 0, .int .u8 0, .int .u8 0, .int .u8 0, .int .u8 0, .int .u8 0, .int .u8 0, .int .u8 0, .int .u8 0, .int .u8 0, .int .u8 0, .int .u8 0, .int .u8 0, .int .u8 0, .int .u8 0, .int .u8 0, .int .u8 0, .int .u8 0, .int .u8 0, .int .u8 0, .int .u8 0, .int .u8 0, .int .u8 0, .int .u8 0, .int .u8 0, .int .u8 0, .int .u8 0, .int .u8 0, .int .u8 0])).run Tryd.prog w = .ok (.bool true) w) := by
  have e : (.agg #[.int .u8 0, .int .u8 0, .int .u8 0, .int .u8 0, .int .u8 0, .int .u8 0, .int .u8 0, .int .u8 0, .int .u8 0, .int .u8 0, .int .u8 0, .int .u8 0, .int .u8 0, .int .u8 0, .int .u8 0, .int .u8 0, .int .u8 0, .int .u8 0, .int .u8 0, .int .u8 0, .int .u8 0, .int .u8 0, .int .u8 0, .int .u8 0, .int .u8 0, .int .u8 0, .int .u8 0, .int .u8 0, .int .u8 0, .int .u8 0, .int .u8 0, .int .u8 0] : Value) = hv (List.replicate 32 0) := z32_hv
  rw [z32_hv, e]
  have hl : (List.replicate 32 0).length = 32 := List.length_replicate
  have hz : ∀ d ∈ List.replicate 32 0, d < 256 := by intro d hd; rw [List.eq_of_mem_replicate hd]; decide
  exact ⟨guard_hv _ _, fun w => by rw [eql_hv hl hl hz hz, decide_eq_true rfl]⟩
end Go.Proofs.YtpncdgogefhjlaaDoor

/- The zero values of more than 64 cells, where the seat gives no constants for them. -/
import Derived.Test.YtnfklnbdebcpiaaDoorMem
namespace Go.Proofs.YtnfklnbdebcpiaaDoor
open Go.RowKit

theorem ne_of_size (a : Array Value) (n : Nat) (h : a.size = n + 1) : a ≠ #[] := by
  intro e
  rw [e] at h
  cases h
def zCells (z : Option (Option Value)) : Array Value := match z with
  | some (some (.agg cs)) => cs
  | _ => #[]
theorem zvOf {t : TypeId} {Z : Array Value} (h : (Tryd.prog.info? t).map (·.zero) = some (some (.agg Z))) (w : World) : (zeroValue t).run Tryd.prog w = .ok (.agg Z) w := by
  cases hi : Tryd.prog.info? t with
  | none => rw [hi] at h; cases h
  | some i =>
    rw [hi] at h
    simp only [Option.map_some, Option.some.injEq] at h
    simp [zeroValue, typeInfo, hi, h]
noncomputable def zc34 : Array Value := zCells ((Tryd.prog.info? 34).map (·.zero))
theorem zv34 : ∀ w : World, (zeroValue 34).run Tryd.prog w = .ok (.agg zc34) w := zvOf (by kernel_rfl)
theorem zn34 : zc34 ≠ #[] := ne_of_size _ (72 - 1) (by kernel_rfl)

noncomputable def zc79 : Array Value := zCells ((Tryd.prog.info? 79).map (·.zero))
theorem zv79 : ∀ w : World, (zeroValue 79).run Tryd.prog w = .ok (.agg zc79) w := zvOf (by kernel_rfl)
theorem zn79 : zc79 ≠ #[] := ne_of_size _ (74 - 1) (by kernel_rfl)

noncomputable def zc88 : Array Value := zCells ((Tryd.prog.info? 88).map (·.zero))
theorem zv88 : ∀ w : World, (zeroValue 88).run Tryd.prog w = .ok (.agg zc88) w := zvOf (by kernel_rfl)
theorem zn88 : zc88 ≠ #[] := ne_of_size _ (128 - 1) (by kernel_rfl)


noncomputable def zc47 : Array Value := zCells ((Tryd.prog.info? 47).map (·.zero))
theorem zv47 : ∀ w : World, (zeroValue 47).run Tryd.prog w = .ok (.agg zc47) w := zvOf (by kernel_rfl)
theorem zn47 : zc47 ≠ #[] := ne_of_size _ (1618 - 1) (by kernel_rfl)

end Go.Proofs.YtnfklnbdebcpiaaDoor

/- The zero values of more than 64 cells, where the seat gives no constants for them. -/
import Derived.Test.YthccjefhlmngbaaDoorMem
namespace Go.Proofs.YthccjefhlmngbaaDoor
open Go.RowKit

theorem ne_of_size (a : Array Value) (n : Nat) (h : a.size = n + 1) : a ≠ #[] := by
  intro e
  rw [e] at h
  cases h
def zCells (z : Option (Option Value)) : Array Value := match z with
  | some (some (.agg cs)) => cs
  | _ => #[]
theorem zvOf {t : TypeId} {Z : Array Value} (h : (Tryd.prog.info? t).map (·.zero) = some (some (.agg Z))) (w : World) : (zeroValue t).run Tryd.prog w = .ok (.agg Z) w := by
  cases hi : Tryd.prog.info? t with
  | none => rw [hi] at h; cases h
  | some i =>
    rw [hi] at h
    simp only [Option.map_some, Option.some.injEq] at h
    simp [zeroValue, typeInfo, hi, h]

noncomputable def zc93 : Array Value := zCells ((Tryd.prog.info? 93).map (·.zero))
theorem zv93 : ∀ w : World, (zeroValue 93).run Tryd.prog w = .ok (.agg zc93) w := zvOf (by kernel_rfl)
theorem zn93 : zc93 ≠ #[] := ne_of_size _ (74 - 1) (by kernel_rfl)

noncomputable def zc110 : Array Value := zCells ((Tryd.prog.info? 110).map (·.zero))
theorem zv110 : ∀ w : World, (zeroValue 110).run Tryd.prog w = .ok (.agg zc110) w := zvOf (by kernel_rfl)
theorem zn110 : zc110 ≠ #[] := ne_of_size _ (128 - 1) (by kernel_rfl)



end Go.Proofs.YthccjefhlmngbaaDoor

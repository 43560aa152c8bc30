/- The zero values of more than 64 cells, where the seat gives no constants for them. -/
import Derived.Test.YtbdganopnccicaaDoorMem
namespace Go.Proofs.YtbdganopnccicaaDoor
open Go.RowKit

theorem ne_of_size (a : Array Value) (n : Nat) (h : a.size = n + 1) : a ≠ #[] := by
  intro e
  rw [e] at h
  cases h
def zCells (z : Option (Option Value)) : Array Value := match z with
  | some (some (.agg cs)) => cs
  | _ => #[]
theorem zvOf {t : TypeId} {Z : Array Value} (h : (Tryd.prog.info? t).map (·.zero) = some (some (.agg Z))) (w : World) : (zeroValue t).run Tryd.prog w = .ok (.agg Z) w := by
  cases hi : Tryd.prog.info? t with
  | none => rw [hi] at h; cases h
  | some i =>
    rw [hi] at h
    simp only [Option.map_some, Option.some.injEq] at h
    simp [zeroValue, typeInfo, hi, h]
noncomputable def zc30 : Array Value := zCells ((Tryd.prog.info? 30).map (·.zero))
theorem zv30 : ∀ w : World, (zeroValue 30).run Tryd.prog w = .ok (.agg zc30) w := zvOf (by kernel_rfl)
theorem zn30 : zc30 ≠ #[] := ne_of_size _ (72 - 1) (by kernel_rfl)

noncomputable def zc86 : Array Value := zCells ((Tryd.prog.info? 86).map (·.zero))
theorem zv86 : ∀ w : World, (zeroValue 86).run Tryd.prog w = .ok (.agg zc86) w := zvOf (by kernel_rfl)
theorem zn86 : zc86 ≠ #[] := ne_of_size _ (74 - 1) (by kernel_rfl)

noncomputable def zc105 : Array Value := zCells ((Tryd.prog.info? 105).map (·.zero))
theorem zv105 : ∀ w : World, (zeroValue 105).run Tryd.prog w = .ok (.agg zc105) w := zvOf (by kernel_rfl)
theorem zn105 : zc105 ≠ #[] := ne_of_size _ (128 - 1) (by kernel_rfl)


end Go.Proofs.YtbdganopnccicaaDoor

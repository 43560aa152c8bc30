/- What points and geneses read as; the statement AssetFits for the frame. -/
import Derived.Test.YtgaidleepjkldaaDoorOpenG
import Derived.Test.YtgaidleepjkldaaDoorPn
namespace Go.Proofs.YtgaidleepjkldaaDoor
open Go.ChangeShapes Go.WideShapes Go.ChangeAt Go.RowKit

theorem opens_bytes {H : Type} {enc : TypeId × Value → H} {W : World} : Opens enc Tryd.prog W 26 SLo.cells (SLo.good W 1 1 (fun z : Nat => [Value.int .u8 (z : Int)]) (fun z => z < 256)) :=
  opens_slice Tryd.underlying26 (opens_nat (fun _ => u8_nat) Tryd.underlying5) (by kernel_rfl) (by kernel_rfl) (fun _ => rfl) (by decide)
theorem opens_hash {H : Type} {enc : TypeId × Value → H} {W : World} : Opens enc Tryd.prog W 23 (fun xs : List Nat => nums .u8 xs) (fun xs => xs.length = 32 ∧ ∀ x ∈ xs, x < 256) :=
  (opens_array Tryd.underlying23 (opens_nat (fun _ => u8_nat) Tryd.underlying5) (size := 1) (by kernel_rfl) (fun _ => rfl) (by kernel_rfl)).map id (fun xs => (flat_nums xs).symm) (fun _ h => h)
theorem opens_point {H : Type} {enc : TypeId × Value → H} {W : World} : Opens enc Tryd.prog W 25 (fun x : List Nat × Int => nums .u8 x.1 ++ [Value.int .i64 x.2]) (fun x => (x.1.length = 32 ∧ ∀ d ∈ x.1, d < 256) ∧ (Lit.int .i64 x.2).wf = true) :=
  opens_struct2 Tryd.underlying25 opens_hash (s0 := 32) (by kernel_rfl) (opens_int Tryd.underlying3) (s1 := 1) (by kernel_rfl) rfl rfl (by kernel_rfl)
theorem opens_gen {H : Type} {enc : TypeId × Value → H} {W : World} : Opens enc Tryd.prog W 28 (fun x : (List Nat × Int) × SLo Nat × List Nat × Int => (nums .u8 x.1.1 ++ [Value.int .i64 x.1.2]) ++ SLo.cells x.2.1 ++ nums .u8 x.2.2.1 ++ [Value.int .i64 x.2.2.2])
    (fun x => ((x.1.1.length = 32 ∧ ∀ d ∈ x.1.1, d < 256) ∧ (Lit.int .i64 x.1.2).wf = true) ∧ SLo.good W 1 1 (fun z : Nat => [Value.int .u8 (z : Int)]) (fun z => z < 256) x.2.1 ∧ (x.2.2.1.length = 32 ∧ ∀ d ∈ x.2.2.1, d < 256) ∧ (Lit.int .i64 x.2.2.2).wf = true) :=
  opens_struct4 Tryd.underlying28 opens_point (s0 := 33) (by kernel_rfl) opens_bytes (s1 := 1) (by kernel_rfl) opens_hash (s2 := 32) (by kernel_rfl) (opens_int Tryd.underlying3) (s3 := 1) (by kernel_rfl) rfl rfl rfl rfl (by kernel_rfl)
end Go.Proofs.YtgaidleepjkldaaDoor

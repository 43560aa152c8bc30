/- AssetNames, its arguments as they come. -/
import Derived.Test.YtgaidleepjkldaaDoorGenJ
namespace Go.Proofs.YtgaidleepjkldaaDoor
open Go.ChangeShapes Go.WideShapes Go.ChangeAt Go.RowKit

abbrev GenX := (List Nat × Int) × SLo Nat × List Nat × Int
def GenX.gen (x : GenX) : Gen := ⟨x.1.1, x.1.2, x.2.1.xs, x.2.2.1, x.2.2.2⟩
def GenX.cells (x : GenX) : List Value := (nums .u8 x.1.1 ++ [Value.int .i64 x.1.2]) ++ SLo.cells x.2.1 ++ nums .u8 x.2.2.1 ++ [Value.int .i64 x.2.2.2]
def GenX.ok (W : World) (x : GenX) : Prop := ((x.1.1.length = 32 ∧ ∀ d ∈ x.1.1, d < 256) ∧ (Lit.int .i64 x.1.2).wf = true) ∧ SLo.good W 1 1 (fun z : Nat => [Value.int .u8 (z : Int)]) (fun z => z < 256) x.2.1 ∧ (x.2.2.1.length = 32 ∧ ∀ d ∈ x.2.2.1, d < 256) ∧ (Lit.int .i64 x.2.2.2).wf = true
theorem GenX.cells_eq (x : GenX) : x.cells = x.gen.cells x.2.1.a x.2.1.c := rfl
theorem GenX.good {W : World} {x : GenX} (h : x.ok W) : x.gen.good W x.2.1.a x.2.1.c := by
  obtain ⟨⟨⟨h1, h2⟩, h3⟩, h4, ⟨h5, h6⟩, h7⟩ := h
  obtain ⟨k1, k2, k3⟩ := SLo.nums (k := .u8) (W := W) (bytes := 1) (M := 256) (s := x.2.1) h4
  exact ⟨h1, h2, h5, h6, k2, by simpa [GenX.gen] using k3, h3, h7, k1⟩
theorem lawNames' (cs : Array Value) (x : GenX) (cs' : Array Value) (x' : GenX) (w : World) (e : Value.agg cs = .agg x.cells.toArray) (s : x.ok w) (e' : Value.agg cs' = .agg x'.cells.toArray) (s' : x'.ok w) (ht : Tabs w) :
    Calls Tryd.prog 3 #[.agg cs, .agg cs'] w fun e w' => e = .returned (.bool true) ∧ Below w.heap.size w w' := by
  rw [e, e', GenX.cells_eq, GenX.cells_eq]
  exact lawNames _ _ _ _ _ _ w (GenX.good s) (GenX.good s') ht
end Go.Proofs.YtgaidleepjkldaaDoor

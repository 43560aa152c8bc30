/- TokenRuns, its arguments as they come. -/
import Derived.Test.YtbdganopnccicaaDoorTokS
import Derived.Test.YtbdganopnccicaaDoorOpenH
namespace Go.Proofs.YtbdganopnccicaaDoor
open Go.ChangeShapes Go.WideShapes Go.ChangeAt Go.RowKit

theorem opens_op5 {H : Type} {enc : TypeId × Value → H} {W : World} : Opens enc Tryd.prog W 36 (fun x : Bool × List Nat × List Nat × List Nat × Bool => [Value.bool x.1] ++ nums .u8 x.2.1 ++ nums .u8 x.2.2.1 ++ nums .u8 x.2.2.2.1 ++ [Value.bool x.2.2.2.2])
    (fun x => True ∧ (x.2.1.length = 32 ∧ ∀ d ∈ x.2.1, d < 256) ∧ (x.2.2.1.length = 32 ∧ ∀ d ∈ x.2.2.1, d < 256) ∧ (x.2.2.2.1.length = 32 ∧ ∀ d ∈ x.2.2.2.1, d < 256) ∧ True) :=
  opens_struct5 Tryd.underlying36 (opens_bool Tryd.underlying4) (s0 := 1) (by kernel_rfl) opens_digest (s1 := 32) (by kernel_rfl) opens_digest (s2 := 32) (by kernel_rfl) opens_digest (s3 := 32) (by kernel_rfl) (opens_bool Tryd.underlying4) (s4 := 1) (by kernel_rfl) rfl rfl rfl rfl rfl (by kernel_rfl)
def OO := { o : OpX // o.ok }
def OO.cells (o : OO) : List Value := o.1.cells
theorem opens_oo {H : Type} {enc : TypeId × Value → H} {W : World} : Opens enc Tryd.prog W 36 OO.cells (fun _ => True) := by
  intro fuel cs d p ht hw
  obtain ⟨x, rfl, h⟩ := opens_op5 fuel cs d p ht hw
  exact ⟨⟨⟨x.1, x.2.1, x.2.2.1, x.2.2.2.1, x.2.2.2.2⟩, ⟨h.2.1, h.2.2.1, h.2.2.2.1⟩⟩, rfl, trivial⟩
theorem opens_oos {H : Type} {enc : TypeId × Value → H} {W : World} : Opens enc Tryd.prog W 22 SLo.cells (SLo.good W 98 98 OO.cells (fun _ => True)) :=
  opens_slice Tryd.underlying22 opens_oo (by kernel_rfl) (by kernel_rfl) (fun x => OpX.len x.2) (by decide)
theorem oo_flat (xs : List OO) : xs.flatMap OO.cells = (xs.map (·.1)).flatMap OpX.cells := by
  induction xs with
  | nil => rfl
  | cons x r ih => rw [List.flatMap_cons, ih]; rfl
theorem lawTRuns' (a : Option Addr) (l c : Nat) (xs : List OO) (w : World) (hl : xs.length = l) (h : SLo.good w 98 98 OO.cells (fun _ => True) ⟨a, c, xs⟩) (ht : Tabs w) :
    Calls Tryd.prog 3 #[.slice a l c] w fun e w' => e = .returned (.bool true) ∧ Below w.heap.size w w' := by
  subst hl
  have k1 := h.1
  rw [oo_flat] at k1
  refine lawTRuns a xs.length c (xs.map (·.1)) w ⟨k1, by simp, fun o ho => ?_⟩ ht
  obtain ⟨x, _, rfl⟩ := List.mem_map.1 ho
  exact x.2
end Go.Proofs.YtbdganopnccicaaDoor

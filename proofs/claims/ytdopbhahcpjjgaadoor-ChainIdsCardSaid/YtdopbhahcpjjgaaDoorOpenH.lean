/- Digests as arguments. -/
import Derived.Test.YtdopbhahcpjjgaaDoorOpnG
import Derived.Test.YtdopbhahcpjjgaaDoorBkm
namespace Go.Proofs.YtdopbhahcpjjgaaDoor
open Go.RowKit Go.ChangeShapes Go.WideShapes Go.ChangeAt

theorem okWide_array {P : Program} {w : World} {r : Reach} {base : Nat} {t e : TypeId} {n : Nat} {v : Value} (ht : P.underlying t = some (.array n e)) (h : Value.okWide P w r base t v) : ∃ cs, v = .agg cs ∧ cs.size = P.cellsOf t := by
  simp only [Value.okWide, ht] at h
  obtain ⟨cs, h1, h2, _⟩ := h
  exact ⟨cs, h1, h2⟩
theorem flat_digest (xs : List Nat) : xs.flatMap (fun z : Nat => [Value.int .u8 (z : Int)]) = nums .u8 xs := by induction xs with | nil => rfl | cons x r ih => rw [List.flatMap_cons, ih]; rfl
theorem opens_digest {H : Type} {enc : TypeId × Value → H} {W : World} : Opens enc Tryd.prog W 27 (fun xs : List Nat => nums .u8 xs) (fun xs => xs.length = 32 ∧ ∀ x ∈ xs, x < 256) :=
  (opens_array Tryd.underlying27 (opens_nat (fun _ => u8_nat) Tryd.underlying5) (size := 1) (by kernel_rfl) (fun _ => rfl) (by kernel_rfl)).map id (fun xs => (flat_digest xs).symm) (fun _ h => h)
end Go.Proofs.YtdopbhahcpjjgaaDoor

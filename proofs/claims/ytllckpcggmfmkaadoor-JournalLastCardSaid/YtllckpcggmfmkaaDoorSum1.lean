/- sha.Sum of one part. -/
import Derived.Test.YtllckpcggmfmkaaDoorShaT
namespace Go.Proofs.YtllckpcggmfmkaaDoor
open Go.RowKit

theorem parts1 {w : World} {G : Nat} {a : Option Addr} {n c : Nat} {xs : List Nat} (hc : w.cell? ⟨G, 0, none⟩ = some (.slice a n c)) (h : Sl .u8 w a n c xs) (hx : ∀ d ∈ xs, d < 256) (hn : n ≤ 140737488351232) : Parts w (some ⟨G, 0, none⟩) 1 1 [⟨a, c, xs⟩] := by
  have hl := h.len
  subst hl
  refine ⟨⟨rfl, Nat.le_refl _, by decide, (fun e => by cases e), G, 0, fun _ => rfl, fun j u hu => ?_⟩, rfl, fun l hl => ?_⟩
  · match j, hu with
    | 0, hu => simp [BS.cells] at hu; subst hu; exact hc
    | j + 1, hu => simp [BS.cells] at hu
  · simp only [List.mem_singleton] at hl
    subst hl
    exact ⟨h, hx, hn⟩
/-- the digest of one part -/
theorem sum1_walk (G : Nat) (a : Option Addr) (n c : Nat) (xs : List Nat) (w : World) (hc : w.cell? ⟨G, 0, none⟩ = some (.slice a n c)) (h : Sl .u8 w a n c xs) (hx : ∀ d ∈ xs, d < 256) (hn : n ≤ 140737488351232) (ht : Tabs w) :
    Calls Tryd.prog 49 #[.slice (some ⟨G, 0, none⟩) 1 1] w (SumRes xs w) := by
  have P := parts1 hc h hx hn
  have hl := h.len
  have := sum_walk (some ⟨G, 0, none⟩) 1 1 _ w P (by simp [flat]; omega) ht
  simpa [flat] using this
theorem cellNew1 (Y : World) (v : Value) (T : TypeId) : (Y.alloc (.cells #[v] T)).cell? ⟨Y.heap.size, 0, none⟩ = some v := by rw [cell_of_row _ _ 0 _ _ (0, 0) (heap_alloc_new Y _)]; rfl
end Go.Proofs.YtllckpcggmfmkaaDoor

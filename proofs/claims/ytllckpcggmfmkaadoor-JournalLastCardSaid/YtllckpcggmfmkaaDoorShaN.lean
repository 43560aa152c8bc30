/- The walks of sha.New and sha.Sum. -/
import Derived.Test.YtllckpcggmfmkaaDoorZc
import Derived.Test.YtllckpcggmfmkaaDoorShaV
namespace Go.Proofs.YtllckpcggmfmkaaDoor
open Go.RowKit

noncomputable def hs0 : Array Value := ((((((((Tryd.zeroCells103.setIfInBounds 0 (.int .u32 1779033703)).setIfInBounds 1 (.int .u32 3144134277)).setIfInBounds 2 (.int .u32 1013904242)).setIfInBounds 3 (.int .u32 2773480762)).setIfInBounds 4 (.int .u32 1359893119)).setIfInBounds 5 (.int .u32 2600822924)).setIfInBounds 6 (.int .u32 528734635)).setIfInBounds 7 (.int .u32 1541459225))
theorem hs0_list : hs0.toList = nums .u32 H0 ++ (nums .u8 (List.replicate 64 0) ++ [.int .i64 ((0 : Nat) : Int), .int .u64 ((0 : Nat) : Int)]) := by kernel_rfl
theorem HsAt.ofList {cur : Array Value} {S R : List Nat} {k n : Nat} (hS : S.length = 8) (hR : R.length = 64) (h : cur.toList = nums .u32 S ++ (nums .u8 R ++ [.int .i64 (k : Int), .int .u64 (n : Int)])) : HsAt cur 0 S R k n := by
  have hsz : cur.size = 74 := by
    have := congrArg List.length h
    simpa [hS, hR] using this
  have g : ∀ j : Nat, cur[j]? = (nums .u32 S ++ (nums .u8 R ++ [.int .i64 (k : Int), .int .u64 (n : Int)]))[j]? := by
    intro j; rw [← h]; simp
  refine ⟨hS, hR, by omega, fun i hi => ?_, fun i hi => ?_, ?_, ?_⟩
  · rw [g, List.getElem?_append_left (by simp; omega), Nat.zero_add, nums_get .u32 (by omega)]
  · rw [g, List.getElem?_append_right (by simp; omega), List.getElem?_append_left (by simp; omega), show 0 + 8 + i - (nums IntKind.u32 S).length = i by rw [nums_length, hS]; omega, nums_get .u8 (by omega)]
  · rw [g, List.getElem?_append_right (by simp; omega), List.getElem?_append_right (by simp; omega), nums_length, nums_length, hS, hR]; rfl
  · rw [g, List.getElem?_append_right (by simp; omega), List.getElem?_append_right (by simp; omega), nums_length, nums_length, hS, hR]; rfl
theorem hs0_at : HsAt hs0 0 H0 (List.replicate 64 0) 0 0 := HsAt.ofList rfl (by rw [List.length_replicate]) hs0_list
theorem rep_lt : ∀ d ∈ List.replicate 64 0, d < 256 := by intro d hd; rw [List.eq_of_mem_replicate hd]; decide
def NewRes (w : World) (e : Ending) (w' : World) : Prop := ∃ g cur T, e = .returned (.pointer (some ⟨g, 0, none⟩)) ∧ w.heap.size ≤ g ∧ Below w.heap.size w w' ∧ w'.heap[g]? = some (.cells cur T (0, 0)) ∧ HsAt cur 0 H0 (List.replicate 64 0) 0 0
set_option maxRecDepth 100000 in
theorem new_walk (w : World) (ht : Tabs w) : Calls Tryd.prog 50 #[] w (NewRes w) := by
  have t0 : w.cell? ⟨0, 0, none⟩ = some (.int .u32 1779033703) := ht.1 0 (by decide)
  have t1 : w.cell? ⟨0, 1, none⟩ = some (.int .u32 3144134277) := ht.1 1 (by decide)
  have t2 : w.cell? ⟨0, 2, none⟩ = some (.int .u32 1013904242) := ht.1 2 (by decide)
  have t3 : w.cell? ⟨0, 3, none⟩ = some (.int .u32 2773480762) := ht.1 3 (by decide)
  have t4 : w.cell? ⟨0, 4, none⟩ = some (.int .u32 1359893119) := ht.1 4 (by decide)
  have t5 : w.cell? ⟨0, 5, none⟩ = some (.int .u32 2600822924) := ht.1 5 (by decide)
  have t6 : w.cell? ⟨0, 6, none⟩ = some (.int .u32 528734635) := ht.1 6 (by decide)
  have t7 : w.cell? ⟨0, 7, none⟩ = some (.int .u32 1541459225) := ht.1 7 (by decide)
  have FIN := hid (show NewRes w (.returned (.pointer (some ⟨w.heap.size, 0, none⟩))) (w.alloc (.cells hs0 103)) from ⟨_, _, _, rfl, Nat.le_refl _, (Below.refl _ _).alloc (Nat.le_refl _) _, heap_alloc_new w _, hs0_at⟩)
  clear ht
  go_enter Tryd.func50, Tryd.ntmps50
  go_wp2
  go_ret
  exact FIN.out
end Go.Proofs.YtllckpcggmfmkaaDoor

/- The walk of the statement AssetPoints. -/
import Derived.Test.YtgaidleepjkldaaDoorPn
import Derived.Test.YtgaidleepjkldaaDoorBa
import Derived.Test.YtgaidleepjkldaaDoorOpenA
namespace Go.Proofs.YtgaidleepjkldaaDoor
open Go.RowKit

/-- an output's cells, its number whatever -/
def pti (tx : List Nat) (o : Int) : Array Value := (nums .u8 tx ++ [Value.int .i64 o]).toArray
theorem ptv_pti (tx : List Nat) (o : Nat) : ptv tx o = pti tx (o : Int) := rfl
theorem kl_point {tx : List Nat} {o : Int} (ht : tx.length = 32) (hb : ∀ d ∈ tx, d < 256) (ho : (Lit.int .i64 o).wf = true) (d : Nat) : KL (d + 3) 25 (nums .u8 tx ++ [Value.int .i64 o]) := by
  refine KL.struct Tryd.underlying25 (by rw [List.length_append, nums_length, ht]; kernel_rfl) (by kernel_rfl) fun f hf => ?_
  simp only [List.mem_cons, List.not_mem_nil, or_false] at hf
  rcases hf with rfl | rfl
  · rw [show Tryd.prog.cellsOf _ = 32 by kernel_rfl]
    rw [show List.take 32 (List.drop 0 (nums .u8 tx ++ [Value.int .i64 o])) = nums .u8 tx by rw [List.drop_zero, List.take_append_of_le_length (by rw [nums_length]; omega), List.take_of_length_le (by rw [nums_length]; omega)]]
    exact KL.bytes Tryd.underlying23 (by kernel_rfl) ht hb
  · rw [show Tryd.prog.cellsOf _ = 1 by kernel_rfl]
    rw [show List.take 1 (List.drop 32 (nums .u8 tx ++ [Value.int .i64 o])) = [Value.int .i64 o] by rw [List.drop_append_of_le_length (by rw [nums_length]; omega), List.drop_of_length_le (by rw [nums_length]; omega)]; rfl]
    exact KL.int Tryd.underlying3 ho
theorem kv_point {tx : List Nat} {o : Int} (ht : tx.length = 32) (hb : ∀ d ∈ tx, d < 256) (ho : (Lit.int .i64 o).wf = true) : KV 25 (.agg (pti tx o)) :=
  KV.mk keyPoint.wide (by kernel_rfl) (by rw [List.length_append, nums_length, ht]; kernel_rfl) (fun d => kl_point (d := d + 5) ht hb ho)
theorem pti_get {tx : List Nat} {o : Int} (ht : tx.length = 32) : (pti tx o)[32]? = some (.int .i64 o) := by
  rw [pti, List.getElem?_toArray, List.getElem?_append_right (by rw [nums_length]; omega), nums_length, ht]; rfl
/-- a variable that holds a point -/
theorem pt_cells {w : World} {g : Nat} {t : TypeId} {tx : List Nat} {o : Int} (ht : tx.length = 32) (h : w.heap[g]? = some (.cells (pti tx o) t (0, 0))) :
    w.rangeAt g 0 (nums .u8 tx ++ [Value.int .i64 o]) ∧ w.rangeAt g 0 (nums .u8 tx) ∧ w.cell? ⟨g, 32, none⟩ = some (.int .i64 o) := by
  have h1 : w.rangeAt g 0 (nums .u8 tx ++ [Value.int .i64 o]) := fun j v hj => by
    rw [Nat.zero_add, cell_of_row _ g _ _ t (0, 0) h, pti, List.getElem?_toArray]; exact hj
  refine ⟨h1, fun j v hj => h1 j v ?_, ?_⟩
  · rw [List.getElem?_append_left (List.getElem?_eq_some_iff.1 hj).1]; exact hj
  · rw [cell_of_row _ g _ _ t (0, 0) h, pti_get ht]
theorem ptb_len {tx : List Nat} (k : Nat) (h : tx.length = 32) : (ptb tx k).length = 36 := by simp [ptb, h]
theorem ptb_lt {tx : List Nat} {k : Nat} (hb : ∀ d ∈ tx, d < 256) (hk : k < 256) : ∀ d ∈ ptb tx k, d < 256 := by
  intro d hd
  simp only [ptb, List.mem_append, List.mem_cons, List.not_mem_nil, or_false] at hd
  rcases hd with hd | hd | hd | hd | hd
  · exact hb d hd
  all_goals omega
theorem ptb_at {tx : List Nat} (k : Nat) (h : tx.length = 32) : (ptb tx k).getD 32 0 = 0 ∧ (ptb tx k).getD 33 0 = 0 ∧ (ptb tx k).getD 34 0 = 0 ∧ (ptb tx k).getD 35 0 = k ∧ (ptb tx k).take 32 = tx := by
  have g : ∀ i, (ptb tx k).getD (32 + i) 0 = [0, 0, 0, k].getD i 0 := fun i => by
    rw [ptb, List.getD_eq_getElem?_getD, List.getElem?_append_right (by omega), h, Nat.add_sub_cancel_left, List.getD_eq_getElem?_getD]
  refine ⟨g 0, g 1, g 2, g 3, ?_⟩
  rw [ptb, List.take_append_of_le_length (by omega), List.take_of_length_le (by omega)]
theorem getP_ptb {tx : List Nat} {k : Nat} (h : tx.length = 32) : getP (ptb tx k) = (tx, k, 0) := by
  obtain ⟨h1, h2, h3, h4, h5⟩ := ptb_at k h
  unfold getP
  rw [if_pos (ptb_len k h), if_pos ⟨h1, h2, h3⟩, h4, h5]
theorem getP_ok {bs : List Nat} (hbs : ∀ d ∈ bs, d < 256) : (getP bs).1.length = 32 ∧ (∀ d ∈ (getP bs).1, d < 256) ∧ (getP bs).2.1 < 256 := by
  have hz : ∀ d ∈ pzero, d < 256 := by intro d hd; simp [pzero] at hd; omega
  unfold getP
  split
  · rename_i hl
    split
    · exact ⟨by simp; omega, fun d hd => hbs d (List.mem_of_mem_take hd), getDltP hbs 35⟩
    · exact ⟨rfl, hz, by decide⟩
  · exact ⟨rfl, hz, by decide⟩
end Go.Proofs.YtgaidleepjkldaaDoor

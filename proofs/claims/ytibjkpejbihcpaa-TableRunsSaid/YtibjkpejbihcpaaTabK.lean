/- Quotes can be compared. -/
import Derived.Test.YtibjkpejbihcpaaTab
namespace Go.Proofs.Ytibjkpejbihcpaa
open Go.RowKit

theorem keyQuo : KeyT 43 3 := ⟨by kernel_rfl, by kernel_rfl, by kernel_rfl, by decide, by kernel_rfl⟩
theorem kv_quo {q : Quo} (h : q.ok) : KV 43 (.agg q.cells.toArray) := by
  refine KV.mk keyQuo.wide (by kernel_rfl) (by rw [Quo.len h]; kernel_rfl) (fun d => ?_)
  have l1 : (nums .u8 q.no).length = 32 := by rw [nums_length, h.nl]
  have l2 : (nums .u8 q.id).length = 32 := by rw [nums_length, h.il]
  have e30 : Try.prog.cellsOf 30 = 32 := by kernel_rfl
  have e4 : Try.prog.cellsOf 4 = 1 := by kernel_rfl
  have e22 : Try.prog.cellsOf 22 = 1 := by kernel_rfl
  have e3 : Try.prog.cellsOf 3 = 1 := by kernel_rfl
  have e24 : Try.prog.cellsOf 24 = 2 := by kernel_rfl
  have d0 : (q.cells.drop 0).take 32 = nums .u8 q.no := by
    unfold Quo.cells
    rw [List.drop_zero, List.append_assoc, List.take_left' l1]
  have d1 : (q.cells.drop 32).take 32 = nums .u8 q.id := by
    unfold Quo.cells
    rw [List.append_assoc, List.drop_left' l1, List.take_left' l2]
  have dt : ∀ k n, (q.cells.drop (64 + k)).take n = (q.tail.drop k).take n := by
    intro k n
    unfold Quo.cells
    rw [← List.drop_drop, List.drop_left' (by rw [List.length_append, l1, l2])]
  refine KL.struct Try.underlying43 (by rw [Quo.len h]; kernel_rfl) (by kernel_rfl) fun f hf => ?_
  simp only [List.mem_cons, List.not_mem_nil, or_false] at hf
  rcases hf with rfl | rfl | rfl | rfl | rfl | rfl | rfl | rfl
  · show KL (d + 7) 30 ((q.cells.drop 0).take (Try.prog.cellsOf 30))
    rw [e30, d0]
    exact KL.bytes (d := d + 5) Try.underlying30 e30 h.nl h.nb
  · show KL (d + 7) 30 ((q.cells.drop 32).take (Try.prog.cellsOf 30))
    rw [e30, d1]
    exact KL.bytes (d := d + 5) Try.underlying30 e30 h.il h.ib
  · show KL (d + 7) 4 ((q.cells.drop (64 + 0)).take (Try.prog.cellsOf 4))
    rw [e4, dt]
    exact KL.bool (d := d + 6) Try.underlying4
  · show KL (d + 7) 22 ((q.cells.drop (64 + 1)).take (Try.prog.cellsOf 22))
    rw [e22, dt]
    exact KL.int (d := d + 6) Try.underlying22 (u64_wf h.mb)
  · show KL (d + 7) 3 ((q.cells.drop (64 + 2)).take (Try.prog.cellsOf 3))
    rw [e3, dt]
    exact KL.int (d := d + 6) Try.underlying3 h.sw
  · show KL (d + 7) 24 ((q.cells.drop (64 + 3)).take (Try.prog.cellsOf 24))
    rw [e24, dt]
    refine KL.struct (d := d + 6) Try.underlying24 (by rw [e24]; rfl) (by kernel_rfl) fun f hf => ?_
    simp only [List.mem_cons, List.not_mem_nil, or_false] at hf
    rcases hf with rfl | rfl
    · show KL (d + 6) 22 ((([.int .u64 (q.rc : Int), .int .u64 (q.ru : Int)] : List Value).drop 0).take (Try.prog.cellsOf 22))
      rw [e22]
      exact KL.int (d := d + 5) Try.underlying22 (u64_wf h.cb)
    · show KL (d + 6) 22 ((([.int .u64 (q.rc : Int), .int .u64 (q.ru : Int)] : List Value).drop 1).take (Try.prog.cellsOf 22))
      rw [e22]
      exact KL.int (d := d + 5) Try.underlying22 (u64_wf h.ub)
  · show KL (d + 7) 3 ((q.cells.drop (64 + 5)).take (Try.prog.cellsOf 3))
    rw [e3, dt]
    exact KL.int (d := d + 6) Try.underlying3 h.tw
  · show KL (d + 7) 22 ((q.cells.drop (64 + 6)).take (Try.prog.cellsOf 22))
    rw [e22, dt]
    exact KL.int (d := d + 6) Try.underlying22 (u64_wf h.sb)
/-- a quote is itself -/
theorem quo_self {q : Quo} (h : q.ok) : ∀ w : World, (binOp .neq 43 (.agg q.cells.toArray) (.agg q.cells.toArray)).run Try.prog w = .ok (.bool false) w := fun w => by
  have := KeyT.neq keyQuo (kv_quo h) (kv_quo h) (p := True) (by simp) w
  simpa using this
theorem quo_guard (q : Quo) : ∀ (op : BinOp) (x y : Operand) (w : World), (eqGuard op 43 x y (.agg q.cells.toArray) (.agg q.cells.toArray)).run Try.prog w = .ok () w := KeyT.guarded keyQuo _ _
end Go.Proofs.Ytibjkpejbihcpaa

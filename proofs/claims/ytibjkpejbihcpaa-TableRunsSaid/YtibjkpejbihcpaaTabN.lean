/- Table's functions at nil. -/
import Derived.Test.YtibjkpejbihcpaaTabX
namespace Go.Proofs.Ytibjkpejbihcpaa
open Go.RowKit

set_option maxRecDepth 100000 in
set_option maxHeartbeats 2000000 in
theorem nil_ask (xs id : List Nat) (buy : Bool) (most : Nat) (w : World) : Calls Try.prog 10 #[.pointer none, .agg (nums .u8 xs).toArray, .agg (nums .u8 id).toArray, .bool buy, .int .u64 (most : Int)] w fun e w' => e = .returned (.int .i64 1) ∧ Below w.heap.size w w' := by
  have A2 := alloc2p w (.cells (nums .u8 xs).toArray 30) (.cells (nums .u8 id).toArray 30)
  have B := hid A2.2.2.2
  clear A2
  go_enter Try.func10, Try.ntmps10
  go_wp2
  go_ret
  exact ⟨rfl, B.out⟩
set_option maxRecDepth 100000 in
set_option maxHeartbeats 2000000 in
theorem nil_acc (xs : List Nat) (rc ru : Nat) (h : Int) (w : World) : Calls Try.prog 11 #[.pointer none, .agg (nums .u8 xs).toArray, rateV rc ru, .int .i64 h] w fun e w' => e = .returned (.int .i64 1) ∧ Below w.heap.size w w' := by
  have A2 := alloc2p w (.cells (nums .u8 xs).toArray 30) (.cells #[.int .u64 (rc : Int), .int .u64 (ru : Int)] 24)
  have B := hid A2.2.2.2
  clear A2
  go_enter Try.func11, Try.ntmps11
  go_wp2
  go_ret
  exact ⟨rfl, B.out⟩
set_option maxRecDepth 100000 in
set_option maxHeartbeats 2000000 in
theorem nil_rej (xs : List Nat) (w : World) : Calls Try.prog 21 #[.pointer none, .agg (nums .u8 xs).toArray] w fun e w' => e = .returned (.int .i64 1) ∧ Below w.heap.size w w' := by
  have A2 := (Below.refl w.heap.size w).alloc (Nat.le_refl _) (.cells (nums .u8 xs).toArray 30)
  have B := hid A2
  clear A2
  go_enter Try.func21, Try.ntmps21
  go_wp2
  go_ret
  exact ⟨rfl, B.out⟩
set_option maxRecDepth 100000 in
set_option maxHeartbeats 2000000 in
theorem nil_undo (xs : List Nat) (a : Nat) (w : World) : Calls Try.prog 20 #[.pointer none, .agg (nums .u8 xs).toArray, .int .u64 (a : Int)] w fun e w' => e = .returned (.int .i64 1) ∧ Below w.heap.size w w' := by
  have A2 := (Below.refl w.heap.size w).alloc (Nat.le_refl _) (.cells (nums .u8 xs).toArray 30)
  have B := hid A2
  clear A2
  go_enter Try.func20, Try.ntmps20
  go_wp2
  go_ret
  exact ⟨rfl, B.out⟩
set_option maxRecDepth 100000 in
set_option maxHeartbeats 2000000 in
theorem nil_use (xs : List Nat) (h : Int) (a : Nat) (buy : Bool) (fn : Value) (w : World) : Calls Try.prog 29 #[.pointer none, .agg (nums .u8 xs).toArray, .int .i64 h, .int .u64 (a : Int), .bool buy, fn] w fun e w' => e = .returned (.int .i64 1) ∧ Below w.heap.size w w' := by
  have B := hid ((Below.refl w.heap.size w).alloc (Nat.le_refl _) (.cells (nums .u8 xs).toArray 30))
  go_enter Try.func29, Try.ntmps29
  go_wp2
  go_ret
  exact ⟨rfl, B.out⟩
set_option maxRecDepth 100000 in
set_option maxHeartbeats 2000000 in
theorem nil_sell (no : List Nat) (hno : no.length = 32) (h : Int) (u c : Nat) (w : World) : Calls Try.prog 13 #[.pointer none, .agg (nums .u8 no).toArray, .int .i64 h, .int .u64 (u : Int), .int .u64 (c : Int)] w fun e w' => e = .returned (.int .i64 1) ∧ Below w.heap.size w w' := by
  have hmf : ∀ (fn : Fn) (first cap : Array Value) (w : World), (Instr.makeFunc fn first cap).run Try.prog w = .ok (.func fn first cap) w := fun _ _ _ _ => rfl
  have A3 := alloc3t w (.cells (nums .u8 no).toArray 30) (.cells #[.int .u64 (u : Int)] 22) (.cells #[.int .u64 (c : Int)] 22)
  have f2 := row_range A3.1
  have B1 := hid A3.2.2.2
  have d1 := gen_cell (j := 0) (row_range (L := [.int .u64 (u : Int)]) A3.2.1) rfl
  have d2 := gen_cell (j := 0) (row_range (L := [.int .u64 (c : Int)]) A3.2.2.1) rfl
  have D1 := hid d1
  have D2 := hid d2
  have hiH : (Try.prog.info? 30).map (·.size) = some (nums .u8 no).length := by rw [nums_length, hno]; exact infoH
  have UW := fun fn wx => hid (nil_use no h u false fn wx)
  clear A3 d1 d2
  go_enter Try.func13, Try.ntmps13
  go_upto_region 1 with (fail)
  generalize ((w.alloc (.cells (nums .u8 no).toArray 30)).alloc (.cells #[.int .u64 (u : Int)] 22)).alloc (.cells #[.int .u64 (c : Int)] 22) = w1 at *
  have d1 : w1.cell? ⟨w.heap.size + 1, 0, none⟩ = some (.int .u64 (u : Int)) := D1.out
  have d2 : w1.cell? ⟨w.heap.size + 1 + 1, 0, none⟩ = some (.int .u64 (c : Int)) := D2.out
  go_wp2_with (refine wpList_load_mid rfl _ _ rfl w.heap.size 0 rfl (nums .u8 no) _ f2 Try.underlying30 rfl hiH ?_)
  refine (UW _ w1).out.mono ?_
  rintro e w2 ⟨rfl, b2⟩
  have F := hid (bstep B1.out b2)
  clear b2 f2 d1 d2 UW
  go_wp2
  go_ret
  exact ⟨rfl, F.out⟩
set_option maxRecDepth 100000 in
set_option maxHeartbeats 2000000 in
theorem nil_buy (no : List Nat) (hno : no.length = 32) (h : Int) (u c : Nat) (w : World) : Calls Try.prog 23 #[.pointer none, .agg (nums .u8 no).toArray, .int .i64 h, .int .u64 (u : Int), .int .u64 (c : Int)] w fun e w' => e = .returned (.int .i64 1) ∧ Below w.heap.size w w' := by
  have hmf : ∀ (fn : Fn) (first cap : Array Value) (w : World), (Instr.makeFunc fn first cap).run Try.prog w = .ok (.func fn first cap) w := fun _ _ _ _ => rfl
  have A3 := alloc3t w (.cells (nums .u8 no).toArray 30) (.cells #[.int .u64 (u : Int)] 22) (.cells #[.int .u64 (c : Int)] 22)
  have f2 := row_range A3.1
  have B1 := hid A3.2.2.2
  have d1 := gen_cell (j := 0) (row_range (L := [.int .u64 (u : Int)]) A3.2.1) rfl
  have d2 := gen_cell (j := 0) (row_range (L := [.int .u64 (c : Int)]) A3.2.2.1) rfl
  have D1 := hid d1
  have D2 := hid d2
  have hiH : (Try.prog.info? 30).map (·.size) = some (nums .u8 no).length := by rw [nums_length, hno]; exact infoH
  have UW := fun fn wx => hid (nil_use no h u true fn wx)
  clear A3 d1 d2
  go_enter Try.func23, Try.ntmps23
  go_upto_region 1 with (fail)
  generalize ((w.alloc (.cells (nums .u8 no).toArray 30)).alloc (.cells #[.int .u64 (u : Int)] 22)).alloc (.cells #[.int .u64 (c : Int)] 22) = w1 at *
  have d1 : w1.cell? ⟨w.heap.size + 1, 0, none⟩ = some (.int .u64 (u : Int)) := D1.out
  have d2 : w1.cell? ⟨w.heap.size + 1 + 1, 0, none⟩ = some (.int .u64 (c : Int)) := D2.out
  go_wp2_with (refine wpList_load_mid rfl _ _ rfl w.heap.size 0 rfl (nums .u8 no) _ f2 Try.underlying30 rfl hiH ?_)
  refine (UW _ w1).out.mono ?_
  rintro e w2 ⟨rfl, b2⟩
  have F := hid (bstep B1.out b2)
  clear b2 f2 d1 d2 UW
  go_wp2
  go_ret
  exact ⟨rfl, F.out⟩
set_option maxRecDepth 100000 in
set_option maxHeartbeats 2000000 in
theorem nil_get (xs : List Nat) (w : World) : Calls Try.prog 16 #[.pointer none, .agg (nums .u8 xs).toArray] w fun e w' => e = .returned (.tuple #[.agg zQ, .bool false]) ∧ Below w.heap.size w w' := by
  have ZQ := zeroQ
  have hne := zQ_ne
  have hz71 := hid (show (Try.prog.info? 43).map (·.size) = some zQ.size by rw [zQ_size]; exact infoQ)
  have hzo := hid (all_oneCell_toArray (Quo.one qz))
  have A2 := alloc2p w (.cells (nums .u8 xs).toArray 30) (.cells zQ 43)
  have hR := hid A2.2.1
  have B1 := hid A2.2.2.2
  clear A2
  go_enter Try.func16, Try.ntmps16
  go_upto_region 2 with (fail)
  show Code.wp _ _ _ _ ((w.alloc (.cells (nums .u8 xs).toArray 30)).alloc (.cells zQ 43))
  generalize (w.alloc (.cells (nums .u8 xs).toArray 30)).alloc (.cells zQ 43) = w1 at *
  obtain ⟨R, hR1⟩ : ∃ R, R = w.heap.size + 1 := ⟨_, rfl⟩
  rw [← hR1] at hR ⊢
  have HR := hid (show w.heap.size ≤ R by omega)
  clear hR1
  go_wp2_with (refine wpList_store_row rfl _ _ _ rfl R zQ rfl rfl _ _ hR.out hz71.out rfl hzo.out ?_)
  have q1 := hid (setRow_heap w1 R _ zQ _ _ hR.out)
  refine bodyPost_ret (results_cell_tmp rfl _ _ R _ zQ _ _ _ rfl rfl q1.out Try.underlying43 rfl hz71.out) rfl ?_
  exact ⟨rfl, below_setRow B1.out HR.out _⟩
theorem nil_drop (h : Int) (w : World) : Calls Try.prog 24 #[.pointer none, .int .i64 h] w fun e w' => e = .returned (.int .i64 0) ∧ w' = w := by
  go_enter Try.func24, Try.ntmps24
  go_wp2
  go_ret
  exact ⟨rfl, rfl⟩
theorem nil_all (w : World) : Calls Try.prog 25 #[.pointer none] w fun e w' => e = .returned (.slice none 0 0) ∧ w' = w := by
  go_enter Try.func25, Try.ntmps25
  go_wp2
  go_ret
  exact ⟨rfl, rfl⟩
end Go.Proofs.Ytibjkpejbihcpaa

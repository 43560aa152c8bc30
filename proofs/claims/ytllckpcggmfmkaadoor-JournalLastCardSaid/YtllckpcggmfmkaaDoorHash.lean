/- Arrays of bytes as values; whether two are the same. -/
import Derived.Test.YtllckpcggmfmkaaDoorByt
import Derived.Stop.BytesEq
import Derived.Laws.Tables
namespace Go.Proofs.YtllckpcggmfmkaaDoor
open Go.RowKit
open Extern.Stop (cell)

/-- an array of bytes -/
def hv (xs : List Nat) : Value := .agg (nums .u8 xs).toArray
theorem nums_cell {xs : List Nat} (h : ∀ d ∈ xs, d < 256) : nums .u8 xs = (xs.map (fun d => UInt8.ofNat d)).map cell := by
  rw [nums, List.map_map]
  apply List.map_congr_left
  intro d hd
  have := h d hd
  simp only [Function.comp_apply, cell]
  congr 1
  simp
  omega
theorem szU8' (w : World) : (sizeOf 5).run Tryd.prog w = .ok 1 w := by
  have h := infoU8
  cases hi : Tryd.prog.info? 5 with
  | none => rw [hi] at h; cases h
  | some i =>
    rw [hi] at h
    simp only [Option.map_some, Option.some.injEq, Prod.mk.injEq] at h
    simp [sizeOf, typeInfo, hi, h.2.1]
theorem u8s_eq {xs ys : List Nat} (hx : ∀ d ∈ xs, d < 256) (hy : ∀ d ∈ ys, d < 256) : ((xs.map (fun d => UInt8.ofNat d)) == (ys.map (fun d => UInt8.ofNat d))) = decide (xs = ys) := by
  rw [Bool.eq_iff_iff, beq_iff_eq, decide_eq_true_eq]
  exact ⟨map_u8_inj hx hy, fun h => by rw [h]⟩
theorem run_eqIn_hv {t : TypeId} {n : Nat} (ht : Tryd.prog.underlying t = some (.array n 5)) (w : World) (d : Nat) {xs ys : List Nat} (lx : xs.length = n) (ly : ys.length = n) (hx : ∀ d ∈ xs, d < 256) (hy : ∀ d ∈ ys, d < 256) :
    (Op.equalIn (d + 2) t (hv xs) (hv ys)).run Tryd.prog w = .ok (decide (xs = ys)) w := by
  unfold hv
  rw [nums_cell hx, nums_cell hy, run_equalIn_bytes w d t 5 n ht Tryd.underlying5 szU8' _ _ (by simpa using lx) (by simpa using ly), u8s_eq hx hy]
theorem run_eql_hv {t : TypeId} {n : Nat} (ht : Tryd.prog.underlying t = some (.array n 5)) (w : World) {xs ys : List Nat} (lx : xs.length = n) (ly : ys.length = n) (hx : ∀ d ∈ xs, d < 256) (hy : ∀ d ∈ ys, d < 256) :
    (binOp .eql t (hv xs) (hv ys)).run Tryd.prog w = .ok (.bool (decide (xs = ys))) w := by
  unfold hv
  rw [run_eql_struct]
  have := run_eqIn_hv ht w 9998 lx ly hx hy
  unfold hv at this
  rw [this]
  rfl
theorem run_neq_hv {t : TypeId} {n : Nat} (ht : Tryd.prog.underlying t = some (.array n 5)) (w : World) {xs ys : List Nat} (lx : xs.length = n) (ly : ys.length = n) (hx : ∀ d ∈ xs, d < 256) (hy : ∀ d ∈ ys, d < 256) :
    (binOp .neq t (hv xs) (hv ys)).run Tryd.prog w = .ok (.bool (!decide (xs = ys))) w := by
  unfold hv
  rw [run_neq_struct]
  have := run_eqIn_hv ht w 9998 lx ly hx hy
  unfold hv at this
  rw [this]
  rfl
theorem guardH : Tryd.prog.eqGuardType Tryd.prog.depth 62 = false := by kernel_rfl
theorem infoH : (Tryd.prog.info? 62).map (·.size) = some 32 := by kernel_rfl
/-- '==' on digests: the two rules for the walk -/
theorem guard_hv (xs ys : List Nat) : ∀ (op : BinOp) (x y : Operand) (w : World), (eqGuard op 62 x y (hv xs) (hv ys)).run Tryd.prog w = .ok () w := by
  intro op x y w
  exact run_eqGuard_agg w op 62 x y _ _ guardH
theorem eql_hv {xs ys : List Nat} (lx : xs.length = 32) (ly : ys.length = 32) (hx : ∀ d ∈ xs, d < 256) (hy : ∀ d ∈ ys, d < 256) : ∀ w : World, (binOp .eql 62 (hv xs) (hv ys)).run Tryd.prog w = .ok (.bool (decide (xs = ys))) w :=
  fun w => run_eql_hv Tryd.underlying62 w lx ly hx hy
theorem neq_hv {xs ys : List Nat} (lx : xs.length = 32) (ly : ys.length = 32) (hx : ∀ d ∈ xs, d < 256) (hy : ∀ d ∈ ys, d < 256) : ∀ w : World, (binOp .neq 62 (hv xs) (hv ys)).run Tryd.prog w = .ok (.bool (!decide (xs = ys))) w :=
  fun w => run_neq_hv Tryd.underlying62 w lx ly hx hy
/-- a digest stored into a variable of its own -/
theorem wpList_storeH {w : World} {ops : Array Oper} {rest : List Oper} {o : Oper} {a : Act} {Q : Exit → Act → World → Prop} (hgd : o.guard = none) (x y : Operand) (ho : o.op = .store 62 x y)
    (g : Nat) (hx : a.eval x = .pointer (some ⟨g, 0, none⟩)) {zs : List Nat} (hy : a.eval y = hv zs) (hl : zs.length = 32) {old : Array Value} {t : TypeId} (hg : w.heap[g]? = some (.cells old t (0, 0))) (hold : old.size = 32)
    (h : ∀ w', w'.heap[g]? = some (.cells (nums .u8 zs).toArray t (0, 0)) → Far g w w' → wpList Tryd.prog ops Q rest (a.put o.dst undef) w') : wpList Tryd.prog ops Q (o :: rest) a w := by
  have hsz : (nums .u8 zs).toArray.size = 32 := by rw [List.size_toArray, nums_length, hl]
  refine wpList_store_row hgd _ x y ho g (nums .u8 zs).toArray hx hy t old hg (by rw [hsz]; exact infoH) (by rw [hsz]; exact hold) (by simp [nums, Value.oneCell']) ?_
  exact h _ (setRow_heap w g _ _ t _ hg) ⟨rfl, rfl, rfl, by simp [World.setRow], fun k _ hk => setRow_other w g k _ (by simpa using hk)⟩
end Go.Proofs.YtllckpcggmfmkaaDoor

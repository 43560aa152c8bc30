/- Slices cut on both sides: for the walk of the reference's Decode. -/
import Derived.Test.YtgaidleepjkldaaDoorDc
import Derived.Test.YtgaidleepjkldaaDoorTl
namespace Go.Proofs.YtgaidleepjkldaaDoor
open Go.RowKit

/-- 'x[m:h]' -/
theorem wpList_cutS {w w0 : World} {ops : Array Oper} {rest : List Oper} {o : Oper} {a : Act} {Q : Exit → Act → World → Prop} (hg : o.guard = none) (x lo hi : Operand) (hop : o.op = Op.slice 26 x (some lo) (some hi) none)
    {b off n c m h : Nat} {xs : List Nat} (hS : Sl .u8 w0 (some ⟨b, off, none⟩) n c xs) (hx : a.eval x = .slice (some ⟨b, off, none⟩) n c) (hlo : a.eval lo = .int .i64 (m : Int)) (hhi : a.eval hi = .int .i64 (h : Int)) (hm : m ≤ h) (hh : h ≤ n)
    (hK' : ∀ b' off', Sl .u8 w0 (some ⟨b', off', none⟩) (h - m) (c - m) ((xs.drop m).take (h - m)) → wpList Tryd.prog ops Q rest (a.put o.dst (.slice (some ⟨b', off', none⟩) (h - m) (c - m))) w) : wpList Tryd.prog ops Q (o :: rest) a w := by
  have hc : n ≤ c := hS.2.1
  refine wpList_plain hg fun K hK => ?_
  have hadd : (⟨b, off, none⟩ : Addr).add m = ⟨b, off + m, none⟩ := by unfold Addr.add; split <;> simp_all
  have hs : (Instr.sliceAt 26 (.slice (some ⟨b, off, none⟩) n c) (some (.int .i64 (m : Int))) (some (.int .i64 (h : Int))) none).run Tryd.prog w = .ok (.slice (if c = m then some (⟨b, off, none⟩ : Addr) else some ⟨b, off + m, none⟩) (h - m) (c - m)) w := by
    rw [run_sliceAt_slice w _ _ _ _ _ undU8, run_slice_lh w _ _ _ _ undU8 _ _ _ _ (by omega) (by omega) (by omega)]
    simp [szU8, Result.andThen, sliced, hadd]
  have hd := (Sl.drop hS (show m ≤ n by omega)).take (m := h - m) (by omega)
  have fin : wpList Tryd.prog ops Q rest (a.put o.dst (.slice (if c = m then some (⟨b, off, none⟩ : Addr) else some ⟨b, off + m, none⟩) (h - m) (c - m))) w := by
    split at hd
    · rename_i hc; rw [if_pos hc]; exact hK' _ _ hd
    · rename_i hc; rw [if_neg hc]; exact hK' _ _ hd
  unfold Oper.wp execOp
  simp only [hop, hx, hlo, hhi, Option.map_some, Option.map_none, hs, Sem.run_bind, Result.andThen]
  exact hK _ _ fin
end Go.Proofs.YtgaidleepjkldaaDoor

/- The walk of the reference's Decode. -/
namespace Go.Proofs.YtgaidleepjkldaaDoor
open Go.RowKit

theorem RG.below {w w' : World} {B : Nat} {v : Value} {l : LR} (h : RG w B v l) (hb : Below w.heap.size w w') : RG w' B v l := ⟨h.1, h.2.1.below hb, h.2.2.1, own_below h.2.2.2 hb⟩
def RRel (w0 : World) (n : Nat) (bs0 : List Nat) (e : TypeId) (x4 x5 : Value) (wr : World) : Prop :=
  ∃ (k : Nat) (v : Value) (ls : List LR), v = x4 ∧ x5 = .int .i64 k ∧ k ≤ n ∧ wr.ownsRow w0.heap.size e 2 v ls.length (ls.flatMap LR.cells) ∧ (∀ l ∈ ls, RG wr w0.heap.size v l) ∧ Below w0.heap.size w0 wr ∧ ls.length ≤ 256 ∧
    Hid (decS bs0 = comb ls (decGo ((bs0.drop k).length + 1) (lastT ls) ls.length (bs0.drop k)))
end Go.Proofs.YtgaidleepjkldaaDoor

/- Slices cut on both sides: for the walk of the reference's Decode. -/
import Derived.Test.YtnophelfpoldfaaGreatDoorGDec
namespace Go.Proofs.YtnophelfpoldfaaGreatDoor
open Go.RowKit

/-- 'x[m:h]' -/
theorem wpList_cutS {w w0 : World} {ops : Array Oper} {rest : List Oper} {o : Oper} {a : Act} {Q : Exit → Act → World → Prop} (hg : o.guard = none) (x lo hi : Operand) (hop : o.op = Op.slice 22 x (some lo) (some hi) none)
    {b off n c m h : Nat} {xs : List Nat} (hS : Sl .u8 w0 (some ⟨b, off, none⟩) n c xs) (hx : a.eval x = .slice (some ⟨b, off, none⟩) n c) (hlo : a.eval lo = .int .i64 (m : Int)) (hhi : a.eval hi = .int .i64 (h : Int)) (hm : m ≤ h) (hh : h ≤ n)
    (hK' : ∀ b' off', Sl .u8 w0 (some ⟨b', off', none⟩) (h - m) (c - m) ((xs.drop m).take (h - m)) → wpList Tryz.prog ops Q rest (a.put o.dst (.slice (some ⟨b', off', none⟩) (h - m) (c - m))) w) : wpList Tryz.prog ops Q (o :: rest) a w := by
  have hc : n ≤ c := hS.2.1
  refine wpList_plain hg fun K hK => ?_
  have hadd : (⟨b, off, none⟩ : Addr).add m = ⟨b, off + m, none⟩ := by unfold Addr.add; split <;> simp_all
  have hs : (Instr.sliceAt 22 (.slice (some ⟨b, off, none⟩) n c) (some (.int .i64 (m : Int))) (some (.int .i64 (h : Int))) none).run Tryz.prog w = .ok (.slice (if c = m then some (⟨b, off, none⟩ : Addr) else some ⟨b, off + m, none⟩) (h - m) (c - m)) w := by
    rw [run_sliceAt_slice w _ _ _ _ _ undU8, run_slice_lh w _ _ _ _ undU8 _ _ _ _ (by omega) (by omega) (by omega)]
    simp [szU8, Result.andThen, sliced, hadd]
  have hd := (Sl.drop hS (show m ≤ n by omega)).take (m := h - m) (by omega)
  have fin : wpList Tryz.prog ops Q rest (a.put o.dst (.slice (if c = m then some (⟨b, off, none⟩ : Addr) else some ⟨b, off + m, none⟩) (h - m) (c - m))) w := by
    split at hd
    · rename_i hc; rw [if_pos hc]; exact hK' _ _ hd
    · rename_i hc; rw [if_neg hc]; exact hK' _ _ hd
  unfold Oper.wp execOp
  simp only [hop, hx, hlo, hhi, Option.map_some, Option.map_none, hs, Sem.run_bind, Result.andThen]
  exact hK _ _ fin
end Go.Proofs.YtnophelfpoldfaaGreatDoor

/- What a struct of two numbers reads as. -/
import Derived.Test.YtibjkpejbihcpaaOpen
import Derived.Lib.SmallJoins
namespace Go.Proofs.Ytibjkpejbihcpaa
open Go.Joins Go.ChangeShapes Go.WideShapes Go.ChangeAt Go.RowKit Go.Deep

theorem open_u64x2 {P : Program} {H : Type} {enc : TypeId × Value → H} {W : World} {r : Reach} {b0 : Nat} {t e : TypeId} {f0 f1 : Field} {v : Value} {d : DataW H} {p : List MemPlace}
    (hs : P.underlying t = some (.struct #[f0, f1])) (he : P.underlying e = some (.int .u64)) (h0 : f0.type = e) (h1 : f1.type = e) (hone : oneCellFields P #[f0, f1] = true) (hC : P.cellsOf t = 2)
    (hv : Value.okWide P W r b0 t v) (h : DataW.Trod enc P W 0 (fun _ => true) true t v d p) :
    ∃ a b : Nat, v = .agg #[.int .u64 (a : Int), .int .u64 (b : Int)] ∧ a < 18446744073709551616 ∧ b < 18446744073709551616 := by
  obtain ⟨v0, v1, y0, y1, n, rfl, _, _, t0, t1⟩ := open_agg2 hs hone hC hv h
  obtain ⟨a, ha, _, wa⟩ := DataW.trod_int (by rw [h0]; exact he) t0
  obtain ⟨b, hb, _, wb⟩ := DataW.trod_int (by rw [h1]; exact he) t1
  simp only [List.cons.injEq, and_true] at ha hb
  subst ha hb
  obtain ⟨a', rfl, ha⟩ := u64_nat wa
  obtain ⟨b', rfl, hb⟩ := u64_nat wb
  exact ⟨a', b', rfl, ha, hb⟩
end Go.Proofs.Ytibjkpejbihcpaa

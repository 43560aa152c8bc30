/- Slices of records as values. -/
import Derived.Test.YtgaidleepjkldaaRec
namespace Go.Proofs.Ytgaidleepjkldaa
open Go.RowKit

theorem infoRec : (Try.prog.info? 61).map (fun i => (i.zero, i.size, i.bytes)) = some (some (.agg #[.int .u64 0, .slice none 0 0]), 2, 32) := by kernel_rfl
theorem infoRec2 : (Try.prog.info? 65).map (fun i => (i.zero, i.size, i.bytes)) = some (some (.agg #[.int .u64 0, .slice none 0 0]), 2, 32) := by kernel_rfl
theorem tyRec : SliceTy Try.prog 57 61 2 32 (.agg #[.int .u64 0, .slice none 0 0]) := .mk' Try.underlying57 infoRec rfl (by decide)
theorem tyRec2 : SliceTy Try.prog 62 65 2 32 (.agg #[.int .u64 0, .slice none 0 0]) := .mk' Try.underlying62 infoRec2 rfl (by decide)
/-- a new slice of records: these -/
def RecsV (w : World) (v : Value) (ls : List LR) : Prop := ∃ a c, v = .slice a ls.length c ∧ Recs w a ls.length c ls
theorem recs_lit' {w : World} {us : Array Value} {e : TypeId} {n : Nat} (ls : List LR) (hn : ls.length = n) (hu : us.toList = ls.flatMap LR.cells) (hz : us.size = n * 2) (hm : n ≤ maxLen) (hg : ∀ l ∈ ls, l.good w) :
    Recs (w.alloc (.cells us e)) (some ⟨w.heap.size, 0, none⟩) n n ls := by
  obtain ⟨a', cap', he, hr⟩ := Rd.of_owns (own_new w us e (B := w.heap.size) hz (Nat.le_refl _) hm)
  simp only [Value.slice.injEq, true_and] at he
  obtain ⟨rfl, rfl⟩ := he
  rw [hu] at hr
  exact ⟨hr, hn, fun l hl => (hg l hl).below ((Below.refl _ _).alloc (Nat.le_refl _) _)⟩
end Go.Proofs.Ytgaidleepjkldaa

/- Contract of sums.Part. -/
import Derived.Test.YthccjefhlmngbaaDoorSums
import Derived.Test.YthccjefhlmngbaaDoorDiv
namespace Go.Proofs.YthccjefhlmngbaaDoor
open Go.RowKit

/-- n of d parts of a, down or up -/
def partN (a n d : Nat) (up : Bool) : Nat := a * n / d + (if up = true ∧ 0 < a * n % d then 1 else 0)
def partV (a n d : Nat) (up : Bool) : Value := if d = 0 then U64E 0 12 else if partN a n d up < 18446744073709551616 then U64E (partN a n d up) 0 else U64E 0 10
theorem partV_zero (a n : Nat) (up : Bool) : partV a n 0 up = .tuple #[.int .u64 0, .int .i64 12] := rfl
theorem partV_yes {a n d : Nat} {up : Bool} (hd : ¬ d = 0) (h : partN a n d up < 18446744073709551616) : partV a n d up = .tuple #[.int .u64 ((partN a n d up : Nat) : Int), .int .i64 0] := by unfold partV; rw [if_neg hd, if_pos h]; rfl
theorem partV_no {a n d : Nat} {up : Bool} (hd : ¬ d = 0) (h : ¬ partN a n d up < 18446744073709551616) : partV a n d up = .tuple #[.int .u64 0, .int .i64 10] := by unfold partV; rw [if_neg hd, if_neg h]; rfl
theorem part_facts {a n d : Nat} (hd : 0 < d) : 18446744073709551616 * (a * n / 18446744073709551616) + a * n % 18446744073709551616 = a * n ∧
    (d ≤ a * n / 18446744073709551616 → 18446744073709551616 ≤ a * n / d) ∧ (a * n / 18446744073709551616 < d → a * n / d < 18446744073709551616) := by
  refine ⟨Nat.div_add_mod _ _, fun h => ?_, fun h => ?_⟩
  · rw [Nat.le_div_iff_mul_le hd]
    have := Nat.mul_le_mul_left 18446744073709551616 h
    have e := Nat.div_add_mod (a * n) 18446744073709551616
    omega
  · rw [Nat.div_lt_iff_lt_mul hd]
    have := Nat.mul_le_mul_left 18446744073709551616 (Nat.succ_le_of_lt h)
    have e := Nat.mod_lt (a * n) (show 0 < 18446744073709551616 by decide)
    have e2 := Nat.div_add_mod (a * n) 18446744073709551616
    rw [Nat.mul_succ] at this
    omega
def PartRes (w : World) (a n d : Nat) (up : Bool) (e : Ending) (w' : World) : Prop := e = .returned (partV a n d up) ∧ Qt w w'

end Go.Proofs.YthccjefhlmngbaaDoor

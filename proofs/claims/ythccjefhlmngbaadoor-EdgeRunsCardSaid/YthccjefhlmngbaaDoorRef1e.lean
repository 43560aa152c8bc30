/- The reference's numbers as digits: Num, Sub. -/
import Derived.Test.YthccjefhlmngbaaDoorRf1
namespace Go.Proofs.YthccjefhlmngbaaDoor
open Go.RowKit

/-- the answer of Num -/
def NumRes (w : World) (x : Nat) (e : Ending) (w' : World) : Prop :=
  e = .returned (.tuple #[.int .u64 ((if x < 18446744073709551616 then x else 0 : Nat) : Int), .bool (decide (x < 18446744073709551616))]) ∧ w = w'
theorem num_big {w : World} {x : Nat} {xs : List Nat} (hx : Dig xs x) (h : 8 < xs.length) : NumRes w x (.returned (.tuple #[.int .u64 0, .bool false])) w := by
  have h1 := hx.ge (by omega)
  have h2 : 256 ^ 8 ≤ 256 ^ (xs.length - 1) := pow256_le (by omega)
  have h3 : ¬ x < 18446744073709551616 := by omega
  exact ⟨by simp [h3], rfl⟩
theorem num_small {w : World} {x : Nat} {xs : List Nat} (hx : Dig xs x) (h : xs.length ≤ 8) {z : Int} (hz : z = (val xs : Int)) : NumRes w x (.returned (.tuple #[.int .u64 z, .bool true])) w := by
  have h1 := hx.lt
  have h2 : 256 ^ xs.length ≤ 256 ^ 8 := pow256_le h
  have h3 : x < 18446744073709551616 := by omega
  rw [hx.1] at hz
  subst hz
  exact ⟨by simp [h3], rfl⟩
theorem num_step {xs : List Nat} {n j : Nat} (h : Dg xs) (hl : xs.length = n) (hn : n ≤ 8) (hj : j < n) :
    val (xs.drop j) = xs.getD j 0 + 256 * val (xs.drop (j + 1)) ∧ 256 * val (xs.drop (j + 1)) < 18446744073709551616 ∧ xs.getD j 0 + 256 * val (xs.drop (j + 1)) < 18446744073709551616 := by
  have e : val (xs.drop j) = xs.getD j 0 + 256 * val (xs.drop (j + 1)) := by rw [drop_eq_cons (by omega)]; rfl
  have h1 := val_drop_lt h j
  have h2 : 256 ^ (xs.length - j) ≤ 256 ^ 8 := pow256_le (by omega)
  omega

theorem cmp_le (x y : Nat) : decide (cmpI x y ≤ 0) = decide (x ≤ y) := by
  unfold cmpI
  rw [decide_eq_decide]
  split
  · constructor <;> intro <;> omega
  · split <;> constructor <;> intro <;> omega
theorem Dig.len8 {xs : List Nat} {x : Nat} (h : Dig xs x) (hx : x < 18446744073709551616) : xs.length ≤ 8 := h.len_le (by omega)
theorem Dig.len16 {xs : List Nat} {x : Nat} (h : Dig xs x) (hx : x < 18446744073709551616 * 18446744073709551616) : xs.length ≤ 16 := h.len_le (by omega)
theorem mul_lt128 {x y : Nat} (hx : x < 18446744073709551616) (hy : y < 18446744073709551616) : x * y < 18446744073709551616 * 18446744073709551616 := Nat.mul_lt_mul_of_lt_of_lt hx hy

end Go.Proofs.YthccjefhlmngbaaDoor

/- Contracts of package sums: Covers, Mul. -/
import Derived.Test.YtfiaallnnpcbmaaBits
import Derived.Test.YtfiaallnnpcbmaaMem
namespace Go.Proofs.Ytfiaallnnpcbmaa
open Go.RowKit

theorem covers_dec (x y : Nat) : decide (y ≤ x) = (decide (y / 18446744073709551616 < x / 18446744073709551616) || (y / 18446744073709551616 == x / 18446744073709551616 && decide (y % 18446744073709551616 ≤ x % 18446744073709551616))) := by
  rw [Bool.eq_iff_iff]
  simp only [decide_eq_true_eq, Bool.or_eq_true, Bool.and_eq_true, beq_iff_eq]
  omega
theorem mul_lt64 {x y : Nat} (hx : x < 18446744073709551616) (hy : y < 18446744073709551616) : x * y / 18446744073709551616 < 18446744073709551616 := by
  rw [Nat.div_lt_iff_lt_mul (by omega)]
  exact Nat.mul_lt_mul_of_lt_of_lt hx hy

set_option maxHeartbeats 400000 in
theorem covers_walk (a n b d : Nat) (ha : a < 18446744073709551616) (hn : n < 18446744073709551616) (hb : b < 18446744073709551616) (hd : d < 18446744073709551616) (w : World) :
    Calls Try.prog 13 #[.int .u64 a, .int .u64 n, .int .u64 b, .int .u64 d] w fun e w' => e = .returned (.bool (decide (b * d ≤ a * n))) ∧ w = w' := by
  have fin := covers_dec (a * n) (b * d)
  have c1 := hid (mul64 a n ha hn)
  have c2 := hid (mul64 b d hb hd)
  generalize a * n / 18446744073709551616 = ah at *
  generalize a * n % 18446744073709551616 = al at *
  generalize b * d / 18446744073709551616 = bh at *
  generalize b * d % 18446744073709551616 = bl at *
  rw [fin]
  clear fin
  by_cases h1 : bh < ah
  · go_enter Try.func13, Try.ntmps13
    go_wp2_with fail
    refine (c1.out w).mono ?_
    rintro e w' ⟨rfl, rfl⟩
    go_wp2_with fail
    refine (c2.out w).mono ?_
    rintro e w' ⟨rfl, rfl⟩
    go_wp2
    go_ret
    exact ⟨by simp [h1], rfl⟩
  · by_cases h2 : bh = ah
    · subst h2
      go_enter Try.func13, Try.ntmps13
      go_wp2_with fail
      refine (c1.out w).mono ?_
      rintro e w' ⟨rfl, rfl⟩
      go_wp2_with fail
      refine (c2.out w).mono ?_
      rintro e w' ⟨rfl, rfl⟩
      go_wp2
      go_ret
      exact ⟨by simp, rfl⟩
    · have h3 : ((bh : Int) == (ah : Int)) = false := by simp; omega
      go_enter Try.func13, Try.ntmps13
      go_wp2_with fail
      refine (c1.out w).mono ?_
      rintro e w' ⟨rfl, rfl⟩
      go_wp2_with fail
      refine (c2.out w).mono ?_
      rintro e w' ⟨rfl, rfl⟩
      go_wp2
      go_ret
      exact ⟨by simp [h1, h2], rfl⟩

/-- the answer of sums.Mul -/
def U64E (z : Nat) (er : Int) : Value := .tuple #[.int .u64 (z : Int), .int .i64 er]
def mulV (a b : Nat) : Value := if a * b < 18446744073709551616 then U64E (a * b) 0 else U64E 0 10

set_option maxHeartbeats 400000 in
theorem smul_walk (a b : Nat) (ha : a < 18446744073709551616) (hb : b < 18446744073709551616) (w : World) :
    Calls Try.prog 17 #[.int .u64 a, .int .u64 b] w fun e w' => e = .returned (mulV a b) ∧ w = w' := by
  have c1 := hid (mul64 a b ha hb)
  unfold mulV
  have h0 : (a * b / 18446744073709551616 = 0) = (a * b < 18446744073709551616) := by
    rw [Nat.div_eq_zero_iff]; simp
  have hm := fun h => Nat.mod_eq_of_lt (a := a * b) (b := 18446744073709551616) h
  by_cases h1 : a * b < 18446744073709551616
  · rw [if_pos h1]
    rw [hm h1, h0.mpr h1] at c1
    clear hm h0
    generalize a * b = p at *
    go_enter Try.func17, Try.ntmps17
    go_wp2_with fail
    refine (c1.out w).mono ?_
    rintro e w' ⟨rfl, rfl⟩
    go_wp2
    go_ret2
    exact ⟨rfl, rfl⟩
  · rw [if_neg h1]
    have h2 : ¬ a * b / 18446744073709551616 = 0 := by rw [h0]; exact h1
    clear hm h0
    generalize a * b / 18446744073709551616 = ph at *
    generalize a * b % 18446744073709551616 = pl at *
    have h3 : ((ph : Int) != 0) = true := by simp; omega
    go_enter Try.func17, Try.ntmps17
    go_wp2_with fail
    refine (c1.out w).mono ?_
    rintro e w' ⟨rfl, rfl⟩
    go_wp2
    go_ret2
    exact ⟨rfl, rfl⟩
end Go.Proofs.Ytfiaallnnpcbmaa

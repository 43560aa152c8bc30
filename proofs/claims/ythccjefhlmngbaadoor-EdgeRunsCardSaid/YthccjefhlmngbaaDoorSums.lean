/- Contracts of package sums: Covers, Mul. -/
import Derived.Test.YthccjefhlmngbaaDoorBits
import Derived.Test.YthccjefhlmngbaaDoorMem
import Derived.Shelf.Spec.BitsCarry
namespace Go.Proofs.YthccjefhlmngbaaDoor
open Go.RowKit

theorem covers_dec (x y : Nat) : decide (y ≤ x) = (decide (y / 18446744073709551616 < x / 18446744073709551616) || (y / 18446744073709551616 == x / 18446744073709551616 && decide (y % 18446744073709551616 ≤ x % 18446744073709551616))) := by
  rw [Bool.eq_iff_iff]
  simp only [decide_eq_true_eq, Bool.or_eq_true, Bool.and_eq_true, beq_iff_eq]
  omega
theorem mul_lt64 {x y : Nat} (hx : x < 18446744073709551616) (hy : y < 18446744073709551616) : x * y / 18446744073709551616 < 18446744073709551616 := by
  rw [Nat.div_lt_iff_lt_mul (by omega)]
  exact Nat.mul_lt_mul_of_lt_of_lt hx hy

set_option maxHeartbeats 400000 in
theorem covers_walk (a n b d : Nat) (ha : a < 18446744073709551616) (hn : n < 18446744073709551616) (hb : b < 18446744073709551616) (hd : d < 18446744073709551616) (w : World) :
    Calls Tryd.prog 47 #[.int .u64 a, .int .u64 n, .int .u64 b, .int .u64 d] w fun e w' => e = .returned (.bool (decide (b * d ≤ a * n))) ∧ w = w' := by
  have fin := covers_dec (a * n) (b * d)
  have c1 := hid (mul64 a n ha hn)
  have c2 := hid (mul64 b d hb hd)
  generalize a * n / 18446744073709551616 = ah at *
  generalize a * n % 18446744073709551616 = al at *
  generalize b * d / 18446744073709551616 = bh at *
  generalize b * d % 18446744073709551616 = bl at *
  rw [fin]
  clear fin
  by_cases h1 : bh < ah
  · go_enter Tryd.func47, Tryd.ntmps47
    go_wp2_with fail
    refine (c1.out w).mono ?_
    rintro e w' ⟨rfl, rfl⟩
    go_wp2_with fail
    refine (c2.out w).mono ?_
    rintro e w' ⟨rfl, rfl⟩
    go_wp2
    go_ret
    exact ⟨by simp [h1], rfl⟩
  · by_cases h2 : bh = ah
    · subst h2
      go_enter Tryd.func47, Tryd.ntmps47
      go_wp2_with fail
      refine (c1.out w).mono ?_
      rintro e w' ⟨rfl, rfl⟩
      go_wp2_with fail
      refine (c2.out w).mono ?_
      rintro e w' ⟨rfl, rfl⟩
      go_wp2
      go_ret
      exact ⟨by simp, rfl⟩
    · have h3 : ((bh : Int) == (ah : Int)) = false := by simp; omega
      go_enter Tryd.func47, Tryd.ntmps47
      go_wp2_with fail
      refine (c1.out w).mono ?_
      rintro e w' ⟨rfl, rfl⟩
      go_wp2_with fail
      refine (c2.out w).mono ?_
      rintro e w' ⟨rfl, rfl⟩
      go_wp2
      go_ret
      exact ⟨by simp [h1, h2], rfl⟩

/-- the answer of sums.Mul -/
def U64E (z : Nat) (er : Int) : Value := .tuple #[.int .u64 (z : Int), .int .i64 er]
def mulV (a b : Nat) : Value := if a * b < 18446744073709551616 then U64E (a * b) 0 else U64E 0 10


def addV (a b : Nat) : Value := if a + b < 18446744073709551616 then U64E (a + b) 0 else U64E 0 10
def subV (a b : Nat) : Value := if b ≤ a then U64E (a - b) 0 else U64E 0 11
theorem addV_yes {a b : Nat} (h : a + b < 18446744073709551616) : addV a b = .tuple #[.int .u64 ((a + b : Nat) : Int), .int .i64 0] := if_pos h
theorem addV_no {a b : Nat} (h : ¬ a + b < 18446744073709551616) : addV a b = .tuple #[.int .u64 0, .int .i64 10] := if_neg h
theorem subV_yes {a b : Nat} (h : b ≤ a) : subV a b = .tuple #[.int .u64 ((a - b : Nat) : Int), .int .i64 0] := if_pos h
theorem subV_no {a b : Nat} (h : ¬ b ≤ a) : subV a b = .tuple #[.int .u64 0, .int .i64 11] := if_neg h
theorem mulV_yes {a b : Nat} (h : a * b < 18446744073709551616) : mulV a b = .tuple #[.int .u64 ((a * b : Nat) : Int), .int .i64 0] := if_pos h
theorem mulV_no {a b : Nat} (h : ¬ a * b < 18446744073709551616) : mulV a b = .tuple #[.int .u64 0, .int .i64 10] := if_neg h

theorem run_badd (x y : Nat) (w : World) : (callFunc 54 #[.int .u64 x, .int .u64 y, .int .u64 0]).run Tryd.prog w = .ok (.value (.tuple #[.int .u64 (((x + y) % 18446744073709551616 : Nat) : Int), .int .u64 (((x + y) / 18446744073709551616 : Nat) : Int)])) w := by
  rw [run_callFunc_extern Tryd.func54 (by kernel_rfl) (by kernel_rfl) (by kernel_rfl) (e := add64Entry) (by kernel_rfl), run_add64 x y 0 (by omega) (by omega) (by omega) (by omega)]
  simp only [Result.andThen]
  congr 5 <;> omega
theorem run_bsub (x y : Nat) (w : World) : (callFunc 49 #[.int .u64 x, .int .u64 y, .int .u64 0]).run Tryd.prog w = .ok (.value (.tuple #[.int .u64 (((x + 18446744073709551616 - y) % 18446744073709551616 : Nat) : Int), .int .u64 ((if x < y then 1 else 0 : Nat) : Int)])) w := by
  have h := run_sub64 (P := Tryd.prog) x y 0 (by omega) w
  rw [run_callFunc_extern Tryd.func49 (by kernel_rfl) (by kernel_rfl) (by kernel_rfl) (e := sub64Entry) (by kernel_rfl)]
  exact congrArg (fun r => Result.andThen r _) h

set_option maxHeartbeats 400000 in
theorem sadd_walk (a b : Nat) (ha : a < 18446744073709551616) (hb : b < 18446744073709551616) (w : World) :
    Calls Tryd.prog 51 #[.int .u64 a, .int .u64 b] w fun e w' => e = .returned (addV a b) ∧ w = w' := by
  have r := run_badd a b
  by_cases h : a + b < 18446744073709551616
  · rw [addV_yes h]
    rw [show (a + b) % 18446744073709551616 = a + b from Nat.mod_eq_of_lt h, show (a + b) / 18446744073709551616 = 0 from Nat.div_eq_of_lt h] at r
    go_enter Tryd.func51, Tryd.ntmps51
    go_wp2
    go_ret2
    exact ⟨rfl, rfl⟩
  · rw [addV_no h]
    rw [show (a + b) / 18446744073709551616 = 1 from by omega] at r
    go_enter Tryd.func51, Tryd.ntmps51
    go_wp2
    go_ret2
    exact ⟨rfl, rfl⟩
set_option maxHeartbeats 400000 in
theorem ssub_walk (a b : Nat) (ha : a < 18446744073709551616) (hb : b < 18446744073709551616) (w : World) :
    Calls Tryd.prog 39 #[.int .u64 a, .int .u64 b] w fun e w' => e = .returned (subV a b) ∧ w = w' := by
  have r := run_bsub a b
  by_cases h : b ≤ a
  · rw [subV_yes h]
    rw [show (a + 18446744073709551616 - b) % 18446744073709551616 = a - b from by omega, if_neg (by omega)] at r
    go_enter Tryd.func39, Tryd.ntmps39
    go_wp2
    go_ret2
    exact ⟨rfl, rfl⟩
  · rw [subV_no h]
    rw [if_pos (by omega)] at r
    go_enter Tryd.func39, Tryd.ntmps39
    go_wp2
    go_ret2
    exact ⟨rfl, rfl⟩

/-- the answer of sums.Total -/
def totV (xs : List Nat) : Value := if xs.sum < 18446744073709551616 then U64E xs.sum 0 else U64E 0 10
theorem totV_yes {xs : List Nat} (h : xs.sum < 18446744073709551616) : totV xs = .tuple #[.int .u64 (xs.sum : Int), .int .i64 0] := if_pos h
theorem totV_no {xs : List Nat} (h : ¬ xs.sum < 18446744073709551616) : totV xs = .tuple #[.int .u64 0, .int .i64 10] := if_neg h
theorem sum_take_succ {xs : List Nat} {k : Nat} (h : k < xs.length) : (xs.take (k + 1)).sum = (xs.take k).sum + xs.getD k 0 := by
  rw [List.take_succ_eq_append_getElem h, List.sum_append]; simp [List.getElem?_eq_getElem h]
theorem sum_take_le (xs : List Nat) (k : Nat) : (xs.take k).sum ≤ xs.sum := by
  have := List.take_append_drop k xs
  have h2 : ((xs.take k) ++ (xs.drop k)).sum = xs.sum := by rw [this]
  rw [List.sum_append] at h2
  omega
theorem getD_mem_lt {xs : List Nat} {M : Nat} (h : ∀ d ∈ xs, d < M) (hM : 0 < M) (k : Nat) : xs.getD k 0 < M := by
  by_cases hk : k < xs.length
  · have := h (xs[k]) (List.getElem_mem hk); simp [List.getElem?_eq_getElem hk, this]
  · simp [List.getElem?_eq_none (Nat.le_of_not_lt hk), hM]

end Go.Proofs.YthccjefhlmngbaaDoor

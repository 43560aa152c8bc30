/- Contracts of math/bits: Mul64, Add64, Sub64, for every uint64. -/
import Derived.Test.YtdopbhahcpjjgaaDoorChecked
import Derived.WalkKit
import Derived.WalkSpells
import Derived.WalkLawsBesides
import Derived.Lib.Mul64
import Derived.Laws.Bits64b
import Derived.Test.YtdopbhahcpjjgaaDoorMem
import Derived.Shelf.Spec.BitsCarry
namespace Go.Proofs.YtdopbhahcpjjgaaDoor
open Go.RowKit

namespace Mul64
theorem maskN (a : Nat) (ha : a < 18446744073709551616) : bits .and .u64 (a : Int) 4294967295 = ((a % 4294967296 : Nat) : Int) := by
  have h := bits_and_u64_nat a 4294967295 ha (by omega)
  have e : a &&& 4294967295 = a % 4294967296 := Nat.and_two_pow_sub_one_eq_mod a 32
  rw [e] at h
  exact h
theorem divN (a : Nat) : (a : Int) / 4294967296 = ((a / 4294967296 : Nat) : Int) := by omega
theorem mulN (a b : Nat) : (a : Int) * (b : Int) = ((a * b : Nat) : Int) := (Int.natCast_mul a b).symm
theorem addN (a b : Nat) : (a : Int) + (b : Int) = ((a + b : Nat) : Int) := (Int.natCast_add a b).symm
theorem wrapN (a : Nat) (ha : a < 18446744073709551616) : IntKind.u64.wrap (a : Int) = (a : Int) := by rw [IntKind.wrap_u64]; omega
theorem wrapM (a : Nat) : IntKind.u64.wrap (a : Int) = ((a % 18446744073709551616 : Nat) : Int) := by rw [IntKind.wrap_u64]; omega
end Mul64

end Go.Proofs.YtdopbhahcpjjgaaDoor

/- Contracts of package sums: Covers, Mul. -/
namespace Go.Proofs.YtdopbhahcpjjgaaDoor
open Go.RowKit

theorem covers_dec (x y : Nat) : decide (y ≤ x) = (decide (y / 18446744073709551616 < x / 18446744073709551616) || (y / 18446744073709551616 == x / 18446744073709551616 && decide (y % 18446744073709551616 ≤ x % 18446744073709551616))) := by
  rw [Bool.eq_iff_iff]
  simp only [decide_eq_true_eq, Bool.or_eq_true, Bool.and_eq_true, beq_iff_eq]
  omega
theorem mul_lt64 {x y : Nat} (hx : x < 18446744073709551616) (hy : y < 18446744073709551616) : x * y / 18446744073709551616 < 18446744073709551616 := by
  rw [Nat.div_lt_iff_lt_mul (by omega)]
  exact Nat.mul_lt_mul_of_lt_of_lt hx hy


/-- the answer of sums.Mul -/
def U64E (z : Nat) (er : Int) : Value := .tuple #[.int .u64 (z : Int), .int .i64 er]
def mulV (a b : Nat) : Value := if a * b < 18446744073709551616 then U64E (a * b) 0 else U64E 0 10


def addV (a b : Nat) : Value := if a + b < 18446744073709551616 then U64E (a + b) 0 else U64E 0 10
def subV (a b : Nat) : Value := if b ≤ a then U64E (a - b) 0 else U64E 0 11
theorem addV_yes {a b : Nat} (h : a + b < 18446744073709551616) : addV a b = .tuple #[.int .u64 ((a + b : Nat) : Int), .int .i64 0] := if_pos h
theorem addV_no {a b : Nat} (h : ¬ a + b < 18446744073709551616) : addV a b = .tuple #[.int .u64 0, .int .i64 10] := if_neg h
theorem subV_yes {a b : Nat} (h : b ≤ a) : subV a b = .tuple #[.int .u64 ((a - b : Nat) : Int), .int .i64 0] := if_pos h
theorem subV_no {a b : Nat} (h : ¬ b ≤ a) : subV a b = .tuple #[.int .u64 0, .int .i64 11] := if_neg h
theorem mulV_yes {a b : Nat} (h : a * b < 18446744073709551616) : mulV a b = .tuple #[.int .u64 ((a * b : Nat) : Int), .int .i64 0] := if_pos h
theorem mulV_no {a b : Nat} (h : ¬ a * b < 18446744073709551616) : mulV a b = .tuple #[.int .u64 0, .int .i64 10] := if_neg h

theorem run_badd (x y : Nat) (w : World) : (callFunc 47 #[.int .u64 x, .int .u64 y, .int .u64 0]).run Tryd.prog w = .ok (.value (.tuple #[.int .u64 (((x + y) % 18446744073709551616 : Nat) : Int), .int .u64 (((x + y) / 18446744073709551616 : Nat) : Int)])) w := by
  rw [run_callFunc_extern Tryd.func47 (by kernel_rfl) (by kernel_rfl) (by kernel_rfl) (e := add64Entry) (by kernel_rfl), run_add64 x y 0 (by omega) (by omega) (by omega) (by omega)]
  simp only [Result.andThen]
  congr 5 <;> omega

set_option maxHeartbeats 400000 in
theorem sadd_walk (a b : Nat) (ha : a < 18446744073709551616) (hb : b < 18446744073709551616) (w : World) :
    Calls Tryd.prog 35 #[.int .u64 a, .int .u64 b] w fun e w' => e = .returned (addV a b) ∧ w = w' := by
  have r := run_badd a b
  by_cases h : a + b < 18446744073709551616
  · rw [addV_yes h]
    rw [show (a + b) % 18446744073709551616 = a + b from Nat.mod_eq_of_lt h, show (a + b) / 18446744073709551616 = 0 from Nat.div_eq_of_lt h] at r
    go_enter Tryd.func35, Tryd.ntmps35
    go_wp2
    go_ret2
    exact ⟨rfl, rfl⟩
  · rw [addV_no h]
    rw [show (a + b) / 18446744073709551616 = 1 from by omega] at r
    go_enter Tryd.func35, Tryd.ntmps35
    go_wp2
    go_ret2
    exact ⟨rfl, rfl⟩

/-- the answer of sums.Total -/
def totV (xs : List Nat) : Value := if xs.sum < 18446744073709551616 then U64E xs.sum 0 else U64E 0 10
theorem totV_yes {xs : List Nat} (h : xs.sum < 18446744073709551616) : totV xs = .tuple #[.int .u64 (xs.sum : Int), .int .i64 0] := if_pos h
theorem totV_no {xs : List Nat} (h : ¬ xs.sum < 18446744073709551616) : totV xs = .tuple #[.int .u64 0, .int .i64 10] := if_neg h
theorem sum_take_succ {xs : List Nat} {k : Nat} (h : k < xs.length) : (xs.take (k + 1)).sum = (xs.take k).sum + xs.getD k 0 := by
  rw [List.take_succ_eq_append_getElem h, List.sum_append]; simp [List.getElem?_eq_getElem h]
theorem sum_take_le (xs : List Nat) (k : Nat) : (xs.take k).sum ≤ xs.sum := by
  have := List.take_append_drop k xs
  have h2 : ((xs.take k) ++ (xs.drop k)).sum = xs.sum := by rw [this]
  rw [List.sum_append] at h2
  omega
theorem getD_mem_lt {xs : List Nat} {M : Nat} (h : ∀ d ∈ xs, d < M) (hM : 0 < M) (k : Nat) : xs.getD k 0 < M := by
  by_cases hk : k < xs.length
  · have := h (xs[k]) (List.getElem_mem hk); simp [List.getElem?_eq_getElem hk, this]
  · simp [List.getElem?_eq_none (Nat.le_of_not_lt hk), hM]

set_option maxHeartbeats 400000 in
theorem stotal_walk (a : Option Addr) (n cap : Nat) (xs : List Nat) (hb : ∀ d ∈ xs, d < 18446744073709551616) (w : World) (h : Sl .u64 w a n cap xs) :
    Calls Tryd.prog 24 #[.slice a n cap] w fun e w' => e = .returned (totV xs) ∧ w = w' := by
  have HL := hid h.len
  have hcap := h.2.1
  have hm' : cap ≤ 9223372036854775807 := by have h2 := h.2.2.1; unfold maxLen at h2; omega
  obtain ⟨b, off, ha, hc⟩ := h.opened
  go_enter Tryd.func24, Tryd.ntmps24
  go_wp2
  go_loop [4, 11] (fun s0 i0 => ∃ (k s : Nat), k ≤ n ∧ i0 = .int .i64 k ∧ s0 = .int .u64 s ∧ s < 18446744073709551616 ∧ Hid (s = (xs.take k).sum)) (fun _ i0 => n - (intOf i0).toNat)
  case atStart => exact ⟨0, 0, by omega, rfl, rfl, by omega, hid rfl⟩
  case round =>
    obtain ⟨k, s, hk, rfl, rfl, hs, hsum⟩ := hrel
    by_cases hlt : k < n
    · have hcx := hc k hlt
      obtain rfl := ha (by omega)
      have hd := getD_mem_lt hb (by omega) k
      have hst := hid (sum_take_succ (xs := xs) (k := k) (by rw [HL.out]; exact hlt))
      have hle := hid (sum_take_le xs (k + 1))
      generalize hdd : xs.getD k 0 = d at *
      have HD := hid hdd
      clear hdd hc h
      by_cases hf : s + d < 18446744073709551616
      · go_wp2_with fail
        refine (sadd_walk s d hs hd _).mono ?_
        rintro e w' ⟨rfl, rfl⟩
        rw [addV_yes hf]
        go_wp2
        go_round
        case rel => exact ⟨k + 1, s + d, by omega, by go_num, rfl, hf, hid (by rw [hst.out, hsum.out])⟩
        case measure => simp [intOf]; omega
      · have hno := hid (totV_no (xs := xs) (by have := hle.out; rw [hst.out, ← hsum.out] at this; omega))
        go_wp2_with fail
        refine (sadd_walk s d hs hd _).mono ?_
        rintro e w' ⟨rfl, rfl⟩
        rw [addV_no hf]
        go_wp2
        go_ret2
        exact ⟨by rw [hno.out]; rfl, rfl⟩
    · obtain rfl : n = k := by omega
      have hyes := hid (totV_yes (xs := xs) (by have := hsum.out; rw [List.take_of_length_le (by rw [HL.out]; omega)] at this; omega))
      have hs2 := hid (show s = xs.sum by have := hsum.out; rw [List.take_of_length_le (by rw [HL.out]; omega)] at this; exact this)
      go_wp2
      go_ret2
      exact ⟨by rw [hyes.out, ← hs2.out]; rfl, rfl⟩
end Go.Proofs.YtdopbhahcpjjgaaDoor

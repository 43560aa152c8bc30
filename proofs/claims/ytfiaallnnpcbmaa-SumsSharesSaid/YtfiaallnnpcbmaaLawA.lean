/- The walks of the statements SumsCovers, SumsMuls. -/
import Derived.Test.YtfiaallnnpcbmaaRef1e
import Derived.Test.YtfiaallnnpcbmaaSums
namespace Go.Proofs.Ytfiaallnnpcbmaa
open Go.RowKit

theorem cmp_le (x y : Nat) : decide (cmpI x y ≤ 0) = decide (x ≤ y) := by
  unfold cmpI
  rw [decide_eq_decide]
  split
  · constructor <;> intro <;> omega
  · split <;> constructor <;> intro <;> omega
theorem Dig.len8 {xs : List Nat} {x : Nat} (h : Dig xs x) (hx : x < 18446744073709551616) : xs.length ≤ 8 := h.len_le (by omega)
theorem Dig.len16 {xs : List Nat} {x : Nat} (h : Dig xs x) (hx : x < 18446744073709551616 * 18446744073709551616) : xs.length ≤ 16 := h.len_le (by omega)
theorem mul_lt128 {x y : Nat} (hx : x < 18446744073709551616) (hy : y < 18446744073709551616) : x * y < 18446744073709551616 * 18446744073709551616 := Nat.mul_lt_mul_of_lt_of_lt hx hy

/-- Mul(Of(a), Of(b)), as one step: at the first call of Of -/
theorem lawCovers (a n b d : Nat) (ha : a < 18446744073709551616) (hn : n < 18446744073709551616) (hb : b < 18446744073709551616) (hd : d < 18446744073709551616) (w : World) :
    Calls Try.prog 3 #[.int .u64 a, .int .u64 n, .int .u64 b, .int .u64 d] w fun e w' => e = .returned (.bool true) ∧ Below w.heap.size w w' := by
  have fin := cmp_le (b * d) (a * n)
  have hid1 := hid fin; clear fin
  go_enter Try.func3, Try.ntmps3
  go_wp2_with fail
  refine (covers_walk 1 1 2 1 (by decide) (by decide) (by decide) (by decide) _).mono ?_
  rintro e w' ⟨rfl, rfl⟩
  go_wp2_with fail
  refine (covers_walk 2 1 2 1 (by decide) (by decide) (by decide) (by decide) _).mono ?_
  rintro e w' ⟨rfl, rfl⟩
  go_wp2_with fail
  refine (covers_walk a n b d ha hn hb hd _).mono ?_
  rintro e w' ⟨rfl, rfl⟩
  go_wp2_with fail
  refine (of_walk b hb _).mono ?_
  rintro e w1 ⟨v1, x1, rfl, d1, ⟨a1, c1, rfl, s1⟩, b1⟩
  go_wp2_with fail
  refine (of_walk d hd _).mono ?_
  rintro e w2 ⟨v2, x2, rfl, d2, ⟨a2, c2, rfl, s2⟩, b2⟩
  go_wp2_with fail
  have l1 := d1.len8 hb
  have l2 := d2.len8 hd
  refine (mul_walk a1 a2 _ _ _ _ b d x1 x2 (by omega) (by omega) _ (s1.below b2) d1 s2 d2).mono ?_
  rintro e w3 ⟨v3, x3, rfl, d3, ⟨a3, c3, rfl, s3⟩, b3⟩
  go_wp2_with fail
  refine (of_walk a ha _).mono ?_
  rintro e w4 ⟨v4, x4, rfl, d4, ⟨a4, c4, rfl, s4⟩, b4⟩
  go_wp2_with fail
  refine (of_walk n hn _).mono ?_
  rintro e w5 ⟨v5, x5, rfl, d5, ⟨a5, c5, rfl, s5⟩, b5⟩
  go_wp2_with fail
  have l4 := d4.len8 ha
  have l5 := d5.len8 hn
  refine (mul_walk a4 a5 _ _ _ _ a n x4 x5 (by omega) (by omega) _ (s4.below b5) d4 s5 d5).mono ?_
  rintro e w6 ⟨v6, x6, rfl, d6, ⟨a6, c6, rfl, s6⟩, b6⟩
  go_wp2_with fail
  have l3 := d3.len16 (mul_lt128 hb hd)
  have l6 := d6.len16 (mul_lt128 ha hn)
  refine (cmp_walk a3 a6 _ _ _ _ (b * d) (a * n) x3 x6 (by omega) (by omega) _ (((s3.below b4).below b5).below b6) d3 s6 d6).mono ?_
  rintro e w7 ⟨rfl, q7⟩
  go_wp2
  go_ret
  exact ⟨by rw [hid1.out]; simp, bstep (bstep (bstep (bstep (bstep (bstep b1 b2) b3) b4) b5) b6) (q7.below _)⟩

theorem lawMuls (a b : Nat) (ha : a < 18446744073709551616) (hb : b < 18446744073709551616) (w : World) :
    Calls Try.prog 4 #[.int .u64 a, .int .u64 b] w fun e w' => e = .returned (.bool true) ∧ Below w.heap.size w w' := by
  have hlt := mul_lt128 ha hb
  by_cases h : a * b < 18446744073709551616
  all_goals
    go_enter Try.func4, Try.ntmps4
    go_wp2_with fail
    refine (smul_walk 3 4 (by decide) (by decide) _).mono ?_
    rintro e w' ⟨rfl, rfl⟩
    rw [mulV_yes (by decide)]
    go_wp2_with fail
    refine (smul_walk a b ha hb _).mono ?_
    rintro e w' ⟨rfl, rfl⟩
    first | rw [mulV_yes h] | rw [mulV_no h]
    go_wp2_with fail
    refine (of_walk a ha _).mono ?_
    rintro e w1 ⟨v1, x1, rfl, d1, ⟨a1, c1, rfl, s1⟩, b1⟩
    go_wp2_with fail
    refine (of_walk b hb _).mono ?_
    rintro e w2 ⟨v2, x2, rfl, d2, ⟨a2, c2, rfl, s2⟩, b2⟩
    go_wp2_with fail
    have l1 := d1.len8 ha
    have l2 := d2.len8 hb
    refine (mul_walk a1 a2 _ _ _ _ a b x1 x2 (by omega) (by omega) _ (s1.below b2) d1 s2 d2).mono ?_
    rintro e w3 ⟨v3, x3, rfl, d3, ⟨a3, c3, rfl, s3⟩, b3⟩
    go_wp2_with fail
    have l3 := d3.len16 hlt
    refine (num_walk a3 _ _ (a * b) x3 _ s3 d3 (by omega)).mono ?_
    rintro e w4 ⟨rfl, rfl⟩
  · rw [if_pos h, decide_eq_true h]
    go_wp2
    go_ret
    exact ⟨rfl, bstep (bstep b1 b2) b3⟩
  · rw [if_neg h, decide_eq_false h]
    go_wp2
    go_ret
    exact ⟨rfl, bstep (bstep b1 b2) b3⟩
end Go.Proofs.Ytfiaallnnpcbmaa

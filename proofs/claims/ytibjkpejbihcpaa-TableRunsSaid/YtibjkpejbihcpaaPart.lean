/- Contract of sums.Part. -/
import Derived.Test.YtibjkpejbihcpaaSums
import Derived.Test.YtibjkpejbihcpaaDiv
namespace Go.Proofs.Ytibjkpejbihcpaa
open Go.RowKit

theorem div64 (hi lo y : Nat) (hlo : lo < 18446744073709551616) (hy : y < 18446744073709551616) (h : hi < y) (w : World) :
    Calls Try.prog 45 #[.int .u64 hi, .int .u64 lo, .int .u64 y] w fun e w' => e = .returned (.tuple #[.int .u64 (((18446744073709551616 * hi + lo) / y : Nat) : Int), .int .u64 (((18446744073709551616 * hi + lo) % y : Nat) : Int)]) ∧ Qt w w' := by
  rcases Nat.eq_zero_or_pos hi with h0 | h0
  · subst h0
    have := div64_small lo y hlo hy h w
    simpa using this
  · exact div64_big hi lo y hlo hy h h0 w

/-- n of d parts of a, down or up -/
def partN (a n d : Nat) (up : Bool) : Nat := a * n / d + (if up = true ∧ 0 < a * n % d then 1 else 0)
def partV (a n d : Nat) (up : Bool) : Value := if d = 0 then U64E 0 12 else if partN a n d up < 18446744073709551616 then U64E (partN a n d up) 0 else U64E 0 10
theorem partV_zero (a n : Nat) (up : Bool) : partV a n 0 up = .tuple #[.int .u64 0, .int .i64 12] := rfl
theorem partV_yes {a n d : Nat} {up : Bool} (hd : ¬ d = 0) (h : partN a n d up < 18446744073709551616) : partV a n d up = .tuple #[.int .u64 ((partN a n d up : Nat) : Int), .int .i64 0] := by unfold partV; rw [if_neg hd, if_pos h]; rfl
theorem partV_no {a n d : Nat} {up : Bool} (hd : ¬ d = 0) (h : ¬ partN a n d up < 18446744073709551616) : partV a n d up = .tuple #[.int .u64 0, .int .i64 10] := by unfold partV; rw [if_neg hd, if_neg h]; rfl
theorem part_facts {a n d : Nat} (hd : 0 < d) : 18446744073709551616 * (a * n / 18446744073709551616) + a * n % 18446744073709551616 = a * n ∧
    (d ≤ a * n / 18446744073709551616 → 18446744073709551616 ≤ a * n / d) ∧ (a * n / 18446744073709551616 < d → a * n / d < 18446744073709551616) := by
  refine ⟨Nat.div_add_mod _ _, fun h => ?_, fun h => ?_⟩
  · rw [Nat.le_div_iff_mul_le hd]
    have := Nat.mul_le_mul_left 18446744073709551616 h
    have e := Nat.div_add_mod (a * n) 18446744073709551616
    omega
  · rw [Nat.div_lt_iff_lt_mul hd]
    have := Nat.mul_le_mul_left 18446744073709551616 (Nat.succ_le_of_lt h)
    have e := Nat.mod_lt (a * n) (show 0 < 18446744073709551616 by decide)
    have e2 := Nat.div_add_mod (a * n) 18446744073709551616
    rw [Nat.mul_succ] at this
    omega
def PartRes (w : World) (a n d : Nat) (up : Bool) (e : Ending) (w' : World) : Prop := e = .returned (partV a n d up) ∧ Qt w w'

set_option maxHeartbeats 1000000 in
theorem part_walk (a n d : Nat) (up : Bool) (ha : a < 18446744073709551616) (hn : n < 18446744073709551616) (hd : d < 18446744073709551616) (w : World) :
    Calls Try.prog 34 #[.int .u64 a, .int .u64 n, .int .u64 d, .bool up] w (PartRes w a n d up) := by
  by_cases h0 : d = 0
  · subst h0
    have F := hid (show PartRes w a n 0 up (.returned (.tuple #[.int .u64 0, .int .i64 12])) w from ⟨rfl, Qt.refl _⟩)
    go_enter Try.func34, Try.ntmps34
    go_wp2
    go_ret2
    exact F.out
  · have g0 : ((d : Int) == 0) = false := by simp; omega
    obtain ⟨f1, f2, f3⟩ := part_facts (a := a) (n := n) (d := d) (by omega)
    have c1 := hid (mul64 a n ha hn)
    have hm := mul_lt64 ha hn
    have hlo := Nat.mod_lt (a * n) (show 0 < 18446744073709551616 by decide)
    by_cases h1 : d ≤ a * n / 18446744073709551616
    · have g1 : (d : Int) ≤ ((a * n / 18446744073709551616 : Nat) : Int) := by omega
      have F := hid (show PartRes w a n d up (.returned (.tuple #[.int .u64 0, .int .i64 10])) w from ⟨by rw [partV_no h0 (by have := f2 h1; unfold partN; omega)], Qt.refl _⟩)
      clear f1 f2 f3 hm hlo
      generalize a * n / 18446744073709551616 = p at *
      generalize a * n % 18446744073709551616 = q at *
      clear h1
      go_enter Try.func34, Try.ntmps34
      go_wp2_with fail
      refine (c1.out w).mono ?_
      rintro e w' ⟨rfl, rfl⟩
      go_wp2
      go_ret2
      exact F.out
    · have g1 : ¬ (d : Int) ≤ ((a * n / 18446744073709551616 : Nat) : Int) := by omega
      have c2 := fun wx => hid (div64 _ _ d hlo hd (show a * n / 18446744073709551616 < d by omega) wx)
      rw [f1] at c2
      have hq := f3 (by omega)
      have hr := Nat.mod_lt (a * n) (show 0 < d by omega)
      have HPN := hid (show ∀ up, partN a n d up = a * n / d + (if up = true ∧ 0 < a * n % d then 1 else 0) from fun _ => rfl)
      clear f1 f2 f3 hm hlo h1
      generalize a * n / 18446744073709551616 = p at *
      generalize a * n % 18446744073709551616 = q at *
      generalize a * n / d = Q at *
      generalize a * n % d = R at *
      by_cases hup : up = true ∧ 0 < R
      · obtain ⟨rfl, hR⟩ := hup
        have F := fun wx (hwx : Qt w wx) => hid (show PartRes w a n d true (.returned (addV Q 1)) wx from ⟨by
          have e : partN a n d true = Q + 1 := by rw [HPN.out, if_pos ⟨rfl, hR⟩]
          unfold partV addV; rw [if_neg h0, e], hwx⟩)
        clear HPN
        by_cases hf : Q + 1 < 18446744073709551616
        all_goals
          go_enter Try.func34, Try.ntmps34
          go_wp2_with fail
          refine (c1.out w).mono ?_
          rintro e w' ⟨rfl, rfl⟩
          go_wp2_with fail
          refine ((c2 _).out).mono ?_
          rintro e w1 ⟨rfl, q1⟩
          have FF := F w1 q1
          clear F
          go_wp2_with fail
          refine (sadd_walk Q 1 hq (by decide) _).mono ?_
          rintro e w' ⟨rfl, rfl⟩
          first | rw [addV_yes hf] at FF ⊢ | rw [addV_no hf] at FF ⊢
          go_wp2
          go_ret2
          exact FF.out
      · have F := fun wx (hwx : Qt w wx) => hid (show PartRes w a n d up (.returned (.tuple #[.int .u64 (Q : Int), .int .i64 0])) wx from ⟨by
          have e : partN a n d up = Q := by rw [HPN.out, if_neg hup, Nat.add_zero]
          rw [partV_yes h0 (by rw [e]; exact hq), e], hwx⟩)
        clear HPN
        cases up with
        | false =>
          go_enter Try.func34, Try.ntmps34
          go_wp2_with fail
          refine (c1.out w).mono ?_
          rintro e w' ⟨rfl, rfl⟩
          go_wp2_with fail
          refine ((c2 _).out).mono ?_
          rintro e w1 ⟨rfl, q1⟩
          have FF := F w1 q1
          clear F
          go_wp2
          go_ret2
          exact FF.out
        | true =>
          obtain rfl : R = 0 := by simp at hup; exact hup
          clear hup
          go_enter Try.func34, Try.ntmps34
          go_wp2_with fail
          refine (c1.out w).mono ?_
          rintro e w' ⟨rfl, rfl⟩
          go_wp2_with fail
          refine ((c2 _).out).mono ?_
          rintro e w1 ⟨rfl, q1⟩
          have FF := F w1 q1
          clear F
          go_wp2
          go_ret2
          exact FF.out
end Go.Proofs.Ytibjkpejbihcpaa

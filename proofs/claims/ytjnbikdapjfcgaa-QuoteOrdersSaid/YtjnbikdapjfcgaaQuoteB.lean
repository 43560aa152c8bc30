/- The walks of the statements QuoteTurns, QuoteBounds, QuoteRound. -/
import Derived.Test.YtjnbikdapjfcgaaQuoteA
namespace Go.Proofs.Ytjnbikdapjfcgaa
open Go.RowKit

theorem chk_bad {c u : Nat} (h : c = 0 ∨ u = 0) : chk c u = 60 := if_pos h
theorem chk_ok {c u : Nat} (h : ¬ (c = 0 ∨ u = 0)) : chk c u = 0 := if_neg h
theorem toV_bad {n a b : Nat} {up : Bool} (h : a = 0 ∨ b = 0) : toV n a b up = .tuple #[.int .u64 0, .int .i64 60] := if_pos h
theorem toV_ok {n a b : Nat} {up : Bool} (h : ¬ (a = 0 ∨ b = 0)) : toV n a b up = partV n a b up := if_neg h
theorem payB_bad {n c d u : Nat} (h : c = 0 ∨ u = 0) : payB n c d u = false := if_pos h
theorem payB_ok {n c d u : Nat} (h : ¬ (c = 0 ∨ u = 0)) : payB n c d u = decide (d * u ≤ n * c) := if_neg h
theorem part_bounds {a n d : Nat} (hd : 0 < d) : partN a n d false * d ≤ a * n ∧ a * n < (partN a n d false + 1) * d ∧ a * n ≤ partN a n d true * d ∧ (0 < partN a n d true → (partN a n d true - 1) * d < a * n) ∧ partN a n d false ≤ partN a n d true ∧ partN a n d true ≤ partN a n d false + 1 := by
  have e := Nat.div_add_mod (a * n) d
  have r := Nat.mod_lt (a * n) hd
  have e0 : partN a n d false = a * n / d := by simp [partN]
  rw [Nat.mul_comm] at e
  rw [e0]
  have e1 : (a * n / d + 1) * d = a * n / d * d + d := by rw [Nat.add_mul, Nat.one_mul]
  by_cases h : 0 < a * n % d
  · have e2 : partN a n d true = a * n / d + 1 := by simp [partN, h]
    rw [e2, Nat.add_sub_cancel]
    refine ⟨by omega, by omega, by omega, fun _ => by omega, by omega, by omega⟩
  · have e2 : partN a n d true = a * n / d := by simp [partN, h]
    rw [e2]
    refine ⟨by omega, by omega, by omega, fun hp => ?_, by omega, by omega⟩
    rw [Nat.sub_mul, Nat.one_mul]
    have : d ≤ a * n / d * d := Nat.le_mul_of_pos_left d hp
    omega
set_option maxHeartbeats 2000000 in
theorem lawQTurns (c u n : Nat) (up : Bool) (hc : c < 18446744073709551616) (hu : u < 18446744073709551616) (hn : n < 18446744073709551616) (w : World) :
    Calls Try.prog 5 #[rateV c u, .int .u64 n, .bool up] w fun e w' => e = .returned (.bool true) ∧ Below w.heap.size w w' := by
  by_cases h : c = 0 ∨ u = 0
  · have V1 := hid (toV_bad (n := n) (up := up) h)
    have V2 := hid (toV_bad (n := n) (up := up) (or_comm.1 h))
    have V3 := hid (chk_bad h)
    have hz : (((c : Int) == 0) = true) ∨ (((c : Int) == 0) = false ∧ ((u : Int) == 0) = true) := by
      by_cases k : c = 0
      · subst k; exact .inl rfl
      · have k2 : u = 0 := h.resolve_left k
        exact .inr ⟨by simp; omega, by simp; omega⟩
    clear h
    rcases hz with t1 | ⟨t1, t2⟩
    · have B0 := (Below.refl w.heap.size w).alloc (Nat.le_refl _) (.cells #[.int .u64 (c : Int), .int .u64 (u : Int)] 24)
      have X0 := hid (Bx2.new w c u 24)
      go_enter Try.func5, Try.ntmps5
      go_wp2_with fail
      refine (head_walk _).mono ?_
      rintro e w1 ⟨rfl, b1⟩
      have X1 := hid (X0.out.below b1)
      have B1 := bstep B0 b1
      clear X0 B0 b1
      obtain ⟨x0, x1⟩ := X1.out
      go_wp2_with fail
      refine (toCoins_walk c u n up hc hu hn _).mono ?_
      rintro e w2 ⟨rfl, b2⟩
      rw [V1.out]
      have X2 := hid (X1.out.below b2)
      have B2 := bstep B1 b2
      clear X1 B1 b2 x0 x1
      obtain ⟨x0, x1⟩ := X2.out
      go_wp2_with fail
      refine (toUnits_walk c u n up hc hu hn _).mono ?_
      rintro e w3 ⟨rfl, b3⟩
      rw [V2.out]
      have X3 := hid (X2.out.below b3)
      have B3 := bstep B2 b3
      clear X2 B2 b3 x0 x1
      obtain ⟨x0, x1⟩ := X3.out
      go_wp2_with fail
      refine (check_walk c u _).mono ?_
      rintro e w4 ⟨rfl, b4⟩
      rw [V3.out]
      have X4 := hid (X3.out.below b4)
      have B4 := bstep B3 b4
      clear X3 B3 b4 x0 x1
      obtain ⟨x0, x1⟩ := X4.out
      go_wp2
      go_ret
      exact ⟨rfl, B4⟩
    · have B0 := (Below.refl w.heap.size w).alloc (Nat.le_refl _) (.cells #[.int .u64 (c : Int), .int .u64 (u : Int)] 24)
      have X0 := hid (Bx2.new w c u 24)
      go_enter Try.func5, Try.ntmps5
      go_wp2_with fail
      refine (head_walk _).mono ?_
      rintro e w1 ⟨rfl, b1⟩
      have X1 := hid (X0.out.below b1)
      have B1 := bstep B0 b1
      clear X0 B0 b1
      obtain ⟨x0, x1⟩ := X1.out
      go_wp2_with fail
      refine (toCoins_walk c u n up hc hu hn _).mono ?_
      rintro e w2 ⟨rfl, b2⟩
      rw [V1.out]
      have X2 := hid (X1.out.below b2)
      have B2 := bstep B1 b2
      clear X1 B1 b2 x0 x1
      obtain ⟨x0, x1⟩ := X2.out
      go_wp2_with fail
      refine (toUnits_walk c u n up hc hu hn _).mono ?_
      rintro e w3 ⟨rfl, b3⟩
      rw [V2.out]
      have X3 := hid (X2.out.below b3)
      have B3 := bstep B2 b3
      clear X2 B2 b3 x0 x1
      obtain ⟨x0, x1⟩ := X3.out
      go_wp2_with fail
      refine (check_walk c u _).mono ?_
      rintro e w4 ⟨rfl, b4⟩
      rw [V3.out]
      have X4 := hid (X3.out.below b4)
      have B4 := bstep B3 b4
      clear X3 B3 b4 x0 x1
      obtain ⟨x0, x1⟩ := X4.out
      go_wp2
      go_ret
      exact ⟨rfl, B4⟩
  · have V3 := hid (chk_ok h)
    obtain ⟨x, ex, hx⟩ := partV_shape n c u up
    obtain ⟨y, ey, hy⟩ := partV_shape n u c up
    have V1 := hid ((toV_ok (n := n) (up := up) h).trans hx)
    have V2 := hid ((toV_ok (n := n) (up := up) (fun k => h (or_comm.1 k))).trans hy)
    have V4 := hid hx
    have V5 := hid hy
    have t1 : ((c : Int) == 0) = false := by simp; omega
    have t2 : ((u : Int) == 0) = false := by simp; omega
    clear h hx hy
    have B0 := (Below.refl w.heap.size w).alloc (Nat.le_refl _) (.cells #[.int .u64 (c : Int), .int .u64 (u : Int)] 24)
    have X0 := hid (Bx2.new w c u 24)
    go_enter Try.func5, Try.ntmps5
    go_wp2_with fail
    refine (head_walk _).mono ?_
    rintro e w1 ⟨rfl, b1⟩
    have X1 := hid (X0.out.below b1)
    have B1 := bstep B0 b1
    clear X0 B0 b1
    obtain ⟨x0, x1⟩ := X1.out
    go_wp2_with fail
    refine (toCoins_walk c u n up hc hu hn _).mono ?_
    rintro e w2 ⟨rfl, b2⟩
    rw [V1.out]
    have X2 := hid (X1.out.below b2)
    have B2 := bstep B1 b2
    clear X1 B1 b2 x0 x1
    obtain ⟨x0, x1⟩ := X2.out
    go_wp2_with fail
    refine (toUnits_walk c u n up hc hu hn _).mono ?_
    rintro e w3 ⟨rfl, b3⟩
    rw [V2.out]
    have X3 := hid (X2.out.below b3)
    have B3 := bstep B2 b3
    clear X2 B2 b3 x0 x1
    obtain ⟨x0, x1⟩ := X3.out
    clear V1 V2
    go_wp2_with fail
    refine (rpart_walk n c u up hn hc hu _).mono ?_
    rintro e w4 ⟨rfl, b4⟩
    rw [V4.out]
    have X4 := hid (X3.out.below b4)
    have B4 := bstep B3 b4
    clear X3 B3 b4 x0 x1
    obtain ⟨x0, x1⟩ := X4.out
    go_wp2_with fail
    refine (rpart_walk n u c up hn hu hc _).mono ?_
    rintro e w5 ⟨rfl, b5⟩
    rw [V5.out]
    have X5 := hid (X4.out.below b5)
    have B5 := bstep B4 b5
    clear X4 B4 b5 x0 x1
    obtain ⟨x0, x1⟩ := X5.out
    go_wp2_with fail
    refine (check_walk c u _).mono ?_
    rintro e w6 ⟨rfl, b6⟩
    rw [V3.out]
    have X6 := hid (X5.out.below b6)
    have B6 := bstep B5 b6
    clear X5 B5 b6 x0 x1
    obtain ⟨x0, x1⟩ := X6.out
    go_wp2
    go_ret
    exact ⟨rfl, B6⟩
end Go.Proofs.Ytjnbikdapjfcgaa

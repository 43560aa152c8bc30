/- The walk of the statement QuoteRound. -/
import Derived.Test.YtjnbikdapjfcgaaQuoteB
namespace Go.Proofs.Ytjnbikdapjfcgaa
open Go.RowKit

theorem round_facts {n c u : Nat} (hc : 0 < c) (hu : 0 < u) : partN (partN n u c false) c u false ≤ n ∧ n ≤ partN (partN n u c true) c u true := by
  obtain ⟨p1, _, p3, _⟩ := part_bounds (a := n) (n := u) hc
  obtain ⟨q1, _, _, _⟩ := part_bounds (a := partN n u c false) (n := c) hu
  obtain ⟨_, _, q3, _⟩ := part_bounds (a := partN n u c true) (n := c) hu
  exact ⟨Nat.le_of_mul_le_mul_right (Nat.le_trans q1 p1) hu, Nat.le_of_mul_le_mul_right (Nat.le_trans p3 q3) hu⟩
theorem toV_shape (n a b : Nat) (up : Bool) (h : ¬ (a = 0 ∨ b = 0)) : ∃ (x : Nat) (er : Int), toV n a b up = .tuple #[.int .u64 (x : Int), .int .i64 er] := by rw [toV_ok h]; exact partV_shape _ _ _ _
set_option maxRecDepth 100000 in
set_option maxHeartbeats 4000000 in
theorem lawQRound (c u n : Nat) (hc : c < 18446744073709551616) (hu : u < 18446744073709551616) (hn : n < 18446744073709551616) (w : World) :
    Calls Try.prog 6 #[rateV c u, .int .u64 n] w fun e w' => e = .returned (.bool true) ∧ Below w.heap.size w w' := by
  by_cases h : c = 0 ∨ u = 0
  · have V3 := hid (chk_bad h)
    clear h
    have B0 := (Below.refl w.heap.size w).alloc (Nat.le_refl _) (.cells #[.int .u64 (c : Int), .int .u64 (u : Int)] 24)
    have X0 := hid (Bx2.new w c u 24)
    go_enter Try.func6, Try.ntmps6
    go_wp2_with fail
    refine (head_walk _).mono ?_
    rintro e w1 ⟨rfl, b1⟩
    have X1 := hid (X0.out.below b1)
    have B1 := bstep B0 b1
    clear X0 B0 b1
    obtain ⟨x0, x1⟩ := X1.out
    go_wp2_with fail
    refine (check_walk c u _).mono ?_
    rintro e w2 ⟨rfl, b2⟩
    rw [V3.out]
    have X2 := hid (X1.out.below b2)
    have B2 := bstep B1 b2
    clear X1 B1 b2 x0 x1
    obtain ⟨x0, x1⟩ := X2.out
    go_wp2
    go_ret
    exact ⟨rfl, B2⟩
  · have V3 := hid (chk_ok h)
    have hk : ¬ (u = 0 ∨ c = 0) := fun k => h (or_comm.1 k)
    obtain ⟨r1, r2⟩ := round_facts (n := n) (c := c) (u := u) (by omega) (by omega)
    obtain ⟨_, _, _, _, p5, _⟩ := part_bounds (a := n) (n := u) (show 0 < c by omega)
    have hc0 : ¬ c = 0 := by omega
    have hu0 : ¬ u = 0 := by omega
    obtain ⟨y, ey, Y⟩ := toV_shape 0 c u false h
    obtain ⟨z, ez, Z⟩ := toV_shape 0 c u true h
    have V0 := hid Y
    have V0' := hid Z
    have T1 := toV_ok (n := n) (up := false) hk
    have T2 := toV_ok (n := n) (up := true) hk
    have T3 := fun m => toV_ok (n := m) (up := false) h
    have T4 := fun m => toV_ok (n := m) (up := true) h
    by_cases f1 : partN n u c false < 18446744073709551616
    · have U1 := hid (T1.trans (partV_yes hc0 f1))
      have U2 := hid ((T3 _).trans (partV_yes hu0 (Nat.lt_of_le_of_lt r1 hn)))
      by_cases f2 : partN n u c true < 18446744073709551616
      · have U3 := hid (T2.trans (partV_yes hc0 f2))
        by_cases f3 : partN (partN n u c true) c u true < 18446744073709551616
        · have U4 := hid ((T4 _).trans (partV_yes hu0 f3))
          clear T1 T2 T3 T4 V0 V0' Y Z h hk
          generalize partN (partN n u c true) c u true = d at *
          generalize partN (partN n u c false) c u false = b at *
          generalize partN n u c true = m at *
          generalize partN n u c false = a at *
          have B0 := (Below.refl w.heap.size w).alloc (Nat.le_refl _) (.cells #[.int .u64 (c : Int), .int .u64 (u : Int)] 24)
          have X0 := hid (Bx2.new w c u 24)
          go_enter Try.func6, Try.ntmps6
          go_wp2_with fail
          refine (head_walk _).mono ?_
          rintro e w1 ⟨rfl, b1⟩
          have X1 := hid (X0.out.below b1)
          have B1 := bstep B0 b1
          clear X0 B0 b1
          obtain ⟨x0, x1⟩ := X1.out
          go_wp2_with fail
          refine (check_walk c u _).mono ?_
          rintro e w2 ⟨rfl, b2⟩
          rw [V3.out]
          have X2 := hid (X1.out.below b2)
          have B2 := bstep B1 b2
          clear X1 B1 b2 x0 x1
          obtain ⟨x0, x1⟩ := X2.out
          go_wp2_with fail
          refine (toUnits_walk c u n false hc hu hn _).mono ?_
          rintro e w3 ⟨rfl, b3⟩
          rw [U1.out]
          have X3 := hid (X2.out.below b3)
          have B3 := bstep B2 b3
          clear X2 B2 b3 x0 x1
          obtain ⟨x0, x1⟩ := X3.out
          go_wp2_with fail
          refine (toCoins_walk c u a false hc hu f1 _).mono ?_
          rintro e w4 ⟨rfl, b4⟩
          rw [U2.out]
          have X4 := hid (X3.out.below b4)
          have B4 := bstep B3 b4
          clear X3 B3 b4 x0 x1
          obtain ⟨x0, x1⟩ := X4.out
          go_wp2_with fail
          refine (toUnits_walk c u n true hc hu hn _).mono ?_
          rintro e w5 ⟨rfl, b5⟩
          rw [U3.out]
          have X5 := hid (X4.out.below b5)
          have B5 := bstep B4 b5
          clear X4 B4 b5 x0 x1
          obtain ⟨x0, x1⟩ := X5.out
          go_wp2_with fail
          refine (toCoins_walk c u m true hc hu f2 _).mono ?_
          rintro e w6 ⟨rfl, b6⟩
          rw [U4.out]
          have X6 := hid (X5.out.below b6)
          have B6 := bstep B5 b6
          clear X5 B5 b6 x0 x1
          obtain ⟨x0, x1⟩ := X6.out
          go_wp2
          go_ret
          exact ⟨rfl, B6⟩
        · have U4 := hid ((T4 _).trans (partV_no hu0 f3))
          clear T1 T2 T3 T4 V0 V0' Y Z h hk r2
          generalize partN (partN n u c true) c u true = d at *
          generalize partN (partN n u c false) c u false = b at *
          generalize partN n u c true = m at *
          generalize partN n u c false = a at *
          have B0 := (Below.refl w.heap.size w).alloc (Nat.le_refl _) (.cells #[.int .u64 (c : Int), .int .u64 (u : Int)] 24)
          have X0 := hid (Bx2.new w c u 24)
          go_enter Try.func6, Try.ntmps6
          go_wp2_with fail
          refine (head_walk _).mono ?_
          rintro e w1 ⟨rfl, b1⟩
          have X1 := hid (X0.out.below b1)
          have B1 := bstep B0 b1
          clear X0 B0 b1
          obtain ⟨x0, x1⟩ := X1.out
          go_wp2_with fail
          refine (check_walk c u _).mono ?_
          rintro e w2 ⟨rfl, b2⟩
          rw [V3.out]
          have X2 := hid (X1.out.below b2)
          have B2 := bstep B1 b2
          clear X1 B1 b2 x0 x1
          obtain ⟨x0, x1⟩ := X2.out
          go_wp2_with fail
          refine (toUnits_walk c u n false hc hu hn _).mono ?_
          rintro e w3 ⟨rfl, b3⟩
          rw [U1.out]
          have X3 := hid (X2.out.below b3)
          have B3 := bstep B2 b3
          clear X2 B2 b3 x0 x1
          obtain ⟨x0, x1⟩ := X3.out
          go_wp2_with fail
          refine (toCoins_walk c u a false hc hu f1 _).mono ?_
          rintro e w4 ⟨rfl, b4⟩
          rw [U2.out]
          have X4 := hid (X3.out.below b4)
          have B4 := bstep B3 b4
          clear X3 B3 b4 x0 x1
          obtain ⟨x0, x1⟩ := X4.out
          go_wp2_with fail
          refine (toUnits_walk c u n true hc hu hn _).mono ?_
          rintro e w5 ⟨rfl, b5⟩
          rw [U3.out]
          have X5 := hid (X4.out.below b5)
          have B5 := bstep B4 b5
          clear X4 B4 b5 x0 x1
          obtain ⟨x0, x1⟩ := X5.out
          go_wp2_with fail
          refine (toCoins_walk c u m true hc hu f2 _).mono ?_
          rintro e w6 ⟨rfl, b6⟩
          rw [U4.out]
          have X6 := hid (X5.out.below b6)
          have B6 := bstep B5 b6
          clear X5 B5 b6 x0 x1
          obtain ⟨x0, x1⟩ := X6.out
          go_wp2
          go_ret
          exact ⟨rfl, B6⟩
      · have U3 := hid (T2.trans (partV_no hc0 f2))
        clear T1 T2 T3 T4 V0 Y Z h hk r2
        generalize partN (partN n u c false) c u false = b at *
        generalize partN n u c true = m at *
        generalize partN n u c false = a at *
        have B0 := (Below.refl w.heap.size w).alloc (Nat.le_refl _) (.cells #[.int .u64 (c : Int), .int .u64 (u : Int)] 24)
        have X0 := hid (Bx2.new w c u 24)
        go_enter Try.func6, Try.ntmps6
        go_wp2_with fail
        refine (head_walk _).mono ?_
        rintro e w1 ⟨rfl, b1⟩
        have X1 := hid (X0.out.below b1)
        have B1 := bstep B0 b1
        clear X0 B0 b1
        obtain ⟨x0, x1⟩ := X1.out
        go_wp2_with fail
        refine (check_walk c u _).mono ?_
        rintro e w2 ⟨rfl, b2⟩
        rw [V3.out]
        have X2 := hid (X1.out.below b2)
        have B2 := bstep B1 b2
        clear X1 B1 b2 x0 x1
        obtain ⟨x0, x1⟩ := X2.out
        go_wp2_with fail
        refine (toUnits_walk c u n false hc hu hn _).mono ?_
        rintro e w3 ⟨rfl, b3⟩
        rw [U1.out]
        have X3 := hid (X2.out.below b3)
        have B3 := bstep B2 b3
        clear X2 B2 b3 x0 x1
        obtain ⟨x0, x1⟩ := X3.out
        go_wp2_with fail
        refine (toCoins_walk c u a false hc hu f1 _).mono ?_
        rintro e w4 ⟨rfl, b4⟩
        rw [U2.out]
        have X4 := hid (X3.out.below b4)
        have B4 := bstep B3 b4
        clear X3 B3 b4 x0 x1
        obtain ⟨x0, x1⟩ := X4.out
        go_wp2_with fail
        refine (toUnits_walk c u n true hc hu hn _).mono ?_
        rintro e w5 ⟨rfl, b5⟩
        rw [U3.out]
        have X5 := hid (X4.out.below b5)
        have B5 := bstep B4 b5
        clear X4 B4 b5 x0 x1
        obtain ⟨x0, x1⟩ := X5.out
        go_wp2_with fail
        refine (toCoins_walk c u 0 true hc hu (by decide) _).mono ?_
        rintro e w6 ⟨rfl, b6⟩
        rw [V0'.out]
        have X6 := hid (X5.out.below b6)
        have B6 := bstep B5 b6
        clear X5 B5 b6 x0 x1
        obtain ⟨x0, x1⟩ := X6.out
        go_wp2
        go_ret
        exact ⟨rfl, B6⟩
    · have U1 := hid (T1.trans (partV_no hc0 f1))
      have U3 := hid (T2.trans (partV_no hc0 (by omega)))
      clear T1 T2 T3 T4 Y Z h hk r1 r2 p5
      generalize partN n u c true = m at *
      generalize partN n u c false = a at *
      have B0 := (Below.refl w.heap.size w).alloc (Nat.le_refl _) (.cells #[.int .u64 (c : Int), .int .u64 (u : Int)] 24)
      have X0 := hid (Bx2.new w c u 24)
      go_enter Try.func6, Try.ntmps6
      go_wp2_with fail
      refine (head_walk _).mono ?_
      rintro e w1 ⟨rfl, b1⟩
      have X1 := hid (X0.out.below b1)
      have B1 := bstep B0 b1
      clear X0 B0 b1
      obtain ⟨x0, x1⟩ := X1.out
      go_wp2_with fail
      refine (check_walk c u _).mono ?_
      rintro e w2 ⟨rfl, b2⟩
      rw [V3.out]
      have X2 := hid (X1.out.below b2)
      have B2 := bstep B1 b2
      clear X1 B1 b2 x0 x1
      obtain ⟨x0, x1⟩ := X2.out
      go_wp2_with fail
      refine (toUnits_walk c u n false hc hu hn _).mono ?_
      rintro e w3 ⟨rfl, b3⟩
      rw [U1.out]
      have X3 := hid (X2.out.below b3)
      have B3 := bstep B2 b3
      clear X2 B2 b3 x0 x1
      obtain ⟨x0, x1⟩ := X3.out
      go_wp2_with fail
      refine (toCoins_walk c u 0 false hc hu (by decide) _).mono ?_
      rintro e w4 ⟨rfl, b4⟩
      rw [V0.out]
      have X4 := hid (X3.out.below b4)
      have B4 := bstep B3 b4
      clear X3 B3 b4 x0 x1
      obtain ⟨x0, x1⟩ := X4.out
      go_wp2_with fail
      refine (toUnits_walk c u n true hc hu hn _).mono ?_
      rintro e w5 ⟨rfl, b5⟩
      rw [U3.out]
      have X5 := hid (X4.out.below b5)
      have B5 := bstep B4 b5
      clear X4 B4 b5 x0 x1
      obtain ⟨x0, x1⟩ := X5.out
      go_wp2_with fail
      refine (toCoins_walk c u 0 true hc hu (by decide) _).mono ?_
      rintro e w6 ⟨rfl, b6⟩
      rw [V0'.out]
      have X6 := hid (X5.out.below b6)
      have B6 := bstep B5 b6
      clear X5 B5 b6 x0 x1
      obtain ⟨x0, x1⟩ := X6.out
      go_wp2
      go_ret
      exact ⟨rfl, B6⟩
end Go.Proofs.Ytjnbikdapjfcgaa

/- The walk of the statement QuoteBounds. -/
import Derived.Test.YtjnbikdapjfcgaaQuoteB
namespace Go.Proofs.Ytjnbikdapjfcgaa
open Go.RowKit

set_option maxRecDepth 100000 in
set_option maxHeartbeats 4000000 in
theorem lawQBounds (c u n : Nat) (hc : c < 18446744073709551616) (hu : u < 18446744073709551616) (hn : n < 18446744073709551616) (w : World) :
    Calls Try.prog 4 #[rateV c u, .int .u64 n] w fun e w' => e = .returned (.bool true) ∧ Below w.heap.size w w' := by
  by_cases h : c = 0 ∨ u = 0
  · have V3 := hid (chk_bad h)
    have V1 := hid (payB_bad (n := n) (d := 0) h)
    have V2 := hid (payB_bad (n := n) (d := 0) (or_comm.1 h))
    clear h
    have B0 := (Below.refl w.heap.size w).alloc (Nat.le_refl _) (.cells #[.int .u64 (c : Int), .int .u64 (u : Int)] 24)
    have X0 := hid (Bx2.new w c u 24)
    go_enter Try.func4, Try.ntmps4
    go_wp2_with fail
    refine (head_walk _).mono ?_
    rintro e w1 ⟨rfl, b1⟩
    have X1 := hid (X0.out.below b1)
    have B1 := bstep B0 b1
    clear X0 B0 b1
    obtain ⟨x0, x1⟩ := X1.out
    go_wp2_with fail
    refine (check_walk c u _).mono ?_
    rintro e w2 ⟨rfl, b2⟩
    rw [V3.out]
    have X2 := hid (X1.out.below b2)
    have B2 := bstep B1 b2
    clear X1 B1 b2 x0 x1
    obtain ⟨x0, x1⟩ := X2.out
    go_wp2_with fail
    refine (pays_walk c u n 0 hc hu hn (by decide) _).mono ?_
    rintro e w3 ⟨rfl, b3⟩
    rw [V1.out]
    have X3 := hid (X2.out.below b3)
    have B3 := bstep B2 b3
    clear X2 B2 b3 x0 x1
    obtain ⟨x0, x1⟩ := X3.out
    go_wp2_with fail
    refine (buys_walk c u n 0 hc hu hn (by decide) _).mono ?_
    rintro e w4 ⟨rfl, b4⟩
    rw [V2.out]
    have X4 := hid (X3.out.below b4)
    have B4 := bstep B3 b4
    clear X3 B3 b4 x0 x1
    obtain ⟨x0, x1⟩ := X4.out
    go_wp2
    go_ret
    exact ⟨rfl, B4⟩
  · have V3 := hid (chk_ok h)
    have hu0 : 0 < u := by omega
    have h0 : ¬ u = 0 := by omega
    obtain ⟨p1, p2, p3, p4, p5, p6⟩ := part_bounds (a := n) (n := c) hu0
    have TD := toV_ok (n := n) (up := false) h
    have TU := toV_ok (n := n) (up := true) h
    have PB := fun d => hid (payB_ok (n := n) (d := d) h)
    have BB := fun d => hid (payB_ok (n := d) (d := n) (c := u) (u := c) (fun k => h (or_comm.1 k)))
    by_cases hd : partN n c u false < 18446744073709551616
    · have TD' := hid (TD.trans (partV_yes h0 hd))
      have q1 := hid ((payB_ok (n := n) (d := partN n c u false) h).trans (decide_eq_true p1))
      have q2 := hid ((payB_ok (n := n) (d := partN n c u false + 1) h).trans (decide_eq_false (Nat.not_le_of_lt p2)))
      by_cases hb : partN n c u true < 18446744073709551616
      · have TU' := hid (TU.trans (partV_yes h0 hb))
        have q3 := hid ((payB_ok (n := partN n c u true) (d := n) (c := u) (u := c) (fun k => h (or_comm.1 k))).trans (decide_eq_true p3))
        have q4 := fun hp => hid ((payB_ok (n := partN n c u true - 1) (d := n) (c := u) (u := c) (fun k => h (or_comm.1 k))).trans (decide_eq_false (Nat.not_le_of_lt (p4 hp))))
        clear TD TU PB BB h p1 p2 p3 p4
        generalize partN n c u false = x at *
        generalize partN n c u true = y at *
        by_cases hx : x < 18446744073709551615
        · have t1 : decide ((x : Int) < 18446744073709551615) = true := by rw [decide_eq_true_eq]; omega
          have hx1 : x + 1 < 18446744073709551616 := by omega
          by_cases hy : 0 < y
          · have t2 : decide ((y : Int) > 0) = true := by rw [decide_eq_true_eq]; omega
            have q4' := q4 hy
            have hy1 : y - 1 < 18446744073709551616 := by omega
            have hsub : (y : Int) - 1 = ((y - 1 : Nat) : Int) := by omega
            have t9 : decide ((y : Int) - (x : Int) ≤ 1) = true := by rw [decide_eq_true_eq]; omega
            have t10 : decide ((x : Int) ≤ (y : Int)) = true := by rw [decide_eq_true_eq]; omega
            clear q4
            have B0 := (Below.refl w.heap.size w).alloc (Nat.le_refl _) (.cells #[.int .u64 (c : Int), .int .u64 (u : Int)] 24)
            have X0 := hid (Bx2.new w c u 24)
            go_enter Try.func4, Try.ntmps4
            go_wp2_with fail
            refine (head_walk _).mono ?_
            rintro e w1 ⟨rfl, b1⟩
            have X1 := hid (X0.out.below b1)
            have B1 := bstep B0 b1
            clear X0 B0 b1
            obtain ⟨x0, x1⟩ := X1.out
            go_wp2_with fail
            refine (check_walk c u _).mono ?_
            rintro e w2 ⟨rfl, b2⟩
            rw [V3.out]
            have X2 := hid (X1.out.below b2)
            have B2 := bstep B1 b2
            clear X1 B1 b2 x0 x1
            obtain ⟨x0, x1⟩ := X2.out
            go_wp2_with fail
            refine (toCoins_walk c u n false hc hu hn _).mono ?_
            rintro e w3 ⟨rfl, b3⟩
            rw [TD'.out]
            have X3 := hid (X2.out.below b3)
            have B3 := bstep B2 b3
            clear X2 B2 b3 x0 x1
            obtain ⟨x0, x1⟩ := X3.out
            go_wp2_with fail
            refine (pays_walk c u n x hc hu hn hd _).mono ?_
            rintro e w4 ⟨rfl, b4⟩
            rw [q1.out]
            have X4 := hid (X3.out.below b4)
            have B4 := bstep B3 b4
            clear X3 B3 b4 x0 x1
            obtain ⟨x0, x1⟩ := X4.out
            go_wp2_with fail
            refine (pays_walk c u n (x + 1) hc hu hn hx1 _).mono ?_
            rintro e w5 ⟨rfl, b5⟩
            rw [q2.out]
            have X5 := hid (X4.out.below b5)
            have B5 := bstep B4 b5
            clear X4 B4 b5 x0 x1
            obtain ⟨x0, x1⟩ := X5.out
            go_wp2_with fail
            refine (toCoins_walk c u n true hc hu hn _).mono ?_
            rintro e w6 ⟨rfl, b6⟩
            rw [TU'.out]
            have X6 := hid (X5.out.below b6)
            have B6 := bstep B5 b6
            clear X5 B5 b6 x0 x1
            obtain ⟨x0, x1⟩ := X6.out
            go_wp2_with fail
            refine (buys_walk c u y n hc hu hb hn _).mono ?_
            rintro e w7 ⟨rfl, b7⟩
            rw [q3.out]
            have X7 := hid (X6.out.below b7)
            have B7 := bstep B6 b7
            clear X6 B6 b7 x0 x1
            obtain ⟨x0, x1⟩ := X7.out
            go_wp2_with fail
            refine (buys_walk c u (y - 1) n hc hu hy1 hn _).mono ?_
            rintro e w8 ⟨rfl, b8⟩
            rw [q4'.out]
            have X8 := hid (X7.out.below b8)
            have B8 := bstep B7 b8
            clear X7 B7 b8 x0 x1
            obtain ⟨x0, x1⟩ := X8.out
            go_wp2
            go_ret
            exact ⟨rfl, B8⟩
          · obtain rfl : y = 0 := by omega
            obtain rfl : x = 0 := by omega
            clear q4 t1
            have B0 := (Below.refl w.heap.size w).alloc (Nat.le_refl _) (.cells #[.int .u64 (c : Int), .int .u64 (u : Int)] 24)
            have X0 := hid (Bx2.new w c u 24)
            go_enter Try.func4, Try.ntmps4
            go_wp2_with fail
            refine (head_walk _).mono ?_
            rintro e w1 ⟨rfl, b1⟩
            have X1 := hid (X0.out.below b1)
            have B1 := bstep B0 b1
            clear X0 B0 b1
            obtain ⟨x0, x1⟩ := X1.out
            go_wp2_with fail
            refine (check_walk c u _).mono ?_
            rintro e w2 ⟨rfl, b2⟩
            rw [V3.out]
            have X2 := hid (X1.out.below b2)
            have B2 := bstep B1 b2
            clear X1 B1 b2 x0 x1
            obtain ⟨x0, x1⟩ := X2.out
            go_wp2_with fail
            refine (toCoins_walk c u n false hc hu hn _).mono ?_
            rintro e w3 ⟨rfl, b3⟩
            rw [TD'.out]
            have X3 := hid (X2.out.below b3)
            have B3 := bstep B2 b3
            clear X2 B2 b3 x0 x1
            obtain ⟨x0, x1⟩ := X3.out
            go_wp2_with fail
            refine (pays_walk c u n 0 hc hu hn hd _).mono ?_
            rintro e w4 ⟨rfl, b4⟩
            rw [q1.out]
            have X4 := hid (X3.out.below b4)
            have B4 := bstep B3 b4
            clear X3 B3 b4 x0 x1
            obtain ⟨x0, x1⟩ := X4.out
            go_wp2_with fail
            refine (pays_walk c u n (0 + 1) hc hu hn hx1 _).mono ?_
            rintro e w5 ⟨rfl, b5⟩
            rw [q2.out]
            have X5 := hid (X4.out.below b5)
            have B5 := bstep B4 b5
            clear X4 B4 b5 x0 x1
            obtain ⟨x0, x1⟩ := X5.out
            go_wp2_with fail
            refine (toCoins_walk c u n true hc hu hn _).mono ?_
            rintro e w6 ⟨rfl, b6⟩
            rw [TU'.out]
            have X6 := hid (X5.out.below b6)
            have B6 := bstep B5 b6
            clear X5 B5 b6 x0 x1
            obtain ⟨x0, x1⟩ := X6.out
            go_wp2_with fail
            refine (buys_walk c u 0 n hc hu hb hn _).mono ?_
            rintro e w7 ⟨rfl, b7⟩
            rw [q3.out]
            have X7 := hid (X6.out.below b7)
            have B7 := bstep B6 b7
            clear X6 B6 b7 x0 x1
            obtain ⟨x0, x1⟩ := X7.out
            go_wp2
            go_ret
            exact ⟨rfl, B7⟩
        · obtain rfl : x = 18446744073709551615 := by omega
          obtain rfl : y = 18446744073709551615 := by omega
          have q4' : Hid (payB 18446744073709551614 u n c = false) := q4 (by decide)
          clear q4 hx
          have B0 := (Below.refl w.heap.size w).alloc (Nat.le_refl _) (.cells #[.int .u64 (c : Int), .int .u64 (u : Int)] 24)
          have X0 := hid (Bx2.new w c u 24)
          go_enter Try.func4, Try.ntmps4
          go_wp2_with fail
          refine (head_walk _).mono ?_
          rintro e w1 ⟨rfl, b1⟩
          have X1 := hid (X0.out.below b1)
          have B1 := bstep B0 b1
          clear X0 B0 b1
          obtain ⟨x0, x1⟩ := X1.out
          go_wp2_with fail
          refine (check_walk c u _).mono ?_
          rintro e w2 ⟨rfl, b2⟩
          rw [V3.out]
          have X2 := hid (X1.out.below b2)
          have B2 := bstep B1 b2
          clear X1 B1 b2 x0 x1
          obtain ⟨x0, x1⟩ := X2.out
          go_wp2_with fail
          refine (toCoins_walk c u n false hc hu hn _).mono ?_
          rintro e w3 ⟨rfl, b3⟩
          rw [TD'.out]
          have X3 := hid (X2.out.below b3)
          have B3 := bstep B2 b3
          clear X2 B2 b3 x0 x1
          obtain ⟨x0, x1⟩ := X3.out
          go_wp2_with fail
          refine (pays_walk c u n 18446744073709551615 hc hu hn hd _).mono ?_
          rintro e w4 ⟨rfl, b4⟩
          rw [q1.out]
          have X4 := hid (X3.out.below b4)
          have B4 := bstep B3 b4
          clear X3 B3 b4 x0 x1
          obtain ⟨x0, x1⟩ := X4.out
          go_wp2_with fail
          refine (toCoins_walk c u n true hc hu hn _).mono ?_
          rintro e w5 ⟨rfl, b5⟩
          rw [TU'.out]
          have X5 := hid (X4.out.below b5)
          have B5 := bstep B4 b5
          clear X4 B4 b5 x0 x1
          obtain ⟨x0, x1⟩ := X5.out
          go_wp2_with fail
          refine (buys_walk c u 18446744073709551615 n hc hu hb hn _).mono ?_
          rintro e w6 ⟨rfl, b6⟩
          rw [q3.out]
          have X6 := hid (X5.out.below b6)
          have B6 := bstep B5 b6
          clear X5 B5 b6 x0 x1
          obtain ⟨x0, x1⟩ := X6.out
          go_wp2_with fail
          refine (buys_walk c u 18446744073709551614 n hc hu (by decide) hn _).mono ?_
          rintro e w7 ⟨rfl, b7⟩
          rw [q4'.out]
          have X7 := hid (X6.out.below b7)
          have B7 := bstep B6 b7
          clear X6 B6 b7 x0 x1
          obtain ⟨x0, x1⟩ := X7.out
          go_wp2
          go_ret
          exact ⟨rfl, B7⟩
      · obtain hx : partN n c u false = 18446744073709551615 := by omega
        rw [hx] at TD' q1 hd
        have TU' := hid (TU.trans (partV_no h0 hb))
        clear TD TU PB BB h p1 p2 p3 p4 p5 p6 q2 hb hx
        have B0 := (Below.refl w.heap.size w).alloc (Nat.le_refl _) (.cells #[.int .u64 (c : Int), .int .u64 (u : Int)] 24)
        have X0 := hid (Bx2.new w c u 24)
        go_enter Try.func4, Try.ntmps4
        go_wp2_with fail
        refine (head_walk _).mono ?_
        rintro e w1 ⟨rfl, b1⟩
        have X1 := hid (X0.out.below b1)
        have B1 := bstep B0 b1
        clear X0 B0 b1
        obtain ⟨x0, x1⟩ := X1.out
        go_wp2_with fail
        refine (check_walk c u _).mono ?_
        rintro e w2 ⟨rfl, b2⟩
        rw [V3.out]
        have X2 := hid (X1.out.below b2)
        have B2 := bstep B1 b2
        clear X1 B1 b2 x0 x1
        obtain ⟨x0, x1⟩ := X2.out
        go_wp2_with fail
        refine (toCoins_walk c u n false hc hu hn _).mono ?_
        rintro e w3 ⟨rfl, b3⟩
        rw [TD'.out]
        have X3 := hid (X2.out.below b3)
        have B3 := bstep B2 b3
        clear X2 B2 b3 x0 x1
        obtain ⟨x0, x1⟩ := X3.out
        go_wp2_with fail
        refine (pays_walk c u n 18446744073709551615 hc hu hn hd _).mono ?_
        rintro e w4 ⟨rfl, b4⟩
        rw [q1.out]
        have X4 := hid (X3.out.below b4)
        have B4 := bstep B3 b4
        clear X3 B3 b4 x0 x1
        obtain ⟨x0, x1⟩ := X4.out
        go_wp2_with fail
        refine (toCoins_walk c u n true hc hu hn _).mono ?_
        rintro e w5 ⟨rfl, b5⟩
        rw [TU'.out]
        have X5 := hid (X4.out.below b5)
        have B5 := bstep B4 b5
        clear X4 B4 b5 x0 x1
        obtain ⟨x0, x1⟩ := X5.out
        go_wp2
        go_ret
        exact ⟨rfl, B5⟩
    · have TD' := hid (TD.trans (partV_no h0 hd))
      have TU' := hid (TU.trans (partV_no h0 (by omega)))
      clear TD TU PB BB h p1 p2 p3 p4 p5 p6 hd
      have B0 := (Below.refl w.heap.size w).alloc (Nat.le_refl _) (.cells #[.int .u64 (c : Int), .int .u64 (u : Int)] 24)
      have X0 := hid (Bx2.new w c u 24)
      go_enter Try.func4, Try.ntmps4
      go_wp2_with fail
      refine (head_walk _).mono ?_
      rintro e w1 ⟨rfl, b1⟩
      have X1 := hid (X0.out.below b1)
      have B1 := bstep B0 b1
      clear X0 B0 b1
      obtain ⟨x0, x1⟩ := X1.out
      go_wp2_with fail
      refine (check_walk c u _).mono ?_
      rintro e w2 ⟨rfl, b2⟩
      rw [V3.out]
      have X2 := hid (X1.out.below b2)
      have B2 := bstep B1 b2
      clear X1 B1 b2 x0 x1
      obtain ⟨x0, x1⟩ := X2.out
      go_wp2_with fail
      refine (toCoins_walk c u n false hc hu hn _).mono ?_
      rintro e w3 ⟨rfl, b3⟩
      rw [TD'.out]
      have X3 := hid (X2.out.below b3)
      have B3 := bstep B2 b3
      clear X2 B2 b3 x0 x1
      obtain ⟨x0, x1⟩ := X3.out
      go_wp2_with fail
      refine (toCoins_walk c u n true hc hu hn _).mono ?_
      rintro e w4 ⟨rfl, b4⟩
      rw [TU'.out]
      have X4 := hid (X3.out.below b4)
      have B4 := bstep B3 b4
      clear X3 B3 b4 x0 x1
      obtain ⟨x0, x1⟩ := X4.out
      go_wp2
      go_ret
      exact ⟨rfl, B4⟩
end Go.Proofs.Ytjnbikdapjfcgaa

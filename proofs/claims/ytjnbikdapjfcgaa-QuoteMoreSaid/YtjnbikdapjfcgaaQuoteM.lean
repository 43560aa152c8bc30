/- The walk of the statement QuoteMore. -/
import Derived.Test.YtjnbikdapjfcgaaQuoteR
namespace Go.Proofs.Ytjnbikdapjfcgaa
open Go.RowKit

theorem partN_mono {a b n d : Nat} {up : Bool} (h : a ≤ b) (hd : 0 < d) : partN a n d up ≤ partN b n d up := by
  have hm : a * n ≤ b * n := Nat.mul_le_mul_right _ h
  cases up with
  | false =>
    have e : ∀ a, partN a n d false = a * n / d := fun a => by simp [partN]
    rw [e, e]; exact Nat.div_le_div_right hm
  | true =>
    obtain ⟨_, _, _, p4, _, _⟩ := part_bounds (a := a) (n := n) hd
    obtain ⟨_, _, q3, _, _, _⟩ := part_bounds (a := b) (n := n) hd
    rcases Nat.eq_zero_or_pos (partN a n d true) with h0 | h0
    · omega
    · have := Nat.lt_of_mul_lt_mul_right (Nat.lt_of_lt_of_le (p4 h0) (Nat.le_trans hm q3))
      omega
theorem partN_rate {m lc lu hc hu : Nat} {up : Bool} (hlu : 0 < lu) (hhu : 0 < hu) (h : lc * hu ≤ hc * lu) : partN m lc lu up ≤ partN m hc hu up := by
  have hm : m * lc * hu ≤ m * hc * lu := by rw [Nat.mul_assoc, Nat.mul_assoc]; exact Nat.mul_le_mul_left _ h
  obtain ⟨p1, _, _, p4, _, _⟩ := part_bounds (a := m) (n := lc) hlu
  obtain ⟨_, q2, q3, _, _, _⟩ := part_bounds (a := m) (n := hc) hhu
  cases up with
  | false =>
    have h1 : partN m lc lu false * lu * hu ≤ m * lc * hu := Nat.mul_le_mul_right _ p1
    have h2 : m * hc * lu < (partN m hc hu false + 1) * hu * lu := Nat.mul_lt_mul_of_pos_right q2 hlu
    have h3 : partN m lc lu false * lu * hu < (partN m hc hu false + 1) * hu * lu := by omega
    rw [Nat.mul_assoc, Nat.mul_assoc, Nat.mul_comm hu lu] at h3
    have := Nat.lt_of_mul_lt_mul_right h3
    omega
  | true =>
    rcases Nat.eq_zero_or_pos (partN m lc lu true) with h0 | h0
    · omega
    · have h1 : (partN m lc lu true - 1) * lu * hu < m * lc * hu := Nat.mul_lt_mul_of_pos_right (p4 h0) hhu
      have h2 : m * hc * lu ≤ partN m hc hu true * hu * lu := Nat.mul_le_mul_right _ q3
      have h3 : (partN m lc lu true - 1) * lu * hu < partN m hc hu true * hu * lu := by omega
      rw [Nat.mul_assoc, Nat.mul_assoc, Nat.mul_comm hu lu] at h3
      have := Nat.lt_of_mul_lt_mul_right h3
      omega
set_option maxRecDepth 100000 in
set_option maxHeartbeats 4000000 in
theorem lawQMore (c u d v n m : Nat) (up : Bool) (hc : c < 18446744073709551616) (hu : u < 18446744073709551616) (hd : d < 18446744073709551616) (hv : v < 18446744073709551616) (hn : n < 18446744073709551616) (hm : m < 18446744073709551616) (w : World) :
    Calls Try.prog 7 #[rateV c u, rateV d v, .int .u64 n, .int .u64 m, .bool up] w fun e w' => e = .returned (.bool true) ∧ Below w.heap.size w w' := by
  by_cases h : c = 0 ∨ u = 0
  · have V3 := hid (chk_bad h)
    clear h
    have B0 := ((Below.refl w.heap.size w).alloc (Nat.le_refl _) (.cells #[.int .u64 (c : Int), .int .u64 (u : Int)] 24)).alloc (by simp) (.cells #[.int .u64 (d : Int), .int .u64 (v : Int)] 24)
    have X0 := hid ((Bx2.new w c u 24).below ((Below.refl _ _).alloc (Nat.le_refl _) (.cells #[.int .u64 (d : Int), .int .u64 (v : Int)] 24)))
    have Y0 := Bx2.new (w.alloc (.cells #[.int .u64 (c : Int), .int .u64 (u : Int)] 24)) d v 24
    rw [show (w.alloc (.cells #[.int .u64 (c : Int), .int .u64 (u : Int)] 24)).heap.size = w.heap.size + 1 by simp] at Y0
    replace Y0 := hid Y0
    go_enter Try.func7, Try.ntmps7
    go_wp2_with fail
    refine (head_walk _).mono ?_
    rintro e w1 ⟨rfl, b1⟩
    have X1 := hid (X0.out.below b1)
    have Y1 := hid (Y0.out.below b1)
    have B1 := bstep B0 b1
    clear X0 Y0 B0 b1
    obtain ⟨x0, x1⟩ := X1.out
    obtain ⟨y0, y1⟩ := Y1.out
    go_wp2_with fail
    refine (check_walk c u _).mono ?_
    rintro e w2 ⟨rfl, b2⟩
    rw [V3.out]
    have X2 := hid (X1.out.below b2)
    have Y2 := hid (Y1.out.below b2)
    have B2 := bstep B1 b2
    clear X1 Y1 B1 b2 x0 x1 y0 y1
    obtain ⟨x0, x1⟩ := X2.out
    obtain ⟨y0, y1⟩ := Y2.out
    go_wp2
    go_ret
    exact ⟨rfl, B2⟩
  · by_cases h' : d = 0 ∨ v = 0
    · have V3 := hid (chk_ok h)
      have V4 := hid (chk_bad h')
      clear h h'
      have B0 := ((Below.refl w.heap.size w).alloc (Nat.le_refl _) (.cells #[.int .u64 (c : Int), .int .u64 (u : Int)] 24)).alloc (by simp) (.cells #[.int .u64 (d : Int), .int .u64 (v : Int)] 24)
      have X0 := hid ((Bx2.new w c u 24).below ((Below.refl _ _).alloc (Nat.le_refl _) (.cells #[.int .u64 (d : Int), .int .u64 (v : Int)] 24)))
      have Y0 := Bx2.new (w.alloc (.cells #[.int .u64 (c : Int), .int .u64 (u : Int)] 24)) d v 24
      rw [show (w.alloc (.cells #[.int .u64 (c : Int), .int .u64 (u : Int)] 24)).heap.size = w.heap.size + 1 by simp] at Y0
      replace Y0 := hid Y0
      go_enter Try.func7, Try.ntmps7
      go_wp2_with fail
      refine (head_walk _).mono ?_
      rintro e w1 ⟨rfl, b1⟩
      have X1 := hid (X0.out.below b1)
      have Y1 := hid (Y0.out.below b1)
      have B1 := bstep B0 b1
      clear X0 Y0 B0 b1
      obtain ⟨x0, x1⟩ := X1.out
      obtain ⟨y0, y1⟩ := Y1.out
      go_wp2_with fail
      refine (check_walk c u _).mono ?_
      rintro e w2 ⟨rfl, b2⟩
      rw [V3.out]
      have X2 := hid (X1.out.below b2)
      have Y2 := hid (Y1.out.below b2)
      have B2 := bstep B1 b2
      clear X1 Y1 B1 b2 x0 x1 y0 y1
      obtain ⟨x0, x1⟩ := X2.out
      obtain ⟨y0, y1⟩ := Y2.out
      go_wp2_with fail
      refine (check_walk d v _).mono ?_
      rintro e w3 ⟨rfl, b3⟩
      rw [V4.out]
      have X3 := hid (X2.out.below b3)
      have Y3 := hid (Y2.out.below b3)
      have B3 := bstep B2 b3
      clear X2 Y2 B2 b3 x0 x1 y0 y1
      obtain ⟨x0, x1⟩ := X3.out
      obtain ⟨y0, y1⟩ := Y3.out
      go_wp2
      go_ret
      exact ⟨rfl, B3⟩
    · have V3 := hid (chk_ok h)
      have V4 := hid (chk_ok h')
      have hN : n / 2 < 9223372036854775808 := by omega
      have hMm : m / 2 < 9223372036854775808 := by omega
      have hNM : n / 2 + m / 2 < 18446744073709551616 := by omega
      have eN : (n : Int) / 2 = ((n / 2 : Nat) : Int) := by omega
      have eM : (m : Int) / 2 = ((m / 2 : Nat) : Int) := by omega
      have mono := partN_mono (a := n / 2) (b := n / 2 + m / 2) (n := c) (d := u) (up := up) (by omega) (by omega)
      have hN64 : n / 2 < 18446744073709551616 := by omega
      have hNM' : ∀ k, k = n / 2 ∨ k = n / 2 + m / 2 → True := fun _ _ => trivial
      clear hNM'
      generalize n / 2 = N at *
      generalize m / 2 = K at *
      have hu0 : ¬ u = 0 := by omega
      have hv0 : ¬ v = 0 := by omega
      have S1 := toV_shape N c u up h
      have S2 := toV_shape N d v up h'
      have T1 := toV_ok (n := N) (up := up) h
      have T2 := toV_ok (n := N + K) (up := up) h
      have T3 := toV_ok (n := N) (up := up) h'
      have rate : rcmp c u d v > 0 → partN N d v up ≤ partN N c u up := fun hr => partN_rate (by omega) (by omega) (by unfold rcmp at hr; split at hr <;> (try split at hr) <;> omega)
      have rate' : ¬ rcmp c u d v > 0 → partN N c u up ≤ partN N d v up := fun hr => partN_rate (by omega) (by omega) (by unfold rcmp at hr; split at hr <;> (try split at hr) <;> omega)
      have R := fun wx => hid (rcmp_walk c u d v hc hu hd hv wx)
      generalize rcmp c u d v = r at *
      clear h h' hm
      by_cases hr : r > 0
      · have tR : decide (r > 0) = true := decide_eq_true hr
        replace rate := rate hr
        clear rate' hr
        by_cases f1 : partN (N + K) c u up < 18446744073709551616
        · have V6 := hid (T2.trans (partV_yes hu0 f1))
          have V5 := hid (T1.trans (partV_yes hu0 (Nat.lt_of_le_of_lt mono f1)))
          have t1 : decide (partN (N + K) c u up < partN N c u up) = false := by rw [decide_eq_false_iff_not]; omega
          by_cases f2 : partN N c u up < 18446744073709551616
          · have V8 := hid (T1.trans (partV_yes hu0 f2))
            have V7 := hid (T3.trans (partV_yes hv0 (Nat.lt_of_le_of_lt rate f2)))
            have t2 : decide (partN N d v up ≤ partN N c u up) = true := by rw [decide_eq_true_eq]; omega
            clear T1 T2 T3 mono rate hu0 hv0 f1 f2
            generalize partN (N + K) c u up = pb at *
            generalize partN N c u up = pa at *
            generalize partN N d v up = pd at *
            have B0 := ((Below.refl w.heap.size w).alloc (Nat.le_refl _) (.cells #[.int .u64 (c : Int), .int .u64 (u : Int)] 24)).alloc (by simp) (.cells #[.int .u64 (d : Int), .int .u64 (v : Int)] 24)
            have X0 := hid ((Bx2.new w c u 24).below ((Below.refl _ _).alloc (Nat.le_refl _) (.cells #[.int .u64 (d : Int), .int .u64 (v : Int)] 24)))
            have Y0 := Bx2.new (w.alloc (.cells #[.int .u64 (c : Int), .int .u64 (u : Int)] 24)) d v 24
            rw [show (w.alloc (.cells #[.int .u64 (c : Int), .int .u64 (u : Int)] 24)).heap.size = w.heap.size + 1 by simp] at Y0
            replace Y0 := hid Y0
            go_enter Try.func7, Try.ntmps7
            go_wp2_with fail
            refine (head_walk _).mono ?_
            rintro e w1 ⟨rfl, b1⟩
            have X1 := hid (X0.out.below b1)
            have Y1 := hid (Y0.out.below b1)
            have B1 := bstep B0 b1
            clear X0 Y0 B0 b1
            obtain ⟨x0, x1⟩ := X1.out
            obtain ⟨y0, y1⟩ := Y1.out
            go_wp2_with fail
            refine (check_walk c u _).mono ?_
            rintro e w2 ⟨rfl, b2⟩
            rw [V3.out]
            have X2 := hid (X1.out.below b2)
            have Y2 := hid (Y1.out.below b2)
            have B2 := bstep B1 b2
            clear X1 Y1 B1 b2 x0 x1 y0 y1
            obtain ⟨x0, x1⟩ := X2.out
            obtain ⟨y0, y1⟩ := Y2.out
            go_wp2_with fail
            refine (check_walk d v _).mono ?_
            rintro e w3 ⟨rfl, b3⟩
            rw [V4.out]
            have X3 := hid (X2.out.below b3)
            have Y3 := hid (Y2.out.below b3)
            have B3 := bstep B2 b3
            clear X2 Y2 B2 b3 x0 x1 y0 y1
            obtain ⟨x0, x1⟩ := X3.out
            obtain ⟨y0, y1⟩ := Y3.out
            go_wp2_with fail
            refine (toCoins_walk c u N up hc hu hN64 _).mono ?_
            rintro e w4 ⟨rfl, b4⟩
            rw [V5.out]
            have X4 := hid (X3.out.below b4)
            have Y4 := hid (Y3.out.below b4)
            have B4 := bstep B3 b4
            clear X3 Y3 B3 b4 x0 x1 y0 y1
            obtain ⟨x0, x1⟩ := X4.out
            obtain ⟨y0, y1⟩ := Y4.out
            go_wp2_with fail
            refine (toCoins_walk c u (N + K) up hc hu hNM _).mono ?_
            rintro e w5 ⟨rfl, b5⟩
            rw [V6.out]
            have X5 := hid (X4.out.below b5)
            have Y5 := hid (Y4.out.below b5)
            have B5 := bstep B4 b5
            clear X4 Y4 B4 b5 x0 x1 y0 y1
            obtain ⟨x0, x1⟩ := X5.out
            obtain ⟨y0, y1⟩ := Y5.out
            go_wp2_with fail
            refine ((R _).out).mono ?_
            rintro e w6 ⟨rfl, b6⟩
            have X6 := hid (X5.out.below b6)
            have Y6 := hid (Y5.out.below b6)
            have B6 := bstep B5 b6
            clear X5 Y5 B5 b6 x0 x1 y0 y1
            obtain ⟨x0, x1⟩ := X6.out
            obtain ⟨y0, y1⟩ := Y6.out
            have SW := hid (Bx2.swap X6.out Y6.out (by omega) B6 (Nat.le_refl _) (by omega))
            simp only at SW
            go_wp2_with fail
            generalize ((((w6.setCell ⟨w.heap.size, 0, none⟩ (.int .u64 (d : Int))).setCell ⟨w.heap.size, 1, none⟩ (.int .u64 (v : Int))).setCell ⟨w.heap.size + 1, 0, none⟩ (.int .u64 (c : Int))).setCell ⟨w.heap.size + 1, 1, none⟩ (.int .u64 (u : Int))) = w7 at *
            obtain ⟨X7, Y7, B7⟩ := SW.out
            clear SW X6 Y6 B6 x0 x1 y0 y1
            refine (toCoins_walk d v N up hd hv hN64 _).mono ?_
            rintro e w8 ⟨rfl, b8⟩
            rw [V7.out]
            have X8 := hid (X7.below b8)
            have Y8 := hid (Y7.below b8)
            have B8 := bstep B7 b8
            clear X7 Y7 B7 b8
            obtain ⟨x0, x1⟩ := X8.out
            obtain ⟨y0, y1⟩ := Y8.out
            go_wp2_with fail
            refine (toCoins_walk c u N up hc hu hN64 _).mono ?_
            rintro e w9 ⟨rfl, b9⟩
            rw [V8.out]
            have X9 := hid (X8.out.below b9)
            have Y9 := hid (Y8.out.below b9)
            have B9 := bstep B8 b9
            clear X8 Y8 B8 b9 x0 x1 y0 y1
            obtain ⟨x0, x1⟩ := X9.out
            obtain ⟨y0, y1⟩ := Y9.out
            go_wp2
            go_ret
            exact ⟨rfl, B9⟩
          · have V8 := hid (T1.trans (partV_no hu0 f2))
            obtain ⟨xb, eb, S3'⟩ := S2
            have V7 := hid S3'
            clear T1 T2 T3 mono rate hu0 hv0 f1 f2
            generalize partN (N + K) c u up = pb at *
            generalize partN N c u up = pa at *
            generalize partN N d v up = pd at *
            have B0 := ((Below.refl w.heap.size w).alloc (Nat.le_refl _) (.cells #[.int .u64 (c : Int), .int .u64 (u : Int)] 24)).alloc (by simp) (.cells #[.int .u64 (d : Int), .int .u64 (v : Int)] 24)
            have X0 := hid ((Bx2.new w c u 24).below ((Below.refl _ _).alloc (Nat.le_refl _) (.cells #[.int .u64 (d : Int), .int .u64 (v : Int)] 24)))
            have Y0 := Bx2.new (w.alloc (.cells #[.int .u64 (c : Int), .int .u64 (u : Int)] 24)) d v 24
            rw [show (w.alloc (.cells #[.int .u64 (c : Int), .int .u64 (u : Int)] 24)).heap.size = w.heap.size + 1 by simp] at Y0
            replace Y0 := hid Y0
            go_enter Try.func7, Try.ntmps7
            go_wp2_with fail
            refine (head_walk _).mono ?_
            rintro e w1 ⟨rfl, b1⟩
            have X1 := hid (X0.out.below b1)
            have Y1 := hid (Y0.out.below b1)
            have B1 := bstep B0 b1
            clear X0 Y0 B0 b1
            obtain ⟨x0, x1⟩ := X1.out
            obtain ⟨y0, y1⟩ := Y1.out
            go_wp2_with fail
            refine (check_walk c u _).mono ?_
            rintro e w2 ⟨rfl, b2⟩
            rw [V3.out]
            have X2 := hid (X1.out.below b2)
            have Y2 := hid (Y1.out.below b2)
            have B2 := bstep B1 b2
            clear X1 Y1 B1 b2 x0 x1 y0 y1
            obtain ⟨x0, x1⟩ := X2.out
            obtain ⟨y0, y1⟩ := Y2.out
            go_wp2_with fail
            refine (check_walk d v _).mono ?_
            rintro e w3 ⟨rfl, b3⟩
            rw [V4.out]
            have X3 := hid (X2.out.below b3)
            have Y3 := hid (Y2.out.below b3)
            have B3 := bstep B2 b3
            clear X2 Y2 B2 b3 x0 x1 y0 y1
            obtain ⟨x0, x1⟩ := X3.out
            obtain ⟨y0, y1⟩ := Y3.out
            go_wp2_with fail
            refine (toCoins_walk c u N up hc hu hN64 _).mono ?_
            rintro e w4 ⟨rfl, b4⟩
            rw [V5.out]
            have X4 := hid (X3.out.below b4)
            have Y4 := hid (Y3.out.below b4)
            have B4 := bstep B3 b4
            clear X3 Y3 B3 b4 x0 x1 y0 y1
            obtain ⟨x0, x1⟩ := X4.out
            obtain ⟨y0, y1⟩ := Y4.out
            go_wp2_with fail
            refine (toCoins_walk c u (N + K) up hc hu hNM _).mono ?_
            rintro e w5 ⟨rfl, b5⟩
            rw [V6.out]
            have X5 := hid (X4.out.below b5)
            have Y5 := hid (Y4.out.below b5)
            have B5 := bstep B4 b5
            clear X4 Y4 B4 b5 x0 x1 y0 y1
            obtain ⟨x0, x1⟩ := X5.out
            obtain ⟨y0, y1⟩ := Y5.out
            go_wp2_with fail
            refine ((R _).out).mono ?_
            rintro e w6 ⟨rfl, b6⟩
            have X6 := hid (X5.out.below b6)
            have Y6 := hid (Y5.out.below b6)
            have B6 := bstep B5 b6
            clear X5 Y5 B5 b6 x0 x1 y0 y1
            obtain ⟨x0, x1⟩ := X6.out
            obtain ⟨y0, y1⟩ := Y6.out
            have SW := hid (Bx2.swap X6.out Y6.out (by omega) B6 (Nat.le_refl _) (by omega))
            simp only at SW
            go_wp2_with fail
            generalize ((((w6.setCell ⟨w.heap.size, 0, none⟩ (.int .u64 (d : Int))).setCell ⟨w.heap.size, 1, none⟩ (.int .u64 (v : Int))).setCell ⟨w.heap.size + 1, 0, none⟩ (.int .u64 (c : Int))).setCell ⟨w.heap.size + 1, 1, none⟩ (.int .u64 (u : Int))) = w7 at *
            obtain ⟨X7, Y7, B7⟩ := SW.out
            clear SW X6 Y6 B6 x0 x1 y0 y1
            refine (toCoins_walk d v N up hd hv hN64 _).mono ?_
            rintro e w8 ⟨rfl, b8⟩
            rw [V7.out]
            have X8 := hid (X7.below b8)
            have Y8 := hid (Y7.below b8)
            have B8 := bstep B7 b8
            clear X7 Y7 B7 b8
            obtain ⟨x0, x1⟩ := X8.out
            obtain ⟨y0, y1⟩ := Y8.out
            go_wp2_with fail
            refine (toCoins_walk c u N up hc hu hN64 _).mono ?_
            rintro e w9 ⟨rfl, b9⟩
            rw [V8.out]
            have X9 := hid (X8.out.below b9)
            have Y9 := hid (Y8.out.below b9)
            have B9 := bstep B8 b9
            clear X8 Y8 B8 b9 x0 x1 y0 y1
            obtain ⟨x0, x1⟩ := X9.out
            obtain ⟨y0, y1⟩ := Y9.out
            go_wp2
            go_ret
            exact ⟨rfl, B9⟩
        · have V6 := hid (T2.trans (partV_no hu0 f1))
          obtain ⟨xa, ea, S1'⟩ := S1
          have V5 := hid S1'
          by_cases f2 : partN N c u up < 18446744073709551616
          · have V8 := hid (T1.trans (partV_yes hu0 f2))
            have V7 := hid (T3.trans (partV_yes hv0 (Nat.lt_of_le_of_lt rate f2)))
            have t2 : decide (partN N d v up ≤ partN N c u up) = true := by rw [decide_eq_true_eq]; omega
            clear T1 T2 T3 mono rate hu0 hv0 f1 f2
            generalize partN (N + K) c u up = pb at *
            generalize partN N c u up = pa at *
            generalize partN N d v up = pd at *
            have B0 := ((Below.refl w.heap.size w).alloc (Nat.le_refl _) (.cells #[.int .u64 (c : Int), .int .u64 (u : Int)] 24)).alloc (by simp) (.cells #[.int .u64 (d : Int), .int .u64 (v : Int)] 24)
            have X0 := hid ((Bx2.new w c u 24).below ((Below.refl _ _).alloc (Nat.le_refl _) (.cells #[.int .u64 (d : Int), .int .u64 (v : Int)] 24)))
            have Y0 := Bx2.new (w.alloc (.cells #[.int .u64 (c : Int), .int .u64 (u : Int)] 24)) d v 24
            rw [show (w.alloc (.cells #[.int .u64 (c : Int), .int .u64 (u : Int)] 24)).heap.size = w.heap.size + 1 by simp] at Y0
            replace Y0 := hid Y0
            go_enter Try.func7, Try.ntmps7
            go_wp2_with fail
            refine (head_walk _).mono ?_
            rintro e w1 ⟨rfl, b1⟩
            have X1 := hid (X0.out.below b1)
            have Y1 := hid (Y0.out.below b1)
            have B1 := bstep B0 b1
            clear X0 Y0 B0 b1
            obtain ⟨x0, x1⟩ := X1.out
            obtain ⟨y0, y1⟩ := Y1.out
            go_wp2_with fail
            refine (check_walk c u _).mono ?_
            rintro e w2 ⟨rfl, b2⟩
            rw [V3.out]
            have X2 := hid (X1.out.below b2)
            have Y2 := hid (Y1.out.below b2)
            have B2 := bstep B1 b2
            clear X1 Y1 B1 b2 x0 x1 y0 y1
            obtain ⟨x0, x1⟩ := X2.out
            obtain ⟨y0, y1⟩ := Y2.out
            go_wp2_with fail
            refine (check_walk d v _).mono ?_
            rintro e w3 ⟨rfl, b3⟩
            rw [V4.out]
            have X3 := hid (X2.out.below b3)
            have Y3 := hid (Y2.out.below b3)
            have B3 := bstep B2 b3
            clear X2 Y2 B2 b3 x0 x1 y0 y1
            obtain ⟨x0, x1⟩ := X3.out
            obtain ⟨y0, y1⟩ := Y3.out
            go_wp2_with fail
            refine (toCoins_walk c u N up hc hu hN64 _).mono ?_
            rintro e w4 ⟨rfl, b4⟩
            rw [V5.out]
            have X4 := hid (X3.out.below b4)
            have Y4 := hid (Y3.out.below b4)
            have B4 := bstep B3 b4
            clear X3 Y3 B3 b4 x0 x1 y0 y1
            obtain ⟨x0, x1⟩ := X4.out
            obtain ⟨y0, y1⟩ := Y4.out
            go_wp2_with fail
            refine (toCoins_walk c u (N + K) up hc hu hNM _).mono ?_
            rintro e w5 ⟨rfl, b5⟩
            rw [V6.out]
            have X5 := hid (X4.out.below b5)
            have Y5 := hid (Y4.out.below b5)
            have B5 := bstep B4 b5
            clear X4 Y4 B4 b5 x0 x1 y0 y1
            obtain ⟨x0, x1⟩ := X5.out
            obtain ⟨y0, y1⟩ := Y5.out
            go_wp2_with fail
            refine ((R _).out).mono ?_
            rintro e w6 ⟨rfl, b6⟩
            have X6 := hid (X5.out.below b6)
            have Y6 := hid (Y5.out.below b6)
            have B6 := bstep B5 b6
            clear X5 Y5 B5 b6 x0 x1 y0 y1
            obtain ⟨x0, x1⟩ := X6.out
            obtain ⟨y0, y1⟩ := Y6.out
            have SW := hid (Bx2.swap X6.out Y6.out (by omega) B6 (Nat.le_refl _) (by omega))
            simp only at SW
            go_wp2_with fail
            generalize ((((w6.setCell ⟨w.heap.size, 0, none⟩ (.int .u64 (d : Int))).setCell ⟨w.heap.size, 1, none⟩ (.int .u64 (v : Int))).setCell ⟨w.heap.size + 1, 0, none⟩ (.int .u64 (c : Int))).setCell ⟨w.heap.size + 1, 1, none⟩ (.int .u64 (u : Int))) = w7 at *
            obtain ⟨X7, Y7, B7⟩ := SW.out
            clear SW X6 Y6 B6 x0 x1 y0 y1
            refine (toCoins_walk d v N up hd hv hN64 _).mono ?_
            rintro e w8 ⟨rfl, b8⟩
            rw [V7.out]
            have X8 := hid (X7.below b8)
            have Y8 := hid (Y7.below b8)
            have B8 := bstep B7 b8
            clear X7 Y7 B7 b8
            obtain ⟨x0, x1⟩ := X8.out
            obtain ⟨y0, y1⟩ := Y8.out
            go_wp2_with fail
            refine (toCoins_walk c u N up hc hu hN64 _).mono ?_
            rintro e w9 ⟨rfl, b9⟩
            rw [V8.out]
            have X9 := hid (X8.out.below b9)
            have Y9 := hid (Y8.out.below b9)
            have B9 := bstep B8 b9
            clear X8 Y8 B8 b9 x0 x1 y0 y1
            obtain ⟨x0, x1⟩ := X9.out
            obtain ⟨y0, y1⟩ := Y9.out
            go_wp2
            go_ret
            exact ⟨rfl, B9⟩
          · have V8 := hid (T1.trans (partV_no hu0 f2))
            obtain ⟨xb, eb, S3'⟩ := S2
            have V7 := hid S3'
            clear T1 T2 T3 mono rate hu0 hv0 f1 f2
            generalize partN (N + K) c u up = pb at *
            generalize partN N c u up = pa at *
            generalize partN N d v up = pd at *
            have B0 := ((Below.refl w.heap.size w).alloc (Nat.le_refl _) (.cells #[.int .u64 (c : Int), .int .u64 (u : Int)] 24)).alloc (by simp) (.cells #[.int .u64 (d : Int), .int .u64 (v : Int)] 24)
            have X0 := hid ((Bx2.new w c u 24).below ((Below.refl _ _).alloc (Nat.le_refl _) (.cells #[.int .u64 (d : Int), .int .u64 (v : Int)] 24)))
            have Y0 := Bx2.new (w.alloc (.cells #[.int .u64 (c : Int), .int .u64 (u : Int)] 24)) d v 24
            rw [show (w.alloc (.cells #[.int .u64 (c : Int), .int .u64 (u : Int)] 24)).heap.size = w.heap.size + 1 by simp] at Y0
            replace Y0 := hid Y0
            go_enter Try.func7, Try.ntmps7
            go_wp2_with fail
            refine (head_walk _).mono ?_
            rintro e w1 ⟨rfl, b1⟩
            have X1 := hid (X0.out.below b1)
            have Y1 := hid (Y0.out.below b1)
            have B1 := bstep B0 b1
            clear X0 Y0 B0 b1
            obtain ⟨x0, x1⟩ := X1.out
            obtain ⟨y0, y1⟩ := Y1.out
            go_wp2_with fail
            refine (check_walk c u _).mono ?_
            rintro e w2 ⟨rfl, b2⟩
            rw [V3.out]
            have X2 := hid (X1.out.below b2)
            have Y2 := hid (Y1.out.below b2)
            have B2 := bstep B1 b2
            clear X1 Y1 B1 b2 x0 x1 y0 y1
            obtain ⟨x0, x1⟩ := X2.out
            obtain ⟨y0, y1⟩ := Y2.out
            go_wp2_with fail
            refine (check_walk d v _).mono ?_
            rintro e w3 ⟨rfl, b3⟩
            rw [V4.out]
            have X3 := hid (X2.out.below b3)
            have Y3 := hid (Y2.out.below b3)
            have B3 := bstep B2 b3
            clear X2 Y2 B2 b3 x0 x1 y0 y1
            obtain ⟨x0, x1⟩ := X3.out
            obtain ⟨y0, y1⟩ := Y3.out
            go_wp2_with fail
            refine (toCoins_walk c u N up hc hu hN64 _).mono ?_
            rintro e w4 ⟨rfl, b4⟩
            rw [V5.out]
            have X4 := hid (X3.out.below b4)
            have Y4 := hid (Y3.out.below b4)
            have B4 := bstep B3 b4
            clear X3 Y3 B3 b4 x0 x1 y0 y1
            obtain ⟨x0, x1⟩ := X4.out
            obtain ⟨y0, y1⟩ := Y4.out
            go_wp2_with fail
            refine (toCoins_walk c u (N + K) up hc hu hNM _).mono ?_
            rintro e w5 ⟨rfl, b5⟩
            rw [V6.out]
            have X5 := hid (X4.out.below b5)
            have Y5 := hid (Y4.out.below b5)
            have B5 := bstep B4 b5
            clear X4 Y4 B4 b5 x0 x1 y0 y1
            obtain ⟨x0, x1⟩ := X5.out
            obtain ⟨y0, y1⟩ := Y5.out
            go_wp2_with fail
            refine ((R _).out).mono ?_
            rintro e w6 ⟨rfl, b6⟩
            have X6 := hid (X5.out.below b6)
            have Y6 := hid (Y5.out.below b6)
            have B6 := bstep B5 b6
            clear X5 Y5 B5 b6 x0 x1 y0 y1
            obtain ⟨x0, x1⟩ := X6.out
            obtain ⟨y0, y1⟩ := Y6.out
            have SW := hid (Bx2.swap X6.out Y6.out (by omega) B6 (Nat.le_refl _) (by omega))
            simp only at SW
            go_wp2_with fail
            generalize ((((w6.setCell ⟨w.heap.size, 0, none⟩ (.int .u64 (d : Int))).setCell ⟨w.heap.size, 1, none⟩ (.int .u64 (v : Int))).setCell ⟨w.heap.size + 1, 0, none⟩ (.int .u64 (c : Int))).setCell ⟨w.heap.size + 1, 1, none⟩ (.int .u64 (u : Int))) = w7 at *
            obtain ⟨X7, Y7, B7⟩ := SW.out
            clear SW X6 Y6 B6 x0 x1 y0 y1
            refine (toCoins_walk d v N up hd hv hN64 _).mono ?_
            rintro e w8 ⟨rfl, b8⟩
            rw [V7.out]
            have X8 := hid (X7.below b8)
            have Y8 := hid (Y7.below b8)
            have B8 := bstep B7 b8
            clear X7 Y7 B7 b8
            obtain ⟨x0, x1⟩ := X8.out
            obtain ⟨y0, y1⟩ := Y8.out
            go_wp2_with fail
            refine (toCoins_walk c u N up hc hu hN64 _).mono ?_
            rintro e w9 ⟨rfl, b9⟩
            rw [V8.out]
            have X9 := hid (X8.out.below b9)
            have Y9 := hid (Y8.out.below b9)
            have B9 := bstep B8 b9
            clear X8 Y8 B8 b9 x0 x1 y0 y1
            obtain ⟨x0, x1⟩ := X9.out
            obtain ⟨y0, y1⟩ := Y9.out
            go_wp2
            go_ret
            exact ⟨rfl, B9⟩
      · have tR : decide (r > 0) = false := decide_eq_false hr
        replace rate := rate' hr
        clear rate' hr
        by_cases f1 : partN (N + K) c u up < 18446744073709551616
        · have V6 := hid (T2.trans (partV_yes hu0 f1))
          have V5 := hid (T1.trans (partV_yes hu0 (Nat.lt_of_le_of_lt mono f1)))
          have t1 : decide (partN (N + K) c u up < partN N c u up) = false := by rw [decide_eq_false_iff_not]; omega
          by_cases f2 : partN N d v up < 18446744073709551616
          · have V8 := hid (T3.trans (partV_yes hv0 f2))
            have V7 := hid (T1.trans (partV_yes hu0 (Nat.lt_of_le_of_lt rate f2)))
            have t2 : decide (partN N c u up ≤ partN N d v up) = true := by rw [decide_eq_true_eq]; omega
            clear T1 T2 T3 mono rate hu0 hv0 f1 f2
            generalize partN (N + K) c u up = pb at *
            generalize partN N c u up = pa at *
            generalize partN N d v up = pd at *
            have B0 := ((Below.refl w.heap.size w).alloc (Nat.le_refl _) (.cells #[.int .u64 (c : Int), .int .u64 (u : Int)] 24)).alloc (by simp) (.cells #[.int .u64 (d : Int), .int .u64 (v : Int)] 24)
            have X0 := hid ((Bx2.new w c u 24).below ((Below.refl _ _).alloc (Nat.le_refl _) (.cells #[.int .u64 (d : Int), .int .u64 (v : Int)] 24)))
            have Y0 := Bx2.new (w.alloc (.cells #[.int .u64 (c : Int), .int .u64 (u : Int)] 24)) d v 24
            rw [show (w.alloc (.cells #[.int .u64 (c : Int), .int .u64 (u : Int)] 24)).heap.size = w.heap.size + 1 by simp] at Y0
            replace Y0 := hid Y0
            go_enter Try.func7, Try.ntmps7
            go_wp2_with fail
            refine (head_walk _).mono ?_
            rintro e w1 ⟨rfl, b1⟩
            have X1 := hid (X0.out.below b1)
            have Y1 := hid (Y0.out.below b1)
            have B1 := bstep B0 b1
            clear X0 Y0 B0 b1
            obtain ⟨x0, x1⟩ := X1.out
            obtain ⟨y0, y1⟩ := Y1.out
            go_wp2_with fail
            refine (check_walk c u _).mono ?_
            rintro e w2 ⟨rfl, b2⟩
            rw [V3.out]
            have X2 := hid (X1.out.below b2)
            have Y2 := hid (Y1.out.below b2)
            have B2 := bstep B1 b2
            clear X1 Y1 B1 b2 x0 x1 y0 y1
            obtain ⟨x0, x1⟩ := X2.out
            obtain ⟨y0, y1⟩ := Y2.out
            go_wp2_with fail
            refine (check_walk d v _).mono ?_
            rintro e w3 ⟨rfl, b3⟩
            rw [V4.out]
            have X3 := hid (X2.out.below b3)
            have Y3 := hid (Y2.out.below b3)
            have B3 := bstep B2 b3
            clear X2 Y2 B2 b3 x0 x1 y0 y1
            obtain ⟨x0, x1⟩ := X3.out
            obtain ⟨y0, y1⟩ := Y3.out
            go_wp2_with fail
            refine (toCoins_walk c u N up hc hu hN64 _).mono ?_
            rintro e w4 ⟨rfl, b4⟩
            rw [V5.out]
            have X4 := hid (X3.out.below b4)
            have Y4 := hid (Y3.out.below b4)
            have B4 := bstep B3 b4
            clear X3 Y3 B3 b4 x0 x1 y0 y1
            obtain ⟨x0, x1⟩ := X4.out
            obtain ⟨y0, y1⟩ := Y4.out
            go_wp2_with fail
            refine (toCoins_walk c u (N + K) up hc hu hNM _).mono ?_
            rintro e w5 ⟨rfl, b5⟩
            rw [V6.out]
            have X5 := hid (X4.out.below b5)
            have Y5 := hid (Y4.out.below b5)
            have B5 := bstep B4 b5
            clear X4 Y4 B4 b5 x0 x1 y0 y1
            obtain ⟨x0, x1⟩ := X5.out
            obtain ⟨y0, y1⟩ := Y5.out
            go_wp2_with fail
            refine ((R _).out).mono ?_
            rintro e w6 ⟨rfl, b6⟩
            have X6 := hid (X5.out.below b6)
            have Y6 := hid (Y5.out.below b6)
            have B6 := bstep B5 b6
            clear X5 Y5 B5 b6 x0 x1 y0 y1
            obtain ⟨x0, x1⟩ := X6.out
            obtain ⟨y0, y1⟩ := Y6.out
            go_wp2_with fail
            refine (toCoins_walk c u N up hc hu hN64 _).mono ?_
            rintro e w7 ⟨rfl, b7⟩
            rw [V7.out]
            have X7 := hid (X6.out.below b7)
            have Y7 := hid (Y6.out.below b7)
            have B7 := bstep B6 b7
            clear X6 Y6 B6 b7 x0 x1 y0 y1
            obtain ⟨x0, x1⟩ := X7.out
            obtain ⟨y0, y1⟩ := Y7.out
            go_wp2_with fail
            refine (toCoins_walk d v N up hd hv hN64 _).mono ?_
            rintro e w8 ⟨rfl, b8⟩
            rw [V8.out]
            have X8 := hid (X7.out.below b8)
            have Y8 := hid (Y7.out.below b8)
            have B8 := bstep B7 b8
            clear X7 Y7 B7 b8 x0 x1 y0 y1
            obtain ⟨x0, x1⟩ := X8.out
            obtain ⟨y0, y1⟩ := Y8.out
            go_wp2
            go_ret
            exact ⟨rfl, B8⟩
          · have V8 := hid (T3.trans (partV_no hv0 f2))
            obtain ⟨xb, eb, S3'⟩ := S1
            have V7 := hid S3'
            clear T1 T2 T3 mono rate hu0 hv0 f1 f2
            generalize partN (N + K) c u up = pb at *
            generalize partN N c u up = pa at *
            generalize partN N d v up = pd at *
            have B0 := ((Below.refl w.heap.size w).alloc (Nat.le_refl _) (.cells #[.int .u64 (c : Int), .int .u64 (u : Int)] 24)).alloc (by simp) (.cells #[.int .u64 (d : Int), .int .u64 (v : Int)] 24)
            have X0 := hid ((Bx2.new w c u 24).below ((Below.refl _ _).alloc (Nat.le_refl _) (.cells #[.int .u64 (d : Int), .int .u64 (v : Int)] 24)))
            have Y0 := Bx2.new (w.alloc (.cells #[.int .u64 (c : Int), .int .u64 (u : Int)] 24)) d v 24
            rw [show (w.alloc (.cells #[.int .u64 (c : Int), .int .u64 (u : Int)] 24)).heap.size = w.heap.size + 1 by simp] at Y0
            replace Y0 := hid Y0
            go_enter Try.func7, Try.ntmps7
            go_wp2_with fail
            refine (head_walk _).mono ?_
            rintro e w1 ⟨rfl, b1⟩
            have X1 := hid (X0.out.below b1)
            have Y1 := hid (Y0.out.below b1)
            have B1 := bstep B0 b1
            clear X0 Y0 B0 b1
            obtain ⟨x0, x1⟩ := X1.out
            obtain ⟨y0, y1⟩ := Y1.out
            go_wp2_with fail
            refine (check_walk c u _).mono ?_
            rintro e w2 ⟨rfl, b2⟩
            rw [V3.out]
            have X2 := hid (X1.out.below b2)
            have Y2 := hid (Y1.out.below b2)
            have B2 := bstep B1 b2
            clear X1 Y1 B1 b2 x0 x1 y0 y1
            obtain ⟨x0, x1⟩ := X2.out
            obtain ⟨y0, y1⟩ := Y2.out
            go_wp2_with fail
            refine (check_walk d v _).mono ?_
            rintro e w3 ⟨rfl, b3⟩
            rw [V4.out]
            have X3 := hid (X2.out.below b3)
            have Y3 := hid (Y2.out.below b3)
            have B3 := bstep B2 b3
            clear X2 Y2 B2 b3 x0 x1 y0 y1
            obtain ⟨x0, x1⟩ := X3.out
            obtain ⟨y0, y1⟩ := Y3.out
            go_wp2_with fail
            refine (toCoins_walk c u N up hc hu hN64 _).mono ?_
            rintro e w4 ⟨rfl, b4⟩
            rw [V5.out]
            have X4 := hid (X3.out.below b4)
            have Y4 := hid (Y3.out.below b4)
            have B4 := bstep B3 b4
            clear X3 Y3 B3 b4 x0 x1 y0 y1
            obtain ⟨x0, x1⟩ := X4.out
            obtain ⟨y0, y1⟩ := Y4.out
            go_wp2_with fail
            refine (toCoins_walk c u (N + K) up hc hu hNM _).mono ?_
            rintro e w5 ⟨rfl, b5⟩
            rw [V6.out]
            have X5 := hid (X4.out.below b5)
            have Y5 := hid (Y4.out.below b5)
            have B5 := bstep B4 b5
            clear X4 Y4 B4 b5 x0 x1 y0 y1
            obtain ⟨x0, x1⟩ := X5.out
            obtain ⟨y0, y1⟩ := Y5.out
            go_wp2_with fail
            refine ((R _).out).mono ?_
            rintro e w6 ⟨rfl, b6⟩
            have X6 := hid (X5.out.below b6)
            have Y6 := hid (Y5.out.below b6)
            have B6 := bstep B5 b6
            clear X5 Y5 B5 b6 x0 x1 y0 y1
            obtain ⟨x0, x1⟩ := X6.out
            obtain ⟨y0, y1⟩ := Y6.out
            go_wp2_with fail
            refine (toCoins_walk c u N up hc hu hN64 _).mono ?_
            rintro e w7 ⟨rfl, b7⟩
            rw [V7.out]
            have X7 := hid (X6.out.below b7)
            have Y7 := hid (Y6.out.below b7)
            have B7 := bstep B6 b7
            clear X6 Y6 B6 b7 x0 x1 y0 y1
            obtain ⟨x0, x1⟩ := X7.out
            obtain ⟨y0, y1⟩ := Y7.out
            go_wp2_with fail
            refine (toCoins_walk d v N up hd hv hN64 _).mono ?_
            rintro e w8 ⟨rfl, b8⟩
            rw [V8.out]
            have X8 := hid (X7.out.below b8)
            have Y8 := hid (Y7.out.below b8)
            have B8 := bstep B7 b8
            clear X7 Y7 B7 b8 x0 x1 y0 y1
            obtain ⟨x0, x1⟩ := X8.out
            obtain ⟨y0, y1⟩ := Y8.out
            go_wp2
            go_ret
            exact ⟨rfl, B8⟩
        · have V6 := hid (T2.trans (partV_no hu0 f1))
          obtain ⟨xa, ea, S1'⟩ := S1
          have V5 := hid S1'
          by_cases f2 : partN N d v up < 18446744073709551616
          · have V8 := hid (T3.trans (partV_yes hv0 f2))
            have V7 := hid (T1.trans (partV_yes hu0 (Nat.lt_of_le_of_lt rate f2)))
            have t2 : decide (partN N c u up ≤ partN N d v up) = true := by rw [decide_eq_true_eq]; omega
            clear T1 T2 T3 mono rate hu0 hv0 f1 f2
            generalize partN (N + K) c u up = pb at *
            generalize partN N c u up = pa at *
            generalize partN N d v up = pd at *
            have B0 := ((Below.refl w.heap.size w).alloc (Nat.le_refl _) (.cells #[.int .u64 (c : Int), .int .u64 (u : Int)] 24)).alloc (by simp) (.cells #[.int .u64 (d : Int), .int .u64 (v : Int)] 24)
            have X0 := hid ((Bx2.new w c u 24).below ((Below.refl _ _).alloc (Nat.le_refl _) (.cells #[.int .u64 (d : Int), .int .u64 (v : Int)] 24)))
            have Y0 := Bx2.new (w.alloc (.cells #[.int .u64 (c : Int), .int .u64 (u : Int)] 24)) d v 24
            rw [show (w.alloc (.cells #[.int .u64 (c : Int), .int .u64 (u : Int)] 24)).heap.size = w.heap.size + 1 by simp] at Y0
            replace Y0 := hid Y0
            go_enter Try.func7, Try.ntmps7
            go_wp2_with fail
            refine (head_walk _).mono ?_
            rintro e w1 ⟨rfl, b1⟩
            have X1 := hid (X0.out.below b1)
            have Y1 := hid (Y0.out.below b1)
            have B1 := bstep B0 b1
            clear X0 Y0 B0 b1
            obtain ⟨x0, x1⟩ := X1.out
            obtain ⟨y0, y1⟩ := Y1.out
            go_wp2_with fail
            refine (check_walk c u _).mono ?_
            rintro e w2 ⟨rfl, b2⟩
            rw [V3.out]
            have X2 := hid (X1.out.below b2)
            have Y2 := hid (Y1.out.below b2)
            have B2 := bstep B1 b2
            clear X1 Y1 B1 b2 x0 x1 y0 y1
            obtain ⟨x0, x1⟩ := X2.out
            obtain ⟨y0, y1⟩ := Y2.out
            go_wp2_with fail
            refine (check_walk d v _).mono ?_
            rintro e w3 ⟨rfl, b3⟩
            rw [V4.out]
            have X3 := hid (X2.out.below b3)
            have Y3 := hid (Y2.out.below b3)
            have B3 := bstep B2 b3
            clear X2 Y2 B2 b3 x0 x1 y0 y1
            obtain ⟨x0, x1⟩ := X3.out
            obtain ⟨y0, y1⟩ := Y3.out
            go_wp2_with fail
            refine (toCoins_walk c u N up hc hu hN64 _).mono ?_
            rintro e w4 ⟨rfl, b4⟩
            rw [V5.out]
            have X4 := hid (X3.out.below b4)
            have Y4 := hid (Y3.out.below b4)
            have B4 := bstep B3 b4
            clear X3 Y3 B3 b4 x0 x1 y0 y1
            obtain ⟨x0, x1⟩ := X4.out
            obtain ⟨y0, y1⟩ := Y4.out
            go_wp2_with fail
            refine (toCoins_walk c u (N + K) up hc hu hNM _).mono ?_
            rintro e w5 ⟨rfl, b5⟩
            rw [V6.out]
            have X5 := hid (X4.out.below b5)
            have Y5 := hid (Y4.out.below b5)
            have B5 := bstep B4 b5
            clear X4 Y4 B4 b5 x0 x1 y0 y1
            obtain ⟨x0, x1⟩ := X5.out
            obtain ⟨y0, y1⟩ := Y5.out
            go_wp2_with fail
            refine ((R _).out).mono ?_
            rintro e w6 ⟨rfl, b6⟩
            have X6 := hid (X5.out.below b6)
            have Y6 := hid (Y5.out.below b6)
            have B6 := bstep B5 b6
            clear X5 Y5 B5 b6 x0 x1 y0 y1
            obtain ⟨x0, x1⟩ := X6.out
            obtain ⟨y0, y1⟩ := Y6.out
            go_wp2_with fail
            refine (toCoins_walk c u N up hc hu hN64 _).mono ?_
            rintro e w7 ⟨rfl, b7⟩
            rw [V7.out]
            have X7 := hid (X6.out.below b7)
            have Y7 := hid (Y6.out.below b7)
            have B7 := bstep B6 b7
            clear X6 Y6 B6 b7 x0 x1 y0 y1
            obtain ⟨x0, x1⟩ := X7.out
            obtain ⟨y0, y1⟩ := Y7.out
            go_wp2_with fail
            refine (toCoins_walk d v N up hd hv hN64 _).mono ?_
            rintro e w8 ⟨rfl, b8⟩
            rw [V8.out]
            have X8 := hid (X7.out.below b8)
            have Y8 := hid (Y7.out.below b8)
            have B8 := bstep B7 b8
            clear X7 Y7 B7 b8 x0 x1 y0 y1
            obtain ⟨x0, x1⟩ := X8.out
            obtain ⟨y0, y1⟩ := Y8.out
            go_wp2
            go_ret
            exact ⟨rfl, B8⟩
          · have V8 := hid (T3.trans (partV_no hv0 f2))
            have V7 := hid S1'
            clear T1 T2 T3 mono rate hu0 hv0 f1 f2
            generalize partN (N + K) c u up = pb at *
            generalize partN N c u up = pa at *
            generalize partN N d v up = pd at *
            have B0 := ((Below.refl w.heap.size w).alloc (Nat.le_refl _) (.cells #[.int .u64 (c : Int), .int .u64 (u : Int)] 24)).alloc (by simp) (.cells #[.int .u64 (d : Int), .int .u64 (v : Int)] 24)
            have X0 := hid ((Bx2.new w c u 24).below ((Below.refl _ _).alloc (Nat.le_refl _) (.cells #[.int .u64 (d : Int), .int .u64 (v : Int)] 24)))
            have Y0 := Bx2.new (w.alloc (.cells #[.int .u64 (c : Int), .int .u64 (u : Int)] 24)) d v 24
            rw [show (w.alloc (.cells #[.int .u64 (c : Int), .int .u64 (u : Int)] 24)).heap.size = w.heap.size + 1 by simp] at Y0
            replace Y0 := hid Y0
            go_enter Try.func7, Try.ntmps7
            go_wp2_with fail
            refine (head_walk _).mono ?_
            rintro e w1 ⟨rfl, b1⟩
            have X1 := hid (X0.out.below b1)
            have Y1 := hid (Y0.out.below b1)
            have B1 := bstep B0 b1
            clear X0 Y0 B0 b1
            obtain ⟨x0, x1⟩ := X1.out
            obtain ⟨y0, y1⟩ := Y1.out
            go_wp2_with fail
            refine (check_walk c u _).mono ?_
            rintro e w2 ⟨rfl, b2⟩
            rw [V3.out]
            have X2 := hid (X1.out.below b2)
            have Y2 := hid (Y1.out.below b2)
            have B2 := bstep B1 b2
            clear X1 Y1 B1 b2 x0 x1 y0 y1
            obtain ⟨x0, x1⟩ := X2.out
            obtain ⟨y0, y1⟩ := Y2.out
            go_wp2_with fail
            refine (check_walk d v _).mono ?_
            rintro e w3 ⟨rfl, b3⟩
            rw [V4.out]
            have X3 := hid (X2.out.below b3)
            have Y3 := hid (Y2.out.below b3)
            have B3 := bstep B2 b3
            clear X2 Y2 B2 b3 x0 x1 y0 y1
            obtain ⟨x0, x1⟩ := X3.out
            obtain ⟨y0, y1⟩ := Y3.out
            go_wp2_with fail
            refine (toCoins_walk c u N up hc hu hN64 _).mono ?_
            rintro e w4 ⟨rfl, b4⟩
            rw [V5.out]
            have X4 := hid (X3.out.below b4)
            have Y4 := hid (Y3.out.below b4)
            have B4 := bstep B3 b4
            clear X3 Y3 B3 b4 x0 x1 y0 y1
            obtain ⟨x0, x1⟩ := X4.out
            obtain ⟨y0, y1⟩ := Y4.out
            go_wp2_with fail
            refine (toCoins_walk c u (N + K) up hc hu hNM _).mono ?_
            rintro e w5 ⟨rfl, b5⟩
            rw [V6.out]
            have X5 := hid (X4.out.below b5)
            have Y5 := hid (Y4.out.below b5)
            have B5 := bstep B4 b5
            clear X4 Y4 B4 b5 x0 x1 y0 y1
            obtain ⟨x0, x1⟩ := X5.out
            obtain ⟨y0, y1⟩ := Y5.out
            go_wp2_with fail
            refine ((R _).out).mono ?_
            rintro e w6 ⟨rfl, b6⟩
            have X6 := hid (X5.out.below b6)
            have Y6 := hid (Y5.out.below b6)
            have B6 := bstep B5 b6
            clear X5 Y5 B5 b6 x0 x1 y0 y1
            obtain ⟨x0, x1⟩ := X6.out
            obtain ⟨y0, y1⟩ := Y6.out
            go_wp2_with fail
            refine (toCoins_walk c u N up hc hu hN64 _).mono ?_
            rintro e w7 ⟨rfl, b7⟩
            rw [V7.out]
            have X7 := hid (X6.out.below b7)
            have Y7 := hid (Y6.out.below b7)
            have B7 := bstep B6 b7
            clear X6 Y6 B6 b7 x0 x1 y0 y1
            obtain ⟨x0, x1⟩ := X7.out
            obtain ⟨y0, y1⟩ := Y7.out
            go_wp2_with fail
            refine (toCoins_walk d v N up hd hv hN64 _).mono ?_
            rintro e w8 ⟨rfl, b8⟩
            rw [V8.out]
            have X8 := hid (X7.out.below b8)
            have Y8 := hid (Y7.out.below b8)
            have B8 := bstep B7 b8
            clear X7 Y7 B7 b8 x0 x1 y0 y1
            obtain ⟨x0, x1⟩ := X8.out
            obtain ⟨y0, y1⟩ := Y8.out
            go_wp2
            go_ret
            exact ⟨rfl, B8⟩
end Go.Proofs.Ytjnbikdapjfcgaa

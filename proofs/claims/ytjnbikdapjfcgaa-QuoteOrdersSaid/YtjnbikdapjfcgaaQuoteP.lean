/- The walk of the statement QuotePays. -/
import Derived.Test.YtjnbikdapjfcgaaQuoteB
import Derived.Deep.RegionHeld3
namespace Go.Proofs.Ytjnbikdapjfcgaa
open Go.RowKit

set_option maxHeartbeats 400000 in
theorem product_walk (a b : Nat) (ha : a < 18446744073709551616) (hb : b < 18446744073709551616) (w : World) :
    Calls Try.prog 11 #[.int .u64 a, .int .u64 b] w (ResD w (a * b)) := by
  go_enter Try.func11, Try.ntmps11
  go_wp2_with fail
  refine (of_walk a ha _).mono ?_
  rintro e w1 ⟨v1, x1, rfl, d1, ⟨a1, c1, rfl, s1⟩, b1⟩
  go_wp2_with fail
  refine (of_walk b hb _).mono ?_
  rintro e w2 ⟨v2, x2, rfl, d2, ⟨a2, c2, rfl, s2⟩, b2⟩
  go_wp2_with fail
  have l1 := d1.len8 ha
  have l2 := d2.len8 hb
  refine (mul_walk a1 a2 _ _ _ _ a b x1 x2 (by omega) (by omega) _ (s1.below b2) d1 s2 d2).mono ?_
  rintro e w3 ⟨v3, x3, rfl, d3, s3, b3⟩
  have bb := bstep (bstep b1 b2) b3
  clear b1 b2 b3 l1 l2 d1 d2 s1 s2
  go_wp2
  go_ret
  exact ⟨v3, x3, rfl, d3, s3, bb⟩
theorem cell_below {u v : World} {p : Addr} {x : Value} (h : Below u.heap.size u v) (hc : u.cell? p = some x) : v.cell? p = some x := (h.cell (World.block_lt_of_cell? u _ hc)).trans hc
theorem cmp_ge (x y : Nat) : decide (cmpI x y ≥ 0) = decide (y ≤ x) := by
  unfold cmpI
  rw [decide_eq_decide]
  split
  · constructor <;> intro <;> omega
  · split <;> constructor <;> intro <;> omega
def cmpS (w : World) (x y : Nat) (e : Ending) (w' : World) : Prop := e = .returned (.int .i64 (cmpI x y)) ∧ Below w.heap.size w w'
theorem cmp_prod {a a' : Option Addr} {c c' x y : Nat} {xs ys : List Nat} {u v : World} (hx : x < 18446744073709551616 * 18446744073709551616) (hy : y < 18446744073709551616 * 18446744073709551616) (s : Sl .i64 u a xs.length c xs) (d : Dig xs x) (b : Below u.heap.size u v) (s' : Sl .i64 v a' ys.length c' ys) (d' : Dig ys y) :
    Calls Try.prog 10 #[.slice a xs.length c, .slice a' ys.length c'] v (cmpS v x y) := by
  have l1 := d.len16 hx
  have l2 := d'.len16 hy
  exact (cmp_walk a a' _ _ _ _ x y xs ys (by omega) (by omega) v (s.below b) d s' d').mono fun e w' ⟨he, hq⟩ => ⟨he, hq.below _⟩
set_option maxRecDepth 100000 in
set_option maxHeartbeats 4000000 in
theorem lawQPays (c u n d : Nat) (hc : c < 18446744073709551616) (hu : u < 18446744073709551616) (hn : n < 18446744073709551616) (hd : d < 18446744073709551616) (w : World) :
    Calls Try.prog 3 #[rateV c u, .int .u64 n, .int .u64 d] w fun e w' => e = .returned (.bool true) ∧ Below w.heap.size w w' := by
  have hp1 := mul_lt128 hn hc
  have hp2 := mul_lt128 hd hu
  have P1 := fun wx => hid (product_walk n c hn hc wx)
  have P2 := fun wx => hid (product_walk d u hd hu wx)
  have hge : decide (0 ≤ cmpI (n * c) (d * u)) = decide (d * u ≤ n * c) := cmp_ge (n * c) (d * u)
  have hle := cmp_le (n * c) (d * u)
  by_cases h : c = 0 ∨ u = 0
  · have V1 := hid (payB_bad (n := n) (d := d) h)
    have V2 := hid (payB_bad (n := d) (d := n) (or_comm.1 h))
    generalize hX : n * c = X at *
    generalize hY : d * u = Y at *
    clear hge hle
    by_cases h0 : c = 0
    · have t1 : decide (0 < c) = false := by rw [decide_eq_false_iff_not]; omega
      clear h h0
      have B0 := (Below.refl w.heap.size w).alloc (Nat.le_refl _) (.cells #[.int .u64 (c : Int), .int .u64 (u : Int)] 24)
      have X0 := hid (Bx2.new w c u 24)
      go_enter Try.func3, Try.ntmps3
      go_wp2_with fail
      refine (head_walk _).mono ?_
      rintro e w1 ⟨rfl, b1⟩
      have X1 := hid (X0.out.below b1)
      have B1 := bstep B0 b1
      clear X0 B0 b1
      obtain ⟨x0, x1, _⟩ := X1.out
      go_wp2_with fail
      go_region_held3 (fun w' => w'.cell? ⟨w.heap.size, 0, none⟩ = some (.int .u64 (c : Int)) ∧ w'.cell? ⟨w.heap.size, 1, none⟩ = some (.int .u64 (u : Int)))
        (first
          | exact ⟨x0, x1⟩
          | exact ⟨cell_below bC (cell_below bB (cell_below bA x0)), cell_below bC (cell_below bB (cell_below bA x1))⟩
          | exact ⟨cell_below bB (cell_below bA x0), cell_below bB (cell_below bA x1)⟩
          | exact ⟨cell_below bA x0, cell_below bA x1⟩)
        (first
          | (go_at_call 11; (with_reducible refine (P1 _).out.mono ?_); rintro e wA ⟨v1, y1, rfl, d1, ⟨a1, c1, rfl, s1⟩, bA⟩)
          | (go_at_call 11; (with_reducible refine (P2 _).out.mono ?_); rintro e wB ⟨v2, y2, rfl, d2, ⟨a2, c2, rfl, s2⟩, bB⟩)
          | (go_at_call 10; (refine (cmp_prod hp1 hp2 s1 d1 bB s2 d2).mono ?_); rintro e wC ⟨rfl, bC⟩))
      have X2 := hid (And.intro (cell_below bC (cell_below bB (cell_below bA x0))) (cell_below bC (cell_below bB (cell_below bA x1))))
      have B2 := bstep (bstep (bstep B1.drew bA) bB) bC
      clear x0 x1 X1 B1 bA bB bC s1 s2 d1 d2
      obtain ⟨x0, x1⟩ := X2.out
      generalize cmpI X Y = r at *
      go_wp2_with fail
      refine (pays_walk c u n d hc hu hn hd _).mono ?_
      rintro e w3 ⟨rfl, b3⟩
      rw [V1.out]
      have X3 := hid (And.intro (cell_below b3 x0) (cell_below b3 x1))
      have B3 := bstep B2 b3
      clear x0 x1 X2 B2 b3
      obtain ⟨x0, x1⟩ := X3.out
      go_wp2_with fail
      refine (buys_walk c u d n hc hu hd hn _).mono ?_
      rintro e w4 ⟨rfl, b4⟩
      rw [V2.out]
      have B4 := bstep B3 b4
      clear x0 x1 X3 B3 b4
      go_wp2
      go_ret
      exact ⟨rfl, B4⟩
    · have t1 : decide (0 < c) = true := by rw [decide_eq_true_eq]; omega
      have t2 : decide (0 < u) = false := by rw [decide_eq_false_iff_not]; omega
      clear h h0
      have B0 := (Below.refl w.heap.size w).alloc (Nat.le_refl _) (.cells #[.int .u64 (c : Int), .int .u64 (u : Int)] 24)
      have X0 := hid (Bx2.new w c u 24)
      go_enter Try.func3, Try.ntmps3
      go_wp2_with fail
      refine (head_walk _).mono ?_
      rintro e w1 ⟨rfl, b1⟩
      have X1 := hid (X0.out.below b1)
      have B1 := bstep B0 b1
      clear X0 B0 b1
      obtain ⟨x0, x1, _⟩ := X1.out
      go_wp2_with fail
      go_region_held3 (fun w' => w'.cell? ⟨w.heap.size, 0, none⟩ = some (.int .u64 (c : Int)) ∧ w'.cell? ⟨w.heap.size, 1, none⟩ = some (.int .u64 (u : Int)))
        (first
          | exact ⟨x0, x1⟩
          | exact ⟨cell_below bC (cell_below bB (cell_below bA x0)), cell_below bC (cell_below bB (cell_below bA x1))⟩
          | exact ⟨cell_below bB (cell_below bA x0), cell_below bB (cell_below bA x1)⟩
          | exact ⟨cell_below bA x0, cell_below bA x1⟩)
        (first
          | (go_at_call 11; (with_reducible refine (P1 _).out.mono ?_); rintro e wA ⟨v1, y1, rfl, d1, ⟨a1, c1, rfl, s1⟩, bA⟩)
          | (go_at_call 11; (with_reducible refine (P2 _).out.mono ?_); rintro e wB ⟨v2, y2, rfl, d2, ⟨a2, c2, rfl, s2⟩, bB⟩)
          | (go_at_call 10; (refine (cmp_prod hp1 hp2 s1 d1 bB s2 d2).mono ?_); rintro e wC ⟨rfl, bC⟩))
      have X2 := hid (And.intro (cell_below bC (cell_below bB (cell_below bA x0))) (cell_below bC (cell_below bB (cell_below bA x1))))
      have B2 := bstep (bstep (bstep B1.drew bA) bB) bC
      clear x0 x1 X1 B1 bA bB bC s1 s2 d1 d2
      obtain ⟨x0, x1⟩ := X2.out
      generalize cmpI X Y = r at *
      go_wp2_with fail
      refine (pays_walk c u n d hc hu hn hd _).mono ?_
      rintro e w3 ⟨rfl, b3⟩
      rw [V1.out]
      have X3 := hid (And.intro (cell_below b3 x0) (cell_below b3 x1))
      have B3 := bstep B2 b3
      clear x0 x1 X2 B2 b3
      obtain ⟨x0, x1⟩ := X3.out
      go_wp2_with fail
      refine (buys_walk c u d n hc hu hd hn _).mono ?_
      rintro e w4 ⟨rfl, b4⟩
      rw [V2.out]
      have B4 := bstep B3 b4
      clear x0 x1 X3 B3 b4
      go_wp2
      go_ret
      exact ⟨rfl, B4⟩
  · have V1 := hid (payB_ok (n := n) (d := d) h)
    have V2 := hid (payB_ok (n := d) (d := n) (c := u) (u := c) (fun k => h (or_comm.1 k)))
    generalize hX : n * c = X at *
    generalize hY : d * u = Y at *
    generalize decide (Y ≤ X) = p at *
    generalize decide (X ≤ Y) = q at *
    have t1 : decide (0 < c) = true := by rw [decide_eq_true_eq]; omega
    have t2 : decide (0 < u) = true := by rw [decide_eq_true_eq]; omega
    clear h
    have B0 := (Below.refl w.heap.size w).alloc (Nat.le_refl _) (.cells #[.int .u64 (c : Int), .int .u64 (u : Int)] 24)
    have X0 := hid (Bx2.new w c u 24)
    go_enter Try.func3, Try.ntmps3
    go_wp2_with fail
    refine (head_walk _).mono ?_
    rintro e w1 ⟨rfl, b1⟩
    have X1 := hid (X0.out.below b1)
    have B1 := bstep B0 b1
    clear X0 B0 b1
    obtain ⟨x0, x1, _⟩ := X1.out
    go_wp2_with fail
    go_region_held3 (fun w' => w'.cell? ⟨w.heap.size, 0, none⟩ = some (.int .u64 (c : Int)) ∧ w'.cell? ⟨w.heap.size, 1, none⟩ = some (.int .u64 (u : Int)))
      (first
        | exact ⟨x0, x1⟩
        | exact ⟨cell_below bC (cell_below bB (cell_below bA x0)), cell_below bC (cell_below bB (cell_below bA x1))⟩
        | exact ⟨cell_below bB (cell_below bA x0), cell_below bB (cell_below bA x1)⟩
        | exact ⟨cell_below bA x0, cell_below bA x1⟩)
      (first
        | (go_at_call 11; (with_reducible refine (P1 _).out.mono ?_); rintro e wA ⟨v1, y1, rfl, d1, ⟨a1, c1, rfl, s1⟩, bA⟩)
        | (go_at_call 11; (with_reducible refine (P2 _).out.mono ?_); rintro e wB ⟨v2, y2, rfl, d2, ⟨a2, c2, rfl, s2⟩, bB⟩)
        | (go_at_call 10; (refine (cmp_prod hp1 hp2 s1 d1 bB s2 d2).mono ?_); rintro e wC ⟨rfl, bC⟩))
    have X2 := hid (And.intro (cell_below bC (cell_below bB (cell_below bA x0))) (cell_below bC (cell_below bB (cell_below bA x1))))
    have B2 := bstep (bstep (bstep B1.drew bA) bB) bC
    clear x0 x1 X1 B1 bA bB bC s1 s2 d1 d2
    obtain ⟨x0, x1⟩ := X2.out
    generalize cmpI X Y = r at *
    go_wp2_with fail
    refine (pays_walk c u n d hc hu hn hd _).mono ?_
    rintro e w3 ⟨rfl, b3⟩
    rw [V1.out]
    have X3 := hid (And.intro (cell_below b3 x0) (cell_below b3 x1))
    have B3 := bstep B2 b3
    clear x0 x1 X2 B2 b3
    obtain ⟨x0, x1⟩ := X3.out
    go_wp2_with fail
    refine (buys_walk c u d n hc hu hd hn _).mono ?_
    rintro e w4 ⟨rfl, b4⟩
    rw [V2.out]
    have B4 := bstep B3 b4
    clear x0 x1 X3 B3 b4
    go_wp2
    go_ret
    exact ⟨rfl, B4⟩
end Go.Proofs.Ytjnbikdapjfcgaa

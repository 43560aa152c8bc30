/- The law's product, and the order of two products. -/
import Derived.Test.YthccjefhlmngbaaDoorRef1e
namespace Go.Proofs.YthccjefhlmngbaaDoor
open Go.RowKit

set_option maxHeartbeats 1000000 in
theorem product21 (x y : Nat) (hx : x < 18446744073709551616) (hy : y < 18446744073709551616) (w : World) :
    Calls Tryd.prog 24 #[.int .u64 x, .int .u64 y] w (ResD w (x * y)) := by
  go_enter Tryd.func24, Tryd.ntmps24
  go_wp2_with (fail)
  refine (of_walk x hx _).mono ?_
  rintro e w1 ⟨v1, y1, rfl, d1, ⟨a1, c1, rfl, s1⟩, b1⟩
  have l1 := d1.len8 hx
  go_wp2_with (fail)
  refine (of_walk y hy _).mono ?_
  rintro e w2 ⟨v2, y2, rfl, d2, ⟨a2, c2, rfl, s2⟩, b2⟩
  have l2 := d2.len8 hy
  go_wp2_with (fail)
  refine (mul_walk a1 a2 _ _ _ _ x y y1 y2 (by omega) (by omega) _ (s1.below b2) d1 s2 d2).mono ?_
  rintro e w3 ⟨v3, y3, rfl, d3, s3, b3⟩
  go_wp2
  go_ret
  exact ⟨v3, y3, rfl, d3, s3, bstep (bstep b1 b2) b3⟩
theorem cmp_pos21 (x y : Nat) : decide (cmpI x y > 0) = decide (y < x) := by
  rw [decide_eq_decide]
  unfold cmpI
  split
  · constructor <;> intro <;> omega
  · split <;> constructor <;> intro <;> omega
theorem cmp_two21 {a a' : Option Addr} {c c' x y : Nat} {xs ys : List Nat} {u u' v : World} (hx : x < 18446744073709551616 * 18446744073709551616) (hy : y < 18446744073709551616 * 18446744073709551616) (s : Sl .i64 u a xs.length c xs) (d : Dig xs x) (b : Below u.heap.size u v) (s' : Sl .i64 u' a' ys.length c' ys) (d' : Dig ys y) (b' : Below u'.heap.size u' v) :
    Calls Tryd.prog 23 #[.slice a xs.length c, .slice a' ys.length c'] v (fun e w' => e = .returned (.int .i64 (cmpI x y)) ∧ Below v.heap.size v w') := by
  have l1 := d.len16 hx
  have l2 := d'.len16 hy
  exact (cmp_walk a a' _ _ _ _ x y xs ys (by omega) (by omega) v (s.below b) d (s'.below b') d').mono fun e w' ⟨he, hq⟩ => ⟨he, hq.below _⟩
end Go.Proofs.YthccjefhlmngbaaDoor

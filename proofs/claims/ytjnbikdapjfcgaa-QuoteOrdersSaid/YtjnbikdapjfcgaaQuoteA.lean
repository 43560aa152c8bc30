/- The walks of the statements of chapter 19: head, QuoteTurns, QuoteBounds, QuoteRound. -/
import Derived.Test.YtjnbikdapjfcgaaQuote
import Derived.Test.YtjnbikdapjfcgaaLawD
namespace Go.Proofs.Ytjnbikdapjfcgaa
open Go.RowKit

def TrueB (w : World) (e : Ending) (w' : World) : Prop := e = .returned (.bool true) ∧ Below w.heap.size w w'
theorem head1 : toV 5 3 2 false = .tuple #[.int .u64 7, .int .i64 0] := rfl
theorem head2 : toV 5 3 2 true = .tuple #[.int .u64 8, .int .i64 0] := rfl
theorem head3 : payB 5 3 7 2 = true := by decide
theorem head4 : payB 5 3 8 2 = false := by decide
set_option maxHeartbeats 400000 in
theorem head_walk (w : World) : Calls Try.prog 9 #[] w (TrueB w) := by
  have bb := (Below.refl w.heap.size w).alloc (Nat.le_refl _) (.cells #[.int .u64 (3 : Nat), .int .u64 (2 : Nat)] 24)
  have X := hid (Bx2.new w 3 2 24)
  have HB := hid bb
  clear bb
  go_enter Try.func9, Try.ntmps9
  go_wp2_with fail
  refine (toCoins_walk 3 2 5 false (by decide) (by decide) (by decide) _).mono ?_
  rintro e w1 ⟨rfl, b1⟩
  rw [head1]
  have X1 := hid (X.out.below b1)
  have B1 := bstep HB.out b1
  obtain ⟨x0, x1⟩ := X1.out
  clear X HB b1
  go_wp2_with fail
  refine (toCoins_walk 3 2 5 true (by decide) (by decide) (by decide) _).mono ?_
  rintro e w2 ⟨rfl, b2⟩
  rw [head2]
  have X2 := hid (X1.out.below b2)
  have B2 := bstep B1 b2
  clear X1 x0 x1 B1 b2
  obtain ⟨x0, x1⟩ := X2.out
  go_wp2_with fail
  refine (pays_walk 3 2 5 7 (by decide) (by decide) (by decide) (by decide) _).mono ?_
  rintro e w3 ⟨rfl, b3⟩
  rw [head3]
  have X3 := hid (X2.out.below b3)
  have B3 := bstep B2 b3
  clear X2 x0 x1 B2 b3
  obtain ⟨x0, x1⟩ := X3.out
  go_wp2_with fail
  refine (pays_walk 3 2 5 8 (by decide) (by decide) (by decide) (by decide) _).mono ?_
  rintro e w4 ⟨rfl, b4⟩
  rw [head4]
  have B4 := bstep B3 b4
  clear X3 x0 x1 B3 b4
  go_wp2
  go_ret
  exact ⟨rfl, B4⟩
end Go.Proofs.Ytjnbikdapjfcgaa

/- The walks of size (the document's example) and of the statement TlvSizes. -/
import Derived.Test.YtfcnpmkpdikgeaaTlvR
namespace Go.Proofs.Ytfcnpmkpdikgeaa
open Go.RowKit

def TrueB (w : World) (e : Ending) (w' : World) : Prop := e = .returned (.bool true) ∧ Below w.heap.size w w'
theorem size253 : size 253 = [253, 0, 253] := by decide
theorem sizefn_walk (w : World) : Calls Try.prog 11 #[] w (TrueB w) := by
  go_enter Try.func11, Try.ntmps11
  go_wp2_with fail
  refine (size_walk 253 (by decide) _).mono ?_
  rintro e w1 ⟨v, rfl, hown, b1⟩
  obtain ⟨a, cap, rfl, s1⟩ := SlV.of_owns hown
  have S1 := hid (sl_lit .u8 w1 #[.int .u8 253, .int .u8 0, .int .u8 253] 5 [253, 0, 253] rfl rfl (by decide))
  have bb := (Below.refl w1.heap.size w1).alloc (Nat.le_refl _) (.cells #[.int .u8 253, .int .u8 0, .int .u8 253] 5)
  have s1' := hid (s1.below bb)
  have bw := bstep b1 bb
  clear s1 hown b1 bb
  go_wp2_with fail
  refine (same_walk _ _ _ _ _ _ _ _ (size_lt 253) (by simp) _ s1'.out S1.out).mono ?_
  rintro e w' ⟨rfl, rfl⟩
  rw [decide_eq_true size253]
  go_wp2
  go_ret
  exact ⟨rfl, bw⟩
theorem lawSizes (x : Nat) (hx : x < 18446744073709551616) (w : World) :
    Calls Try.prog 3 #[.int .u64 x] w fun e w' => e = .returned (.bool true) ∧ Below w.heap.size w w' := by
  go_enter Try.func3, Try.ntmps3
  go_wp2_with fail
  refine (sizefn_walk _).mono ?_
  rintro e w0 ⟨rfl, b0⟩
  go_wp2_with fail
  refine (size_walk x hx _).mono ?_
  rintro e w1 ⟨v, rfl, hown, b1⟩
  obtain ⟨a, cap, rfl, s1⟩ := SlV.of_owns hown
  clear hown
  go_wp2_with fail
  refine (rsize_walk x hx _).mono ?_
  rintro e w2 ⟨v, rfl, hown, b2⟩
  obtain ⟨a2, cap2, rfl, s2⟩ := SlV.of_owns hown
  have bw := bstep (bstep b0 b1) b2
  have s1' := s1.below b2
  clear hown s1 b0 b1 b2
  go_wp2_with fail
  refine (same_walk _ _ _ _ _ _ _ _ (size_lt x) (size_lt x) _ s1' s2).mono ?_
  rintro e w' ⟨rfl, rfl⟩
  rw [decide_eq_true rfl]
  go_wp2
  go_ret
  exact ⟨rfl, bw⟩
end Go.Proofs.Ytfcnpmkpdikgeaa

/- Plain facts on numbers as bytes. -/
import Derived.Test.YtgaidleepjkldaaRdR
namespace Go.Proofs.Ytgaidleepjkldaa
open Go.RowKit

theorem beVal_be (n x : Nat) : beVal (be n x) = x % 256 ^ n := by
  induction n generalizing x with
  | zero => simp [be, beVal, Nat.mod_one]
  | succ n ih =>
    have key : ∀ (l : List Nat) (s : Nat), l.foldl (fun x c => x * 256 + c) s = s * 256 ^ l.length + l.foldl (fun x c => x * 256 + c) 0 := by
      intro l
      induction l with
      | nil => simp
      | cons c r ih =>
        intro s
        simp only [List.foldl_cons, List.length_cons]
        rw [ih (s * 256 + c), ih (0 * 256 + c), Nat.pow_succ]
        generalize 256 ^ r.length = p
        rw [Nat.add_mul, Nat.zero_mul, Nat.zero_add, Nat.mul_assoc, Nat.mul_comm 256 p, Nat.add_assoc]
    show List.foldl _ _ (be (n + 1) x) = _
    rw [be, List.foldl_cons, key, be_length]
    have := ih x
    unfold beVal at this
    rw [this, Nat.zero_mul, Nat.zero_add, Nat.pow_succ, Nat.mod_mul]
    generalize 256 ^ n = p
    rw [Nat.mul_comm, Nat.add_comm]
theorem readS_size (x : Nat) (hx : x < 18446744073709551616) (ys : List Nat) : readS (size x ++ ys) = (x, (size x).length, 0) := by
  unfold size
  split
  · rename_i h
    show readS (x :: ys) = _
    rw [readS_one _ (by unfold folN; (repeat' split) <;> omega)]
    rfl
  · rename_i h1
    split
    · rename_i h2
      show readS (253 :: (be 2 x ++ ys)) = _
      have e : (be 2 x ++ ys).take (folN 253) = be 2 x := List.take_left' (be_length 2 x)
      rw [readS_ok (by decide) (by rw [List.length_append, be_length]; have : folN 253 = 2 := rfl; omega) (by rw [e, beVal_be, show folL 253 = 253 from rfl]; omega), e, beVal_be]
      simp [be_length, folN]
      omega
    · rename_i h2
      split
      · rename_i h3
        show readS (254 :: (be 4 x ++ ys)) = _
        have e : (be 4 x ++ ys).take (folN 254) = be 4 x := List.take_left' (be_length 4 x)
        rw [readS_ok (by decide) (by rw [List.length_append, be_length]; have : folN 254 = 4 := rfl; omega) (by rw [e, beVal_be, show folL 254 = 65536 from rfl]; omega), e, beVal_be]
        simp [be_length, folN]
        omega
      · rename_i h3
        show readS (255 :: (be 8 x ++ ys)) = _
        have e : (be 8 x ++ ys).take (folN 255) = be 8 x := List.take_left' (be_length 8 x)
        rw [readS_ok (by decide) (by rw [List.length_append, be_length]; have : folN 255 = 8 := rfl; omega) (by rw [e, beVal_be, show folL 255 = 4294967296 from rfl]; omega), e, beVal_be]
        simp [be_length, folN]
        omega
theorem readS_cut (x : Nat) (k : Nat) (hk : k < (size x).length) : readS ((size x).take k) = (0, 0, 20) := by
  unfold size at *
  cases k with
  | zero => rfl
  | succ k =>
    split at hk
    · simp at hk
    · rename_i h1
      rw [if_neg h1]
      split at hk
      · rename_i h2
        rw [if_pos h2]
        rw [List.take_succ_cons]
        exact readS_short (by decide) (by simp [be_length, folN] at *; omega)
      · rename_i h2
        rw [if_neg h2]
        split at hk
        · rename_i h3
          rw [if_pos h3, List.take_succ_cons]
          exact readS_short (by decide) (by simp [be_length, folN] at *; omega)
        · rename_i h3
          rw [if_neg h3, List.take_succ_cons]
          exact readS_short (by decide) (by simp [be_length, folN] at *; omega)
theorem size_len_bd (x : Nat) : 1 ≤ (size x).length ∧ (size x).length ≤ 9 := by
  rw [size_len]
  (repeat' split) <;> omega
end Go.Proofs.Ytgaidleepjkldaa

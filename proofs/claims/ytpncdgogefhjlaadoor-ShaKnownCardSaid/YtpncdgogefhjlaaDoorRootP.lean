/- Plain: the first primes by trial; their roots by halving. No program in sight. -/
import Derived.Test.YtpncdgogefhjlaaDoorShaP
namespace Go.Proofs.YtpncdgogefhjlaaDoor

def prStep (l : List Nat) (x : Nat) : List Nat := if l.all (fun p => decide (x % p ≠ 0)) = true then l ++ [x] else l
def prN : Nat → List Nat
  | 0 => []
  | k + 1 => prStep (prN k) (k + 2)
def PL : List Nat := [2, 3, 5, 7, 11, 13, 17, 19, 23, 29, 31, 37, 41, 43, 47, 53, 59, 61, 67, 71, 73, 79, 83, 89, 97, 101, 103, 107, 109, 113, 127, 131, 137, 139, 149, 151, 157, 163, 167, 173, 179, 181, 191, 193, 197, 199, 211, 223, 227, 229, 233, 239, 241, 251, 257, 263, 269, 271, 277, 281, 283, 293, 307, 311]
def X3 : List Nat := [5411319704, 6194414737, 7344290767, 8215976869, 9551921755, 10098905585, 11043570340, 11460697813, 12214315672, 13195500289, 13492127166, 14311783875, 14809980276, 15046980094, 15499789991, 16133124468, 16720292289, 16907126662, 17444216262, 17784676812, 17950125167, 18429019306, 18734950876, 19175934170, 19734090066, 20001703533, 20132865992, 20390182855, 20516441075, 20764397895, 21588763473, 21813078375, 22141143685, 22248366392, 22769593852, 22871018771, 23170020180, 23461497531, 23651862830, 23931792517, 24205322401, 24295138891, 24734567280, 24820601251, 24990902297, 25075189284, 25569408389, 26045227120, 26200031510, 26276752392, 26428864332, 26653801653, 26727943347, 27092625994, 27306805839, 27517677555, 27725365998, 27793908591, 27997534228, 28131656200, 28198240250, 28526537963, 28973835255, 29099129074]
def X2 : List Nat := [6074000999, 7439101573, 9603838834, 11363415354, 14244795007, 15485724812, 17708603819, 18721328409]
theorem pl_step : ∀ k, k < 310 → prStep (PL.filter (fun p => decide (p < k + 2))) (k + 2) = PL.filter (fun p => decide (p < k + 3)) := by decide +kernel
theorem prN_eq (k : Nat) (h : k ≤ 310) : prN k = PL.filter (fun p => decide (p < k + 2)) := by
  induction k with
  | zero => decide +kernel
  | succ k ih => rw [prN, ih (by omega), pl_step k (by omega)]
theorem pl_short : ∀ k, k < 310 → (PL.filter (fun p => decide (p < k + 2))).length < 64 := by decide +kernel
theorem prN_short (k : Nat) (h : k < 310) : (prN k).length < 64 := by rw [prN_eq k (by omega)]; exact pl_short k h
theorem prN_310 : prN 310 = PL := by rw [prN_eq 310 (Nat.le_refl _)]; decide +kernel
theorem prN_pos (k : Nat) : ∀ p ∈ prN k, 2 ≤ p ∧ p < k + 2 := by
  induction k with
  | zero => simp [prN]
  | succ k ih =>
    intro p hp
    unfold prN prStep at hp
    split at hp
    · rcases List.mem_append.1 hp with hp | hp
      · have := ih p hp; omega
      · simp at hp; omega
    · have := ih p hp; omega
theorem x3_ok : ∀ i, i < 64 → X3.getD i 0 ^ 3 ≤ PL.getD i 0 * 2 ^ (32 * 3) ∧ PL.getD i 0 * 2 ^ (32 * 3) < (X3.getD i 0 + 1) ^ 3 ∧ X3.getD i 0 % 4294967296 = K0.getD i 0 := by decide +kernel
theorem x2_ok : ∀ i, i < 8 → X2.getD i 0 ^ 2 ≤ PL.getD i 0 * 2 ^ (32 * 2) ∧ PL.getD i 0 * 2 ^ (32 * 2) < (X2.getD i 0 + 1) ^ 2 ∧ X2.getD i 0 % 4294967296 = H0.getD i 0 := by decide +kernel
theorem pl_lt : ∀ i, i < 64 → PL.getD i 0 < 1000 := by decide +kernel
theorem root_one {x y k m : Nat} (h1 : x ^ k ≤ m) (h2 : m < (x + 1) ^ k) (h3 : y ^ k ≤ m) (h4 : m < (y + 1) ^ k) : x = y := by
  have a : x < y + 1 := by
    rcases Nat.lt_or_ge x (y + 1) with h | h
    · exact h
    · have := Nat.pow_le_pow_left h k; omega
  have b : y < x + 1 := by
    rcases Nat.lt_or_ge y (x + 1) with h | h
    · exact h
    · have := Nat.pow_le_pow_left h k; omega
  omega
end Go.Proofs.YtpncdgogefhjlaaDoor

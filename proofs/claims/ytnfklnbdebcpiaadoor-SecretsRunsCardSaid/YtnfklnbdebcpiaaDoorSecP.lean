/- Secrets: what leads to what, plain. -/
import Derived.Test.YtnfklnbdebcpiaaDoorKey
import Derived.Test.YtnfklnbdebcpiaaDoorShaE
namespace Go.Proofs.YtnfklnbdebcpiaaDoor
open Go.RowKit

/-- 32 bytes -/
def H32 (s : List Nat) : Prop := s.length = 32 ∧ ∀ d ∈ s, d < 256
def flipB (s : List Nat) (b : Nat) : List Nat := s.set (b / 8) (s.getD (b / 8) 0 ^^^ 2 ^ (b % 8))
def leadN (p : Nat) : Nat → List Nat → List Nat
  | 0, s => s
  | b + 1, s => leadN p b (if p / 2 ^ b % 2 = 1 then sha (flipB s b) else s)
theorem sha_ok (b : List Nat) : H32 (sha b) := ⟨sha_len b, sha_lt b⟩
theorem pow8_lt {b : Nat} (h : b < 8) : 2 ^ b < 256 := by
  have : 2 ^ b < 2 ^ 8 := Nat.pow_lt_pow_right (by omega) h
  omega
theorem flipB_ok {s : List Nat} {b : Nat} (h : H32 s) : H32 (flipB s b) := by
  refine ⟨by rw [flipB, List.length_set]; exact h.1, fun d hd => ?_⟩
  rcases List.mem_or_eq_of_mem_set hd with hd | rfl
  · exact h.2 d hd
  · exact Nat.xor_lt_two_pow (n := 8) (getDlt h.2 (by omega) _) (pow8_lt (Nat.mod_lt _ (by omega)))
theorem leadN_ok {p : Nat} : ∀ {n : Nat} {s : List Nat}, H32 s → H32 (leadN p n s)
  | 0, _, h => h
  | b + 1, s, h => by
    rw [leadN]
    split
    · exact leadN_ok (sha_ok _)
    · exact leadN_ok h
/-- only the bits below n count -/
theorem leadN_congr {p q : Nat} : ∀ {n : Nat} {s : List Nat}, (∀ b, b < n → p / 2 ^ b % 2 = q / 2 ^ b % 2) → leadN p n s = leadN q n s
  | 0, _, _ => rfl
  | b + 1, s, h => by
    rw [leadN, leadN, h b (by omega)]
    exact leadN_congr fun c hc => h c (by omega)
theorem leadN_zero {p : Nat} : ∀ {n : Nat} {s : List Nat}, (∀ b, b < n → p / 2 ^ b % 2 = 0) → leadN p n s = s
  | 0, _, _ => rfl
  | b + 1, s, h => by
    rw [leadN, h b (by omega), if_neg (by omega)]
    exact leadN_zero fun c hc => h c (by omega)
/-- the bits lo + n - 1 .. lo -/
def segN (p lo : Nat) : Nat → List Nat → List Nat
  | 0, s => s
  | b + 1, s => segN p lo b (if p / 2 ^ (lo + b) % 2 = 1 then sha (flipB s (lo + b)) else s)
theorem leadN_add (p lo : Nat) : ∀ (n : Nat) (s : List Nat), leadN p (lo + n) s = leadN p lo (segN p lo n s)
  | 0, _ => rfl
  | b + 1, s => by
    rw [← Nat.add_assoc, leadN, segN]
    exact leadN_add p lo b _
theorem segN_congr {p q lo : Nat} : ∀ {n : Nat} {s : List Nat}, (∀ b, p / 2 ^ (lo + b) % 2 = q / 2 ^ (lo + b) % 2) → segN p lo n s = segN q lo n s
  | 0, _, _ => rfl
  | b + 1, s, h => by
    rw [segN, segN, h b]
    exact segN_congr h
theorem high_bits {p q lo : Nat} (h : p / 2 ^ lo = q / 2 ^ lo) (b : Nat) : p / 2 ^ (lo + b) % 2 = q / 2 ^ (lo + b) % 2 := by
  rw [Nat.pow_add, ← Nat.div_div_eq_div_mul, ← Nat.div_div_eq_div_mul, h]
theorem low_bits {k lo b : Nat} (h : b < lo) : k * 2 ^ lo / 2 ^ b % 2 = 0 := by
  obtain ⟨c, rfl⟩ : ∃ c, lo = b + (c + 1) := ⟨lo - b - 1, by omega⟩
  rw [Nat.pow_add, ← Nat.mul_assoc, Nat.mul_comm k, Nat.mul_assoc, Nat.mul_div_cancel_left _ (Nat.two_pow_pos b), Nat.pow_succ, ← Nat.mul_assoc]
  exact Nat.mul_mod_left _ _
/-- what ends in 'lo' noughts leads to all that begin as it does -/
theorem lead_to {k lo q N : Nat} {s : List Nat} (hl : lo ≤ N) (h : q / 2 ^ lo = k) : leadN q lo (leadN (k * 2 ^ lo) N s) = leadN q N s := by
  obtain ⟨n, rfl⟩ : ∃ n, N = lo + n := ⟨N - lo, by omega⟩
  rw [leadN_add, leadN_add, leadN_zero (p := k * 2 ^ lo) (fun b hb => low_bits hb)]
  congr 1
  refine segN_congr (high_bits ?_)
  rw [h, Nat.mul_div_cancel _ (Nat.two_pow_pos lo)]
end Go.Proofs.YtnfklnbdebcpiaaDoor

/- Secrets of one seed always fit; what is kept of them. -/
import Derived.Test.YtnfklnbdebcpiaaDoorSech
namespace Go.Proofs.YtnfklnbdebcpiaaDoor
open Go.RowKit

theorem nzF_spec : ∀ (f x : Nat), nzF f x < f → ∃ d, x = 2 ^ nzF f x * (2 * d + 1)
  | 0, _, h => by simp [nzF] at h
  | f + 1, x, h => by
    rw [nzF] at h ⊢
    by_cases h1 : x % 2 = 1
    · rw [if_pos h1]
      exact ⟨x / 2, by simp; omega⟩
    · rw [if_neg h1] at h ⊢
      obtain ⟨d, hd⟩ := nzF_spec f (x / 2) (by omega)
      refine ⟨d, ?_⟩
      rw [Nat.add_comm 1, Nat.pow_succ, Nat.mul_assoc, Nat.mul_comm 2, ← Nat.mul_assoc, ← hd]
      omega
theorem nzF_dvd : ∀ (f x : Nat), 2 ^ nzF f x ∣ x
  | 0, x => by simp [nzF]
  | f + 1, x => by
    rw [nzF]
    by_cases h1 : x % 2 = 1
    · rw [if_pos h1]; simp
    · rw [if_neg h1]
      obtain ⟨c, hc⟩ := nzF_dvd f (x / 2)
      exact ⟨c, by rw [Nat.add_comm 1, Nat.pow_succ, Nat.mul_assoc, Nat.mul_comm 2, ← Nat.mul_assoc, ← hc]; omega⟩
theorem nzF_mul : ∀ (f k d : Nat), k < f → nzF f (2 ^ k * (2 * d + 1)) = k
  | 0, _, _, h => by omega
  | f + 1, 0, d, _ => by rw [nzF]; simp
  | f + 1, k + 1, d, h => by
    rw [nzF]
    have e : 2 ^ (k + 1) * (2 * d + 1) = 2 * (2 ^ k * (2 * d + 1)) := by rw [Nat.pow_succ, Nat.mul_assoc, Nat.mul_comm 2 (2 * d + 1), ← Nat.mul_assoc, Nat.mul_comm _ 2]
    rw [e, if_neg (by omega), Nat.mul_div_cancel_left _ (by omega), nzF_mul f k d (by omega)]
    omega
/-- the last one put whose place ends in i noughts -/
theorem kh_last (s : List Nat) : ∀ (n q i : Nat), n ≤ 281474976710656 → 281474976710656 ≤ q + n → q ≤ 281474976710655 → nz q = i → (∀ r, 281474976710656 ≤ r + n → r < q → nz r ≠ i) → Kh s n i = (q, secA s q)
  | 0, q, i, _, h, h', _, _ => by omega
  | n + 1, q, i, hn, h, h', hq, hmin => by
    show updK (Kh s n) (nz (281474976710655 - n)) (281474976710655 - n, secA s (281474976710655 - n)) i = _
    unfold updK
    by_cases hp : i = nz (281474976710655 - n)
    · rw [if_pos hp]
      have : ¬ (281474976710655 - n < q) := fun hlt => hmin _ (by omega) hlt hp.symm
      have e : 281474976710655 - n = q := by omega
      rw [e]
    · rw [if_neg hp]
      have hne : q ≠ 281474976710655 - n := fun e => hp (by rw [← e]; exact hq.symm)
      exact kh_last s n q i (by omega) (by omega) h' hq (fun r hr => hmin r (by omega))
theorem kh_ok (s : List Nat) {n : Nat} (hn : n < 281474976710656) : okP (Kh s n) (nz (281474976710655 - n)) (secA s (281474976710655 - n)) := by
  intro i hi
  obtain ⟨p, hp⟩ : ∃ p, p = 281474976710655 - n := ⟨_, rfl⟩
  rw [← hp] at hi ⊢
  have hm := nz_le p
  obtain ⟨c, hc⟩ := nzF_dvd 48 p
  obtain ⟨m, hmm⟩ : ∃ m, m = nz p := ⟨_, rfl⟩
  have hc' : p = c * 2 ^ m := by rw [hmm]; unfold nz; rw [Nat.mul_comm]; exact hc
  rw [← hmm] at hi hm ⊢
  obtain ⟨d, rfl⟩ : ∃ d, m = i + (d + 1) := ⟨m - i - 1, by omega⟩
  have e2 : c * 2 ^ (i + (d + 1)) = 2 ^ i * (2 * (c * 2 ^ d)) := by
    rw [Nat.pow_add, Nat.pow_succ]
    ac_rfl
  have hpos : 0 < 2 ^ i := Nat.two_pow_pos i
  have eq : p + 2 ^ i = 2 ^ i * (2 * (c * 2 ^ d) + 1) := by rw [hc', e2, Nat.mul_add, Nat.mul_one]
  have hpow : 2 ^ i < 2 ^ (i + (d + 1)) := Nat.pow_lt_pow_right (by omega) (by omega)
  have h48 : 2 ^ (i + (d + 1)) ∣ 281474976710656 := by
    have : (281474976710656 : Nat) = 2 ^ 48 := by decide
    rw [this]; exact Nat.pow_dvd_pow 2 hm
  have hq : p + 2 ^ i ≤ 281474976710655 := by
    obtain ⟨x, hx⟩ := h48
    have hcx : c < x := by
      apply Nat.lt_of_mul_lt_mul_right (a := 2 ^ (i + (d + 1)))
      rw [← hc', Nat.mul_comm x, ← hx]; omega
    have : (c + 1) * 2 ^ (i + (d + 1)) ≤ x * 2 ^ (i + (d + 1)) := Nat.mul_le_mul_right _ hcx
    rw [Nat.add_mul, Nat.one_mul, ← hc', Nat.mul_comm x, ← hx] at this
    omega
  have hnz : nz (p + 2 ^ i) = i := by unfold nz; rw [eq]; exact nzF_mul 48 i _ (by omega)
  have hlast := kh_last s n (p + 2 ^ i) i (by omega) (by omega) hq hnz (fun r hr hlt hri => by
    obtain ⟨y, hy⟩ := nzF_dvd 48 r
    have hri' : nzF 48 r = i := hri
    rw [hri'] at hy
    have h1 : 2 ^ i * (2 * (c * 2 ^ d)) < 2 ^ i * y := by rw [← hy, ← e2, ← hc']; omega
    have h2 : 2 ^ i * y < 2 ^ i * (2 * (c * 2 ^ d) + 1) := by rw [← hy, ← eq]; exact hlt
    have h3 := Nat.lt_of_mul_lt_mul_left h1
    have h4 := Nat.lt_of_mul_lt_mul_left h2
    omega)
  rw [hlast]
  show leadN (p + 2 ^ i) (i + (d + 1)) (leadN p 48 s) = leadN (p + 2 ^ i) 48 s
  rw [hc']
  refine lead_to hm ?_
  rw [Nat.add_comm, Nat.add_mul_div_right _ _ (Nat.two_pow_pos _), Nat.div_eq_of_lt hpow, Nat.zero_add]
end Go.Proofs.YtnfklnbdebcpiaaDoor

/- Chains of secrets as bytes, plain; what is told of the first secrets of a seed. -/
import Derived.Test.YtnfklnbdebcpiaaDoorSecq
namespace Go.Proofs.YtnfklnbdebcpiaaDoor
open Go.RowKit

/-- the least place that ends in just i noughts, of the first n -/
def lastN (i n : Nat) : Option Nat :=
  if i = 48 then (if 281474976710655 < n then some 0 else none)
  else if n = 0 ∨ n ≤ 281474976710655 - 281474976710655 / 2 ^ i * 2 ^ i then none
  else some (281474976710655 / 2 ^ i * 2 ^ i - (281474976710655 / 2 ^ i * 2 ^ i - (281474976710655 - (n - 1))) / (2 * 2 ^ i) * (2 * 2 ^ i))
theorem top_eq {i : Nat} (h : i < 48) : 281474976710655 / 2 ^ i * 2 ^ i = 2 ^ i * (2 * (2 ^ (47 - i) - 1) + 1) ∧ 281474976710655 / 2 ^ i * 2 ^ i + 2 ^ i = 281474976710656 := by
  have e : (281474976710656 : Nat) = 2 ^ (48 - i) * 2 ^ i := by rw [← Nat.pow_add, show 48 - i + i = 48 by omega]
  have hp : 0 < 2 ^ i := Nat.two_pow_pos i
  have hq : 0 < 2 ^ (47 - i) := Nat.two_pow_pos _
  have e2 : 2 ^ (48 - i) = 2 * 2 ^ (47 - i) := by rw [show 48 - i = (47 - i) + 1 by omega, Nat.pow_succ, Nat.mul_comm]
  have hd : 281474976710655 / 2 ^ i = 2 ^ (48 - i) - 1 := by
    rw [show (281474976710655 : Nat) = 2 ^ (48 - i) * 2 ^ i - 1 from by omega]
    apply Nat.div_eq_of_lt_le
    · rw [Nat.sub_mul, Nat.one_mul]; omega
    · rw [Nat.sub_add_cancel (Nat.two_pow_pos _)]
      have : 0 < 2 ^ (48 - i) * 2 ^ i := Nat.mul_pos (Nat.two_pow_pos _) hp
      omega
  refine ⟨?_, ?_⟩
  · rw [hd, e2, Nat.mul_comm]
    congr 1
    omega
  · rw [hd, Nat.sub_mul, Nat.one_mul, ← e]
    have : 2 ^ i ≤ 281474976710656 := by rw [e]; exact Nat.le_mul_of_pos_left _ (Nat.two_pow_pos _)
    omega
/-- what 'last' says -/
theorem last_some {i n p : Nat} (hi : i ≤ 48) (hn : n ≤ 281474976710656) (h : lastN i n = some p) : p ≤ 281474976710655 ∧ 281474976710656 ≤ p + n ∧ nz p = i ∧ ∀ r, 281474976710656 ≤ r + n → r < p → nz r ≠ i := by
  unfold lastN at h
  by_cases h48 : i = 48
  · rw [if_pos h48] at h
    split at h
    · cases h
      refine ⟨by omega, by omega, ?_, fun r _ hr => by omega⟩
      rw [h48]; decide
    · cases h
  · rw [if_neg h48] at h
    split at h
    · cases h
    · rename_i hc
      have hc1 : n ≠ 0 := fun e => hc (.inl e)
      have hc2 : ¬ n ≤ 281474976710655 - 281474976710655 / 2 ^ i * 2 ^ i := fun e => hc (.inr e)
      obtain ⟨ht1, ht2⟩ := top_eq (show i < 48 by omega)
      have hp : 0 < 2 ^ i := Nat.two_pow_pos i
      generalize 281474976710655 / 2 ^ i * 2 ^ i = top at *
      generalize 2 ^ (47 - i) - 1 = d0 at *
      have hlow : 281474976710655 - (n - 1) = 281474976710656 - n := by omega
      rw [hlow] at h
      generalize hq : (top - (281474976710656 - n)) / (2 * 2 ^ i) = q at *
      have hq1 : q * (2 * 2 ^ i) ≤ top - (281474976710656 - n) := by rw [← hq]; exact Nat.div_mul_le_self _ _
      have hq2 : top - (281474976710656 - n) < (q + 1) * (2 * 2 ^ i) := by
        rw [← hq]; have := Nat.lt_div_mul_add (a := top - (281474976710656 - n)) (b := 2 * 2 ^ i) (by omega)
        rw [Nat.add_mul, Nat.one_mul]; exact this
      have hqd : q ≤ d0 := by
        apply Nat.le_of_not_lt
        intro hlt
        have h1 : (d0 + 1) * (2 * 2 ^ i) ≤ q * (2 * 2 ^ i) := Nat.mul_le_mul_right _ hlt
        have h2 : 2 ^ i * (2 * d0 + 1) < (d0 + 1) * (2 * 2 ^ i) := by
          have : (d0 + 1) * (2 * 2 ^ i) = 2 ^ i * (2 * d0 + 1) + 2 ^ i := by
            rw [Nat.mul_add, Nat.mul_one, Nat.add_mul, Nat.one_mul, Nat.mul_comm d0, Nat.mul_comm 2, Nat.mul_assoc]; omega
          omega
        omega
      obtain ⟨c, rfl⟩ : ∃ c, d0 = q + c := ⟨d0 - q, by omega⟩
      have hpe : p = 2 ^ i * (2 * c + 1) := by
        cases h
        have e1 : 2 ^ i * (2 * (q + c) + 1) = q * (2 * 2 ^ i) + 2 ^ i * (2 * c + 1) := by
          rw [Nat.mul_add 2, Nat.add_assoc, Nat.mul_add, Nat.mul_comm q, Nat.mul_comm 2 (2 ^ i), Nat.mul_assoc]
        rw [ht1, e1]; omega
      have hpt : p + q * (2 * 2 ^ i) = top := by cases h; omega
      refine ⟨by omega, by omega, by rw [hpe]; exact nzF_mul 48 i c (by omega), fun r hr hlt hri => ?_⟩
      have hri' : nzF 48 r = i := hri
      obtain ⟨d, hd⟩ := nzF_spec 48 r (by omega)
      rw [hri'] at hd
      have hdc : d < c := by
        apply Nat.lt_of_not_le
        intro hge
        have : 2 ^ i * (2 * c + 1) ≤ 2 ^ i * (2 * d + 1) := Nat.mul_le_mul_left _ (by omega)
        omega
      have h1 : 2 ^ i * (2 * d + 1) + 2 * 2 ^ i ≤ 2 ^ i * (2 * c + 1) := by
        have : 2 ^ i * (2 * (d + 1) + 1) ≤ 2 ^ i * (2 * c + 1) := Nat.mul_le_mul_left _ (by omega)
        have e : 2 ^ i * (2 * (d + 1) + 1) = 2 ^ i * (2 * d + 1) + 2 * 2 ^ i := by
          rw [show 2 * (d + 1) + 1 = (2 * d + 1) + 2 by omega, Nat.mul_add, Nat.mul_comm _ 2]
        omega
      rw [Nat.add_mul, Nat.one_mul] at hq2
      omega
theorem last_none {i n : Nat} (hi : i ≤ 48) (hn : n ≤ 281474976710656) (h : lastN i n = none) : ∀ r, 281474976710656 ≤ r + n → r ≤ 281474976710655 → nz r ≠ i := by
  intro r hr hr2 hri
  unfold lastN at h
  have hri' : nzF 48 r = i := hri
  by_cases h48 : i = 48
  · rw [if_pos h48] at h
    split at h
    · cases h
    · obtain ⟨c, hc⟩ := nzF_dvd 48 r
      rw [hri', h48] at hc
      omega
  · rw [if_neg h48] at h
    split at h
    · rename_i hc
      obtain ⟨ht1, ht2⟩ := top_eq (show i < 48 by omega)
      have hp : 0 < 2 ^ i := Nat.two_pow_pos i
      obtain ⟨c, hcr⟩ := nzF_dvd 48 r
      rw [hri'] at hcr
      have hle : r ≤ 281474976710655 / 2 ^ i * 2 ^ i := by
        have : r / 2 ^ i ≤ 281474976710655 / 2 ^ i := Nat.div_le_div_right hr2
        have hrr : r / 2 ^ i * 2 ^ i = r := by rw [hcr, Nat.mul_div_cancel_left _ hp, Nat.mul_comm]
        rw [← hrr]; exact Nat.mul_le_mul_right _ this
      generalize 281474976710655 / 2 ^ i * 2 ^ i = top at *
      rcases hc with hc | hc <;> omega
    · cases h
theorem kh_none (s : List Nat) : ∀ (n i : Nat), n ≤ 281474976710656 → (∀ r, 281474976710656 ≤ r + n → r ≤ 281474976710655 → nz r ≠ i) → Kh s n i = noneK i
  | 0, _, _, _ => rfl
  | n + 1, i, hn, h => by
    show updK (Kh s n) (nz (281474976710655 - n)) (281474976710655 - n, secA s (281474976710655 - n)) i = _
    unfold updK
    rw [if_neg (fun e => h (281474976710655 - n) (by omega) (by omega) e.symm)]
    exact kh_none s n i (by omega) (fun r hr => h r (by omega))
theorem kh_form (s : List Nat) : ∀ (n i : Nat), n ≤ 281474976710656 → Kh s n i = noneK i ∨ ∃ q, Kh s n i = (q, secA s q) ∧ nz q = i ∧ 281474976710656 ≤ q + n ∧ q ≤ 281474976710655
  | 0, _, _ => .inl rfl
  | n + 1, i, hn => by
    have e : Kh s (n + 1) i = updK (Kh s n) (nz (281474976710655 - n)) (281474976710655 - n, secA s (281474976710655 - n)) i := rfl
    rw [e]; unfold updK
    by_cases hi : i = nz (281474976710655 - n)
    · rw [if_pos hi]
      exact .inr ⟨_, rfl, hi.symm, by omega, by omega⟩
    · rw [if_neg hi]
      rcases kh_form s n i (by omega) with h | ⟨q, h1, h2, h3, h4⟩
      · exact .inl h
      · exact .inr ⟨q, h1, h2, by omega, h4⟩
theorem kh_eq (s : List Nat) {n i : Nat} (hi : i ≤ 48) (hn : n ≤ 281474976710656) : (lastN i n = none → Kh s n i = noneK i) ∧ ∀ p, lastN i n = some p → Kh s n i = (p, secA s p) := by
  refine ⟨fun h => kh_none s n i hn (last_none hi hn h), fun p h => ?_⟩
  obtain ⟨h1, h2, h3, h4⟩ := last_some hi hn h
  exact kh_last s n p i hn h2 h1 h3 h4
theorem turn_at {P : Nat → Prop} : ∀ (m : Nat), P 0 → ¬ P m → ∃ j, j < m ∧ P j ∧ ¬ P (j + 1)
  | 0, h, h' => absurd h h'
  | m + 1, h, h' => by
    by_cases hm : P m
    · exact ⟨m, by omega, hm, h'⟩
    · obtain ⟨j, h1, h2, h3⟩ := turn_at m h hm
      exact ⟨j, by omega, h2, h3⟩
/-- what was put is told again -/
theorem told {s : List Nat} {n p : Nat} {w w' : World} {e : Ending} (hn : n < 281474976710656) (hp : p ≤ 281474976710655) (hpn : 281474976710656 ≤ p + n) (h : GetRes (Kh s n) n p w e w') :
    e = .returned (.tuple #[hv (secA s p), .bool true]) ∧ Below w.heap.size w w' := by
  have hz : (noneK 0).1 = 0 := rfl
  obtain ⟨hb, ⟨i, hi, _, _, hh, hno, he⟩ | ⟨hbad, he⟩⟩ := h
  · refine ⟨?_, hb⟩
    rcases kh_form s n i (by omega) with h | ⟨q, h1, h2, h3, h4⟩
    · have := hh.2
      rw [h] at this
      have e0 : (noneK i).1 = 0 := rfl
      rw [e0] at this
      omega
    · rw [he, h1]
      have hd := hh.1
      rw [h1] at hd
      obtain ⟨c, hc⟩ := nzF_dvd 48 q
      have h2' : nzF 48 q = i := h2
      rw [h2'] at hc
      have : leadN p i (secA s q) = secA s p := by
        rw [hc, Nat.mul_comm]
        refine lead_to (by omega) ?_
        rw [← hd, hc, Nat.mul_div_cancel_left _ (Nat.two_pow_pos i)]
      show Ending.returned (.tuple #[hv (leadN p i (secA s q)), .bool true]) = _
      rw [this]
  · exfalso
    rcases hbad with h | h | h
    · omega
    · omega
    · obtain ⟨j, hj, h1, h2⟩ := turn_at (P := fun j => 281474976710656 ≤ p / 2 ^ j * 2 ^ j + n) 48 (by simpa using hpn) (by
        have : p / 2 ^ 48 = 0 := Nat.div_eq_of_lt (by omega)
        simp only [this]; omega)
      have hpos : 0 < 2 ^ j := Nat.two_pow_pos j
      have e2 : p / 2 ^ (j + 1) = p / 2 ^ j / 2 := by rw [Nat.pow_succ, Nat.div_div_eq_div_mul]
      rw [e2] at h2
      generalize hc : p / 2 ^ j = c at *
      have hodd : c = 2 * (c / 2) + 1 := by
        rcases Nat.mod_two_eq_zero_or_one c with hm | hm
        · exfalso
          apply h2
          have : c / 2 * 2 ^ (j + 1) = c * 2 ^ j := by
            rw [Nat.pow_succ, Nat.mul_comm (2 ^ j), ← Nat.mul_assoc, show c / 2 * 2 = c by omega]
          rw [this]; exact h1
        · omega
      have hnz : nz (c * 2 ^ j) = j := by rw [Nat.mul_comm, hodd]; exact nzF_mul 48 j _ (by omega)
      have hle : c * 2 ^ j ≤ p := by rw [← hc]; exact Nat.div_mul_le_self _ _
      have hk := kh_last s n (c * 2 ^ j) j (by omega) h1 (by omega) hnz (fun r hr hlt hrj => by
        have hrj' : nzF 48 r = j := hrj
        obtain ⟨d, hd⟩ := nzF_spec 48 r (by omega)
        rw [hrj'] at hd
        have hdc : 2 * d + 1 < c := by
          apply Nat.lt_of_not_le
          intro hge
          have : 2 ^ j * c ≤ 2 ^ j * (2 * d + 1) := Nat.mul_le_mul_left _ hge
          rw [Nat.mul_comm] at this
          omega
        have h5 : 2 ^ j * (2 * d + 1) ≤ c / 2 * 2 ^ (j + 1) := by
          rw [Nat.pow_succ, Nat.mul_comm (c / 2), Nat.mul_assoc]
          exact Nat.mul_le_mul_left _ (by omega)
        omega)
      refine h j (by omega) ⟨?_, ?_⟩
      · rw [hk, Nat.mul_div_cancel _ hpos, hc]
      · rw [hk]; show 281474976710655 - c * 2 ^ j < n; omega
end Go.Proofs.YtnfklnbdebcpiaaDoor

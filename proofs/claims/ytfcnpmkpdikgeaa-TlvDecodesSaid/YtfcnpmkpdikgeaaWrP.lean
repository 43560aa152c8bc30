/- Plain: records' bytes read again are they. No program in sight. -/
import Derived.Test.YtfcnpmkpdikgeaaFormL
namespace Go.Proofs.Ytfcnpmkpdikgeaa

theorem size_pos (x : Nat) : 1 ≤ (size x).length := by rw [size_len]; (repeat' split) <;> omega
theorem encAll_cons (r : Pr) (s : List Pr) : encAll (r :: s) = size r.1 ++ (size r.2.length ++ (r.2 ++ encAll s)) := by simp [encAll, encR]
theorem enc_dec : ∀ (rs : List Pr) (p : Option Nat) (n : Nat), encErr p rs = 0 → n + rs.length ≤ 256 → (∀ r ∈ rs, r.1 < 18446744073709551616) → decGo ((encAll rs).length + 1) p n (encAll rs) = (rs, 0) := by
  intro rs
  induction rs with
  | nil => intros; rfl
  | cons r s ih =>
    intro p n he hn ht
    unfold encErr at he
    by_cases h1 : p.any (fun q => decide (r.1 ≤ q)) = true
    · rw [if_pos h1] at he; simp at he
    · rw [if_neg h1] at he
      by_cases h2 : 65536 < r.2.length
      · rw [if_pos h2] at he; simp at he
      · rw [if_neg h2] at he
        have IH := ih (some r.1) (n + 1) he (by simp at hn; omega) (fun q hq => ht q (by simp [hq]))
        have hr := ht r (by simp)
        have e1 := readS_size r.1 hr (size r.2.length ++ (r.2 ++ encAll s))
        have e2 := readS_size r.2.length (by omega) (r.2 ++ encAll s)
        have hne : encAll (r :: s) ≠ [] := by
          rw [encAll_cons]
          intro h
          have := congrArg List.length h
          have h3 := size_pos r.1
          simp at this
          rw [this.1] at h3
          simp at h3
        rw [decGo_cons p n hne, encAll_cons, e1]
        simp only [ne_eq, not_true_eq_false, if_false, if_neg h1, List.drop_left, e2, if_neg h2]
        rw [if_neg (by simp), if_neg (by simp at hn; omega), IH]
        simp
theorem encAll_len : ∀ (rs : List Pr) (p : Option Nat), encErr p rs = 0 → (encAll rs).length ≤ rs.length * 65554 := by
  intro rs
  induction rs with
  | nil => intros; simp [encAll]
  | cons r s ih =>
    intro p he
    unfold encErr at he
    by_cases h1 : p.any (fun q => decide (r.1 ≤ q)) = true
    · rw [if_pos h1] at he; simp at he
    · rw [if_neg h1] at he
      by_cases h2 : 65536 < r.2.length
      · rw [if_pos h2] at he; simp at he
      · rw [if_neg h2] at he
        have := ih _ he
        have l1 := (size_len_bd r.1).2
        have l2 := (size_len_bd r.2.length).2
        rw [encAll_cons]
        simp only [List.length_append, List.length_cons]
        omega
theorem encE_zero {rs : List Pr} (h : encE rs = 0) (ht : ∀ r ∈ rs, r.1 < 18446744073709551616) : decS (encAll rs) = (rs, 0) ∧ (encAll rs).length ≤ 16781824 := by
  unfold encE at h
  by_cases h1 : 256 < rs.length
  · rw [if_pos h1] at h; simp at h
  · rw [if_neg h1] at h
    refine ⟨enc_dec rs none 0 h (by omega) ht, ?_⟩
    have := encAll_len rs none h
    omega
theorem encAll_lt {rs : List Pr} (h : ∀ r ∈ rs, ∀ d ∈ r.2, d < 256) : ∀ d ∈ encAll rs, d < 256 := by
  intro d hd
  simp only [encAll, List.mem_flatMap, encR, List.mem_append] at hd
  obtain ⟨r, hr, (h1 | h1) | h1⟩ := hd
  · exact size_lt _ d h1
  · exact size_lt _ d h1
  · exact h r hr d h1
end Go.Proofs.Ytfcnpmkpdikgeaa

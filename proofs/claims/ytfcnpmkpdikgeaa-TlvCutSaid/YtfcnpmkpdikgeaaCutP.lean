/- Plain: records' bytes that are cut short, or stand twice. No program in sight. -/
import Derived.Test.YtfcnpmkpdikgeaaWrP
namespace Go.Proofs.Ytfcnpmkpdikgeaa

theorem readS_pre (x : Nat) (_hx : x < 18446744073709551616) (at' : Nat) (h : at' < (size x).length) : (readS ((size x).take at')).2.2 = 20 := by
  by_cases h0 : at' = 0
  · subst h0; simp [readS]
  · unfold size at *
    have k2 := be_length 2 x
    have k4 := be_length 4 x
    have k8 := be_length 8 x
    obtain ⟨j, rfl⟩ : ∃ j, at' = j + 1 := ⟨at' - 1, by omega⟩
    by_cases q1 : x < 253
    · rw [if_pos q1] at h; simp at h
    · rw [if_neg q1] at h ⊢
      by_cases q2 : x < 65536
      · rw [if_pos q2] at h ⊢
        simp only [List.length_cons, k2] at h
        rw [List.take_succ_cons]
        unfold readS
        simp only
        rw [if_neg (by decide), if_pos (by rw [List.length_take, k2]; show _ < 2; omega)]
      · rw [if_neg q2] at h ⊢
        by_cases q3 : x < 4294967296
        · rw [if_pos q3] at h ⊢
          simp only [List.length_cons, k4] at h
          rw [List.take_succ_cons]
          unfold readS
          simp only
          rw [if_neg (by decide), if_pos (by rw [List.length_take, k4]; show _ < 4; omega)]
        · rw [if_neg q3] at h ⊢
          simp only [List.length_cons, k8] at h
          rw [List.take_succ_cons]
          unfold readS
          simp only
          rw [if_neg (by decide), if_pos (by rw [List.length_take, k8]; show _ < 8; omega)]
theorem decGo_nil (f : Nat) (p : Option Nat) (n : Nat) : decGo f p n [] = ([], 0) := by cases f <;> rfl
/-- cut short: refused, or records in front -/
theorem dec_cut : ∀ (rs : List Pr) (p : Option Nat) (n at' : Nat), encErr p rs = 0 → n + rs.length ≤ 256 → (∀ r ∈ rs, r.1 < 18446744073709551616) → at' < (encAll rs).length →
    (decGo (((encAll rs).take at').length + 1) p n ((encAll rs).take at')).2 = 20 ∨ ∃ k, k < rs.length ∧ decGo (((encAll rs).take at').length + 1) p n ((encAll rs).take at') = (rs.take k, 0) := by
  intro rs
  induction rs with
  | nil => intro p n at' _ _ _ h; simp [encAll] at h
  | cons r s ih =>
    intro p n at' he hn ht hat
    by_cases h0 : at' = 0
    · subst h0
      exact .inr ⟨0, by simp, by simp [decGo_nil]⟩
    unfold encErr at he
    by_cases h1 : p.any (fun q => decide (r.1 ≤ q)) = true
    · rw [if_pos h1] at he; simp at he
    rw [if_neg h1] at he
    by_cases h2 : 65536 < r.2.length
    · rw [if_pos h2] at he; simp at he
    rw [if_neg h2] at he
    have hr := ht r (by simp)
    rw [encAll_cons] at hat ⊢
    have hsp := size_pos r.1
    have hne : (size r.1 ++ (size r.2.length ++ (r.2 ++ encAll s))).take at' ≠ [] := by
      intro h
      have := congrArg List.length h
      rw [List.length_take, List.length_append, List.length_nil] at this
      omega
    rw [decGo_cons p n hne]
    by_cases c1 : at' < (size r.1).length
    · left
      have : (size r.1 ++ (size r.2.length ++ (r.2 ++ encAll s))).take at' = (size r.1).take at' := List.take_append_of_le_length (by omega)
      rw [this, if_pos (by rw [readS_pre _ hr _ c1]; decide)]
      exact readS_pre _ hr _ c1
    obtain ⟨a1, rfl⟩ : ∃ a1, at' = (size r.1).length + a1 := ⟨at' - (size r.1).length, by omega⟩
    rw [List.take_length_add_append] at hne ⊢
    have e1 := readS_size r.1 hr ((size r.2.length ++ (r.2 ++ encAll s)).take a1)
    rw [e1]
    simp only [ne_eq, not_true_eq_false, if_false, if_neg h1, List.drop_left]
    by_cases c2 : a1 < (size r.2.length).length
    · left
      have : (size r.2.length ++ (r.2 ++ encAll s)).take a1 = (size r.2.length).take a1 := List.take_append_of_le_length (by omega)
      have hp := readS_pre r.2.length (by omega) _ c2
      rw [this, if_pos (by rw [hp]; decide)]
      exact hp
    obtain ⟨a2, rfl⟩ : ∃ a2, a1 = (size r.2.length).length + a2 := ⟨a1 - (size r.2.length).length, by omega⟩
    rw [List.take_length_add_append]
    have e2 := readS_size r.2.length (by omega) ((r.2 ++ encAll s).take a2)
    rw [e2]
    simp only [not_true_eq_false, if_false, if_neg h2, List.drop_left]
    by_cases c3 : a2 < r.2.length
    · left
      rw [if_pos (by rw [List.length_take]; omega)]
    obtain ⟨a3, rfl⟩ : ∃ a3, a2 = r.2.length + a3 := ⟨a2 - r.2.length, by omega⟩
    rw [List.take_length_add_append, if_neg (by simp), if_neg (by simp at hn; omega)]
    simp only [List.drop_left, List.take_left]
    have hat3 : a3 < (encAll s).length := by simp at hat; omega
    rcases ih (some r.1) (n + 1) a3 he (by simp at hn; omega) (fun q hq => ht q (by simp [hq])) hat3 with h | ⟨k, hk, h⟩
    · left
      rw [if_pos (by rw [h]; decide)]
      exact h
    · right
      refine ⟨k + 1, by simp; omega, ?_⟩
      rw [h, if_neg (by simp)]
      simp
/-- the last one's type -/
def lastP : Option Nat → List Pr → Option Nat
  | p, [] => p
  | _, r :: s => lastP (some r.1) s
theorem lastP_ge : ∀ (rs : List Pr) (q : Nat), encErr (some q) rs = 0 → ∃ q', lastP (some q) rs = some q' ∧ q ≤ q' := by
  intro rs
  induction rs with
  | nil => intro q _; exact ⟨q, rfl, Nat.le_refl _⟩
  | cons r s ih =>
    intro q he
    unfold encErr at he
    by_cases h1 : (some q).any (fun q => decide (r.1 ≤ q)) = true
    · rw [if_pos h1] at he; simp at he
    rw [if_neg h1] at he
    by_cases h2 : 65536 < r.2.length
    · rw [if_pos h2] at he; simp at he
    rw [if_neg h2] at he
    obtain ⟨q', h3, h4⟩ := ih r.1 he
    refine ⟨q', h3, ?_⟩
    simp at h1
    omega
theorem dec_more : ∀ (rs : List Pr) (p : Option Nat) (n e : Nat) (ys : List Nat), encErr p rs = 0 → n + rs.length ≤ 256 → (∀ r ∈ rs, r.1 < 18446744073709551616) → e ≠ 0 → (decGo (ys.length + 1) (lastP p rs) (n + rs.length) ys).2 = e →
    (decGo ((encAll rs ++ ys).length + 1) p n (encAll rs ++ ys)).2 = e := by
  intro rs
  induction rs with
  | nil => intro p n e ys _ _ _ _ h; simpa [encAll, lastP] using h
  | cons r s ih =>
    intro p n e ys he hn ht h0 h
    unfold encErr at he
    by_cases h1 : p.any (fun q => decide (r.1 ≤ q)) = true
    · rw [if_pos h1] at he; simp at he
    rw [if_neg h1] at he
    by_cases h2 : 65536 < r.2.length
    · rw [if_pos h2] at he; simp at he
    rw [if_neg h2] at he
    have hr := ht r (by simp)
    have hsp := size_pos r.1
    have ea : encAll (r :: s) ++ ys = size r.1 ++ (size r.2.length ++ (r.2 ++ (encAll s ++ ys))) := by rw [encAll_cons]; simp
    rw [ea]
    have hne : size r.1 ++ (size r.2.length ++ (r.2 ++ (encAll s ++ ys))) ≠ [] := by
      intro hh
      have := congrArg List.length hh
      rw [List.length_append, List.length_nil] at this
      omega
    have e1 := readS_size r.1 hr (size r.2.length ++ (r.2 ++ (encAll s ++ ys)))
    have e2 := readS_size r.2.length (by omega) (r.2 ++ (encAll s ++ ys))
    rw [decGo_cons p n hne, e1]
    simp only [ne_eq, not_true_eq_false, if_false, if_neg h1, List.drop_left, e2, if_neg h2]
    rw [if_neg (by simp), if_neg (by simp at hn; omega)]
    have IH := ih (some r.1) (n + 1) e ys he (by simp at hn; omega) (fun q hq => ht q (by simp [hq])) h0 (by rw [← h]; simp [lastP, Nat.add_assoc, Nat.add_comm 1])
    rw [if_pos (by rw [IH]; exact h0)]
    exact IH
theorem decS_cut {rs : List Pr} {at' : Nat} (he : encE rs = 0) (ht : ∀ r ∈ rs, r.1 < 18446744073709551616) (h : at' < (encAll rs).length) : (decS ((encAll rs).take at')).2 = 20 ∨ ∃ k, k < rs.length ∧ decS ((encAll rs).take at') = (rs.take k, 0) := by
  unfold encE at he
  by_cases h1 : 256 < rs.length
  · rw [if_pos h1] at he; simp at he
  · rw [if_neg h1] at he
    exact dec_cut rs none 0 at' he (by omega) ht h
theorem decS_twice {rs : List Pr} (he : encE rs = 0) (ht : ∀ r ∈ rs, r.1 < 18446744073709551616) (h : encAll rs ≠ []) : (decS (encAll rs ++ encAll rs)).2 = 22 := by
  unfold encE at he
  by_cases h1 : 256 < rs.length
  · rw [if_pos h1] at he; simp at he
  rw [if_neg h1] at he
  cases rs with
  | nil => simp [encAll] at h
  | cons r s =>
    refine dec_more (r :: s) none 0 22 _ he (by simp at h1 ⊢; omega) ht (by decide) ?_
    have e1 := readS_size r.1 (ht r (by simp)) (size r.2.length ++ (r.2 ++ encAll s))
    rw [← encAll_cons] at e1
    rw [decGo_cons _ _ h, e1]
    simp only [ne_eq, not_true_eq_false, if_false]
    have he' : encErr (some r.1) s = 0 := by
      unfold encErr at he
      simp only [Option.any_none, Bool.false_eq_true, if_false] at he
      by_cases h2 : 65536 < r.2.length
      · rw [if_pos h2] at he; simp at he
      · rw [if_neg h2] at he; exact he
    obtain ⟨q', h3, h4⟩ := lastP_ge s r.1 he'
    have h3' : lastP none (r :: s) = some q' := h3
    rw [if_pos (by rw [h3']; simpa using h4)]
end Go.Proofs.Ytfcnpmkpdikgeaa

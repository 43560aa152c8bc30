/- Plain: what bytes' records are, their bytes are again. No program in sight. -/
import Derived.Test.YtgaidleepjkldaaDec
namespace Go.Proofs.Ytgaidleepjkldaa

theorem dig_mod (x i j : Nat) : x % 256 ^ (i + (j + 1)) / 256 ^ i % 256 = x / 256 ^ i % 256 := by
  rw [Nat.pow_add, Nat.mod_mul_right_div_self, Nat.mod_mod_of_dvd]
  exact ⟨256 ^ j, by rw [Nat.pow_succ, Nat.mul_comm]⟩
theorem be_mod : ∀ (n m x : Nat), n ≤ m → be n (x % 256 ^ m) = be n x := by
  intro n
  induction n with
  | zero => intros; rfl
  | succ n ih =>
    intro m x h
    obtain ⟨j, rfl⟩ : ∃ j, m = n + (j + 1) := ⟨m - n - 1, by omega⟩
    rw [be, be, dig_mod, ih _ _ (by omega)]
theorem beVal_cons (y : Nat) (r : List Nat) : beVal (y :: r) = y * 256 ^ r.length + beVal r := by
  have key : ∀ (l : List Nat) (s : Nat), l.foldl (fun x c => x * 256 + c) s = s * 256 ^ l.length + l.foldl (fun x c => x * 256 + c) 0 := by
    intro l
    induction l with
    | nil => simp
    | cons c r ih =>
      intro s
      simp only [List.foldl_cons, List.length_cons]
      rw [ih (s * 256 + c), ih (0 * 256 + c), Nat.pow_succ]
      generalize 256 ^ r.length = p
      rw [Nat.add_mul, Nat.zero_mul, Nat.zero_add, Nat.mul_assoc, Nat.mul_comm 256 p, Nat.add_assoc]
  show List.foldl _ _ (y :: r) = _
  rw [List.foldl_cons, key]
  simp [beVal]
theorem be_beVal (ys : List Nat) (h : ∀ d ∈ ys, d < 256) : be ys.length (beVal ys) = ys := by
  induction ys with
  | nil => rfl
  | cons y r ih =>
    have hy := h y (by simp)
    have hr := beVal_lt r (fun d hd => h d (by simp [hd]))
    have ihr := ih (fun d hd => h d (by simp [hd]))
    rw [beVal_cons, List.length_cons, be]
    have e1 : (y * 256 ^ r.length + beVal r) / 256 ^ r.length = y := by
      rw [Nat.mul_comm, Nat.mul_add_div (Nat.pow_pos (by omega)), Nat.div_eq_of_lt hr, Nat.add_zero]
    rw [e1, Nat.mod_eq_of_lt hy]
    congr 1
    rw [← be_mod _ _ (y * 256 ^ r.length + beVal r) (Nat.le_refl _)]
    have e2 : (y * 256 ^ r.length + beVal r) % 256 ^ r.length = beVal r := by
      rw [Nat.mul_comm, Nat.mul_add_mod, Nat.mod_eq_of_lt hr]
    rw [e2]
    exact ihr
theorem readS_canon {xs : List Nat} {t m : Nat} (h : readS xs = (t, m, 0)) (hx : ∀ d ∈ xs, d < 256) : xs = size t ++ xs.drop m := by
  cases xs with
  | nil => simp [readS] at h
  | cons x r =>
    have hr : ∀ n, ∀ d ∈ r.take n, d < 256 := fun n d hd => hx d (by simp [List.mem_of_mem_take hd])
    have hx1 := hx x (by simp)
    unfold readS at h
    simp only at h
    by_cases h0 : folN x = 0
    · rw [if_pos h0] at h
      simp only [Prod.mk.injEq] at h
      obtain ⟨rfl, rfl, _⟩ := h
      have hlt : x < 253 := by
        unfold folN at h0
        (repeat' split at h0) <;> omega
      simp [size, hlt]
    · rw [if_neg h0] at h
      by_cases h1 : r.length < folN x
      · rw [if_pos h1] at h; simp at h
      · rw [if_neg h1] at h
        by_cases h2 : beVal (r.take (folN x)) < folL x
        · rw [if_pos h2] at h; simp at h
        · rw [if_neg h2] at h
          simp only [Prod.mk.injEq] at h
          obtain ⟨rfl, rfl, _⟩ := h
          have hl : (r.take (folN x)).length = folN x := by simp; omega
          have hb := be_beVal _ (hr (folN x))
          have hv := beVal_lt _ (hr (folN x))
          rw [hl] at hb hv
          rw [List.drop_succ_cons]
          have e : r = r.take (folN x) ++ r.drop (folN x) := (List.take_append_drop _ _).symm
          have key : size (beVal (r.take (folN x))) = x :: be (folN x) (beVal (r.take (folN x))) := by
            generalize beVal (r.take (folN x)) = z at *
            unfold folN folL at *
            by_cases q1 : x = 253
            · subst q1; simp at *; unfold size; rw [if_neg (by omega), if_pos (by omega)]
            · by_cases q2 : x = 254
              · subst q2; simp at *; unfold size; rw [if_neg (by omega), if_neg (by omega), if_pos (by omega)]
              · by_cases q3 : x = 255
                · subst q3; simp at *; unfold size; rw [if_neg (by omega), if_neg (by omega), if_neg (by omega)]
                · simp [q1, q2, q3] at h0
          rw [key, hb, List.cons_append]
          rw [← e]
/-- whatever bytes are read as records are just these records' bytes -/
theorem dec_enc : ∀ (f : Nat) (p : Option Nat) (n : Nat) (xs : List Nat), xs.length < f → (∀ d ∈ xs, d < 256) → (decGo f p n xs).2 = 0 → encErr p (decGo f p n xs).1 = 0 ∧ encAll (decGo f p n xs).1 = xs ∧ (n ≤ 256 → (decGo f p n xs).1.length + n ≤ 256) := by
  intro f
  induction f with
  | zero => intro p n xs h; omega
  | succ f ih =>
    intro p n xs hf hx hz
    cases hxs : xs with
    | nil => simp [decGo, encErr, encAll]
    | cons x r =>
      rw [← hxs]
      have hne : xs ≠ [] := by rw [hxs]; simp
      rw [decGo_fuel (f + 1) (xs.length + 1) p n xs hf (Nat.lt_succ_self _)] at hz ⊢
      rw [decGo_cons p n hne] at hz ⊢
      obtain ⟨⟨t, m, e⟩, hR⟩ : ∃ R, readS xs = R := ⟨_, rfl⟩
      rw [hR] at hz ⊢
      simp only at hz ⊢
      by_cases h1 : e ≠ 0
      · rw [if_pos h1] at hz; exact absurd hz h1
      · rw [if_neg h1] at hz ⊢
        have he : e = 0 := by simpa using h1
        subst he
        by_cases h2 : p.any (fun q => decide (t ≤ q)) = true
        · rw [if_pos h2] at hz; simp at hz
        · rw [if_neg h2] at hz ⊢
          have c1 := readS_canon hR hx
          have l1 := readS_len (bs := xs) (by rw [hR])
          rw [hR] at l1
          have hx2 : ∀ d ∈ xs.drop m, d < 256 := fun d hd => hx d (List.mem_of_mem_drop hd)
          obtain ⟨⟨sz, k, e2⟩, hS⟩ : ∃ R, readS (xs.drop m) = R := ⟨_, rfl⟩
          rw [hS] at hz ⊢
          simp only at hz ⊢
          by_cases h3 : e2 ≠ 0
          · rw [if_pos h3] at hz; exact absurd hz h3
          · rw [if_neg h3] at hz ⊢
            have he2 : e2 = 0 := by simpa using h3
            subst he2
            have c2 := readS_canon hS hx2
            by_cases h4 : 65536 < sz
            · rw [if_pos h4] at hz; simp at hz
            · rw [if_neg h4] at hz ⊢
              by_cases h5 : ((xs.drop m).drop k).length < sz
              · rw [if_pos h5] at hz; simp at hz
              · rw [if_neg h5] at hz ⊢
                by_cases h6 : 256 ≤ n
                · rw [if_pos h6] at hz; simp at hz
                · rw [if_neg h6] at hz ⊢
                  have hx3 : ∀ d ∈ ((xs.drop m).drop k).drop sz, d < 256 := fun d hd => hx2 d (List.mem_of_mem_drop (List.mem_of_mem_drop hd))
                  have hlt : (((xs.drop m).drop k).drop sz).length < f := by
                    have : 1 ≤ m ∧ m ≤ xs.length := l1
                    simp; omega
                  have IH := ih (some t) (n + 1) (((xs.drop m).drop k).drop sz) hlt hx3
                  rw [decGo_fuel f ((((xs.drop m).drop k).drop sz).length + 1) _ _ _ hlt (Nat.lt_succ_self _)] at IH
                  generalize hu : decGo ((((xs.drop m).drop k).drop sz).length + 1) (some t) (n + 1) (((xs.drop m).drop k).drop sz) = u at *
                  by_cases h7 : u.2 ≠ 0
                  · rw [if_pos h7] at hz; exact absurd hz h7
                  · rw [if_neg h7]
                    obtain ⟨i1, i2, i3⟩ := IH (by simpa using h7)
                    have htk : (((xs.drop m).drop k).take sz).length = sz := by rw [List.length_take]; omega
                    refine ⟨?_, ?_, fun hn => ?_⟩
                    · rw [encErr, if_neg h2, if_neg (by show ¬ 65536 < (((xs.drop m).drop k).take sz).length; rw [htk]; exact h4)]
                      exact i1
                    · show encR (t, ((xs.drop m).drop k).take sz) ++ encAll u.1 = xs
                      rw [i2, encR]
                      simp only
                      rw [htk]
                      conv => rhs; rw [c1, c2]
                      rw [List.append_assoc, List.append_assoc, List.take_append_drop]
                    · have := i3 (by omega)
                      simp only [List.length_cons]; omega
theorem decS_bad {bs : List Nat} (h : (decS bs).2 ≠ 0) : (decS bs).1 = [] := by
  have := dec_init bs
  unfold comb at this
  rw [if_pos h] at this
  rw [this]
theorem decS_enc {bs : List Nat} (hx : ∀ d ∈ bs, d < 256) (h : (decS bs).2 = 0) : encE (decS bs).1 = 0 ∧ encAll (decS bs).1 = bs := by
  obtain ⟨h1, h2, h3⟩ := dec_enc (bs.length + 1) none 0 bs (Nat.lt_succ_self _) hx h
  refine ⟨?_, h2⟩
  have h3' := h3 (by omega)
  unfold encE
  rw [if_neg (by show ¬ 256 < (decGo (bs.length + 1) none 0 bs).1.length; omega)]
  exact h1
end Go.Proofs.Ytgaidleepjkldaa

/- Plain facts on numbers as lists of digits below 256, the lowest first. No program in sight. -/
import Derived.WalkKit
namespace Go.Proofs.YtllckpcggmfmkaaDoor

def val : List Nat → Nat
  | [] => 0
  | d :: r => d + 256 * val r
def Dg (xs : List Nat) : Prop := ∀ d ∈ xs, d < 256
/-- the digits of x: all below 256, no nought at the end -/
def Dig (xs : List Nat) (x : Nat) : Prop := val xs = x ∧ Dg xs ∧ ∀ ys d, xs = ys ++ [d] → d ≠ 0

theorem val_append (xs ys : List Nat) : val (xs ++ ys) = val xs + 256 ^ xs.length * val ys := by
  induction xs with
  | nil => simp [val]
  | cons d r ih => simp [val, ih, Nat.mul_add, Nat.pow_succ, Nat.mul_assoc, Nat.mul_left_comm, Nat.add_assoc]
theorem val_snoc (xs : List Nat) (d : Nat) : val (xs ++ [d]) = val xs + 256 ^ xs.length * d := by simp [val_append, val]
theorem val_lt (xs : List Nat) (h : Dg xs) : val xs < 256 ^ xs.length := by
  induction xs with
  | nil => simp [val]
  | cons d r ih =>
    have h1 := h d (by simp)
    have h2 := ih (fun e he => h e (by simp [he]))
    simp only [val, List.length_cons, Nat.pow_succ]
    have : 256 * (val r + 1) ≤ 256 * 256 ^ r.length := Nat.mul_le_mul_left _ h2
    rw [Nat.mul_comm _ 256]
    omega
theorem Dg_snoc {xs : List Nat} {d : Nat} (h : Dg xs) (hd : d < 256) : Dg (xs ++ [d]) := by
  intro e he
  rcases List.mem_append.1 he with h1 | h1
  · exact h e h1
  · simp at h1; omega
theorem Dg_take {xs : List Nat} (h : Dg xs) (n : Nat) : Dg (xs.take n) := fun d hd => h d (List.mem_of_mem_take hd)
theorem Dig.ge {xs : List Nat} {x : Nat} (h : Dig xs x) (hl : 0 < xs.length) : 256 ^ (xs.length - 1) ≤ x := by
  rcases List.eq_nil_or_concat xs with rfl | ⟨ys, d, rfl⟩
  · simp at hl
  · obtain ⟨rfl, h2, h3⟩ := h
    rw [List.concat_eq_append, val_snoc]
    have hd := h3 ys d (by simp)
    have : 256 ^ ys.length * 1 ≤ 256 ^ ys.length * d := Nat.mul_le_mul_left _ (by omega)
    simp
    omega
theorem Dig.lt {xs : List Nat} {x : Nat} (h : Dig xs x) : x < 256 ^ xs.length := by obtain ⟨rfl, h2, _⟩ := h; exact val_lt xs h2
theorem pow256_le {a b : Nat} (h : a ≤ b) : 256 ^ a ≤ 256 ^ b := Nat.pow_le_pow_right (by omega) h
theorem Dig.len_le {xs : List Nat} {x k : Nat} (h : Dig xs x) (hx : x < 256 ^ k) : xs.length ≤ k := by
  apply Nat.le_of_not_lt; intro hk
  have h1 := h.ge (by omega)
  have h2 : 256 ^ k ≤ 256 ^ (xs.length - 1) := pow256_le (by omega)
  omega
theorem Dig.len_mono {xs ys : List Nat} {x y : Nat} (h : Dig xs x) (k : Dig ys y) (hl : xs.length < ys.length) : x < y := by
  have h1 := h.lt
  have h2 := k.ge (by omega)
  have h3 : 256 ^ xs.length ≤ 256 ^ (ys.length - 1) := pow256_le (by omega)
  omega
theorem Dig.nil : Dig [] 0 := ⟨rfl, fun _ h => by simp at h, fun ys d h => by simp at h⟩
theorem Dig.zero {xs : List Nat} (h : Dig xs 0) : xs = [] := by
  have := h.len_le (k := 0) (by simp)
  exact List.eq_nil_of_length_eq_zero (by omega)
/-- one round of 'Of': x's digits so far and what is left -/
theorem Dig_of_step {xs : List Nat} (x k : Nat) (h : val xs + 256 ^ xs.length * k = x) :
    val (xs ++ [k % 256]) + 256 ^ (xs ++ [k % 256]).length * (k / 256) = x := by
  rw [val_snoc, List.length_append]
  simp only [List.length_singleton, Nat.pow_succ]
  have : 256 ^ xs.length * k = 256 ^ xs.length * (k % 256) + 256 ^ xs.length * 256 * (k / 256) := by
    rw [Nat.mul_assoc, ← Nat.mul_add, Nat.mod_add_div]
  omega

def cmpI (x y : Nat) : Int := if x < y then -1 else if y < x then 1 else 0
theorem drop_eq_cons {xs : List Nat} {k : Nat} (h : k < xs.length) : xs.drop k = xs.getD k 0 :: xs.drop (k + 1) := by
  rw [List.drop_eq_getElem_cons h]; simp [List.getElem?_eq_getElem h]
theorem val_split (xs : List Nat) (k : Nat) (h : k ≤ xs.length) : val xs = val (xs.take k) + 256 ^ k * val (xs.drop k) := by
  have := val_append (xs.take k) (xs.drop k)
  rw [List.take_append_drop, List.length_take, Nat.min_eq_left h] at this
  exact this
theorem val_lt_at {xs ys : List Nat} {j : Nat} (hx : Dg xs) (hl : xs.length = ys.length) (hj : j < xs.length) (he : xs.drop (j + 1) = ys.drop (j + 1)) (h : xs.getD j 0 < ys.getD j 0) : val xs < val ys := by
  rw [val_split xs j (by omega), val_split ys j (by omega), drop_eq_cons hj, drop_eq_cons (xs := ys) (by omega), he]
  have h1 := val_lt (xs.take j) (Dg_take hx j)
  rw [List.length_take, Nat.min_eq_left (by omega)] at h1
  simp only [val]
  have h2 : 256 ^ j * (xs.getD j 0 + 256 * val (ys.drop (j + 1)) + 1) ≤ 256 ^ j * (ys.getD j 0 + 256 * val (ys.drop (j + 1))) := Nat.mul_le_mul_left _ (by omega)
  rw [Nat.mul_add _ _ 1] at h2
  omega
theorem cmpI_lt {x y : Nat} (h : x < y) : cmpI x y = -1 := by simp [cmpI, h]
theorem cmpI_gt {x y : Nat} (h : y < x) : cmpI x y = 1 := by unfold cmpI; rw [if_neg (by omega), if_pos h]
theorem cmpI_eq (x : Nat) : cmpI x x = 0 := by simp [cmpI]

theorem val_take_succ (xs : List Nat) (k : Nat) : val (xs.take (k + 1)) = val (xs.take k) + 256 ^ k * xs.getD k 0 := by
  by_cases h : k < xs.length
  · rw [List.take_succ_eq_append_getElem h, val_snoc]
    simp [List.getElem?_eq_getElem h, Nat.min_eq_left (Nat.le_of_lt h)]
  · rw [List.take_of_length_le (by omega), List.take_of_length_le (by omega)]
    simp [List.getElem?_eq_none (Nat.le_of_not_lt h)]
theorem getD_out {xs : List Nat} {k : Nat} (h : ¬ k < xs.length) : xs.getD k 0 = 0 := by simp [List.getElem?_eq_none (Nat.le_of_not_lt h)]
theorem getD_lt {xs : List Nat} (h : Dg xs) (k : Nat) : xs.getD k 0 < 256 := by
  by_cases hk : k < xs.length
  · have := h (xs[k]) (List.getElem_mem hk); simp [List.getElem?_eq_getElem hk, this]
  · rw [getD_out hk]; omega
/-- the state of 'Add' after k rounds -/
def AddSt (xs ys os : List Nat) (k c : Nat) : Prop :=
  os.length = k ∧ Dg os ∧ c ≤ 1 ∧ val os + 256 ^ k * c = val (xs.take k) + val (ys.take k) ∧ k ≤ max xs.length ys.length + 1 ∧ (max xs.length ys.length < k → c = 0)
theorem AddSt.step {xs ys os : List Nat} {k c : Nat} (h : AddSt xs ys os k c) (hx : Dg xs) (hy : Dg ys) (hgo : k < xs.length ∨ k < ys.length ∨ 0 < c) :
    AddSt xs ys (os ++ [(c + xs.getD k 0 + ys.getD k 0) % 256]) (k + 1) ((c + xs.getD k 0 + ys.getD k 0) / 256) := by
  obtain ⟨h1, h2, h3, h4, h5, h6⟩ := h
  have dx := getD_lt hx k
  have dy := getD_lt hy k
  have hkm : k ≤ max xs.length ys.length := by
    apply Nat.le_of_not_lt; intro hlt
    have := h6 hlt
    omega
  refine ⟨by simp [h1], Dg_snoc h2 (by omega), by omega, ?_, by omega, ?_⟩
  · rw [val_snoc, val_take_succ, val_take_succ, h1, Nat.pow_succ, Nat.mul_assoc]
    have e := Nat.mod_add_div (c + xs.getD k 0 + ys.getD k 0) 256
    have e2 : 256 ^ k * ((c + xs.getD k 0 + ys.getD k 0) % 256) + 256 ^ k * (256 * ((c + xs.getD k 0 + ys.getD k 0) / 256)) = 256 ^ k * c + 256 ^ k * xs.getD k 0 + 256 ^ k * ys.getD k 0 := by
      rw [← Nat.mul_add, e, Nat.mul_add, Nat.mul_add]
    omega
  · intro hlt
    have e1 := getD_out (xs := xs) (k := k) (by omega)
    have e2 := getD_out (xs := ys) (k := k) (by omega)
    omega
theorem AddSt.fin {xs ys os : List Nat} {k : Nat} (h : AddSt xs ys os k 0) (h1 : xs.length ≤ k) (h2 : ys.length ≤ k) : val os = val xs + val ys := by
  obtain ⟨_, _, _, h4, _, _⟩ := h
  rw [List.take_of_length_le h1, List.take_of_length_le h2] at h4
  omega
theorem AddSt.nil (xs ys : List Nat) : AddSt xs ys [] 0 0 := ⟨rfl, fun _ h => by simp at h, by omega, by simp [val], by omega, by omega⟩

theorem val_set {os : List Nat} {j p : Nat} (h : j < os.length) : val (os.set j (os.getD j 0 + p)) = val os + 256 ^ j * p := by
  induction os generalizing j with
  | nil => simp at h
  | cons d r ih =>
    cases j with
    | zero => simp [val]; omega
    | succ j =>
      have := ih (j := j) (by simpa using h)
      simp only [List.getD_cons_succ] at *
      simp only [List.set_cons_succ, val, this, Nat.pow_succ]
      rw [Nat.mul_add, Nat.mul_comm (256 ^ j) 256, Nat.mul_assoc]; omega
theorem val_replicate (n : Nat) : val (List.replicate n 0) = 0 := by
  induction n with
  | zero => rfl
  | succ n ih => simp [List.replicate_succ, val, ih]
theorem mem_set_le {os : List Nat} {j v b : Nat} (h : ∀ d ∈ os, d ≤ b) (hv : v ≤ b) : ∀ d ∈ os.set j v, d ≤ b := by
  intro d hd
  rcases List.mem_or_eq_of_mem_set hd with h1 | h1
  · exact h d h1
  · omega
theorem getD_le {os : List Nat} {b : Nat} (h : ∀ d ∈ os, d ≤ b) (k : Nat) : os.getD k 0 ≤ b := by
  by_cases hk : k < os.length
  · have := h (os[k]) (List.getElem_mem hk); simp [List.getElem?_eq_getElem hk, this]
  · rw [getD_out hk]; omega
/-- the state of 'Mul' after i rounds, and k within -/
def MulSt (xs ys os : List Nat) (i k : Nat) : Prop :=
  os.length = xs.length + ys.length + 4 ∧ val os = val (xs.take i) * val ys + 256 ^ i * (xs.getD i 0 * val (ys.take k)) ∧ ∀ d ∈ os, d ≤ (i * ys.length + k) * 65025
theorem MulSt.step {xs ys os : List Nat} {i k : Nat} (h : MulSt xs ys os i k) (hx : Dg xs) (hy : Dg ys) (hi : i < xs.length) (hk : k < ys.length) :
    MulSt xs ys (os.set (i + k) (os.getD (i + k) 0 + xs.getD i 0 * ys.getD k 0)) i (k + 1) := by
  obtain ⟨h1, h2, h3⟩ := h
  have dx := getD_lt hx i
  have dy := getD_lt hy k
  have hp : xs.getD i 0 * ys.getD k 0 ≤ 255 * 255 := Nat.mul_le_mul (by omega) (by omega)
  have hg := getD_le h3 (i + k)
  refine ⟨by simp [h1], ?_, ?_⟩
  · rw [val_set (by omega), val_take_succ, h2, Nat.pow_add, Nat.mul_add (xs.getD i 0), Nat.mul_add (256 ^ i), Nat.mul_assoc, Nat.mul_left_comm (256 ^ k) (xs.getD i 0)]
    omega
  · refine mem_set_le (fun d hd => Nat.le_trans (h3 d hd) ?_) ?_
    · exact Nat.mul_le_mul_right _ (by omega)
    · have : (i * ys.length + (k + 1)) * 65025 = (i * ys.length + k) * 65025 + 65025 := by rw [← Nat.add_assoc, Nat.add_mul (i * ys.length + k) 1]
      omega
theorem MulSt.next {xs ys os : List Nat} {i : Nat} (h : MulSt xs ys os i ys.length) : MulSt xs ys os (i + 1) 0 := by
  obtain ⟨h1, h2, h3⟩ := h
  refine ⟨h1, ?_, fun d hd => ?_⟩
  · rw [List.take_length] at h2
    simp only [List.take_zero, val, Nat.mul_zero, Nat.add_zero]
    rw [val_take_succ, Nat.add_mul, h2, Nat.mul_assoc]
  · have := h3 d hd
    rw [show (i + 1) * ys.length + 0 = i * ys.length + ys.length from by rw [Nat.add_mul]; omega]; exact this
theorem MulSt.start (xs ys : List Nat) : MulSt xs ys (List.replicate (xs.length + ys.length + 4) 0) 0 0 := by
  refine ⟨by simp, by simp [val_replicate, val], fun d hd => ?_⟩
  rw [List.eq_of_mem_replicate hd]; omega
/-- the state while it is carried: the first k digits are right -/
def CarSt (L N : Nat) (os : List Nat) (k c b : Nat) : Prop :=
  os.length = L ∧ Dg (os.take k) ∧ val (os.take k) + 256 ^ k * (c + val (os.drop k)) = N ∧ c ≤ b ∧ ∀ d ∈ os, d ≤ b
theorem CarSt.step {L N k c b : Nat} {os : List Nat} (h : CarSt L N os k c b) (hk : k < L) (hb : 256 ≤ b) :
    CarSt L N (os.set k ((c + os.getD k 0) % 256)) (k + 1) ((c + os.getD k 0) / 256) b := by
  obtain ⟨h1, h2, h3, h4, h5⟩ := h
  have hg := getD_le h5 k
  have e1 : (os.set k ((c + os.getD k 0) % 256)).take (k + 1) = os.take k ++ [(c + os.getD k 0) % 256] := by
    rw [List.take_succ_eq_append_getElem (by simp; omega)]
    simp [List.take_set_of_le]
  have e2 : (os.set k ((c + os.getD k 0) % 256)).drop (k + 1) = os.drop (k + 1) := List.drop_set_of_lt (by omega)
  have hl : (os.take k).length = k := by simp; omega
  refine ⟨by simp [h1], ?_, ?_, by omega, mem_set_le h5 (by omega)⟩
  · rw [e1]; exact Dg_snoc h2 (by omega)
  · rw [e1, e2, val_snoc, hl, ← h3, drop_eq_cons (xs := os) (k := k) (by omega), val, Nat.pow_succ, Nat.mul_assoc]
    have e := Nat.mod_add_div (c + os.getD k 0) 256
    generalize (c + os.getD k 0) % 256 = r at *
    generalize (c + os.getD k 0) / 256 = q at *
    rw [Nat.add_assoc, ← Nat.mul_add]
    congr 2
    omega
theorem CarSt.fin {L N c b : Nat} {os : List Nat} (h : CarSt L N os L c b) (hN : N < 256 ^ L) : val os = N ∧ Dg os := by
  obtain ⟨h1, h2, h3, _, _⟩ := h
  rw [List.take_of_length_le (by omega)] at h2 h3
  rw [List.drop_of_length_le (by omega)] at h3
  simp only [val, Nat.add_zero] at h3
  have : c = 0 := by
    rcases Nat.eq_zero_or_pos c with h | h
    · exact h
    · have : 256 ^ L * 1 ≤ 256 ^ L * c := Nat.mul_le_mul_left _ h
      omega
  subst this
  exact ⟨by omega, h2⟩
theorem mul_lt_pow {xs ys : List Nat} (hx : Dg xs) (hy : Dg ys) : val xs * val ys < 256 ^ (xs.length + ys.length + 4) := by
  have h1 := val_lt xs hx
  have h2 := val_lt ys hy
  have h3 : 256 ^ (xs.length + ys.length) ≤ 256 ^ (xs.length + ys.length + 4) := pow256_le (by omega)
  have h4 : val xs * val ys ≤ 256 ^ xs.length * val ys := Nat.mul_le_mul_right _ (by omega)
  have h5 : 256 ^ xs.length * (val ys + 1) ≤ 256 ^ xs.length * 256 ^ ys.length := Nat.mul_le_mul_left _ h2
  have h6 : 0 < 256 ^ xs.length := Nat.pow_pos (by omega)
  rw [Nat.pow_add] at h3
  rw [Nat.mul_add] at h5
  omega
theorem MulSt.car {xs ys os : List Nat} (h : MulSt xs ys os xs.length 0) (h1 : xs.length ≤ 1048576) (h2 : ys.length ≤ 1048576) : CarSt (xs.length + ys.length + 4) (val xs * val ys) os 0 0 72057594037927936 := by
  obtain ⟨g1, g2, g3⟩ := h
  refine ⟨g1, fun d hd => by simp at hd, ?_, by omega, fun d hd => ?_⟩
  · rw [List.take_length] at g2
    simp only [List.take_zero, val, Nat.mul_zero, Nat.add_zero, Nat.pow_zero, Nat.zero_add, List.drop_zero, Nat.one_mul] at *
    exact g2
  · have a1 := g3 d hd
    have a2 : xs.length * ys.length ≤ 1048576 * 1048576 := Nat.mul_le_mul h1 h2
    omega

/-- the state of 'Sub' after k rounds -/
def SubSt (xs ys os : List Nat) (k c : Nat) : Prop :=
  os.length = k ∧ Dg os ∧ c ≤ 1 ∧ val os + val (ys.take k) = val (xs.take k) + 256 ^ k * c
def subDig (d e c : Nat) : Nat := if d < e + c then d + 256 - e - c else d - e - c
def subOwe (d e c : Nat) : Nat := if d < e + c then 1 else 0
theorem SubSt.step {xs ys os : List Nat} {k c : Nat} (h : SubSt xs ys os k c) (hx : Dg xs) (hy : Dg ys) :
    SubSt xs ys (os ++ [subDig (xs.getD k 0) (ys.getD k 0) c]) (k + 1) (subOwe (xs.getD k 0) (ys.getD k 0) c) := by
  obtain ⟨h1, h2, h3, h4⟩ := h
  have dx := getD_lt hx k
  have dy := getD_lt hy k
  generalize hd : xs.getD k 0 = d at *
  generalize he : ys.getD k 0 = e at *
  have e0 : subDig d e c + e + c = d + 256 * subOwe d e c ∧ subDig d e c < 256 ∧ subOwe d e c ≤ 1 := by
    unfold subDig subOwe; split <;> omega
  obtain ⟨e1, e2, e3⟩ := e0
  refine ⟨by simp [h1], Dg_snoc h2 e2, e3, ?_⟩
  rw [val_snoc, val_take_succ, val_take_succ, hd, he, h1, Nat.pow_succ, Nat.mul_assoc]
  have e4 : 256 ^ k * (subDig d e c) + 256 ^ k * e + 256 ^ k * c = 256 ^ k * d + 256 ^ k * (256 * subOwe d e c) := by
    rw [← Nat.mul_add, ← Nat.mul_add, ← Nat.mul_add, e1]
  omega
theorem SubSt.nil (xs ys : List Nat) : SubSt xs ys [] 0 0 := ⟨rfl, fun _ h => by simp at h, by omega, by simp [val]⟩
theorem SubSt.fin {xs ys os : List Nat} {k c : Nat} (h : SubSt xs ys os k c) (h1 : xs.length ≤ k) (h2 : ys.length ≤ k) (hle : val ys ≤ val xs) : val os = val xs - val ys := by
  obtain ⟨g1, g2, g3, h4⟩ := h
  rw [List.take_of_length_le h1, List.take_of_length_le h2] at h4
  have := val_lt os g2
  rw [g1] at this
  rcases Nat.eq_zero_or_pos c with h0 | h0
  · subst h0; omega
  · have : c = 1 := by omega
    subst this
    omega
theorem val_drop_lt {xs : List Nat} (h : Dg xs) (k : Nat) : val (xs.drop k) < 256 ^ (xs.length - k) := by
  have := val_lt (xs.drop k) (fun d hd => h d (List.mem_of_mem_drop hd))
  simpa using this

end Go.Proofs.YtllckpcggmfmkaaDoor

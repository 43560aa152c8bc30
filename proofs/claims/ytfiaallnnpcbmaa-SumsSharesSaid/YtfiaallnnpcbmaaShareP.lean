/- Plain facts on a sum that is parted among weights. No program in sight. -/
import Derived.Test.YtfiaallnnpcbmaaMem
namespace Go.Proofs.Ytfiaallnnpcbmaa

/-- a list of n numbers, by place -/
def arr (n : Nat) (f : Nat → Nat) : List Nat := (List.range n).map f
@[simp] theorem arr_length (n : Nat) (f : Nat → Nat) : (arr n f).length = n := by simp [arr]
theorem arr_getD {n j : Nat} (f : Nat → Nat) (h : j < n) : (arr n f).getD j 0 = f j := by simp [arr, h]
theorem arr_succ (n : Nat) (f : Nat → Nat) : arr (n + 1) f = arr n f ++ [f n] := by simp [arr, List.range_succ]
theorem arr_congr {n : Nat} {f g : Nat → Nat} (h : ∀ j, j < n → f j = g j) : arr n f = arr n g := by
  unfold arr; exact List.map_congr_left (fun j hj => h j (by simpa using hj))
theorem arr_set {n k v : Nat} {f g : Nat → Nat} (h : ∀ j, j < n → g j = if j = k then v else f j) : (arr n f).set k v = arr n g := by
  apply List.ext_getElem
  · simp
  · intro j h1 h2
    simp at h2
    have := h j h2
    rw [List.getElem_set]
    simp only [arr, List.getElem_map, List.getElem_range]
    rw [this]
    by_cases hjk : k = j
    · rw [if_pos hjk, if_pos hjk.symm]
    · rw [if_neg hjk, if_neg (fun h => hjk h.symm)]
theorem arr_sum_succ (n : Nat) (f : Nat → Nat) : (arr (n + 1) f).sum = (arr n f).sum + f n := by rw [arr_succ, List.sum_append]; simp
theorem arr_replicate (n : Nat) : arr n (fun _ => 0) = List.replicate n 0 := by simp [arr, List.eq_replicate_iff]

section
variable (sum all : Nat) (ws : List Nat)
def wAt (j : Nat) : Nat := ws.getD j 0
/-- each one's part, rounded down -/
def pAt (j : Nat) : Nat := sum * wAt ws j / all
/-- how many of the first k weigh something -/
def pos (k : Nat) : Nat := (arr k (fun j => if 0 < wAt ws j then 1 else 0)).sum
/-- what is left -/
def lft : Nat := sum - (arr ws.length (pAt sum all ws)).sum
def finAt (j : Nat) : Nat := pAt sum all ws j + (if 0 < wAt ws j ∧ pos ws j < lft sum all ws then 1 else 0)
/-- the parts while the rest is given, k done -/
def midAt (k j : Nat) : Nat := if j < k then finAt sum all ws j else pAt sum all ws j
end
theorem pos_succ (ws : List Nat) (k : Nat) : pos ws (k + 1) = pos ws k + if 0 < wAt ws k then 1 else 0 := arr_sum_succ _ _
theorem pos_mono (ws : List Nat) {i j : Nat} (h : i ≤ j) : pos ws i ≤ pos ws j := by
  induction j with
  | zero => have : i = 0 := by omega
            subst this; exact Nat.le_refl _
  | succ j ih =>
    rw [pos_succ]
    by_cases hij : i ≤ j
    · have := ih hij; omega
    · have : i = j + 1 := by omega
      subst this; rw [pos_succ]; exact Nat.le_refl _
theorem mid_set {sum all : Nat} {ws : List Nat} {k : Nat} : (arr ws.length (midAt sum all ws k)).set k (finAt sum all ws k) = arr ws.length (midAt sum all ws (k + 1)) := by
  apply arr_set
  intro j _
  unfold midAt
  by_cases h1 : j = k
  · subst h1; simp
  · by_cases h2 : j < k
    · rw [if_pos (show j < k + 1 by omega), if_neg h1, if_pos h2]
    · rw [if_neg (show ¬ j < k + 1 by omega), if_neg h1, if_neg h2]
theorem mid_same {sum all : Nat} {ws : List Nat} {k : Nat} (h : finAt sum all ws k = pAt sum all ws k) : arr ws.length (midAt sum all ws k) = arr ws.length (midAt sum all ws (k + 1)) := by
  apply arr_congr
  intro j _
  unfold midAt
  by_cases h1 : j = k
  · subst h1; simp [h]
  · by_cases h2 : j < k
    · rw [if_pos h2, if_pos (show j < k + 1 by omega)]
    · rw [if_neg h2, if_neg (show ¬ j < k + 1 by omega)]
theorem mid_zero (sum all : Nat) (ws : List Nat) (n : Nat) : arr n (midAt sum all ws 0) = arr n (pAt sum all ws) := arr_congr (fun j _ => by unfold midAt; rw [if_neg (by omega)])
theorem mid_full (sum all : Nat) (ws : List Nat) : arr ws.length (midAt sum all ws ws.length) = arr ws.length (finAt sum all ws) := arr_congr (fun j h => by unfold midAt; rw [if_pos h])

/-- the sum of the parts, in full: what was cut off is what is left -/
theorem cut_sum (sum all : Nat) (ws : List Nat) (k : Nat) :
    all * (arr k (pAt sum all ws)).sum + (arr k (fun j => sum * wAt ws j % all)).sum = sum * (arr k (wAt ws)).sum := by
  induction k with
  | zero => simp [arr]
  | succ k ih =>
    rw [arr_sum_succ, arr_sum_succ, arr_sum_succ, Nat.mul_add, Nat.mul_add, ← ih]
    have := Nat.div_add_mod (sum * wAt ws k) all
    unfold pAt at *
    omega
theorem rest_le {sum all : Nat} {ws : List Nat} (ha : 0 < all) (k : Nat) : (arr k (fun j => sum * wAt ws j % all)).sum ≤ (all - 1) * pos ws k := by
  induction k with
  | zero => simp [arr]
  | succ k ih =>
    rw [arr_sum_succ, pos_succ, Nat.mul_add]
    by_cases h : 0 < wAt ws k
    · rw [if_pos h]
      have := Nat.mod_lt (sum * wAt ws k) ha
      omega
    · have : wAt ws k = 0 := by omega
      rw [if_neg h, this]
      simp
      exact ih
theorem arr_w (ws : List Nat) : arr ws.length (wAt ws) = ws := by
  apply List.ext_getElem
  · simp
  · intro j h1 h2
    simp [arr, wAt, List.getElem?_eq_getElem h2]
theorem part_sum_le {sum all : Nat} {ws : List Nat} (ha : 0 < all) (hs : ws.sum = all) {k : Nat} (hk : k ≤ ws.length) : (arr k (pAt sum all ws)).sum ≤ sum := by
  have h1 := cut_sum sum all ws k
  have h2 : (arr k (wAt ws)).sum ≤ all := by
    have h3 : arr k (wAt ws) = ws.take k := by
      apply List.ext_getElem
      · simp; omega
      · intro j h1 h2
        simp at h2
        simp [arr, wAt, List.getElem?_eq_getElem (show j < ws.length by omega)]
    rw [h3, ← hs]
    have := List.take_append_drop k ws
    have h4 : ((ws.take k) ++ (ws.drop k)).sum = ws.sum := by rw [this]
    rw [List.sum_append] at h4
    omega
  have h5 : sum * (arr k (wAt ws)).sum ≤ sum * all := Nat.mul_le_mul_left _ h2
  apply Nat.le_of_mul_le_mul_left _ ha
  rw [Nat.mul_comm all sum]
  omega
/-- less is left than weigh something -/
theorem left_lt {sum all : Nat} {ws : List Nat} (ha : 0 < all) (hs : ws.sum = all) : lft sum all ws < pos ws ws.length + 1 ∧ (lft sum all ws ≤ pos ws ws.length) := by
  have h1 := cut_sum sum all ws ws.length
  rw [arr_w, hs] at h1
  have h2 := rest_le (sum := sum) (ws := ws) ha ws.length
  have h3 := part_sum_le (sum := sum) ha hs (Nat.le_refl ws.length)
  have h4 : all * lft sum all ws ≤ all * pos ws ws.length := by
    unfold lft
    rw [Nat.mul_sub]
    have h5 : (all - 1) * pos ws ws.length ≤ all * pos ws ws.length := Nat.mul_le_mul_right _ (by omega)
    rw [Nat.mul_comm all sum]
    omega
  have := Nat.le_of_mul_le_mul_left h4 ha
  omega
theorem given (sum all : Nat) (ws : List Nat) (k : Nat) : (arr k (finAt sum all ws)).sum = (arr k (pAt sum all ws)).sum + min (pos ws k) (lft sum all ws) := by
  induction k with
  | zero => simp [arr, pos]
  | succ k ih =>
    rw [arr_sum_succ, arr_sum_succ, ih, pos_succ]
    unfold finAt
    by_cases h : 0 < wAt ws k
    · by_cases h2 : pos ws k < lft sum all ws
      · rw [if_pos ⟨h, h2⟩, if_pos h]; omega
      · rw [if_neg (fun h3 => h2 h3.2), if_pos h]; omega
    · rw [if_neg (fun h3 => h h3.1), if_neg h]; omega
theorem whole {sum all : Nat} {ws : List Nat} (ha : 0 < all) (hs : ws.sum = all) : (arr ws.length (finAt sum all ws)).sum = sum := by
  rw [given, Nat.min_eq_right (left_lt ha hs).2]
  have := part_sum_le (sum := sum) ha hs (Nat.le_refl ws.length)
  unfold lft
  omega
theorem arr_le_sum {n k : Nat} (f : Nat → Nat) (h : k < n) : f k ≤ (arr n f).sum := by
  induction n with
  | zero => omega
  | succ n ih =>
    rw [arr_sum_succ]
    by_cases hk : k < n
    · have := ih hk; omega
    · have : k = n := by omega
      subst this; omega
theorem fin_le {sum all : Nat} {ws : List Nat} (ha : 0 < all) (hs : ws.sum = all) {k : Nat} (hk : k < ws.length) : finAt sum all ws k ≤ sum := by
  have := arr_le_sum (finAt sum all ws) hk
  rw [whole ha hs] at this
  exact this
end Go.Proofs.Ytfiaallnnpcbmaa

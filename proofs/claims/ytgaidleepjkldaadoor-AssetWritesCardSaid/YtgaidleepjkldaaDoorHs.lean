/- Plain facts on numbers as lists of digits below 256, the lowest first. No program in sight. -/
import Derived.WalkKit
import Derived.Test.YtgaidleepjkldaaDoorBa
import Derived.RegionTactic
import Derived.BigRegion
import Derived.Test.YtgaidleepjkldaaDoorSp
import Derived.Laws.Tables
import Derived.StillTailTactics
namespace Go.Proofs.YtgaidleepjkldaaDoor

def val : List Nat → Nat
  | [] => 0
  | d :: r => d + 256 * val r
def Dg (xs : List Nat) : Prop := ∀ d ∈ xs, d < 256
/-- the digits of x: all below 256, no nought at the end -/
def Dig (xs : List Nat) (x : Nat) : Prop := val xs = x ∧ Dg xs ∧ ∀ ys d, xs = ys ++ [d] → d ≠ 0

theorem val_append (xs ys : List Nat) : val (xs ++ ys) = val xs + 256 ^ xs.length * val ys := by
  induction xs with
  | nil => simp [val]
  | cons d r ih => simp [val, ih, Nat.mul_add, Nat.pow_succ, Nat.mul_assoc, Nat.mul_left_comm, Nat.add_assoc]
theorem val_snoc (xs : List Nat) (d : Nat) : val (xs ++ [d]) = val xs + 256 ^ xs.length * d := by simp [val_append, val]
theorem val_lt (xs : List Nat) (h : Dg xs) : val xs < 256 ^ xs.length := by
  induction xs with
  | nil => simp [val]
  | cons d r ih =>
    have h1 := h d (by simp)
    have h2 := ih (fun e he => h e (by simp [he]))
    simp only [val, List.length_cons, Nat.pow_succ]
    have : 256 * (val r + 1) ≤ 256 * 256 ^ r.length := Nat.mul_le_mul_left _ h2
    rw [Nat.mul_comm _ 256]
    omega
theorem Dg_snoc {xs : List Nat} {d : Nat} (h : Dg xs) (hd : d < 256) : Dg (xs ++ [d]) := by
  intro e he
  rcases List.mem_append.1 he with h1 | h1
  · exact h e h1
  · simp at h1; omega
theorem Dg_take {xs : List Nat} (h : Dg xs) (n : Nat) : Dg (xs.take n) := fun d hd => h d (List.mem_of_mem_take hd)
theorem Dig.ge {xs : List Nat} {x : Nat} (h : Dig xs x) (hl : 0 < xs.length) : 256 ^ (xs.length - 1) ≤ x := by
  rcases List.eq_nil_or_concat xs with rfl | ⟨ys, d, rfl⟩
  · simp at hl
  · obtain ⟨rfl, h2, h3⟩ := h
    rw [List.concat_eq_append, val_snoc]
    have hd := h3 ys d (by simp)
    have : 256 ^ ys.length * 1 ≤ 256 ^ ys.length * d := Nat.mul_le_mul_left _ (by omega)
    simp
    omega
theorem Dig.lt {xs : List Nat} {x : Nat} (h : Dig xs x) : x < 256 ^ xs.length := by obtain ⟨rfl, h2, _⟩ := h; exact val_lt xs h2
theorem pow256_le {a b : Nat} (h : a ≤ b) : 256 ^ a ≤ 256 ^ b := Nat.pow_le_pow_right (by omega) h
theorem Dig.len_le {xs : List Nat} {x k : Nat} (h : Dig xs x) (hx : x < 256 ^ k) : xs.length ≤ k := by
  apply Nat.le_of_not_lt; intro hk
  have h1 := h.ge (by omega)
  have h2 : 256 ^ k ≤ 256 ^ (xs.length - 1) := pow256_le (by omega)
  omega
theorem Dig.len_mono {xs ys : List Nat} {x y : Nat} (h : Dig xs x) (k : Dig ys y) (hl : xs.length < ys.length) : x < y := by
  have h1 := h.lt
  have h2 := k.ge (by omega)
  have h3 : 256 ^ xs.length ≤ 256 ^ (ys.length - 1) := pow256_le (by omega)
  omega
theorem Dig.nil : Dig [] 0 := ⟨rfl, fun _ h => by simp at h, fun ys d h => by simp at h⟩
theorem Dig.zero {xs : List Nat} (h : Dig xs 0) : xs = [] := by
  have := h.len_le (k := 0) (by simp)
  exact List.eq_nil_of_length_eq_zero (by omega)
/-- one round of 'Of': x's digits so far and what is left -/
theorem Dig_of_step {xs : List Nat} (x k : Nat) (h : val xs + 256 ^ xs.length * k = x) :
    val (xs ++ [k % 256]) + 256 ^ (xs ++ [k % 256]).length * (k / 256) = x := by
  rw [val_snoc, List.length_append]
  simp only [List.length_singleton, Nat.pow_succ]
  have : 256 ^ xs.length * k = 256 ^ xs.length * (k % 256) + 256 ^ xs.length * 256 * (k / 256) := by
    rw [Nat.mul_assoc, ← Nat.mul_add, Nat.mod_add_div]
  omega

def cmpI (x y : Nat) : Int := if x < y then -1 else if y < x then 1 else 0
theorem drop_eq_cons {xs : List Nat} {k : Nat} (h : k < xs.length) : xs.drop k = xs.getD k 0 :: xs.drop (k + 1) := by
  rw [List.drop_eq_getElem_cons h]; simp [List.getElem?_eq_getElem h]
theorem val_split (xs : List Nat) (k : Nat) (h : k ≤ xs.length) : val xs = val (xs.take k) + 256 ^ k * val (xs.drop k) := by
  have := val_append (xs.take k) (xs.drop k)
  rw [List.take_append_drop, List.length_take, Nat.min_eq_left h] at this
  exact this
theorem val_lt_at {xs ys : List Nat} {j : Nat} (hx : Dg xs) (hl : xs.length = ys.length) (hj : j < xs.length) (he : xs.drop (j + 1) = ys.drop (j + 1)) (h : xs.getD j 0 < ys.getD j 0) : val xs < val ys := by
  rw [val_split xs j (by omega), val_split ys j (by omega), drop_eq_cons hj, drop_eq_cons (xs := ys) (by omega), he]
  have h1 := val_lt (xs.take j) (Dg_take hx j)
  rw [List.length_take, Nat.min_eq_left (by omega)] at h1
  simp only [val]
  have h2 : 256 ^ j * (xs.getD j 0 + 256 * val (ys.drop (j + 1)) + 1) ≤ 256 ^ j * (ys.getD j 0 + 256 * val (ys.drop (j + 1))) := Nat.mul_le_mul_left _ (by omega)
  rw [Nat.mul_add _ _ 1] at h2
  omega
theorem cmpI_lt {x y : Nat} (h : x < y) : cmpI x y = -1 := by simp [cmpI, h]
theorem cmpI_gt {x y : Nat} (h : y < x) : cmpI x y = 1 := by unfold cmpI; rw [if_neg (by omega), if_pos h]
theorem cmpI_eq (x : Nat) : cmpI x x = 0 := by simp [cmpI]

theorem val_take_succ (xs : List Nat) (k : Nat) : val (xs.take (k + 1)) = val (xs.take k) + 256 ^ k * xs.getD k 0 := by
  by_cases h : k < xs.length
  · rw [List.take_succ_eq_append_getElem h, val_snoc]
    simp [List.getElem?_eq_getElem h, Nat.min_eq_left (Nat.le_of_lt h)]
  · rw [List.take_of_length_le (by omega), List.take_of_length_le (by omega)]
    simp [List.getElem?_eq_none (Nat.le_of_not_lt h)]
theorem getD_out {xs : List Nat} {k : Nat} (h : ¬ k < xs.length) : xs.getD k 0 = 0 := by simp [List.getElem?_eq_none (Nat.le_of_not_lt h)]
theorem getD_lt {xs : List Nat} (h : Dg xs) (k : Nat) : xs.getD k 0 < 256 := by
  by_cases hk : k < xs.length
  · have := h (xs[k]) (List.getElem_mem hk); simp [List.getElem?_eq_getElem hk, this]
  · rw [getD_out hk]; omega
/-- the state of 'Add' after k rounds -/
def AddSt (xs ys os : List Nat) (k c : Nat) : Prop :=
  os.length = k ∧ Dg os ∧ c ≤ 1 ∧ val os + 256 ^ k * c = val (xs.take k) + val (ys.take k) ∧ k ≤ max xs.length ys.length + 1 ∧ (max xs.length ys.length < k → c = 0)
theorem AddSt.step {xs ys os : List Nat} {k c : Nat} (h : AddSt xs ys os k c) (hx : Dg xs) (hy : Dg ys) (hgo : k < xs.length ∨ k < ys.length ∨ 0 < c) :
    AddSt xs ys (os ++ [(c + xs.getD k 0 + ys.getD k 0) % 256]) (k + 1) ((c + xs.getD k 0 + ys.getD k 0) / 256) := by
  obtain ⟨h1, h2, h3, h4, h5, h6⟩ := h
  have dx := getD_lt hx k
  have dy := getD_lt hy k
  have hkm : k ≤ max xs.length ys.length := by
    apply Nat.le_of_not_lt; intro hlt
    have := h6 hlt
    omega
  refine ⟨by simp [h1], Dg_snoc h2 (by omega), by omega, ?_, by omega, ?_⟩
  · rw [val_snoc, val_take_succ, val_take_succ, h1, Nat.pow_succ, Nat.mul_assoc]
    have e := Nat.mod_add_div (c + xs.getD k 0 + ys.getD k 0) 256
    have e2 : 256 ^ k * ((c + xs.getD k 0 + ys.getD k 0) % 256) + 256 ^ k * (256 * ((c + xs.getD k 0 + ys.getD k 0) / 256)) = 256 ^ k * c + 256 ^ k * xs.getD k 0 + 256 ^ k * ys.getD k 0 := by
      rw [← Nat.mul_add, e, Nat.mul_add, Nat.mul_add]
    omega
  · intro hlt
    have e1 := getD_out (xs := xs) (k := k) (by omega)
    have e2 := getD_out (xs := ys) (k := k) (by omega)
    omega
theorem AddSt.fin {xs ys os : List Nat} {k : Nat} (h : AddSt xs ys os k 0) (h1 : xs.length ≤ k) (h2 : ys.length ≤ k) : val os = val xs + val ys := by
  obtain ⟨_, _, _, h4, _, _⟩ := h
  rw [List.take_of_length_le h1, List.take_of_length_le h2] at h4
  omega
theorem AddSt.nil (xs ys : List Nat) : AddSt xs ys [] 0 0 := ⟨rfl, fun _ h => by simp at h, by omega, by simp [val], by omega, by omega⟩

theorem val_set {os : List Nat} {j p : Nat} (h : j < os.length) : val (os.set j (os.getD j 0 + p)) = val os + 256 ^ j * p := by
  induction os generalizing j with
  | nil => simp at h
  | cons d r ih =>
    cases j with
    | zero => simp [val]; omega
    | succ j =>
      have := ih (j := j) (by simpa using h)
      simp only [List.getD_cons_succ] at *
      simp only [List.set_cons_succ, val, this, Nat.pow_succ]
      rw [Nat.mul_add, Nat.mul_comm (256 ^ j) 256, Nat.mul_assoc]; omega
theorem val_replicate (n : Nat) : val (List.replicate n 0) = 0 := by
  induction n with
  | zero => rfl
  | succ n ih => simp [List.replicate_succ, val, ih]
theorem mem_set_le {os : List Nat} {j v b : Nat} (h : ∀ d ∈ os, d ≤ b) (hv : v ≤ b) : ∀ d ∈ os.set j v, d ≤ b := by
  intro d hd
  rcases List.mem_or_eq_of_mem_set hd with h1 | h1
  · exact h d h1
  · omega
theorem getD_le {os : List Nat} {b : Nat} (h : ∀ d ∈ os, d ≤ b) (k : Nat) : os.getD k 0 ≤ b := by
  by_cases hk : k < os.length
  · have := h (os[k]) (List.getElem_mem hk); simp [List.getElem?_eq_getElem hk, this]
  · rw [getD_out hk]; omega
/-- the state of 'Mul' after i rounds, and k within -/
def MulSt (xs ys os : List Nat) (i k : Nat) : Prop :=
  os.length = xs.length + ys.length + 4 ∧ val os = val (xs.take i) * val ys + 256 ^ i * (xs.getD i 0 * val (ys.take k)) ∧ ∀ d ∈ os, d ≤ (i * ys.length + k) * 65025
theorem MulSt.step {xs ys os : List Nat} {i k : Nat} (h : MulSt xs ys os i k) (hx : Dg xs) (hy : Dg ys) (hi : i < xs.length) (hk : k < ys.length) :
    MulSt xs ys (os.set (i + k) (os.getD (i + k) 0 + xs.getD i 0 * ys.getD k 0)) i (k + 1) := by
  obtain ⟨h1, h2, h3⟩ := h
  have dx := getD_lt hx i
  have dy := getD_lt hy k
  have hp : xs.getD i 0 * ys.getD k 0 ≤ 255 * 255 := Nat.mul_le_mul (by omega) (by omega)
  have hg := getD_le h3 (i + k)
  refine ⟨by simp [h1], ?_, ?_⟩
  · rw [val_set (by omega), val_take_succ, h2, Nat.pow_add, Nat.mul_add (xs.getD i 0), Nat.mul_add (256 ^ i), Nat.mul_assoc, Nat.mul_left_comm (256 ^ k) (xs.getD i 0)]
    omega
  · refine mem_set_le (fun d hd => Nat.le_trans (h3 d hd) ?_) ?_
    · exact Nat.mul_le_mul_right _ (by omega)
    · have : (i * ys.length + (k + 1)) * 65025 = (i * ys.length + k) * 65025 + 65025 := by rw [← Nat.add_assoc, Nat.add_mul (i * ys.length + k) 1]
      omega
theorem MulSt.next {xs ys os : List Nat} {i : Nat} (h : MulSt xs ys os i ys.length) : MulSt xs ys os (i + 1) 0 := by
  obtain ⟨h1, h2, h3⟩ := h
  refine ⟨h1, ?_, fun d hd => ?_⟩
  · rw [List.take_length] at h2
    simp only [List.take_zero, val, Nat.mul_zero, Nat.add_zero]
    rw [val_take_succ, Nat.add_mul, h2, Nat.mul_assoc]
  · have := h3 d hd
    rw [show (i + 1) * ys.length + 0 = i * ys.length + ys.length from by rw [Nat.add_mul]; omega]; exact this
theorem MulSt.start (xs ys : List Nat) : MulSt xs ys (List.replicate (xs.length + ys.length + 4) 0) 0 0 := by
  refine ⟨by simp, by simp [val_replicate, val], fun d hd => ?_⟩
  rw [List.eq_of_mem_replicate hd]; omega
/-- the state while it is carried: the first k digits are right -/
def CarSt (L N : Nat) (os : List Nat) (k c b : Nat) : Prop :=
  os.length = L ∧ Dg (os.take k) ∧ val (os.take k) + 256 ^ k * (c + val (os.drop k)) = N ∧ c ≤ b ∧ ∀ d ∈ os, d ≤ b
theorem CarSt.step {L N k c b : Nat} {os : List Nat} (h : CarSt L N os k c b) (hk : k < L) (hb : 256 ≤ b) :
    CarSt L N (os.set k ((c + os.getD k 0) % 256)) (k + 1) ((c + os.getD k 0) / 256) b := by
  obtain ⟨h1, h2, h3, h4, h5⟩ := h
  have hg := getD_le h5 k
  have e1 : (os.set k ((c + os.getD k 0) % 256)).take (k + 1) = os.take k ++ [(c + os.getD k 0) % 256] := by
    rw [List.take_succ_eq_append_getElem (by simp; omega)]
    simp [List.take_set_of_le]
  have e2 : (os.set k ((c + os.getD k 0) % 256)).drop (k + 1) = os.drop (k + 1) := List.drop_set_of_lt (by omega)
  have hl : (os.take k).length = k := by simp; omega
  refine ⟨by simp [h1], ?_, ?_, by omega, mem_set_le h5 (by omega)⟩
  · rw [e1]; exact Dg_snoc h2 (by omega)
  · rw [e1, e2, val_snoc, hl, ← h3, drop_eq_cons (xs := os) (k := k) (by omega), val, Nat.pow_succ, Nat.mul_assoc]
    have e := Nat.mod_add_div (c + os.getD k 0) 256
    generalize (c + os.getD k 0) % 256 = r at *
    generalize (c + os.getD k 0) / 256 = q at *
    rw [Nat.add_assoc, ← Nat.mul_add]
    congr 2
    omega
theorem CarSt.fin {L N c b : Nat} {os : List Nat} (h : CarSt L N os L c b) (hN : N < 256 ^ L) : val os = N ∧ Dg os := by
  obtain ⟨h1, h2, h3, _, _⟩ := h
  rw [List.take_of_length_le (by omega)] at h2 h3
  rw [List.drop_of_length_le (by omega)] at h3
  simp only [val, Nat.add_zero] at h3
  have : c = 0 := by
    rcases Nat.eq_zero_or_pos c with h | h
    · exact h
    · have : 256 ^ L * 1 ≤ 256 ^ L * c := Nat.mul_le_mul_left _ h
      omega
  subst this
  exact ⟨by omega, h2⟩
theorem mul_lt_pow {xs ys : List Nat} (hx : Dg xs) (hy : Dg ys) : val xs * val ys < 256 ^ (xs.length + ys.length + 4) := by
  have h1 := val_lt xs hx
  have h2 := val_lt ys hy
  have h3 : 256 ^ (xs.length + ys.length) ≤ 256 ^ (xs.length + ys.length + 4) := pow256_le (by omega)
  have h4 : val xs * val ys ≤ 256 ^ xs.length * val ys := Nat.mul_le_mul_right _ (by omega)
  have h5 : 256 ^ xs.length * (val ys + 1) ≤ 256 ^ xs.length * 256 ^ ys.length := Nat.mul_le_mul_left _ h2
  have h6 : 0 < 256 ^ xs.length := Nat.pow_pos (by omega)
  rw [Nat.pow_add] at h3
  rw [Nat.mul_add] at h5
  omega
theorem MulSt.car {xs ys os : List Nat} (h : MulSt xs ys os xs.length 0) (h1 : xs.length ≤ 1048576) (h2 : ys.length ≤ 1048576) : CarSt (xs.length + ys.length + 4) (val xs * val ys) os 0 0 72057594037927936 := by
  obtain ⟨g1, g2, g3⟩ := h
  refine ⟨g1, fun d hd => by simp at hd, ?_, by omega, fun d hd => ?_⟩
  · rw [List.take_length] at g2
    simp only [List.take_zero, val, Nat.mul_zero, Nat.add_zero, Nat.pow_zero, Nat.zero_add, List.drop_zero, Nat.one_mul] at *
    exact g2
  · have a1 := g3 d hd
    have a2 : xs.length * ys.length ≤ 1048576 * 1048576 := Nat.mul_le_mul h1 h2
    omega

/-- the state of 'Sub' after k rounds -/
def SubSt (xs ys os : List Nat) (k c : Nat) : Prop :=
  os.length = k ∧ Dg os ∧ c ≤ 1 ∧ val os + val (ys.take k) = val (xs.take k) + 256 ^ k * c
def subDig (d e c : Nat) : Nat := if d < e + c then d + 256 - e - c else d - e - c
def subOwe (d e c : Nat) : Nat := if d < e + c then 1 else 0
theorem SubSt.step {xs ys os : List Nat} {k c : Nat} (h : SubSt xs ys os k c) (hx : Dg xs) (hy : Dg ys) :
    SubSt xs ys (os ++ [subDig (xs.getD k 0) (ys.getD k 0) c]) (k + 1) (subOwe (xs.getD k 0) (ys.getD k 0) c) := by
  obtain ⟨h1, h2, h3, h4⟩ := h
  have dx := getD_lt hx k
  have dy := getD_lt hy k
  generalize hd : xs.getD k 0 = d at *
  generalize he : ys.getD k 0 = e at *
  have e0 : subDig d e c + e + c = d + 256 * subOwe d e c ∧ subDig d e c < 256 ∧ subOwe d e c ≤ 1 := by
    unfold subDig subOwe; split <;> omega
  obtain ⟨e1, e2, e3⟩ := e0
  refine ⟨by simp [h1], Dg_snoc h2 e2, e3, ?_⟩
  rw [val_snoc, val_take_succ, val_take_succ, hd, he, h1, Nat.pow_succ, Nat.mul_assoc]
  have e4 : 256 ^ k * (subDig d e c) + 256 ^ k * e + 256 ^ k * c = 256 ^ k * d + 256 ^ k * (256 * subOwe d e c) := by
    rw [← Nat.mul_add, ← Nat.mul_add, ← Nat.mul_add, e1]
  omega
theorem SubSt.nil (xs ys : List Nat) : SubSt xs ys [] 0 0 := ⟨rfl, fun _ h => by simp at h, by omega, by simp [val]⟩
theorem SubSt.fin {xs ys os : List Nat} {k c : Nat} (h : SubSt xs ys os k c) (h1 : xs.length ≤ k) (h2 : ys.length ≤ k) (hle : val ys ≤ val xs) : val os = val xs - val ys := by
  obtain ⟨g1, g2, g3, h4⟩ := h
  rw [List.take_of_length_le h1, List.take_of_length_le h2] at h4
  have := val_lt os g2
  rw [g1] at this
  rcases Nat.eq_zero_or_pos c with h0 | h0
  · subst h0; omega
  · have : c = 1 := by omega
    subst this
    omega
theorem val_drop_lt {xs : List Nat} (h : Dg xs) (k : Nat) : val (xs.drop k) < 256 ^ (xs.length - k) := by
  have := val_lt (xs.drop k) (fun d hd => h d (List.mem_of_mem_drop hd))
  simpa using this

end Go.Proofs.YtgaidleepjkldaaDoor

/- The reference's numbers as digits: Of. The reference's numbers as digits: Cmp. The reference's numbers as digits: Add. The reference's numbers as digits: Mul. -/
namespace Go.Proofs.YtgaidleepjkldaaDoor
open Go.RowKit

theorem infoInt : (Tryd.prog.info? 3).map (fun i => (i.zero, i.size, i.bytes)) = some (some (.int .i64 0), 1, 8) := by kernel_rfl
theorem tyD : SliceTy Tryd.prog 104 3 1 8 (.int .i64 0) := .mk' Tryd.underlying104 infoInt rfl (by decide)
/-- the value of a result: a new slice that holds x's digits -/
def ResD (w : World) (x : Nat) (e : Ending) (w' : World) : Prop := ∃ v xs, e = .returned v ∧ Dig xs x ∧ SlV .i64 w' v xs ∧ Below w.heap.size w w'


/-- an old slice that holds x's digits; the world is as it was -/
def RdD (w : World) (x : Nat) (e : Ending) (w' : World) : Prop := (∃ v ys, e = .returned v ∧ Dig ys x ∧ SlV .i64 w v ys) ∧ w = w'

def OfRel (_B x : Nat) (k : Nat) (xs : List Nat) : Prop :=
  k ≤ x ∧ val xs + 256 ^ xs.length * k = x ∧ Dg xs ∧ (xs = [] ∨ 256 ^ (xs.length - 1) ≤ x) ∧ (∀ ys d, xs = ys ++ [d] → k = 0 → d ≠ 0)
theorem OfRel.step {B x k : Nat} {xs : List Nat} (h : OfRel B x k xs) (hk : 0 < k) : OfRel B x (k / 256) (xs ++ [k % 256]) := by
  obtain ⟨h0, h1, h2, h3, h4⟩ := h
  refine ⟨by omega, Dig_of_step x k h1, Dg_snoc h2 (by omega), .inr ?_, ?_⟩
  · simp
    have : 256 ^ xs.length * 1 ≤ 256 ^ xs.length * k := Nat.mul_le_mul_left _ hk
    omega
  · intro ys d he hz
    have := List.append_inj' he rfl
    simp at this
    omega
theorem OfRel.fin {B x : Nat} {xs : List Nat} (h : OfRel B x 0 xs) : Dig xs x := by
  obtain ⟨_, h1, h2, _, h4⟩ := h
  exact ⟨by simpa using h1, h2, fun ys d he => h4 ys d he rfl⟩
theorem OfRel.len {B x k : Nat} {xs : List Nat} (h : OfRel B x k xs) (hx : x < 18446744073709551616) : xs.length ≤ 8 := by
  obtain ⟨_, _, _, h3, _⟩ := h
  rcases h3 with rfl | h3
  · simp
  · apply Nat.le_of_not_lt; intro hl
    have : 256 ^ 8 ≤ 256 ^ (xs.length - 1) := pow256_le (by omega)
    omega

set_option maxHeartbeats 400000 in
theorem of_walk (x : Nat) (hx : x < 18446744073709551616) (w : World) :
    Calls Tryd.prog 39 #[.int .u64 x] w (ResD w x) := by
  go_enter Tryd.func39, Tryd.ntmps39
  go_wp2
  go_loopw [0, 3] (fun x0 v wr => ∃ (k : Nat) (xs : List Nat), x0 = .int .u64 k ∧ OfRel 0 x k xs ∧ wr.ownsRow w.heap.size 3 1 v xs.length (nums .i64 xs) ∧ Below w.heap.size w wr) (fun x0 _ _ => (intOf x0).toNat)
  case atStart => exact ⟨x, [], rfl, ⟨by omega, by simp [val], by simp [Dg], by simp, by simp⟩, World.ownsRow_made _ _ _ (by simp) (by simp) (by simp), (Below.refl _ _).alloc (by simp) _⟩
  case round =>
    obtain ⟨k, xs, rfl, R, hown, hb⟩ := hrel
    have hB := hb.size
    have hl := R.len hx
    by_cases hk : 0 < k
    · have hkx : k ≤ x := R.1
      go_wp2_with (at_builtin; refine wpList_push rfl _ _ 104 rfl tyD w.heap.size hown rfl rfl rfl rfl ?c2 (by decide) hB ?_)
      case c2 => omega
      intro v' w1 hown' hb' _ _
      go_wp2
      go_roundw
      case rel => exact ⟨k / 256, xs ++ [k % 256], rfl, R.step hk, own_snoc hown' (by omega), hb.trans hb'⟩
      case measure => simp [intOf]; omega
    · go_wp2
      go_ret
      obtain rfl : k = 0 := by omega
      exact ⟨_, xs, rfl, R.fin, SlV.of_owns hown, hb⟩

theorem take_step {xs : List Nat} {n k d : Nat} (hd : d = xs.getD (k - 1) 0) (hl : xs.length = n) (hk : k ≤ n) (h0 : 0 < k) : xs.take k = xs.take (k - 1) ++ [d] := by
  obtain ⟨j, rfl⟩ : ∃ j, k = j + 1 := ⟨k - 1, by omega⟩
  rw [List.take_succ_eq_append_getElem (by omega)]
  simp at hd
  rw [List.getElem?_eq_getElem (by omega)] at hd
  simp [hd]
theorem trim_step {xs : List Nat} {n k : Nat} (hd : 0 = xs.getD (k - 1) 0) (hl : xs.length = n) (hk : k ≤ n) (h0 : 0 < k) (hv : Hid (val (xs.take k) = val xs)) : Hid (val (xs.take (k - 1)) = val xs) := by
  have h := hv.out
  rw [take_step hd hl hk h0, val_snoc] at h
  exact hid (by omega)
theorem trim_end {xs : List Nat} {n k d : Nat} (hd : d = xs.getD (k - 1) 0) (hl : xs.length = n) (hk : k ≤ n) (h0 : 0 < k) (hz : ¬ d = 0) (hv : Hid (val (xs.take k) = val xs)) (hg : Dg xs) : Dig (xs.take k) (val xs) := by
  refine ⟨hv.out, Dg_take hg k, fun ys e he => ?_⟩
  rw [take_step hd hl hk h0] at he
  have := List.append_inj' he rfl
  simp at this
  omega
theorem trim_nil {xs : List Nat} (hv : Hid (val (xs.take 0) = val xs)) : Dig [] (val xs) := by
  rw [← hv.out]; exact Dig.nil
set_option maxHeartbeats 400000 in
theorem trim_walk (a : Option Addr) (n cap : Nat) (xs : List Nat) (w : World) (h : Sl .i64 w a n cap xs) (hd : Dg xs) :
    Calls Tryd.prog 49 #[.slice a n cap] w (RdD w (val xs)) := by
  have HS := hid h
  have HL := hid h.len
  have hcap := h.2.1
  have hm' : cap ≤ 9223372036854775807 := by have h2 := h.2.2.1; unfold maxLen at h2; omega
  obtain ⟨b, off, ha, hc⟩ := h.opened
  go_enter Tryd.func49, Tryd.ntmps49
  go_wp2
  go_loop [0] (fun v => ∃ k : Nat, k ≤ n ∧ v = .slice a k cap ∧ Hid (val (xs.take k) = val xs)) (fun v => match v with | .slice _ k _ => k | _ => 0)
  case atStart => exact ⟨n, by omega, rfl, by rw [← HL.out, List.take_length]; rfl⟩
  case round =>
    obtain ⟨k, hk, rfl, hv⟩ := hrel
    by_cases h0 : 0 < k
    · obtain rfl := ha (by omega)
      obtain ⟨d, hdd⟩ : ∃ d, d = xs.getD (k - 1) 0 := ⟨_, rfl⟩
      have hcell := hc (k - 1) (by omega)
      rw [← hdd] at hcell
      have HD := hid hdd; clear hdd hc
      have hk1 : ((k : Int) - 1).toNat = k - 1 := by omega
      by_cases hz : d = 0
      · subst hz
        go_wp2
        go_round
        case rel => exact ⟨k - 1, by omega, rfl, trim_step HD.out HL.out (by omega) h0 hv⟩
        case measure => simp; omega
      · have hz' : ((d : Int) == 0) = false := by simp; omega
        go_wp2
        go_ret
        exact ⟨⟨_, xs.take k, rfl, trim_end HD.out HL.out hk h0 hz hv hd, (HS.out.take hk).toV⟩, rfl⟩
    · obtain rfl : k = 0 := by omega
      go_wp2
      go_ret
      exact ⟨⟨_, [], rfl, trim_nil hv, (Sl.nilS _ _ HS.out.2.2.1 HS.out.2.2.2.1).toV⟩, rfl⟩
end Go.Proofs.YtgaidleepjkldaaDoor
namespace Go.Proofs.YtgaidleepjkldaaDoor
open Go.RowKit

/-- a number; the world is as it was, but for draws -/
def IntQ (w : World) (r : Int) (e : Ending) (w' : World) : Prop := e = .returned (.int .i64 r) ∧ Qt w w'

theorem cmp_fin {xs ys : List Nat} {n x y j d d' : Nat} (hx : Dig xs x) (hy : Dig ys y) (hl : xs.length = n) (hl' : ys.length = n) (hj : (j : Int) < n) (hd : d = xs.getD j 0) (hd' : d' = ys.getD j 0)
    (he : Hid (Hid (xs.drop ((j : Int) + 1).toNat = ys.drop ((j : Int) + 1).toNat))) :
    Hid (d < d' → cmpI x y = -1) ∧ Hid (((d : Int) != (d' : Int)) = true → ¬ d < d' → cmpI x y = 1) ∧ Hid (((d : Int) != (d' : Int)) = false → xs.drop ((j : Int) - 1 + 1).toNat = ys.drop ((j : Int) - 1 + 1).toNat) := by
  have he' := he.out.out
  rw [show ((j : Int) + 1).toNat = j + 1 from by omega] at he'
  obtain ⟨rfl, gx, _⟩ := hx
  obtain ⟨rfl, gy, _⟩ := hy
  subst hd hd'
  refine ⟨fun h => cmpI_lt (val_lt_at gx (by omega) (by omega) he' h), fun h1 h2 => cmpI_gt (val_lt_at gy (by omega) (by omega) he'.symm (by simp only [bne_iff_ne] at h1; omega)), fun h => ?_⟩
  simp only [bne_eq_false_iff_eq] at h
  have h := Int.ofNat.inj h
  rw [show ((j : Int) - 1 + 1).toNat = j from by omega, drop_eq_cons (by omega), drop_eq_cons (xs := ys) (by omega), h, he']
theorem cmp_same {xs ys : List Nat} {x y : Nat} (hx : Dig xs x) (hy : Dig ys y) (he : xs.drop ((-1 : Int) + 1).toNat = ys.drop ((-1 : Int) + 1).toNat) : cmpI x y = 0 := by
  simp at he
  subst he
  rw [← hx.1, ← hy.1]
  exact cmpI_eq _

set_option maxHeartbeats 400000 in
theorem cmp_walk (a a' : Option Addr) (n m cap cap' x y : Nat) (xs ys : List Nat) (hn : n ≤ 4294967296) (hm : m ≤ 4294967296) (w : World) (h : Sl .i64 w a n cap xs) (hx : Dig xs x) (h' : Sl .i64 w a' m cap' ys) (hy : Dig ys y) :
    Calls Tryd.prog 41 #[.slice a n cap, .slice a' m cap'] w (IntQ w (cmpI x y)) := by
  have HL := hid h.len
  have HL' := hid h'.len
  obtain ⟨b, off, ha, hc⟩ := h.opened
  obtain ⟨b', off', ha', hc'⟩ := h'.opened
  clear h h'
  by_cases h1 : n < m
  · have hlt : cmpI x y = -1 := cmpI_lt (hx.len_mono hy (by rw [HL.out, HL'.out]; exact h1))
    rw [hlt]
    go_enter Tryd.func41, Tryd.ntmps41
    go_wp2
    go_ret
    exact ⟨rfl, Qt.refl _⟩
  by_cases h2 : m < n
  · have hlt : cmpI x y = 1 := cmpI_gt (hy.len_mono hx (by rw [HL.out, HL'.out]; exact h2))
    rw [hlt]
    go_enter Tryd.func41, Tryd.ntmps41
    go_wp2
    go_ret
    exact ⟨rfl, Qt.refl _⟩
  obtain rfl : n = m := by omega
  go_enter Tryd.func41, Tryd.ntmps41
  go_wp2
  go_loopw [5] (fun v wr => ∃ i : Int, -1 ≤ i ∧ i < n ∧ v = .int .i64 i ∧ Hid (xs.drop (i + 1).toNat = ys.drop (i + 1).toNat) ∧ Qt w wr) (fun v _ => (intOf v + 1).toNat)
  case atStart => exact ⟨(n : Int) - 1, by omega, by omega, rfl, hid (by rw [List.drop_of_length_le (by rw [HL.out]; omega), List.drop_of_length_le (by rw [HL'.out]; omega)]), Qt.refl _⟩
  case round =>
    obtain ⟨i, hi1, hi2, rfl, hdr, q, rfl⟩ := hrel
    have hq : Qt w (w.drewN q) := ⟨q, rfl⟩
    by_cases hi : 0 ≤ i
    · obtain ⟨j, rfl⟩ := Int.eq_ofNat_of_zero_le hi
      obtain rfl := ha (by omega)
      obtain rfl := ha' (by omega)
      have hcx := hc j (by omega)
      have hcy := hc' j (by omega)
      obtain ⟨d, hd⟩ : ∃ d, d = xs.getD j 0 := ⟨_, rfl⟩
      obtain ⟨d', hd'⟩ : ∃ d, d = ys.getD j 0 := ⟨_, rfl⟩
      rw [← hd] at hcx
      rw [← hd'] at hcy
      have HD := hid hd; clear hd hc
      have HD' := hid hd'; clear hd' hc'
      have fin := cmp_fin hx hy HL.out HL'.out hi2 HD.out HD'.out (hid hdr)
      go_wp2
      go_quiet (fail)
      go_wp2
      · go_quiet (fail)
        go_wp2
        · go_ret
          rw [fin.1.out ‹_›]
          exact ⟨rfl, (hq.dN _).dN _⟩
        · go_ret
          rw [fin.2.1.out ‹_› ‹_›]
          exact ⟨rfl, (hq.dN _).dN _⟩
      · go_roundw
        case rel => exact ⟨(j : Int) - 1, by omega, by omega, rfl, hid (fin.2.2.out ‹_›), _, rfl⟩
        case measure => simp [intOf]
    · obtain rfl : i = -1 := by omega
      go_wp2
      go_ret
      rw [cmp_same hx hy hdr.out]
      exact ⟨rfl, hq⟩
end Go.Proofs.YtgaidleepjkldaaDoor
namespace Go.Proofs.YtgaidleepjkldaaDoor
open Go.RowKit

end Go.Proofs.YtgaidleepjkldaaDoor
namespace Go.Proofs.YtgaidleepjkldaaDoor
open Go.RowKit

theorem mul_start {n m : Nat} {xs ys : List Nat} (h : xs.length = n) (h' : ys.length = m) : MulSt xs ys (List.replicate (n + m + 4) 0) 0 0 := by
  subst h h'; exact MulSt.start xs ys
theorem mul_len {xs ys os : List Nat} {n m i k : Nat} (S : MulSt xs ys os i k) (h : xs.length = n) (h' : ys.length = m) : os.length = n + m + 4 := by
  subst h h'; exact S.1
theorem MulSt.le {xs ys os : List Nat} {n m i k : Nat} (S : MulSt xs ys os i k) (_ : xs.length ≤ n) (h' : ys.length ≤ m) (hn : n ≤ 1048576) (hm : m ≤ 1048576) (hi : i ≤ n) (hk : k ≤ m) : os.getD (i + k) 0 ≤ 72127962782105600 := by
  have h1 := getD_le S.2.2 (i + k)
  have h2 : i * ys.length ≤ 1048576 * 1048576 := Nat.mul_le_mul (by omega) (by omega)
  omega

theorem mul_next {xs ys os : List Nat} {i m : Nat} (S : MulSt xs ys os i m) (h : ys.length = m) : MulSt xs ys os (i + 1) 0 := by subst h; exact S.next
theorem mul_car {xs ys os : List Nat} {n m : Nat} (S : MulSt xs ys os n 0) (h : xs.length = n) (h' : ys.length = m) (hn : n ≤ 1048576) (hm : m ≤ 1048576) : CarSt (n + m + 4) (val xs * val ys) os 0 0 72057594037927936 := by
  subst h h'; exact S.car hn hm
theorem mul_lim {xs ys : List Nat} {n m : Nat} (gx : Dg xs) (gy : Dg ys) (h : xs.length = n) (h' : ys.length = m) : val xs * val ys < 256 ^ (n + m + 4) := by
  subst h h'; exact mul_lt_pow gx gy
theorem digit_mul {d e : Nat} (h : d < 256) (k : e < 256) : 0 ≤ (d : Int) * (e : Int) ∧ (d : Int) * (e : Int) ≤ 65025 := by
  have h1 : d * e ≤ 255 * 255 := Nat.mul_le_mul (by omega) (by omega)
  rw [← Int.natCast_mul]
  omega

set_option maxHeartbeats 1000000 in
theorem mul_walk (a a' : Option Addr) (n m cap cap' x y : Nat) (xs ys : List Nat) (hn : n ≤ 1048576) (hm : m ≤ 1048576) (w : World) (h : Sl .i64 w a n cap xs) (hx : Dig xs x) (h' : Sl .i64 w a' m cap' ys) (hy : Dig ys y) :
    Calls Tryd.prog 40 #[.slice a n cap, .slice a' m cap'] w (ResD w (x * y)) := by
  have gx := hx.2.1
  have gy := hy.2.1
  have hl : xs.length ≤ n := Nat.le_of_eq h.len
  have hl' : ys.length ≤ m := Nat.le_of_eq h'.len
  have hl2 : n ≤ xs.length := Nat.le_of_eq h.len.symm
  have hl2' : m ≤ ys.length := Nat.le_of_eq h'.len.symm
  go_enter Tryd.func40, Tryd.ntmps40
  go_wp2_with (at_make; refine wpList_mk rfl (.tmp 15) (.tmp 15) 104 rfl tyD rfl w.heap.size (n + m + 4) rfl rfl (by omega) (by omega) (by omega) (by decide) (Nat.le_refl _) ?_)
  intro w0 hown0 hb0 hs0
  rw [← nums_replicate] at hown0
  go_wp2
  go_loopw [19] (fun i0 wr => ∃ (i : Nat) (os : List Nat), i ≤ n ∧ i0 = .int .i64 i ∧ MulSt xs ys os i 0 ∧ wr.ownsRow w.heap.size 3 1 (.slice (some ⟨w.heap.size, 0, none⟩) (n + m + 4) (n + m + 4)) (n + m + 4) (nums .i64 os) ∧ Below w.heap.size w wr) (fun i0 _ => n - (intOf i0).toNat)
  case atStart => exact ⟨0, _, by omega, rfl, mul_start h.len h'.len, hown0, hb0⟩
  case round =>
    obtain ⟨i, os, hi, rfl, S, hown, hb⟩ := hrel
    by_cases hlt : i < n
    · go_wp2
      go_loopw [24] (fun k0 wr => ∃ (k : Nat) (os : List Nat), k ≤ m ∧ k0 = .int .i64 k ∧ MulSt xs ys os i k ∧ wr.ownsRow w.heap.size 3 1 (.slice (some ⟨w.heap.size, 0, none⟩) (n + m + 4) (n + m + 4)) (n + m + 4) (nums .i64 os) ∧ Below w.heap.size w wr) (fun k0 _ => m - (intOf k0).toNat)
      case atStart => exact ⟨0, _, by omega, rfl, S, hown, hb⟩
      case round =>
        clear S hown hb os
        obtain ⟨k, os, hk, rfl, S, hown, hb⟩ := hrel
        by_cases hlk : k < m
        · have SS := hid (S.step gx gy (by omega) (by omega))
          have hg := S.le hl hl' hn hm hi hk
          have hoc := own_cell hown (i + k) (by omega)
          have hof := hown.frozenAt (i + k)
          obtain ⟨b, off, ha, hc⟩ := (h.below hb).opened
          obtain ⟨b', off', ha', hc'⟩ := (h'.below hb).opened
          obtain rfl := ha (by omega)
          obtain rfl := ha' (by omega)
          have hcx := hc i hlt
          have hcy := hc' k hlk
          have dx := getD_lt gx i
          have dy := getD_lt gy k
          clear ha ha' hc hc'
          have hst := fun (z : Int) (d : Nat) (hz : z = (d : Int)) => own_store hown (i + k) hz
          have hbs := hb.size
          generalize hd : xs.getD i 0 = d at *
          generalize he : ys.getD k 0 = e at *
          generalize ho : os.getD (i + k) 0 = t at *
          obtain ⟨hp0, hp1⟩ := digit_mul dx dy
          have HST := hid hst
          clear hst S gx gy h h' hx hy hd he ho hown
          go_wp2
          go_region
          go_wp2
          have hs := HST.out ((t : Int) + (d : Int) * (e : Int)) (t + d * e) (by rw [Int.natCast_add, Int.natCast_mul])
          go_roundw
          case rel => exact ⟨k + 1, _, by omega, by go_num, SS.out, hs.1.drew, hb.trans hs.2.drew⟩
          case measure => simp [intOf]; omega
        · obtain rfl : k = m := by omega
          have S2 := mul_next S h'.len
          go_wp2
          go_roundw
          case rel => exact ⟨i + 1, _, by omega, by go_num, S2, hown, hb⟩
          case measure => simp [intOf]; omega
    · obtain rfl : n = i := by omega
      have S2 := mul_car S h.len h'.len hn hm
      have hlim := hid (mul_lim gx gy h.len h'.len)
      clear S h h' hl hl' hl2 hl2' 
      go_wp2
      go_loopw [8, 48] (fun c0 k0 wr => ∃ (k c : Nat) (os : List Nat), k ≤ n + m + 4 ∧ k0 = .int .i64 k ∧ c0 = .int .i64 c ∧ CarSt (n + m + 4) (val xs * val ys) os k c 72057594037927936 ∧ wr.ownsRow w.heap.size 3 1 (.slice (some ⟨w.heap.size, 0, none⟩) (n + m + 4) (n + m + 4)) (n + m + 4) (nums .i64 os) ∧ Below w.heap.size w wr) (fun _ k0 _ => n + m + 4 - (intOf k0).toNat)
      case atStart => exact ⟨0, 0, os, by omega, rfl, rfl, S2, hown, hb⟩
      case round =>
        clear S2 hown hb os
        obtain ⟨k, c, os, hk, rfl, rfl, S, hown, hb⟩ := hrel
        by_cases hlk : k < n + m + 4
        · have SS := hid (S.step hlk (by decide))
          have hoc := own_cell hown k hlk
          have hof := hown.frozenAt k
          have hg := getD_le S.2.2.2.2 k
          have hc := S.2.2.2.1
          have hst := fun (z : Int) (d : Nat) (hz : z = (d : Int)) => own_store hown k hz
          generalize ho : os.getD k 0 = t at *
          have HST := hid hst
          clear hst S gx gy hx hy ho hown
          go_wp2
          have hs := HST.out (((c : Int) + t) % 256) ((c + t) % 256) (by omega)
          go_roundw
          case rel => exact ⟨k + 1, (c + t) / 256, _, by omega, by go_num, by go_num, SS.out, hs.1, hb.trans hs.2⟩
          case measure => simp [intOf]; omega
        · obtain rfl : k = n + m + 4 := by omega
          have hf := S.fin hlim.out
          clear S
          have hsl : Sl .i64 wr (some ⟨w.heap.size, 0, none⟩) (n + m + 4) (n + m + 4) os := sl_of_own hown
          go_wp2_with fail
          refine (trim_walk _ (n + m + 4) (n + m + 4) os _ hsl hf.2).mono ?_
          rintro e w' ⟨⟨v, ys', rfl, hd, hsl⟩, rfl⟩
          rw [hf.1, hx.1, hy.1] at hd
          go_wp2
          go_ret
          exact ⟨_, ys', rfl, hd, hsl, hb⟩
end Go.Proofs.YtgaidleepjkldaaDoor

/- Plain: the first primes by trial; their roots by halving. No program in sight. The walks of the reference's root, primes. The walks of the reference's primes and Make. -/
namespace Go.Proofs.YtgaidleepjkldaaDoor

def prStep (l : List Nat) (x : Nat) : List Nat := if l.all (fun p => decide (x % p ≠ 0)) = true then l ++ [x] else l
def prN : Nat → List Nat
  | 0 => []
  | k + 1 => prStep (prN k) (k + 2)
def PL : List Nat := [2, 3, 5, 7, 11, 13, 17, 19, 23, 29, 31, 37, 41, 43, 47, 53, 59, 61, 67, 71, 73, 79, 83, 89, 97, 101, 103, 107, 109, 113, 127, 131, 137, 139, 149, 151, 157, 163, 167, 173, 179, 181, 191, 193, 197, 199, 211, 223, 227, 229, 233, 239, 241, 251, 257, 263, 269, 271, 277, 281, 283, 293, 307, 311]
def X3 : List Nat := [5411319704, 6194414737, 7344290767, 8215976869, 9551921755, 10098905585, 11043570340, 11460697813, 12214315672, 13195500289, 13492127166, 14311783875, 14809980276, 15046980094, 15499789991, 16133124468, 16720292289, 16907126662, 17444216262, 17784676812, 17950125167, 18429019306, 18734950876, 19175934170, 19734090066, 20001703533, 20132865992, 20390182855, 20516441075, 20764397895, 21588763473, 21813078375, 22141143685, 22248366392, 22769593852, 22871018771, 23170020180, 23461497531, 23651862830, 23931792517, 24205322401, 24295138891, 24734567280, 24820601251, 24990902297, 25075189284, 25569408389, 26045227120, 26200031510, 26276752392, 26428864332, 26653801653, 26727943347, 27092625994, 27306805839, 27517677555, 27725365998, 27793908591, 27997534228, 28131656200, 28198240250, 28526537963, 28973835255, 29099129074]
def X2 : List Nat := [6074000999, 7439101573, 9603838834, 11363415354, 14244795007, 15485724812, 17708603819, 18721328409]
theorem pl_step : ∀ k, k < 310 → prStep (PL.filter (fun p => decide (p < k + 2))) (k + 2) = PL.filter (fun p => decide (p < k + 3)) := by decide +kernel
theorem prN_eq (k : Nat) (h : k ≤ 310) : prN k = PL.filter (fun p => decide (p < k + 2)) := by
  induction k with
  | zero => decide +kernel
  | succ k ih => rw [prN, ih (by omega), pl_step k (by omega)]
theorem pl_short : ∀ k, k < 310 → (PL.filter (fun p => decide (p < k + 2))).length < 64 := by decide +kernel
theorem prN_short (k : Nat) (h : k < 310) : (prN k).length < 64 := by rw [prN_eq k (by omega)]; exact pl_short k h
theorem prN_310 : prN 310 = PL := by rw [prN_eq 310 (Nat.le_refl _)]; decide +kernel
theorem prN_pos (k : Nat) : ∀ p ∈ prN k, 2 ≤ p ∧ p < k + 2 := by
  induction k with
  | zero => simp [prN]
  | succ k ih =>
    intro p hp
    unfold prN prStep at hp
    split at hp
    · rcases List.mem_append.1 hp with hp | hp
      · have := ih p hp; omega
      · simp at hp; omega
    · have := ih p hp; omega
theorem x3_ok : ∀ i, i < 64 → X3.getD i 0 ^ 3 ≤ PL.getD i 0 * 2 ^ (32 * 3) ∧ PL.getD i 0 * 2 ^ (32 * 3) < (X3.getD i 0 + 1) ^ 3 ∧ X3.getD i 0 % 4294967296 = K0.getD i 0 := by decide +kernel
theorem x2_ok : ∀ i, i < 8 → X2.getD i 0 ^ 2 ≤ PL.getD i 0 * 2 ^ (32 * 2) ∧ PL.getD i 0 * 2 ^ (32 * 2) < (X2.getD i 0 + 1) ^ 2 ∧ X2.getD i 0 % 4294967296 = H0.getD i 0 := by decide +kernel
theorem pl_lt : ∀ i, i < 64 → PL.getD i 0 < 1000 := by decide +kernel
theorem root_one {x y k m : Nat} (h1 : x ^ k ≤ m) (h2 : m < (x + 1) ^ k) (h3 : y ^ k ≤ m) (h4 : m < (y + 1) ^ k) : x = y := by
  have a : x < y + 1 := by
    rcases Nat.lt_or_ge x (y + 1) with h | h
    · exact h
    · have := Nat.pow_le_pow_left h k; omega
  have b : y < x + 1 := by
    rcases Nat.lt_or_ge y (x + 1) with h | h
    · exact h
    · have := Nat.pow_le_pow_left h k; omega
  omega
end Go.Proofs.YtgaidleepjkldaaDoor
namespace Go.Proofs.YtgaidleepjkldaaDoor
open Go.RowKit

theorem tyInts : SliceTy Tryd.prog 104 3 1 8 (.int .i64 0) := .mk' (by kernel_rfl) (by kernel_rfl) rfl (by decide)
theorem tyInt1 : SliceTy Tryd.prog 69 3 1 8 (.int .i64 0) := .mk' (by kernel_rfl) (by kernel_rfl) rfl (by decide)
theorem Dig.shift {os : List Nat} {x : Nat} (h : Dig os x) (hx : 0 < x) : Dig (0 :: os) (256 * x) := by
  obtain ⟨h1, h2, h3⟩ := h
  refine ⟨by simp [val, h1], fun d hd => ?_, fun ys d hy => ?_⟩
  · rcases List.mem_cons.1 hd with rfl | hd
    · decide
    · exact h2 d hd
  · cases ys with
    | nil =>
      simp at hy
      have : os = [] := hy.2
      subst this
      simp [val] at h1
      omega
    | cons y r =>
      simp at hy
      exact h3 r d hy.2
theorem le_root {m X k P : Nat} (h1 : X ^ k ≤ P) (h2 : P < (X + 1) ^ k) : m ^ k ≤ P ↔ m ≤ X := by
  constructor
  · intro h
    rcases Nat.lt_or_ge X m with g | g
    · have := Nat.pow_le_pow_left (show X + 1 ≤ m from g) k; omega
    · exact g
  · intro h
    exact Nat.le_trans (Nat.pow_le_pow_left h k) h1
theorem cmpI_le_zero {x y : Nat} (h : x ≤ y) : cmpI x y ≤ 0 := by unfold cmpI; split <;> (try split) <;> omega
theorem cmpI_gt_zero {x y : Nat} (h : ¬ x ≤ y) : ¬ cmpI x y ≤ 0 := by unfold cmpI; rw [if_neg (by omega), if_pos (by omega)]; decide
def U32B (w : World) (x : Nat) (e : Ending) (w' : World) : Prop := e = .returned (.int .u32 (x : Int)) ∧ Below w.heap.size w w'
set_option maxRecDepth 100000 in
set_option maxHeartbeats 2000000 in
theorem root2_walk (p X : Nat) (hp0 : 0 < p) (hp : p < 1000) (h1 : X ^ 2 ≤ p * 2 ^ (32 * 2)) (h2 : p * 2 ^ (32 * 2) < (X + 1) ^ 2) (w : World) :
    Calls Tryd.prog 26 #[.int .i64 p, .int .i64 2] w (U32B w (X % 4294967296)) := by
  have HLE := hid (fun m => le_root (m := m) h1 h2)
  have hX37 : X < 137438953472 := by
    rcases Nat.lt_or_ge X 137438953472 with h | h
    · exact h
    · have := Nat.pow_le_pow_left h 2
      have h4 : (137438953472 : Nat) ^ 2 = 18889465931478580854784 := by decide
      rw [h4] at this
      have h5 : p * 2 ^ (32 * 2) ≤ 1000 * 18446744073709551616 := Nat.mul_le_mul (by omega) (by decide)
      omega
  have hPb := hid (show p * 2 ^ (32 * 2) < 256 ^ 16 from Nat.lt_of_le_of_lt (Nat.mul_le_mul (show p ≤ 1000 by omega) (Nat.le_refl _)) (by decide))
  obtain ⟨P, hP⟩ : ∃ P : Nat, P = p * 2 ^ (32 * 2) := ⟨_, rfl⟩
  rw [← hP] at HLE hPb
  have hP0 := hid (show p * 256 ^ (4 * 2) = P by rw [hP])
  have hwp : IntKind.u64.wrap (p : Int) = (p : Int) := by simp [IntKind.wrap, IntKind.signed, IntKind.bits]; omega
  clear h1 h2 hP
  go_enter Tryd.func26, Tryd.ntmps26
  go_wp2_with fail
  refine (of_walk p (by omega) _).mono ?_
  rintro e w1 ⟨v1, xs1, rfl, d1, s1, b1⟩
  have S1 := hid s1
  have D1 := hid d1
  have B1 := hid b1
  clear s1 d1 b1 hwp
  go_wp2
  go_loopw [5, 6] (fun x5 x6 wr => ∃ (i : Nat) (v : Value) (os : List Nat), i ≤ 4 * 2 ∧ v = x5 ∧ x6 = .int .i64 i ∧ Dig os (p * 256 ^ i) ∧ SlV .i64 wr v os ∧ Below w.heap.size w wr) (fun _ x6 _ => 4 * 2 - (intOf x6).toNat)
  case atStart => exact ⟨0, v1, xs1, by omega, rfl, rfl, by simpa using D1.out, S1.out, B1.out⟩
  case round =>
    obtain ⟨i, v, os, hi, rfl, rfl, hd, sv, hb⟩ := hrel
    clear S1 D1 B1
    have hlen := hid (hd.len_le (k := 16) (Nat.lt_of_le_of_lt (Nat.mul_le_mul (Nat.le_refl p) (pow256_le hi)) (by rw [hP0.out]; exact hPb.out)))
    obtain ⟨a, c, rfl, s⟩ := sv
    by_cases hlt : i < 4 * 2
    · have ti : decide ((i : Int) < 8) = true := by rw [decide_eq_true_eq]; omega
      have D2 := hid (show Dig (0 :: os) (p * 256 ^ (i + 1)) by
        have := hd.shift (Nat.mul_pos hp0 (Nat.pow_pos (by omega)))
        rw [Nat.pow_succ, ← Nat.mul_assoc, Nat.mul_comm (p * 256 ^ i)]; exact this)
      have hlb := hlen.out
      have O1 := hid (own_lit .i64 wr #[.int .i64 0] 3 [0] (n := 1) (B := wr.heap.size) rfl rfl (Nat.le_refl _) (by decide))
      have bb := (Below.refl wr.heap.size wr).alloc (Nat.le_refl _) (.cells #[.int .i64 0] 3)
      have S2 := hid (s.below bb)
      have BB := hid (hb.trans (bb.mono hb.size))
      have HBs := hid hb.size
      clear s hd hb bb
      go_wp2_with (at_builtin; refine wpList_cat rfl _ _ 104 rfl tyInts wr.heap.size O1.out rfl rfl S2.out (nums_oneCell _ _) ?c1 ?c2 ?c3 ?_)
      case c1 => omega
      case c2 => unfold maxLen; omega
      case c3 => simp
      intro v2 w2 own2 b2 hs2 _
      rw [nums_append] at own2
      have OW := hid (show w2.ownsRow wr.heap.size 3 1 v2 (0 :: os).length (nums .i64 (0 :: os)) by rw [List.length_cons, Nat.add_comm]; exact own2)
      have B2 := hid (BB.out.trans (b2.mono HBs.out))
      clear own2 b2 hs2
      go_wp2
      go_roundw
      case rel => exact ⟨i + 1, v2, 0 :: os, by omega, rfl, by go_num, D2.out, SlV.of_owns OW.out, B2.out⟩
      case measure => simp [intOf]; omega
    · have ti : decide ((i : Int) < 8) = false := by rw [decide_eq_false_iff_not]; omega
      have hd' := hid (show Dig os P by rw [← hP0.out, ← show i = 4 * 2 by omega]; exact hd)
      have HS := hid s
      have HB := hid hb
      have hl16 := hlen.out
      clear hd s hb hlen
      go_wp2
      generalize wr = W2 at *
      go_loopw [7, 8] (fun x7 x8 wr => ∃ lo hi : Nat, x7 = .int .u64 lo ∧ x8 = .int .u64 hi ∧ lo ≤ X ∧ X < hi ∧ hi ≤ 137438953472 ∧ Below W2.heap.size W2 wr) (fun x7 x8 _ => (intOf x8 - intOf x7).toNat)
      case atStart => exact ⟨0, 137438953472, rfl, rfl, by omega, by omega, by omega, Below.refl _ _⟩
      case round =>
        obtain ⟨lo, hi, rfl, rfl, hlo, hhi, hh37, hb⟩ := hrel
        clear ti
        by_cases hgo : 1 < hi - lo
        · have tg : decide ((hi : Int) - (lo : Int) > 1) = true := by rw [decide_eq_true_eq]; omega
          have tg2 : decide (1 < (hi : Int) - (lo : Int)) = true := by rw [decide_eq_true_eq]; omega
          obtain ⟨m, hm⟩ : ∃ m : Nat, m = (lo + hi) / 2 := ⟨_, rfl⟩
          have em : ((lo : Int) + (hi : Int)) / 2 = (m : Int) := by omega
          have hm1 : lo < m := by omega
          have hm2 : m < hi := by omega
          have hm64 : m < 18446744073709551616 := by omega
          have hwd : IntKind.u64.wrap ((hi : Int) - (lo : Int)) = (hi : Int) - (lo : Int) := by
            obtain ⟨dd, hdd⟩ : ∃ dd : Nat, (hi : Int) - (lo : Int) = (dd : Int) ∧ dd < 18446744073709551616 := ⟨hi - lo, by omega, by omega⟩
            rw [hdd.1]
            have := hdd.2
            clear hdd em tg tg2 hm
            simp [IntKind.wrap, IntKind.signed, IntKind.bits]; omega
          have HBW := hid hb
          have HS2 := hid (HS.out.below hb)
          have hHLE := hid (HLE.out m)
          clear hm hb
          go_wp2_with fail
          refine (of_walk m hm64 _).mono ?_
          rintro e w3 ⟨v3, xs3, rfl, d3, ⟨a3, c3, rfl, s3⟩, b3⟩
          have l3 := d3.len_le (k := 5) (Nat.lt_trans (show m < 137438953472 by omega) (by decide))
          have B3 := hid (HBW.out.trans (b3.mono HBW.out.size))
          have HS3 := hid (HS2.out.below b3)
          have X3 := hid s3
          have D3 := hid d3
          clear s3 d3 b3 HBW HS2
          go_wp2_with fail
          refine (mul_walk a3 a3 xs3.length xs3.length c3 c3 m m xs3 xs3 (by omega) (by omega) _ X3.out D3.out X3.out D3.out).mono ?_
          rintro e w4 ⟨v4, xs4, rfl, d4, ⟨a4, c4, rfl, s4⟩, b4⟩
          have l4 := d4.len_le (k := 10) (Nat.lt_of_lt_of_le (Nat.mul_lt_mul'' (show m < 137438953472 by omega) (show m < 137438953472 by omega)) (by decide))
          have B4 := hid (B3.out.trans (b4.mono B3.out.size))
          have HS4 := hid (HS3.out.below b4)
          have X4 := hid s4
          have D4 := hid d4
          have X3b := hid (X3.out.below b4)
          clear s4 d4 b4 B3 HS3
          by_cases hle : m ≤ X
          · have tc : decide (cmpI (m * m) P ≤ 0) = true := decide_eq_true (cmpI_le_zero (by have := hHLE.out.2 hle; simpa [Nat.pow_succ] using this))
            go_wp2_with fail
            refine (cmp_walk a4 a xs4.length os.length c4 c (m * m) P xs4 os (by omega) (by omega) _ X4.out D4.out HS4.out hd'.out).mono ?_
            rintro e w6 ⟨rfl, q6⟩
            have B6 := hid (B4.out.trans (q6.below _))
            clear q6
            go_wp2
            go_roundw
            case rel => exact ⟨m, hi, rfl, rfl, by omega, by omega, by omega, B6.out⟩
            case measure => simp [intOf]; omega
          · have tc : decide (cmpI (m * m) P ≤ 0) = false := decide_eq_false (cmpI_gt_zero (by intro h; exact hle (hHLE.out.1 (by simpa [Nat.pow_succ] using h))))
            go_wp2_with fail
            refine (cmp_walk a4 a xs4.length os.length c4 c (m * m) P xs4 os (by omega) (by omega) _ X4.out D4.out HS4.out hd'.out).mono ?_
            rintro e w6 ⟨rfl, q6⟩
            have B6 := hid (B4.out.trans (q6.below _))
            clear q6
            go_wp2
            go_roundw
            case rel => exact ⟨lo, m, rfl, rfl, by omega, by omega, by omega, B6.out⟩
            case measure => simp [intOf]; omega
        · have tg : decide ((hi : Int) - (lo : Int) > 1) = false := by rw [decide_eq_false_iff_not]; omega
          have tg2 : decide (1 < (hi : Int) - (lo : Int)) = false := by rw [decide_eq_false_iff_not]; omega
          obtain rfl : X = lo := by omega
          have hwd : IntKind.u64.wrap ((hi : Int) - (X : Int)) = (hi : Int) - (X : Int) := by
            obtain ⟨dd, hdd⟩ : ∃ dd : Nat, (hi : Int) - (X : Int) = (dd : Int) ∧ dd < 18446744073709551616 := ⟨hi - X, by omega, by omega⟩
            rw [hdd.1]
            have := hdd.2
            clear hdd tg tg2
            simp [IntKind.wrap, IntKind.signed, IntKind.bits]; omega
          obtain ⟨r, hr⟩ : ∃ r : Nat, r = X % 4294967296 := ⟨_, rfl⟩
          have er : (X : Int) % 4294967296 = (r : Int) := by omega
          have hr32 : r < 4294967296 := by omega
          have F := hid (show U32B w (X % 4294967296) (.returned (.int .u32 (r : Int))) wr from ⟨by rw [hr], HB.out.trans (hb.mono HB.out.size)⟩)
          clear hr hb
          go_wp2
          go_ret
          exact F.out
set_option maxRecDepth 100000 in
set_option maxHeartbeats 2000000 in
theorem root3_walk (p X : Nat) (hp0 : 0 < p) (hp : p < 1000) (h1 : X ^ 3 ≤ p * 2 ^ (32 * 3)) (h2 : p * 2 ^ (32 * 3) < (X + 1) ^ 3) (w : World) :
    Calls Tryd.prog 26 #[.int .i64 p, .int .i64 3] w (U32B w (X % 4294967296)) := by
  have HLE := hid (fun m => le_root (m := m) h1 h2)
  have hX37 : X < 137438953472 := by
    rcases Nat.lt_or_ge X 137438953472 with h | h
    · exact h
    · have := Nat.pow_le_pow_left h 3
      have h4 : (137438953472 : Nat) ^ 3 = 2596148429267413814265248164610048 := by decide
      rw [h4] at this
      have h5 : p * 2 ^ (32 * 3) ≤ 1000 * 79228162514264337593543950336 := Nat.mul_le_mul (by omega) (by decide)
      omega
  have hPb := hid (show p * 2 ^ (32 * 3) < 256 ^ 16 from Nat.lt_of_le_of_lt (Nat.mul_le_mul (show p ≤ 1000 by omega) (Nat.le_refl _)) (by decide))
  obtain ⟨P, hP⟩ : ∃ P : Nat, P = p * 2 ^ (32 * 3) := ⟨_, rfl⟩
  rw [← hP] at HLE hPb
  have hP0 := hid (show p * 256 ^ (4 * 3) = P by rw [hP])
  have hwp : IntKind.u64.wrap (p : Int) = (p : Int) := by simp [IntKind.wrap, IntKind.signed, IntKind.bits]; omega
  clear h1 h2 hP
  go_enter Tryd.func26, Tryd.ntmps26
  go_wp2_with fail
  refine (of_walk p (by omega) _).mono ?_
  rintro e w1 ⟨v1, xs1, rfl, d1, s1, b1⟩
  have S1 := hid s1
  have D1 := hid d1
  have B1 := hid b1
  clear s1 d1 b1 hwp
  go_wp2
  go_loopw [5, 6] (fun x5 x6 wr => ∃ (i : Nat) (v : Value) (os : List Nat), i ≤ 4 * 3 ∧ v = x5 ∧ x6 = .int .i64 i ∧ Dig os (p * 256 ^ i) ∧ SlV .i64 wr v os ∧ Below w.heap.size w wr) (fun _ x6 _ => 4 * 3 - (intOf x6).toNat)
  case atStart => exact ⟨0, v1, xs1, by omega, rfl, rfl, by simpa using D1.out, S1.out, B1.out⟩
  case round =>
    obtain ⟨i, v, os, hi, rfl, rfl, hd, sv, hb⟩ := hrel
    clear S1 D1 B1
    have hlen := hid (hd.len_le (k := 16) (Nat.lt_of_le_of_lt (Nat.mul_le_mul (Nat.le_refl p) (pow256_le hi)) (by rw [hP0.out]; exact hPb.out)))
    obtain ⟨a, c, rfl, s⟩ := sv
    by_cases hlt : i < 4 * 3
    · have ti : decide ((i : Int) < 12) = true := by rw [decide_eq_true_eq]; omega
      have D2 := hid (show Dig (0 :: os) (p * 256 ^ (i + 1)) by
        have := hd.shift (Nat.mul_pos hp0 (Nat.pow_pos (by omega)))
        rw [Nat.pow_succ, ← Nat.mul_assoc, Nat.mul_comm (p * 256 ^ i)]; exact this)
      have hlb := hlen.out
      have O1 := hid (own_lit .i64 wr #[.int .i64 0] 3 [0] (n := 1) (B := wr.heap.size) rfl rfl (Nat.le_refl _) (by decide))
      have bb := (Below.refl wr.heap.size wr).alloc (Nat.le_refl _) (.cells #[.int .i64 0] 3)
      have S2 := hid (s.below bb)
      have BB := hid (hb.trans (bb.mono hb.size))
      have HBs := hid hb.size
      clear s hd hb bb
      go_wp2_with (at_builtin; refine wpList_cat rfl _ _ 104 rfl tyInts wr.heap.size O1.out rfl rfl S2.out (nums_oneCell _ _) ?c1 ?c2 ?c3 ?_)
      case c1 => omega
      case c2 => unfold maxLen; omega
      case c3 => simp
      intro v2 w2 own2 b2 hs2 _
      rw [nums_append] at own2
      have OW := hid (show w2.ownsRow wr.heap.size 3 1 v2 (0 :: os).length (nums .i64 (0 :: os)) by rw [List.length_cons, Nat.add_comm]; exact own2)
      have B2 := hid (BB.out.trans (b2.mono HBs.out))
      clear own2 b2 hs2
      go_wp2
      go_roundw
      case rel => exact ⟨i + 1, v2, 0 :: os, by omega, rfl, by go_num, D2.out, SlV.of_owns OW.out, B2.out⟩
      case measure => simp [intOf]; omega
    · have ti : decide ((i : Int) < 12) = false := by rw [decide_eq_false_iff_not]; omega
      have hd' := hid (show Dig os P by rw [← hP0.out, ← show i = 4 * 3 by omega]; exact hd)
      have HS := hid s
      have HB := hid hb
      have hl16 := hlen.out
      clear hd s hb hlen
      go_wp2
      generalize wr = W2 at *
      go_loopw [7, 8] (fun x7 x8 wr => ∃ lo hi : Nat, x7 = .int .u64 lo ∧ x8 = .int .u64 hi ∧ lo ≤ X ∧ X < hi ∧ hi ≤ 137438953472 ∧ Below W2.heap.size W2 wr) (fun x7 x8 _ => (intOf x8 - intOf x7).toNat)
      case atStart => exact ⟨0, 137438953472, rfl, rfl, by omega, by omega, by omega, Below.refl _ _⟩
      case round =>
        obtain ⟨lo, hi, rfl, rfl, hlo, hhi, hh37, hb⟩ := hrel
        clear ti
        by_cases hgo : 1 < hi - lo
        · have tg : decide ((hi : Int) - (lo : Int) > 1) = true := by rw [decide_eq_true_eq]; omega
          have tg2 : decide (1 < (hi : Int) - (lo : Int)) = true := by rw [decide_eq_true_eq]; omega
          obtain ⟨m, hm⟩ : ∃ m : Nat, m = (lo + hi) / 2 := ⟨_, rfl⟩
          have em : ((lo : Int) + (hi : Int)) / 2 = (m : Int) := by omega
          have hm1 : lo < m := by omega
          have hm2 : m < hi := by omega
          have hm64 : m < 18446744073709551616 := by omega
          have hwd : IntKind.u64.wrap ((hi : Int) - (lo : Int)) = (hi : Int) - (lo : Int) := by
            obtain ⟨dd, hdd⟩ : ∃ dd : Nat, (hi : Int) - (lo : Int) = (dd : Int) ∧ dd < 18446744073709551616 := ⟨hi - lo, by omega, by omega⟩
            rw [hdd.1]
            have := hdd.2
            clear hdd em tg tg2 hm
            simp [IntKind.wrap, IntKind.signed, IntKind.bits]; omega
          have HBW := hid hb
          have HS2 := hid (HS.out.below hb)
          have hHLE := hid (HLE.out m)
          clear hm hb
          go_wp2_with fail
          refine (of_walk m hm64 _).mono ?_
          rintro e w3 ⟨v3, xs3, rfl, d3, ⟨a3, c3, rfl, s3⟩, b3⟩
          have l3 := d3.len_le (k := 5) (Nat.lt_trans (show m < 137438953472 by omega) (by decide))
          have B3 := hid (HBW.out.trans (b3.mono HBW.out.size))
          have HS3 := hid (HS2.out.below b3)
          have X3 := hid s3
          have D3 := hid d3
          clear s3 d3 b3 HBW HS2
          go_wp2_with fail
          refine (mul_walk a3 a3 xs3.length xs3.length c3 c3 m m xs3 xs3 (by omega) (by omega) _ X3.out D3.out X3.out D3.out).mono ?_
          rintro e w4 ⟨v4, xs4, rfl, d4, ⟨a4, c4, rfl, s4⟩, b4⟩
          have l4 := d4.len_le (k := 10) (Nat.lt_of_lt_of_le (Nat.mul_lt_mul'' (show m < 137438953472 by omega) (show m < 137438953472 by omega)) (by decide))
          have B4 := hid (B3.out.trans (b4.mono B3.out.size))
          have HS4 := hid (HS3.out.below b4)
          have X4 := hid s4
          have D4 := hid d4
          have X3b := hid (X3.out.below b4)
          clear s4 d4 b4 B3 HS3
          go_wp2_with fail
          refine (mul_walk a4 a3 xs4.length xs3.length c4 c3 (m * m) m xs4 xs3 (by omega) (by omega) _ X4.out D4.out X3b.out D3.out).mono ?_
          rintro e w5 ⟨v5, xs5, rfl, d5, ⟨a5, c5, rfl, s5⟩, b5⟩
          have l5 := d5.len_le (k := 15) (Nat.lt_of_lt_of_le (Nat.mul_lt_mul'' (Nat.mul_lt_mul'' (show m < 137438953472 by omega) (show m < 137438953472 by omega)) (show m < 137438953472 by omega)) (by decide))
          have B5 := hid (B4.out.trans (b5.mono B4.out.size))
          have HS5 := hid (HS4.out.below b5)
          have X5 := hid s5
          have D5 := hid d5
          clear s5 d5 b5
          by_cases hle : m ≤ X
          · have tc : decide (cmpI (m * m * m) P ≤ 0) = true := decide_eq_true (cmpI_le_zero (by have := hHLE.out.2 hle; simpa [Nat.pow_succ] using this))
            go_wp2_with fail
            refine (cmp_walk a5 a xs5.length os.length c5 c (m * m * m) P xs5 os (by omega) (by omega) _ X5.out D5.out HS5.out hd'.out).mono ?_
            rintro e w6 ⟨rfl, q6⟩
            have B6 := hid (B5.out.trans (q6.below _))
            clear q6
            go_wp2
            go_roundw
            case rel => exact ⟨m, hi, rfl, rfl, by omega, by omega, by omega, B6.out⟩
            case measure => simp [intOf]; omega
          · have tc : decide (cmpI (m * m * m) P ≤ 0) = false := decide_eq_false (cmpI_gt_zero (by intro h; exact hle (hHLE.out.1 (by simpa [Nat.pow_succ] using h))))
            go_wp2_with fail
            refine (cmp_walk a5 a xs5.length os.length c5 c (m * m * m) P xs5 os (by omega) (by omega) _ X5.out D5.out HS5.out hd'.out).mono ?_
            rintro e w6 ⟨rfl, q6⟩
            have B6 := hid (B5.out.trans (q6.below _))
            clear q6
            go_wp2
            go_roundw
            case rel => exact ⟨lo, m, rfl, rfl, by omega, by omega, by omega, B6.out⟩
            case measure => simp [intOf]; omega
        · have tg : decide ((hi : Int) - (lo : Int) > 1) = false := by rw [decide_eq_false_iff_not]; omega
          have tg2 : decide (1 < (hi : Int) - (lo : Int)) = false := by rw [decide_eq_false_iff_not]; omega
          obtain rfl : X = lo := by omega
          have hwd : IntKind.u64.wrap ((hi : Int) - (X : Int)) = (hi : Int) - (X : Int) := by
            obtain ⟨dd, hdd⟩ : ∃ dd : Nat, (hi : Int) - (X : Int) = (dd : Int) ∧ dd < 18446744073709551616 := ⟨hi - X, by omega, by omega⟩
            rw [hdd.1]
            have := hdd.2
            clear hdd tg tg2
            simp [IntKind.wrap, IntKind.signed, IntKind.bits]; omega
          obtain ⟨r, hr⟩ : ∃ r : Nat, r = X % 4294967296 := ⟨_, rfl⟩
          have er : (X : Int) % 4294967296 = (r : Int) := by omega
          have hr32 : r < 4294967296 := by omega
          have F := hid (show U32B w (X % 4294967296) (.returned (.int .u32 (r : Int))) wr from ⟨by rw [hr], HB.out.trans (hb.mono HB.out.size)⟩)
          clear hr hb
          go_wp2
          go_ret
          exact F.out
end Go.Proofs.YtgaidleepjkldaaDoor
namespace Go.Proofs.YtgaidleepjkldaaDoor
open Go.RowKit

theorem all_take_succ {l : List Nat} {i x p : Nat} (h : l[i]? = some p) : (l.take (i + 1)).all (fun p => decide (x % p ≠ 0)) = ((l.take i).all (fun p => decide (x % p ≠ 0)) && decide (x % p ≠ 0)) := by
  rw [List.take_add_one, h, List.all_append]
  simp
def PrRes (w : World) (e : Ending) (w' : World) : Prop := ∃ v, e = .returned v ∧ w'.ownsRow w.heap.size 3 1 v PL.length (nums .i64 PL) ∧ Below w.heap.size w w'
set_option maxRecDepth 100000 in
set_option maxHeartbeats 2000000 in
theorem primes_walk (w : World) : Calls Tryd.prog 25 #[.int .i64 64] w (PrRes w) := by
  have O0 := hid (World.ownsRow_made (base := w.heap.size) (e := 3) (size := 1) w #[] 0 (Nat.le_refl _) (by simp) (by simp))
  have B0 := hid ((Below.refl w.heap.size w).alloc (Nat.le_refl _) (.cells #[] 3))
  go_enter Tryd.func25, Tryd.ntmps25
  go_wp2
  go_loopw [3, 4] (fun x3 x4 wr => ∃ (k x : Nat) (v : Value), k ≤ 310 ∧ Hid (x = k + 2) ∧ x ≤ 312 ∧ v = x3 ∧ x4 = .int .i64 x ∧ wr.ownsRow w.heap.size 3 1 v (prN k).length (nums .i64 (prN k)) ∧ Below w.heap.size w wr) (fun _ x4 _ => 312 - (intOf x4).toNat)
  case atStart => exact ⟨0, 2, _, by omega, hid rfl, by omega, rfl, rfl, O0.out, B0.out⟩
  case round =>
    obtain ⟨k, x, v, hk, hx, hx312, rfl, rfl, hown, hb⟩ := hrel
    clear O0 B0
    obtain ⟨a, c, rfl, r⟩ := Rd.of_owns hown
    have HO := hid hown
    have HB := hid hb
    have HS := hid (show Sl .i64 wr a (prN k).length c (prN k) from r)
    have hx' := hx.out
    have hx2 : 2 ≤ x := by omega
    by_cases hlt : (prN k).length < 64
    · have hk310 : k < 310 := by
        rcases Nat.lt_or_ge k 310 with h | h
        · exact h
        · exfalso
          have e : k = 310 := by omega
          rw [e, prN_310] at hlt
          exact absurd hlt (by decide)
      have hpos := hid (prN_pos k)
      have hstep := hid (show prN (k + 1) = prStep (prN k) x by rw [prN, hx'])
      obtain ⟨L, hL⟩ : ∃ L, L = (prN k).length := ⟨_, rfl⟩
      rw [← hL] at HO HS hlt ⊢
      have HLn := hid hL
      clear hown hb r hx' hL
      generalize prN k = ps at *
      go_wp2
      generalize wr = W1 at *
      go_loopw [5, 17] (fun x5 x17 wr => ∃ (i : Nat) (b : Bool), i ≤ L ∧ x17 = .int .i64 i ∧ x5 = .bool b ∧ Hid (b = (ps.take i).all (fun p => decide (x % p ≠ 0))) ∧ wr = W1) (fun _ x17 _ => L - (intOf x17).toNat)
      case atStart => exact ⟨0, true, by omega, rfl, rfl, hid (by simp), rfl⟩
      case round =>
        obtain ⟨i, b, hi, rfl, rfl, hbb, rfl⟩ := hrel
        by_cases hil : i < L
        · obtain ⟨p, hp⟩ : ∃ p, ps[i]? = some p := ⟨ps[i]'(by have := HLn.out; omega), List.getElem?_eq_getElem _⟩
          have hp2 := (hpos.out p (List.mem_of_getElem? hp))
          have hp1 : 2 ≤ p := hp2.1
          have hp3 : p < 1000 := by omega
          obtain ⟨bk, off, ha, hc⟩ := HS.out.opened
          obtain rfl := ha (by omega)
          have ci := hc i hil
          rw [List.getD_eq_getElem?_getD, hp, Option.getD_some] at ci
          have HA := hid (all_take_succ (x := x) hp)
          clear hc ha hp hp2
          obtain ⟨q, hq⟩ : ∃ q : Nat, q = x % p := ⟨_, rfl⟩
          have eq1 : (x : Int) % (p : Int) = (q : Int) := by rw [hq]; exact (Int.natCast_emod x p).symm
          have eq2 : (x : Int).tmod (p : Int) = (q : Int) := by rw [Int.tmod_eq_emod_of_nonneg (by omega)]; exact eq1
          have HQ := hid hq
          clear hq
          by_cases hq0 : q = 0
          · have tq : ((q : Int) == 0) = true := by rw [beq_iff_eq]; omega
            have hn := hid (show false = (ps.take (i + 1)).all (fun p => decide (x % p ≠ 0)) by rw [HA.out, ← HQ.out, hq0]; simp)
            have HQ0 := hid hq0
            clear hq0
            go_wp2
            go_roundw
            case rel => exact ⟨i + 1, false, by omega, by go_num, rfl, hn, (by first | rfl | trivial)⟩
            case measure => simp [intOf]; omega
          · have tq : ((q : Int) == 0) = false := by rw [beq_eq_false_iff_ne]; omega
            have hn := hid (show b = (ps.take (i + 1)).all (fun p => decide (x % p ≠ 0)) by rw [HA.out, ← HQ.out, ← hbb.out]; simp [hq0])
            go_wp2
            go_roundw
            case rel => exact ⟨i + 1, b, by omega, by go_num, rfl, hn, (by first | rfl | trivial)⟩
            case measure => simp [intOf]; omega
        · have et : ps.take i = ps := List.take_of_length_le (by have := HLn.out; omega)
          rw [et] at hbb
          have ex1 : (x : Int) + 1 = ((x + 1 : Nat) : Int) := by omega
          obtain ⟨y, hy⟩ : ∃ y : Nat, y = x + 1 := ⟨_, rfl⟩
          rw [← hy] at ex1
          have hxy := hid (show y = (k + 1) + 2 by have := hx.out; omega)
          have hy312 : y ≤ 312 := by have := hx.out; omega
          clear et hy
          cases b with
          | true =>
            have hps := hid (show prN (k + 1) = ps ++ [x] by rw [hstep.out, prStep, if_pos hbb.out.symm])
            have hLn4 : L < 4294967296 := by omega
            go_wp2_with (at_builtin; refine wpList_push rfl _ _ 69 rfl tyInt1 w.heap.size HO.out rfl rfl rfl rfl hLn4 (by decide) HB.out.size ?_)
            intro v2 w2 own2 b2 hs2 _
            have OW := hid (show w2.ownsRow w.heap.size 3 1 v2 (prN (k + 1)).length (nums .i64 (prN (k + 1))) by
              rw [hps.out, List.length_append, List.length_singleton, ← HLn.out, ← nums_snoc .i64 (show (x : Int) = ((x : Nat) : Int) from rfl)]; exact own2)
            have B2 := hid (HB.out.trans b2)
            clear own2 b2 hs2
            go_wp2
            go_roundw
            case rel => exact ⟨k + 1, y, v2, by omega, hxy, hy312, rfl, rfl, OW.out, B2.out⟩
            case measure => simp [intOf]; have := hx.out; have := hxy.out; omega
          | false =>
            have hps := hid (show prN (k + 1) = ps by rw [hstep.out, prStep, if_neg (by rw [← hbb.out]; simp)])
            go_wp2
            go_roundw
            case rel => exact ⟨k + 1, y, _, by omega, hxy, hy312, rfl, rfl, by rw [hps.out, ← HLn.out]; exact HO.out, HB.out⟩
            case measure => simp [intOf]; have := hx.out; have := hxy.out; omega
    · have hk310 : k = 310 := by
        rcases Nat.lt_or_ge k 310 with h | h
        · exact absurd (prN_short k h) hlt
        · omega
      have e : prN k = PL := by rw [hk310]; exact prN_310
      rw [e] at hown HS hlt ⊢
      have F := hid (show PrRes w (.returned (.slice a PL.length c)) wr from ⟨_, rfl, hown, hb⟩)
      have hl64 : ¬ PL.length < 64 := by decide
      clear hown hb HO HS r e
      generalize PL.length = L at *
      go_wp2
      go_ret
      exact F.out
theorem pl_pos : ∀ i, i < 64 → 0 < PL.getD i 0 := by decide +kernel
theorem zeroTab : Tryd.zeroCells49.toList = nums .u32 (List.replicate 72 0) := by kernel_rfl
theorem infoTab : (Tryd.prog.info? 49).map (·.size) = some 72 := by kernel_rfl
theorem zeroTab_size : Tryd.zeroCells49.size = 72 := by
  have := congrArg List.length zeroTab
  rw [nums_length, List.length_replicate, Array.length_toList] at this
  exact this
theorem zeroTab_one : Tryd.zeroCells49.all (·.oneCell') = true := by kernel_rfl
/-- the tables as a value -/
def tabV : Value := .agg (nums .u32 (H0 ++ K0)).toArray
def tabI (i : Nat) : List Nat := padW (H0.take i) 8 ++ padW (K0.take i) 64
theorem tab_zero : tabI 0 = List.replicate 72 0 := by decide
theorem tab_len (i : Nat) : (tabI i).length = 72 := by
  unfold tabI
  rw [List.length_append, padW_len (by rw [List.length_take]; exact Nat.min_le_right _ _), padW_len (by rw [List.length_take]; exact Nat.min_le_right _ _)]
theorem tab_full : tabI 64 = H0 ++ K0 := by decide
theorem tab_step8 {i : Nat} (h : i < 8) : ((tabI i).set (8 + i) (K0.getD i 0)).set i (H0.getD i 0) = tabI (i + 1) := by
  have h1 : i = 0 ∨ i = 1 ∨ i = 2 ∨ i = 3 ∨ i = 4 ∨ i = 5 ∨ i = 6 ∨ i = 7 := by omega
  rcases h1 with rfl | rfl | rfl | rfl | rfl | rfl | rfl | rfl <;> decide
theorem tab_step {i : Nat} (h : 8 ≤ i) (hi : i < 64) : (tabI i).set (8 + i) (K0.getD i 0) = tabI (i + 1) := by
  have hK : K0.length = 64 := rfl
  have hH : H0.length = 8 := rfl
  have e1 : H0.take i = H0 := List.take_of_length_le (by omega)
  have e2 : H0.take (i + 1) = H0 := List.take_of_length_le (by omega)
  have e3 : K0.take (i + 1) = K0.take i ++ [K0.getD i 0] := by
    rw [List.take_add_one, List.getD_eq_getElem?_getD, List.getElem?_eq_getElem (by omega)]; rfl
  have hp : (padW H0 8).length = 8 := padW_len (by omega)
  unfold tabI
  rw [e1, e2, List.set_append_right _ _ (by omega), hp, Nat.add_sub_cancel_left, padW_set (by rw [List.length_take]; omega) hi, e3]
def MkRes (w : World) (e : Ending) (w' : World) : Prop := e = .returned tabV ∧ Below w.heap.size w w'
theorem alloc2m (w : World) (a b : Obj) : ((w.alloc a).alloc b).heap[w.heap.size]? = some a ∧ ((w.alloc a).alloc b).heap[w.heap.size + 1]? = some b ∧ ((w.alloc a).alloc b).heap.size = w.heap.size + 1 + 1 ∧ Below w.heap.size w ((w.alloc a).alloc b) := by
  have e1 : (w.alloc a).heap.size = w.heap.size + 1 := by simp
  have h0 := heap_alloc_new w a
  have h1 := heap_alloc_new (w.alloc a) b
  rw [e1] at h1
  exact ⟨by rw [Below.heap_alloc _ _ _ (by omega)]; exact h0, h1, by simp, ((Below.refl w.heap.size w).alloc (Nat.le_refl _) a).alloc (by omega) b⟩
set_option maxRecDepth 100000 in
set_option maxHeartbeats 2000000 in
theorem make_walk (w : World) : Calls Tryd.prog 15 #[] w (MkRes w) := by
  have A2 := hid (alloc2m w (.cells Tryd.zeroCells49 49) (.cells Tryd.zeroCells49 49))
  go_enter Tryd.func15, Tryd.ntmps15
  have hzi : (Tryd.prog.info? 49).map (·.size) = some Tryd.zeroCells49.size := by rw [zeroTab_size]; exact infoTab
  have hW2 := hid (setRow_heap ((w.alloc (.cells Tryd.zeroCells49 49)).alloc (.cells Tryd.zeroCells49 49)) (w.heap.size + 1) _ Tryd.zeroCells49 _ _ A2.out.2.1)
  have hW0 := hid (show (((w.alloc (.cells Tryd.zeroCells49 49)).alloc (.cells Tryd.zeroCells49 49)).setRow (w.heap.size + 1) Tryd.zeroCells49).heap[w.heap.size]? = some (.cells Tryd.zeroCells49 49 (0, 0)) by rw [setRow_other _ _ _ _ (by omega)]; exact A2.out.1)
  have hWB := hid (below_setRow A2.out.2.2.2 (show w.heap.size ≤ w.heap.size + 1 by omega) Tryd.zeroCells49)
  go_wp2_with (refine wpList_store_row rfl _ _ _ rfl (w.heap.size + 1) Tryd.zeroCells49 rfl rfl _ _ A2.out.2.1 hzi rfl zeroTab_one ?_)
  clear A2 hzi
  generalize ((w.alloc (.cells Tryd.zeroCells49 49)).alloc (.cells Tryd.zeroCells49 49)).setRow (w.heap.size + 1) Tryd.zeroCells49 = W2 at *
  obtain ⟨G1, hG1⟩ : ∃ G1, G1 = w.heap.size + 1 := ⟨_, rfl⟩
  rw [← hG1] at hW2 ⊢
  have l01 : w.heap.size < G1 := by omega
  have own0 := hid (own_of_heap (B := w.heap.size + 1) (n := 72) (L := nums .u32 (tabI 0)) hW2.out (by rw [zeroTab, tab_zero]) (by rw [nums_length, tab_len]) (by omega) (by decide))
  have HG0 := hid (show w.heap.size < W2.heap.size from (Array.getElem?_eq_some_iff.1 hW0.out).1)
  clear hG1 hW2
  go_wp2_with fail
  refine (primes_walk _).mono ?_
  rintro e w3 ⟨v3, rfl, o3, b3⟩
  have HB := hid (hWB.out.trans (b3.mono hWB.out.size))
  have own3 := hid (own_below own0.out b3)
  have hW3 := hid (show w3.heap[w.heap.size]? = some (.cells Tryd.zeroCells49 49 (0, 0)) by rw [b3.block _ HG0.out]; exact hW0.out)
  have hPL : PL.length = 64 := rfl
  rw [hPL] at o3
  obtain ⟨a3, c3, rfl, _⟩ := Rd.of_owns o3
  obtain ⟨bk, rfl, _⟩ := own_addr o3 (by omega)
  have hbk := (o3.lt bk rfl).1
  have hGW : G1 < W2.heap.size := (own0.out.lt G1 rfl).2
  have HCL := hid (fun i (hi : i < 64) => show w3.cell? ⟨bk, i, none⟩ = some (.int .i64 ((PL.getD i 0 : Nat) : Int)) from (o3.cellAt i (by omega)).trans (nums_get .i64 (by rw [hPL]; exact hi)))
  have hbG : bk ≠ G1 := by omega
  clear b3 own0 hW0 HG0 hWB o3 hPL hbk hGW
  go_wp2
  go_loopw [7] (fun x0 wr => ∃ i : Nat, i ≤ 64 ∧ x0 = .int .i64 i ∧ wr.ownsRow (w.heap.size + 1) 49 1 (.slice (some ⟨G1, 0, none⟩) 72 72) 72 (nums .u32 (tabI i)) ∧ Below w.heap.size w wr ∧ Far G1 w3 wr) (fun x0 _ => 64 - (intOf x0).toNat)
  case atStart => exact ⟨0, by omega, rfl, own3.out, HB.out, Far.refl _ _⟩
  case round =>
    obtain ⟨i, hi, rfl, how, hb, hf⟩ := hrel
    have HO := hid how
    have HBW := hid hb
    have HFW := hid hf
    clear own3 HB
    by_cases hlt : i < 64
    · have cp := HCL.out i hlt
      have cpw : wr.cell? ⟨bk, i, none⟩ = some (.int .i64 ((PL.getD i 0 : Nat) : Int)) := by
        rw [World.cell?_of_block (hf.block bk (World.block_lt_of_cell? w3 _ cp) (by simpa using hbG))]
        exact cp
      obtain ⟨x31, x32, x33⟩ := x3_ok i hlt
      have hpl := pl_lt i hlt
      have hp0 := pl_pos i hlt
      have R3 := fun wx => hid (root3_walk (PL.getD i 0) (X3.getD i 0) hp0 hpl x31 x32 wx)
      rw [x33] at R3
      have kl := getDlt K0_lt (by omega) i
      have hiI : (i : Int) < 64 := by omega
      by_cases h8 : i < 8
      · have t8 : decide ((i : Int) < 8) = true := by rw [decide_eq_true_eq]; omega
        have hiI8 : (i : Int) < 8 := by omega
        obtain ⟨x21, x22, x23⟩ := x2_ok i h8
        have R2 := fun wx => hid (root2_walk (PL.getD i 0) (X2.getD i 0) hp0 hpl x21 x22 wx)
        rw [x23] at R2
        have hl := getDlt H0_lt (by omega) i
        have hst := hid (tab_step8 h8)
        generalize PL.getD i 0 = p at *
        generalize K0.getD i 0 = kv at *
        generalize H0.getD i 0 = hv' at *
        clear x31 x32 x33 x21 x22 x23 how hb hf cp
        go_wp2_with fail
        refine (R3 _).out.mono ?_
        rintro e w4 ⟨rfl, b4⟩
        have how4 := own_below HO.out b4
        have cK := how4.cellAt (8 + i) (by omega)
        rw [nums_get .u32 (by rw [tab_len]; omega)] at cK
        have fK := how4.frozenAt (8 + i)
        have O4 := hid (own_store how4 (8 + i) (z := (kv : Int)) rfl)
        have F4 := hid ((HFW.out.trans (Far.of b4)).trans (Far.set (H := G1) (j := 8 + i) (w := w4) (.int .u32 (kv : Int))))
        have B4 := hid ((HBW.out.trans (b4.mono HBW.out.size)).trans (O4.out.2.mono (by omega)))
        generalize (tabI i).getD (8 + i) 0 = oldk at *
        clear b4 how4
        go_wp2_with fail
        clear cK fK
        refine (R2 _).out.mono ?_
        rintro e w5 ⟨rfl, b5⟩
        have how5 := own_below O4.out.1 b5
        have cH := how5.cellAt i (by omega)
        rw [nums_get .u32 (by rw [List.length_set, tab_len]; omega)] at cH
        have fH := how5.frozenAt i
        have O5 := hid (own_store how5 i (z := (hv' : Int)) rfl)
        have F5 := hid ((F4.out.trans (Far.of b5)).trans (Far.set (H := G1) (j := i) (w := w5) (.int .u32 (hv' : Int))))
        have B5 := hid ((B4.out.trans (b5.mono B4.out.size)).trans (O5.out.2.mono (by omega)))
        generalize ((tabI i).set (8 + i) kv).getD i 0 = oldh at *
        clear b5 how5 O4 F4 B4
        go_wp2
        go_roundw
        case rel => exact ⟨i + 1, by omega, by go_num, by rw [← hst.out]; exact O5.out.1, B5.out, F5.out⟩
        case measure => simp [intOf]; omega
      · have t8 : decide ((i : Int) < 8) = false := by rw [decide_eq_false_iff_not]; omega
        have hst := hid (tab_step (by omega) hlt)
        generalize PL.getD i 0 = p at *
        generalize K0.getD i 0 = kv at *
        clear x31 x32 x33 how hb hf cp
        go_wp2_with fail
        refine (R3 _).out.mono ?_
        rintro e w4 ⟨rfl, b4⟩
        have how4 := own_below HO.out b4
        have cK := how4.cellAt (8 + i) (by omega)
        rw [nums_get .u32 (by rw [tab_len]; omega)] at cK
        have fK := how4.frozenAt (8 + i)
        have O4 := hid (own_store how4 (8 + i) (z := (kv : Int)) rfl)
        have F4 := hid ((HFW.out.trans (Far.of b4)).trans (Far.set (H := G1) (j := 8 + i) (w := w4) (.int .u32 (kv : Int))))
        have B4 := hid ((HBW.out.trans (b4.mono HBW.out.size)).trans (O4.out.2.mono (by omega)))
        generalize (tabI i).getD (8 + i) 0 = oldk at *
        clear b4 how4
        go_wp2
        go_roundw
        case rel => exact ⟨i + 1, by omega, by go_num, by rw [← hst.out]; exact O4.out.1, B4.out, F4.out⟩
        case measure => simp [intOf]; omega
    · have hge : 64 ≤ i := by omega
      rw [show i = 64 by omega, tab_full] at how
      have h0 := hid (show wr.heap[w.heap.size]? = some (.cells Tryd.zeroCells49 49 (0, 0)) by rw [hf.block _ (Array.getElem?_eq_some_iff.1 hW3.out).1 (by simp; omega)]; exact hW3.out)
      rcases how.2 with ⟨hbad, _⟩ | ⟨g, cap, cu3, hv3, _, hg3, _, _, hsz3', htk⟩
      · simp at hbad
      · simp only [Value.slice.injEq, Option.some.injEq, Addr.mk.injEq, and_true, true_and] at hv3
        obtain ⟨rfl, rfl⟩ := hv3
        have hcl : cu3.toList = nums .u32 (H0 ++ K0) := by
          rw [← htk, List.take_of_length_le (by rw [Array.length_toList, hsz3']; exact Nat.le_refl _)]
        have hcu3 := hid (show cu3 = (nums .u32 (H0 ++ K0)).toArray by rw [← hcl])
        have hg3' := hid hg3
        have hi3 : (Tryd.prog.info? 49).map (·.size) = some cu3.size := by rw [hsz3']; exact infoTab
        have h1c : cu3.all (·.oneCell') = true := by
          rw [hcu3.out]
          simp [nums, Value.oneCell']
        have h72 : Tryd.zeroCells49.size = cu3.size := by rw [hsz3']; exact zeroTab_size
        clear how hf hb hg3 htk hcl hsz3'
        go_wp2_with (first | (refine wpList_load_row rfl _ _ rfl G1 rfl _ cu3 _ _ hg3'.out Tryd.underlying49 rfl hi3 ?_) | (refine wpList_store_row rfl _ _ _ rfl w.heap.size cu3 rfl rfl _ _ h0.out hi3 h72 h1c ?_))
        (try simp only [Exit.inBlock, Exit.then])
        refine bodyPost_ret (results_cell_row rfl _ _ w.heap.size _ cu3 _ _ rfl (setRow_heap wr w.heap.size _ cu3 _ _ h0.out) Tryd.underlying49 rfl hi3) rfl ?_
        exact ⟨by rw [hcu3.out]; rfl, below_setRow HBW.out (Nat.le_refl _) _⟩
end Go.Proofs.YtgaidleepjkldaaDoor

/- turn; plain facts for the walk of the reference's Hash. -/
namespace Go.Proofs.YtgaidleepjkldaaDoor
open Go.RowKit

theorem rot_or2 (n x : Nat) (hx : x < 4294967296) : bits .or .u32 ((x / 2 ^ n : Nat) : Int) ((x * 2 ^ (32 - n) % 4294967296 : Nat) : Int) = ((rot n x : Nat) : Int) := by
  rw [u32_or_nat _ _ (Nat.lt_of_le_of_lt (Nat.div_le_self _ _) hx) (Nat.mod_lt _ (by omega))]
  rfl
theorem turn2_walk (x : Nat) (hx : x < 4294967296) (w : World) : Calls Tryd.prog 55 #[.int .u32 (x : Int), .int .u64 2] w fun e w' => e = .returned (.int .u32 ((rot 2 x : Nat) : Int)) ∧ w = w' := by
  have R := hid (rot_or2 2 x hx)
  go_enter Tryd.func55, Tryd.ntmps55
  go_wp2
  go_ret
  exact ⟨by rw [← R.out]; rfl, rfl⟩
theorem turn6_walk (x : Nat) (hx : x < 4294967296) (w : World) : Calls Tryd.prog 55 #[.int .u32 (x : Int), .int .u64 6] w fun e w' => e = .returned (.int .u32 ((rot 6 x : Nat) : Int)) ∧ w = w' := by
  have R := hid (rot_or2 6 x hx)
  go_enter Tryd.func55, Tryd.ntmps55
  go_wp2
  go_ret
  exact ⟨by rw [← R.out]; rfl, rfl⟩
theorem turn7_walk (x : Nat) (hx : x < 4294967296) (w : World) : Calls Tryd.prog 55 #[.int .u32 (x : Int), .int .u64 7] w fun e w' => e = .returned (.int .u32 ((rot 7 x : Nat) : Int)) ∧ w = w' := by
  have R := hid (rot_or2 7 x hx)
  go_enter Tryd.func55, Tryd.ntmps55
  go_wp2
  go_ret
  exact ⟨by rw [← R.out]; rfl, rfl⟩
theorem turn11_walk (x : Nat) (hx : x < 4294967296) (w : World) : Calls Tryd.prog 55 #[.int .u32 (x : Int), .int .u64 11] w fun e w' => e = .returned (.int .u32 ((rot 11 x : Nat) : Int)) ∧ w = w' := by
  have R := hid (rot_or2 11 x hx)
  go_enter Tryd.func55, Tryd.ntmps55
  go_wp2
  go_ret
  exact ⟨by rw [← R.out]; rfl, rfl⟩
theorem turn13_walk (x : Nat) (hx : x < 4294967296) (w : World) : Calls Tryd.prog 55 #[.int .u32 (x : Int), .int .u64 13] w fun e w' => e = .returned (.int .u32 ((rot 13 x : Nat) : Int)) ∧ w = w' := by
  have R := hid (rot_or2 13 x hx)
  go_enter Tryd.func55, Tryd.ntmps55
  go_wp2
  go_ret
  exact ⟨by rw [← R.out]; rfl, rfl⟩
theorem turn17_walk (x : Nat) (hx : x < 4294967296) (w : World) : Calls Tryd.prog 55 #[.int .u32 (x : Int), .int .u64 17] w fun e w' => e = .returned (.int .u32 ((rot 17 x : Nat) : Int)) ∧ w = w' := by
  have R := hid (rot_or2 17 x hx)
  go_enter Tryd.func55, Tryd.ntmps55
  go_wp2
  go_ret
  exact ⟨by rw [← R.out]; rfl, rfl⟩
theorem turn18_walk (x : Nat) (hx : x < 4294967296) (w : World) : Calls Tryd.prog 55 #[.int .u32 (x : Int), .int .u64 18] w fun e w' => e = .returned (.int .u32 ((rot 18 x : Nat) : Int)) ∧ w = w' := by
  have R := hid (rot_or2 18 x hx)
  go_enter Tryd.func55, Tryd.ntmps55
  go_wp2
  go_ret
  exact ⟨by rw [← R.out]; rfl, rfl⟩
theorem turn19_walk (x : Nat) (hx : x < 4294967296) (w : World) : Calls Tryd.prog 55 #[.int .u32 (x : Int), .int .u64 19] w fun e w' => e = .returned (.int .u32 ((rot 19 x : Nat) : Int)) ∧ w = w' := by
  have R := hid (rot_or2 19 x hx)
  go_enter Tryd.func55, Tryd.ntmps55
  go_wp2
  go_ret
  exact ⟨by rw [← R.out]; rfl, rfl⟩
theorem turn22_walk (x : Nat) (hx : x < 4294967296) (w : World) : Calls Tryd.prog 55 #[.int .u32 (x : Int), .int .u64 22] w fun e w' => e = .returned (.int .u32 ((rot 22 x : Nat) : Int)) ∧ w = w' := by
  have R := hid (rot_or2 22 x hx)
  go_enter Tryd.func55, Tryd.ntmps55
  go_wp2
  go_ret
  exact ⟨by rw [← R.out]; rfl, rfl⟩
theorem turn25_walk (x : Nat) (hx : x < 4294967296) (w : World) : Calls Tryd.prog 55 #[.int .u32 (x : Int), .int .u64 25] w fun e w' => e = .returned (.int .u32 ((rot 25 x : Nat) : Int)) ∧ w = w' := by
  have R := hid (rot_or2 25 x hx)
  go_enter Tryd.func55, Tryd.ntmps55
  go_wp2
  go_ret
  exact ⟨by rw [← R.out]; rfl, rfl⟩
def zerosN (L : Nat) : Nat := if L % 64 < 56 then 55 - L % 64 else 119 - L % 64
theorem padN_eq {L : Nat} (h : L ≤ 140737488355328) : padN L = 128 :: (List.replicate (zerosN L) 0 ++ beN 8 (8 * L)) := by
  unfold padN zerosN
  rw [Nat.mod_eq_of_lt (show L * 8 < 18446744073709551616 by omega), Nat.mul_comm L 8]
theorem zeros_more {L z : Nat} (hz : z ≤ zerosN L) : (L + 1 + z) % 64 ≠ 56 ↔ z < zerosN L := by
  unfold zerosN at *
  split at hz <;> rename_i h
  · rw [if_pos h]; omega
  · rw [if_neg h]; omega
theorem wrap_not {e : Nat} (he : e < 4294967296) : IntKind.u32.wrap (4294967295 - (e : Int)) = ((4294967295 - e : Nat) : Int) := by
  rw [IntKind.wrap_u32]; omega
theorem chr_rule {e f g : Nat} (he : e < 4294967296) (hf : f < 4294967296) (hg : g < 4294967296) : bits .xor .u32 (bits .and .u32 (e : Int) (f : Int)) (bits .and .u32 (4294967295 - (e : Int)) (g : Int)) = ((chf e f g : Nat) : Int) := by
  rw [show (4294967295 : Int) - (e : Int) = ((4294967295 - e : Nat) : Int) by omega, u32_and_nat _ _ he hf, u32_and_nat _ _ (by omega) hg, u32_xor_nat _ _ (and_lt hf) (and_lt hg)]; rfl
def addU (S T : List Nat) : Nat → List Nat
  | 0 => S
  | i + 1 => (addU S T i).set i ((S.getD i 0 + T.getD i 0) % 4294967296)
theorem addU_len (S T : List Nat) (i : Nat) : (addU S T i).length = S.length := by
  induction i with
  | zero => rfl
  | succ i ih => simp [addU, ih]
theorem addU_get (S T : List Nat) (i j : Nat) (h : i ≤ j) : (addU S T i).getD j 0 = S.getD j 0 := by
  induction i with
  | zero => rfl
  | succ i ih =>
    rw [addU, List.getD_eq_getElem?_getD, List.getElem?_set_ne (by omega), ← List.getD_eq_getElem?_getD, ih (by omega)]
theorem addU_eq {S T : List Nat} (h : S.length = 8) (h' : T.length = 8) : addU S T 8 = addL S T := by
  match S, T, h, h' with
  | [a, b, c, d, e, f, g, k], [a', b', c', d', e', f', g', k'], _, _ => rfl
def outS (O : List Nat) (i x : Nat) : Nat → List Nat
  | 0 => O
  | t + 1 => (outS O i x t).set (4 * i + (3 - t)) (x / 256 ^ t % 256)
theorem outS_len (O : List Nat) (i x t : Nat) : (outS O i x t).length = O.length := by
  induction t with
  | zero => rfl
  | succ t ih => simp [outS, ih]
end Go.Proofs.YtgaidleepjkldaaDoor

/- Pieces of a function's code. -/
namespace Go.Proofs.YtgaidleepjkldaaDoor
open Go.RowKit

def firstR : Code → Option Nat
  | .region k _ _ => some k
  | .seq a _ => firstR a
  | .block _ c => firstR c
  | .loop c => firstR c
  | .scope c => firstR c
  | _ => none
/-- the code that begins with region n -/
def pickR (n : Nat) : Code → Option Code
  | .region k o d => if k = n then some (.region k o d) else none
  | .seq a b => if firstR a = some n then some (.seq a b) else match pickR n a with
    | some c => some c
    | none => pickR n b
  | .block _ c => pickR n c
  | .loop c => pickR n c
  | .scope c => pickR n c
  | .cond _ a b => match pickR n a with
    | some c => some c
    | none => pickR n b
  | _ => none
/-- the first of a sequence -/
def headC : Code → Code
  | .seq a _ => a
  | c => c
end Go.Proofs.YtgaidleepjkldaaDoor

/- A chain's bytes, plain: what is written, and read. -/
import Derived.Test.YtnfklnbdebcpiaaDoorSecr
namespace Go.Proofs.YtnfklnbdebcpiaaDoor
open Go.RowKit

/-- n bytes of x, the highest first -/
def be : Nat → Nat → List Nat
  | 0, _ => []
  | n + 1, x => x / 256 ^ n % 256 :: be n x
theorem be_length (n x : Nat) : (be n x).length = n := by induction n with
  | zero => rfl
  | succ n ih => simp [be, ih]
theorem be_lt (n x : Nat) : ∀ d ∈ be n x, d < 256 := by induction n with
  | zero => simp [be]
  | succ n ih =>
    intro d hd
    rcases List.mem_cons.1 hd with rfl | hd
    · omega
    · exact ih d hd
theorem be_digit (x j : Nat) : (x : Int) / 2 ^ (8 * j) % 256 = ((x / 256 ^ j % 256 : Nat) : Int) := by
  rw [show (256 : Nat) ^ j = 2 ^ (8 * j) from by rw [Nat.pow_mul], Int.natCast_emod, Int.natCast_ediv, Int.natCast_pow]; rfl
def be8 (n : Nat) : List Nat := be 8 n
/-- the secrets from place i on, m of them, as bytes -/
def secB (n : Nat) (K : KM) : Nat → Nat → List Nat
  | _, 0 => []
  | i, m + 1 => (if (lastN i n).isSome then (K i).2 else []) ++ secB n K (i + 1) m
def encB (n : Nat) (K : KM) : List Nat := be8 n ++ secB n K 0 49
/-- what is read: the code, and what is kept -/
def decL (n : Nat) : Nat → Nat → KM → List Nat → Nat × KM
  | 0, _, K, bs => (if bs.length = 0 then 0 else 24, K)
  | m + 1, i, K, bs => match lastN i n with
    | none => decL n m (i + 1) K bs
    | some p => if bs.length < 32 then (20, K) else decL n m (i + 1) (updK K i (p, bs.take 32)) (bs.drop 32)
theorem secB_len {n : Nat} {K : KM} (hK : ∀ i, i < 49 → H32 (K i).2) : ∀ (m i : Nat), i + m ≤ 49 → (secB n K i m).length ≤ 32 * m
  | 0, _, _ => by simp [secB]
  | m + 1, i, h => by
    rw [secB, List.length_append]
    have := secB_len (n := n) hK m (i + 1) (by omega)
    split
    · rw [(hK i (by omega)).1]; omega
    · simp; omega
theorem secB_lt {n : Nat} {K : KM} (hK : ∀ i, i < 49 → H32 (K i).2) : ∀ (m i : Nat), i + m ≤ 49 → ∀ d ∈ secB n K i m, d < 256
  | 0, _, _ => by simp [secB]
  | m + 1, i, h => by
    rw [secB]
    intro d hd
    rcases List.mem_append.1 hd with hd | hd
    · split at hd
      · exact (hK i (by omega)).2 d hd
      · simp at hd
    · exact secB_lt hK m (i + 1) (by omega) d hd
theorem secB_congr {n : Nat} {K L : KM} : ∀ (m i : Nat), (∀ j, i ≤ j → j < i + m → K j = L j) → secB n K i m = secB n L i m
  | 0, _, _ => rfl
  | m + 1, i, h => by
    rw [secB, secB, h i (by omega) (by omega), secB_congr m (i + 1) (fun j h1 h2 => h j (by omega) (by omega))]
/-- T: what is written; whatever stands behind it -/
theorem decL_enc {n : Nat} {T : KM} (hT : ∀ i, i < 49 → H32 (T i).2 ∧ (lastN i n = none → T i = noneK i) ∧ ∀ p, lastN i n = some p → (T i).1 = p) (tail : List Nat) : ∀ (m i : Nat) (K : KM), i + m = 49 → (∀ j, j < i → K j = T j) → (∀ j, i ≤ j → K j = noneK j) →
    ∃ L, decL n m i K (secB n T i m ++ tail) = (if tail.length = 0 then 0 else 24, L) ∧ ∀ j, j < 49 → L j = T j
  | 0, i, K, h, h1, _ => ⟨K, by simp [secB, decL], fun j hj => h1 j (by omega)⟩
  | m + 1, i, K, h, h1, h2 => by
    obtain ⟨ht1, ht2, ht3⟩ := hT i (by omega)
    rw [secB, decL]
    cases hl : lastN i n with
    | none =>
      simp only [Option.isSome_none, Bool.false_eq_true, if_false, List.nil_append]
      exact decL_enc hT tail m (i + 1) K (by omega) (fun j hj => by
        by_cases hji : j = i
        · subst hji; rw [h2 j (by omega), ht2 hl]
        · exact h1 j (by omega)) (fun j hj => h2 j (by omega))
    | some p =>
      simp only [Option.isSome_some, if_true, List.append_assoc]
      have hlen : ¬ ((T i).2 ++ (secB n T (i + 1) m ++ tail)).length < 32 := by rw [List.length_append, ht1.1]; omega
      rw [if_neg hlen, List.take_left' ht1.1, List.drop_left' ht1.1]
      refine decL_enc hT tail m (i + 1) _ (by omega) (fun j hj => ?_) (fun j hj => ?_)
      · unfold updK
        by_cases hji : j = i
        · subst hji; rw [if_pos rfl, ← ht3 p hl]
        · rw [if_neg hji]; exact h1 j (by omega)
      · unfold updK; rw [if_neg (by omega)]; exact h2 j (by omega)
/-- cut short anywhere -/
theorem decL_cut {n : Nat} {T : KM} (hT : ∀ i, i < 49 → H32 (T i).2) : ∀ (m i c : Nat) (K : KM), i + m = 49 → c < (secB n T i m).length → ∃ L, decL n m i K ((secB n T i m).take c) = (20, L)
  | 0, i, c, K, _, h => by simp [secB] at h
  | m + 1, i, c, K, h, hc => by
    have ht1 := hT i (by omega)
    rw [secB] at hc ⊢
    rw [decL]
    cases hl : lastN i n with
    | none =>
      simp only [hl, Option.isSome_none, Bool.false_eq_true, if_false, List.nil_append] at hc ⊢
      exact decL_cut hT m (i + 1) c K (by omega) hc
    | some p =>
      simp only [hl, Option.isSome_some, if_true] at hc ⊢
      rw [List.length_append, ht1.1] at hc
      by_cases h32 : c < 32
      · rw [if_pos (by rw [List.length_take, List.length_append, ht1.1]; omega)]
        exact ⟨_, rfl⟩
      · rw [if_neg (by rw [List.length_take, List.length_append, ht1.1]; omega)]
        have e : ((T i).2 ++ secB n T (i + 1) m).take c = (T i).2 ++ (secB n T (i + 1) m).take (c - 32) := by
          rw [List.take_append, ht1.1, List.take_of_length_le (by rw [ht1.1]; omega)]
        rw [e, List.drop_left' ht1.1]
        exact decL_cut hT m (i + 1) (c - 32) _ (by omega) (by omega)
/-- what was read is written so -/
theorem decL_back {n : Nat} : ∀ (m i : Nat) (K : KM) (bs : List Nat) (L : KM), decL n m i K bs = (0, L) → secB n L i m = bs ∧ ∀ j, j < i → L j = K j
  | 0, i, K, bs, L, h => by
    rw [decL] at h
    obtain ⟨h1, h2⟩ := Prod.mk.inj h
    subst h2
    refine ⟨?_, fun _ _ => rfl⟩
    split at h1
    · rename_i hl; rw [List.eq_nil_of_length_eq_zero hl]; rfl
    · omega
  | m + 1, i, K, bs, L, h => by
    rw [decL] at h
    rw [secB]
    cases hl : lastN i n with
    | none =>
      simp only [hl] at h
      obtain ⟨h1, h2⟩ := decL_back m (i + 1) K bs L h
      simp only [Option.isSome_none, Bool.false_eq_true, if_false, List.nil_append]
      exact ⟨h1, fun j hj => h2 j (by omega)⟩
    | some p =>
      simp only [hl] at h
      split at h
      · have := (Prod.mk.inj h).1; omega
      · obtain ⟨h1, h2⟩ := decL_back m (i + 1) _ _ L h
        simp only [Option.isSome_some, if_true]
        rw [h1, h2 i (by omega)]
        refine ⟨by simp [updK], fun j hj => ?_⟩
        rw [h2 j (by omega)]; unfold updK; rw [if_neg (by omega)]
theorem decL_ok {n : Nat} (hn : n ≤ 281474976710656) : ∀ (m i : Nat) (K : KM) (bs : List Nat), i + m = 49 → (∀ d ∈ bs, d < 256) → (∀ j, j < 49 → (K j).1 < 281474976710656 ∧ H32 (K j).2) → ∀ j, j < 49 → ((decL n m i K bs).2 j).1 < 281474976710656 ∧ H32 ((decL n m i K bs).2 j).2
  | 0, _, _, _, _, _, h => h
  | m + 1, i, K, bs, hi, hb, h => by
    rw [decL]
    cases hl : lastN i n with
    | none => exact decL_ok hn m (i + 1) K bs (by omega) hb h
    | some p =>
      dsimp only
      split
      · exact h
      · rename_i hlen
        refine decL_ok hn m (i + 1) _ _ (by omega) (fun d hd => hb d (List.mem_of_mem_drop hd)) (fun j hj => ?_)
        unfold updK
        split
        · have := (last_some (by omega) hn hl).1
          exact ⟨by show p < _; omega, by show (bs.take 32).length = 32; rw [List.length_take]; omega, fun d hd => hb d (List.mem_of_mem_take hd)⟩
        · exact h j hj
theorem be8_back (n : Nat) (h : n < 18446744073709551616) : (be8 n).foldl (fun x d => x * 256 + d) 0 = n := by
  simp [be8, be]
  omega
theorem be8_of {a0 a1 a2 a3 a4 a5 a6 a7 : Nat} (h0 : a0 < 256) (h1 : a1 < 256) (h2 : a2 < 256) (h3 : a3 < 256) (h4 : a4 < 256) (h5 : a5 < 256) (h6 : a6 < 256) (h7 : a7 < 256) :
    be8 ([a0, a1, a2, a3, a4, a5, a6, a7].foldl (fun x d => x * 256 + d) 0) = [a0, a1, a2, a3, a4, a5, a6, a7] := by
  simp [be8, be]
  refine ⟨?_, ?_, ?_, ?_, ?_, ?_, ?_, ?_⟩ <;> omega
end Go.Proofs.YtnfklnbdebcpiaaDoor

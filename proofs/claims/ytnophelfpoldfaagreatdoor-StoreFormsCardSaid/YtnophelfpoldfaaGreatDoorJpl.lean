/- The journal, plain: what is laid is read again; a blank sector is no record. -/
import Derived.Test.YtnophelfpoldfaaGreatDoorGReg
namespace Go.Proofs.YtnophelfpoldfaaGreatDoor

theorem layB_get (C : List (List Nat)) (p : Nat) (b : List Nat) : ∀ K i, p + K ≤ C.length → (layB C p b K)[i]? = if p ≤ i ∧ i < p + K then some (chunk b (i - p)) else C[i]?
  | 0, i, h => by rw [if_neg (by omega)]; rfl
  | K + 1, i, h => by
    show ((layB C p b K).set (p + K) (chunk b K))[i]? = _
    rw [List.getElem?_set, layB_len, layB_get C p b K i (by omega)]
    by_cases e : p + K = i
    · rw [if_pos e, if_pos (by omega), if_pos (by omega)]
      congr 2; omega
    · rw [if_neg e]
      by_cases e2 : p ≤ i ∧ i < p + K
      · rw [if_pos e2, if_pos (by omega)]
      · rw [if_neg e2, if_neg (by omega)]
theorem layB_in {C : List (List Nat)} {p : Nat} {b : List Nat} {K i : Nat} (h : p + K ≤ C.length) (hi : i < K) : (layB C p b K)[p + i]? = some (chunk b i) := by
  rw [layB_get C p b K _ h, if_pos (by omega)]; congr 2; omega
theorem layB_out {C : List (List Nat)} {p : Nat} {b : List Nat} {K i : Nat} (h : p + K ≤ C.length) (hi : i < p ∨ p + K ≤ i) : (layB C p b K)[i]? = C[i]? := by
  rw [layB_get C p b K _ h, if_neg (by omega)]
theorem allC_lay {C : List (List Nat)} {p : Nat} {b : List Nat} {K : Nat} (h : p + K ≤ C.length) : ∀ m, m ≤ K → allC (layB C p b K) p m = b.take (64 * m)
  | 0, _ => by simp [allC]
  | m + 1, hm => by
    rw [allC_succ _ p m (layB_in h (by omega)), allC_lay h m (by omega), show 64 * (m + 1) = 64 * m + 64 by omega, List.take_add]
    rfl
theorem allC_same {C C' : List (List Nat)} {p : Nat} : ∀ m, (∀ i, i < m → C'[p + i]? = C[p + i]?) → p + m ≤ C.length → allC C' p m = allC C p m
  | 0, _, _ => by simp [allC]
  | m + 1, h, hl => by
    have e : C[p + m]? = some C[p + m] := List.getElem?_eq_getElem (by omega)
    rw [allC_succ C p m e, allC_succ C' p m ((h m (by omega)).trans e), allC_same m (fun i hi => h i (by omega)) (by omega)]
theorem four_be4 {n : Nat} (hn : n < 4294967296) (xs : List Nat) : four4 (be4 n ++ xs) = n := by
  unfold four4 be4
  simp only [List.cons_append, List.getD_cons_zero, List.getD_cons_succ]
  omega
theorem recB_form (ah b : List Nat) : recB ah b = be4 b.length ++ (recH ah b ++ (b ++ List.replicate ((64 - (be4 b.length ++ (recH ah b ++ b)).length % 64) % 64) 0)) := by
  unfold recB padTo
  simp only [List.append_assoc]
theorem recH_len (ah b : List Nat) : (recH ah b).length = 32 := by unfold recH; exact sha_len _
theorem getD_of_get {C : List (List Nat)} {i : Nat} {b : List Nat} (h : C[i]? = some b) : C.getD i [] = b := by rw [List.getD_eq_getElem?_getD, h]; rfl
/-- what was laid is read -/
theorem readC_lay {C : List (List Nat)} {half at' : Nat} {ah b : List Nat} {K : Nat} (hK : K = (99 + b.length) / 64) (hh : half ≤ 1) (hf : at' + K ≤ C.length / 2) (hb : b.length < 4294967296) :
    readC (layB C (half * (C.length / 2) + at') (recB ah b) K) half at' ah = some (b, recH ah b, at' + K) := by
  have hs2 : half * (C.length / 2) ≤ C.length / 2 := by have := Nat.mul_le_mul_right (C.length / 2) hh; omega
  have hl := recB_len ah b
  have hfit : half * (C.length / 2) + at' + K ≤ C.length := by omega
  have e0 : (layB C (half * (C.length / 2) + at') (recB ah b) K).getD (half * (C.length / 2) + at') [] = chunk (recB ah b) 0 := getD_of_get (layB_in (i := 0) hfit (by omega))
  have e1 : four4 (chunk (recB ah b) 0) = b.length := by
    unfold chunk
    rw [recB_form, List.drop_zero, List.take_append, List.take_of_length_le (by simp [be4])]
    exact four_be4 hb _
  have e2 : allC (layB C (half * (C.length / 2) + at') (recB ah b) K) (half * (C.length / 2) + at') K = recB ah b := by
    rw [allC_lay hfit K (Nat.le_refl _), List.take_of_length_le (by rw [hl, ← hK]; omega)]
  have e3 : ((recB ah b).drop 36).take b.length = b := by
    rw [recB_form, ← List.append_assoc, List.drop_left' (by rw [List.length_append, recH_len]; rfl), List.take_left' rfl]
  unfold readC
  rw [layB_len, if_neg (by omega)]
  dsimp only
  rw [e0, e1, ← hK, if_neg (by omega), e2, e3, if_pos rfl]
/-- a record stays what it is when its sectors do -/
theorem readC_keep {C C' : List (List Nat)} {half at' : Nat} {ah b h : List Nat} {t : Nat} (hr : readC C half at' ah = some (b, h, t)) (hh : half ≤ 1) (hl : C'.length = C.length)
    (hs : ∀ i, at' ≤ i → i < t → C'[half * (C.length / 2) + i]? = C[half * (C.length / 2) + i]?) : readC C' half at' ah = some (b, h, t) := by
  have o := readC_out hr
  have hs2 : half * (C.length / 2) ≤ C.length / 2 := by have := Nat.mul_le_mul_right (C.length / 2) hh; omega
  unfold readC at hr ⊢
  rw [hl]
  have e0 : C'.getD (half * (C.length / 2) + at') [] = C.getD (half * (C.length / 2) + at') [] := by
    rw [List.getD_eq_getElem?_getD, List.getD_eq_getElem?_getD, hs at' (Nat.le_refl _) o.2.2.1]
  rw [if_neg (by omega)] at hr ⊢
  dsimp only at hr ⊢
  rw [e0]
  split at hr
  · exact absurd hr (by simp)
  · rename_i hc
    rw [if_neg hc]
    have e1 : allC C' (half * (C.length / 2) + at') ((99 + four4 (C.getD (half * (C.length / 2) + at') [])) / 64) = allC C (half * (C.length / 2) + at') ((99 + four4 (C.getD (half * (C.length / 2) + at') [])) / 64) := by
      split at hr
      · simp only [Option.some.injEq, Prod.mk.injEq] at hr
        refine allC_same _ (fun i hi => ?_) (by omega)
        rw [Nat.add_assoc]
        exact hs (at' + i) (by omega) (by omega)
      · exact absurd hr (by simp)
    rw [e1]
    exact hr
def blank : List Nat := List.replicate 64 0
theorem readC_blank0 {C : List (List Nat)} {half at' : Nat} {ah b h : List Nat} {t : Nat} (hz : C[half * (C.length / 2) + at']? = some blank) (hr : readC C half at' ah = some (b, h, t)) : b = [] ∧ recH ah [] = z32 := by
  unfold readC at hr
  split at hr
  · exact absurd hr (by simp)
  · dsimp only at hr
    rw [getD_of_get hz, show four4 blank = 0 from rfl] at hr
    split at hr
    · exact absurd hr (by simp)
    · rw [List.take_zero, show (99 + 0) / 64 = 0 + 1 from rfl, allC_succ C (half * (C.length / 2) + at') 0 (bs := blank) hz, show allC C (half * (C.length / 2) + at') 0 = [] by simp [allC], List.nil_append] at hr
      split at hr
      · rename_i e
        simp only [Option.some.injEq, Prod.mk.injEq] at hr
        refine ⟨hr.1.symm, ?_⟩
        have e2 := congrArg (fun l => (l.drop 4).take 32) e
        rw [recB_form, List.drop_left' (by rfl), List.take_left' (recH_len _ _)] at e2
        rw [e2]
        rfl
      · exact absurd hr (by simp)
theorem readC_blank {C : List (List Nat)} {half at' : Nat} {ah : List Nat} (hz : C[half * (C.length / 2) + at']? = some blank) (hne : recH ah [] ≠ z32) : readC C half at' ah = none := by
  cases hr : readC C half at' ah with
  | none => rfl
  | some x =>
    obtain ⟨b, h, t⟩ := x
    exact absurd (readC_blank0 hz hr).2 hne
theorem readC_end {C : List (List Nat)} {half at' : Nat} {ah : List Nat} (h : C.length / 2 ≤ at') : readC C half at' ah = none := by
  unfold readC; rw [if_pos h]
/-- the digests behind the last record: not noughts -/
theorem ne_head : recH (recH (recH z32 (be8 1)) [97]) [] ≠ z32 := by decide +kernel
theorem ne_last0 : recH (recH z32 (be8 18446744073709551615)) [] ≠ z32 := by decide +kernel
theorem ne_last1 : recH (recH z32 (be8 18446744073709551614)) [] ≠ z32 := by decide +kernel
theorem ne_last2 : recH (recH z32 (be8 18446744073709551613)) [] ≠ z32 := by decide +kernel
theorem ne_last3 : recH (recH z32 (be8 18446744073709551612)) [] ≠ z32 := by decide +kernel
end Go.Proofs.YtnophelfpoldfaaGreatDoor

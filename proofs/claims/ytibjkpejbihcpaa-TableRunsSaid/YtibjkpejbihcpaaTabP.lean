/- A table's quotes as a list: plain. -/
import Derived.Test.YtibjkpejbihcpaaTabD
import Derived.Test.YtibjkpejbihcpaaCmp
import Derived.Test.YtibjkpejbihcpaaRange
namespace Go.Proofs.Ytibjkpejbihcpaa
open Go.RowKit

def lookL : List Quo → QM
  | [], _ => none
  | q :: r, x => if q.no = x then some q else lookL r x
theorem lookL_cons (p : Quo) (r : List Quo) (x : List Nat) : lookL (p :: r) x = if p.no = x then some p else lookL r x := rfl
theorem lookL_none {L : List Quo} {x : List Nat} (h : ∀ q ∈ L, q.no ≠ x) : lookL L x = none := by
  induction L with
  | nil => rfl
  | cons q r ih =>
    unfold lookL
    rw [if_neg (h q (by simp)), ih (fun p hp => h p (by simp [hp]))]
theorem lookL_some {L : List Quo} {x : List Nat} {q : Quo} (h : lookL L x = some q) : q ∈ L ∧ q.no = x := by
  induction L with
  | nil => cases h
  | cons p r ih =>
    unfold lookL at h
    split at h
    · cases h; exact ⟨by simp, by assumption⟩
    · have := ih h; exact ⟨by simp [this.1], this.2⟩
theorem lookL_mem {L : List Quo} {q : Quo} (hn : (L.map (·.no)).Nodup) (h : q ∈ L) : lookL L q.no = some q := by
  induction L with
  | nil => cases h
  | cons p r ih =>
    simp only [List.map_cons, List.nodup_cons, List.mem_map, not_exists, not_and] at hn
    unfold lookL
    rcases List.mem_cons.1 h with rfl | h'
    · rw [if_pos rfl]
    · rw [if_neg (fun e => hn.1 q h' e.symm), ih hn.2 h']
theorem lookL_append (L K : List Quo) (x : List Nat) : lookL (L ++ K) x = match lookL L x with | some q => some q | none => lookL K x := by
  induction L with
  | nil => rfl
  | cons p r ih =>
    rw [List.cons_append, lookL_cons, lookL_cons]
    by_cases h : p.no = x
    · rw [if_pos h, if_pos h]
    · rw [if_neg h, if_neg h, ih]
theorem lookL_snoc {L : List Quo} {q : Quo} (h : lookL L q.no = none) : updM (lookL L) q.no q = lookL (L ++ [q]) := by
  funext y
  unfold updM
  rw [lookL_append]
  by_cases hy : y = q.no
  · subst hy; rw [if_pos rfl, h]; simp [lookL]
  · rw [if_neg hy]
    cases lookL L y with
    | some p => rfl
    | none => simp only [lookL_cons]; rw [if_neg (fun e => hy e.symm)]; rfl
theorem lookL_set {L : List Quo} {j : Nat} {q q' : Quo} (hn : (L.map (·.no)).Nodup) (h : L[j]? = some q) (hq : q'.no = q.no) : updM (lookL L) q.no q' = lookL (L.set j q') := by
  induction L generalizing j with
  | nil => simp at h
  | cons p r ih =>
    simp only [List.map_cons, List.nodup_cons, List.mem_map, not_exists, not_and] at hn
    funext y
    cases j with
    | zero =>
      simp only [List.getElem?_cons_zero, Option.some.injEq] at h
      subst h
      rw [List.set_cons_zero]
      unfold updM lookL
      by_cases hy : y = p.no
      · subst hy; rw [if_pos rfl, if_pos hq]
      · rw [if_neg hy, if_neg (fun e => hy e.symm), if_neg (fun e => hy (by rw [← hq, e]))]
    | succ j =>
      simp only [List.getElem?_cons_succ] at h
      have := congrFun (ih hn.2 h) y
      rw [List.set_cons_succ]
      unfold updM at this ⊢
      unfold lookL
      have hne : p.no ≠ q.no := fun e => hn.1 q (List.mem_of_getElem? h) e.symm
      by_cases hy : y = q.no
      · subst hy
        rw [if_pos rfl] at this ⊢
        rw [if_neg hne, this]
      · rw [if_neg hy] at this ⊢
        rw [this]
theorem lookL_filter {L : List Quo} (H : Int) (hn : (L.map (·.no)).Nodup) : dropM (lookL L) H = lookL (L.filter fun q => !dropQ H q) := by
  induction L with
  | nil => rfl
  | cons p r ih =>
    simp only [List.map_cons, List.nodup_cons, List.mem_map, not_exists, not_and] at hn
    funext y
    have := congrFun (ih hn.2) y
    unfold dropM at this ⊢
    rw [List.filter_cons]
    by_cases hy : p.no = y
    · have h0 : lookL r y = none := lookL_none (fun q hq e => hn.1 q hq (by rw [e, hy]))
      have h1 : lookL (r.filter fun q => !dropQ H q) y = none := lookL_none (fun q hq e => hn.1 q (List.mem_filter.1 hq).1 (by rw [e, hy]))
      have e1 : lookL (p :: r) y = some p := by unfold lookL; rw [if_pos hy]
      rw [e1]
      by_cases hd : dropQ H p = true
      · simp only [hd, if_true, Bool.not_true, Bool.false_eq_true, if_false]; exact h1.symm
      · have hd' : dropQ H p = false := by simpa using hd
        simp only [hd', Bool.not_false, if_true, Bool.false_eq_true, if_false]
        unfold lookL; rw [if_pos hy]
    · have e1 : lookL (p :: r) y = lookL r y := by conv => lhs; unfold lookL; rw [if_neg hy]
      rw [e1, this]
      split
      · rw [lookL_cons, if_neg hy]
      · rfl
/-- a table's map is the quotes of a list -/
structure TL (M : QM) (n : Nat) (L : List Quo) : Prop where
  nd : (L.map (·.no)).Nodup
  ok : ∀ q ∈ L, q.ok
  eq : M = lookL L
  len : L.length = n
  rt : ∀ q ∈ L, q.st = 1 → ¬ (q.rc = 0 ∨ q.ru = 0)
  st : ∀ q ∈ L, q.st = 0 ∨ q.st = 1 ∨ q.st = 2
theorem TL.nil : TL (fun _ => none) 0 [] := ⟨by simp, by simp, by funext x; rfl, rfl, by simp, by simp⟩
theorem TL.get {M : QM} {n : Nat} {L : List Quo} (h : TL M n L) {q : Quo} (hq : q ∈ L) : M q.no = some q := by rw [h.eq]; exact lookL_mem h.nd hq
theorem TL.snoc {M : QM} {n : Nat} {L : List Quo} (h : TL M n L) {q : Quo} (hn : M q.no = none) (hq : q.ok) (h0 : q.st = 0) : TL (updM M q.no q) (n + 1) (L ++ [q]) := by
  obtain ⟨h1, h2, rfl, h4, h5, h6⟩ := h
  refine ⟨?_, ?_, lookL_snoc hn, by simp [h4], ?_, ?_⟩
  · rw [List.map_append, List.nodup_append]
    refine ⟨h1, by simp, fun x hx y hy e => ?_⟩
    simp only [List.map_cons, List.map_nil, List.mem_singleton] at hy
    obtain ⟨p, hp, rfl⟩ := List.mem_map.1 hx
    have := lookL_mem h1 hp
    rw [e, hy, hn] at this
    cases this
  · intro p hp
    rcases List.mem_append.1 hp with hp | hp
    · exact h2 p hp
    · rw [List.mem_singleton.1 hp]; exact hq
  · intro p hp h1
    rcases List.mem_append.1 hp with hp | hp
    · exact h5 p hp h1
    · rw [List.mem_singleton.1 hp, h0] at h1; omega
  · intro p hp
    rcases List.mem_append.1 hp with hp | hp
    · exact h6 p hp
    · rw [List.mem_singleton.1 hp]; exact .inl h0
theorem TL.set {M : QM} {n j : Nat} {L : List Quo} (h : TL M n L) {q q' : Quo} (hj : L[j]? = some q) (hn : q'.no = q.no) (hq : q'.ok) (hr : q'.st = 1 → ¬ (q'.rc = 0 ∨ q'.ru = 0)) (hs : q'.st = 0 ∨ q'.st = 1 ∨ q'.st = 2) : TL (updM M q.no q') n (L.set j q') := by
  obtain ⟨h1, h2, rfl, h4, h5, h6⟩ := h
  refine ⟨?_, ?_, lookL_set h1 hj hn, by simp [h4], ?_, ?_⟩
  · have hm : (L.set j q').map (·.no) = L.map (·.no) := by
      apply List.ext_getElem?
      intro i
      rw [List.getElem?_map, List.getElem?_map, List.getElem?_set]
      split
      · rename_i e
        subst e
        have hl : j < L.length := (List.getElem?_eq_some_iff.1 hj).1
        rw [if_pos hl, hj]
        simp [hn]
      · rfl
    rw [hm]; exact h1
  · intro p hp
    rcases List.mem_or_eq_of_mem_set hp with hp | rfl
    · exact h2 p hp
    · exact hq
  · intro p hp h1
    rcases List.mem_or_eq_of_mem_set hp with hp | rfl
    · exact h5 p hp h1
    · exact hr h1
  · intro p hp
    rcases List.mem_or_eq_of_mem_set hp with hp | rfl
    · exact h6 p hp
    · exact hs
/-- what is left behind a drop -/
def keepQ (H : Int) (q : Quo) : Bool := decide (0 < q.used) || (decide (q.st = 0) || (decide (q.st = 1) && decide (H ≤ q.til)))
theorem keepQ_eq {H : Int} {q : Quo} (h : q.st = 0 ∨ q.st = 1 ∨ q.st = 2) : keepQ H q = !dropQ H q := by
  unfold keepQ dropQ
  by_cases h0 : q.used = 0
  · rcases h with h | h | h <;> simp [h0, h]
    by_cases hh : H ≤ q.til
    · simp [hh]
    · simp [hh]; omega
  · have : 0 < q.used := by omega
    simp [this, h0]
theorem TL.drop {M : QM} {n n' tb mb : Nat} {L : List Quo} {H : Int} {w : World} (h : TL M n L) (ht : TabAt w tb mb (dropM M H) n') : TL (dropM M H) n' (L.filter (keepQ H)) := by
  have hk : L.filter (keepQ H) = L.filter fun q => !dropQ H q := List.filter_congr (fun q hq => keepQ_eq (h.st q hq))
  have hs : ∀ q ∈ L.filter (keepQ H), q ∈ L := fun q hq => (List.mem_filter.1 hq).1
  have hnd : ((L.filter (keepQ H)).map (·.no)).Nodup := (List.filter_sublist.map _).nodup h.nd
  have he : dropM M H = lookL (L.filter (keepQ H)) := by rw [hk, h.eq]; exact lookL_filter H h.nd
  refine ⟨hnd, fun q hq => h.ok q (hs q hq), he, ?_, fun q hq => h.rt q (hs q hq), fun q hq => h.st q (hs q hq)⟩
  have := ht.map.count (ks := (L.filter (keepQ H)).map (·.no)) hnd ?_ ?_
  · rw [← this, List.length_map]
  · intro x hx
    obtain ⟨q, hq, rfl⟩ := List.mem_map.1 hx
    exact ⟨(h.ok q (hs q hq)).nl, (h.ok q (hs q hq)).nb⟩
  · intro x _
    unfold valM
    rw [Option.isSome_map, he, List.mem_map]
    constructor
    · intro hx
      obtain ⟨q, hq⟩ := Option.isSome_iff_exists.1 hx
      exact ⟨q, (lookL_some hq).1, (lookL_some hq).2⟩
    · rintro ⟨q, hq, rfl⟩
      rw [lookL_mem hnd hq]; rfl
/-- where in the list a number stands: -1 and nothing, or its place and its quote -/
def AtL (M : QM) (L : List Quo) (x : List Nat) (at' : Int) (q : Quo) : Prop := (at' = -1 ∧ M x = none ∧ q = qz) ∨ ∃ j : Nat, at' = (j : Int) ∧ L[j]? = some q ∧ q.no = x ∧ M x = some q
theorem flatQ_set {L : List Quo} (hok : ∀ q ∈ L, q.ok) {j k : Nat} {q q' : Quo} {v : Value} (hj : L[j]? = some q) (hk : k < 71) (hc : q'.cells = q.cells.set k v) : (L.flatMap Quo.cells).set (j * 71 + k) v = (L.set j q').flatMap Quo.cells := by
  induction L generalizing j with
  | nil => simp at hj
  | cons p r ih =>
    have hp := Quo.len (hok p (by simp))
    cases j with
    | zero =>
      simp only [List.getElem?_cons_zero, Option.some.injEq] at hj
      subst hj
      rw [List.set_cons_zero, List.flatMap_cons, List.flatMap_cons, Nat.zero_mul, Nat.zero_add, List.set_append_left _ _ (by omega), hc]
    | succ j =>
      simp only [List.getElem?_cons_succ] at hj
      rw [List.set_cons_succ, List.flatMap_cons, List.flatMap_cons, List.set_append_right _ _ (by rw [hp, Nat.add_mul]; omega), hp, show (j + 1) * 71 + k - 71 = j * 71 + k by rw [Nat.add_mul]; omega, ih (fun x hx => hok x (List.mem_cons_of_mem _ hx)) hj]
theorem flatQ_len {L : List Quo} (hok : ∀ q ∈ L, q.ok) : (L.flatMap Quo.cells).length = L.length * 71 := by
  induction L with
  | nil => rfl
  | cons p r ih =>
    rw [List.flatMap_cons, List.length_append, Quo.len (hok p (by simp)), ih (fun x hx => hok x (List.mem_cons_of_mem _ hx)), List.length_cons, Nat.add_mul]; omega
theorem flatQ_at {L : List Quo} (hok : ∀ q ∈ L, q.ok) {j : Nat} {q : Quo} (hj : L[j]? = some q) {k : Nat} {v : Value} (hv : q.cells[k]? = some v) : (L.flatMap Quo.cells)[j * 71 + k]? = some v := by
  induction L generalizing j with
  | nil => simp at hj
  | cons p r ih =>
    have hp := Quo.len (hok p (by simp))
    cases j with
    | zero =>
      simp only [List.getElem?_cons_zero, Option.some.injEq] at hj
      subst hj
      have hkl : k < p.cells.length := (List.getElem?_eq_some_iff.1 hv).1
      rw [List.flatMap_cons, Nat.zero_mul, Nat.zero_add, List.getElem?_append_left hkl]
      exact hv
    | succ j =>
      simp only [List.getElem?_cons_succ] at hj
      rw [List.flatMap_cons, List.getElem?_append_right (by rw [hp, Nat.add_mul]; omega), hp, show (j + 1) * 71 + k - 71 = j * 71 + k by rw [Nat.add_mul]; omega]
      exact ih (fun x hx => hok x (List.mem_cons_of_mem _ hx)) hj
end Go.Proofs.Ytibjkpejbihcpaa

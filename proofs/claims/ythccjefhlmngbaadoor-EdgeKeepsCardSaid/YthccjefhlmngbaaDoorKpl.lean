/- Plain facts for EdgeKeeps. -/
import Derived.Test.YthccjefhlmngbaaDoorUsp
import Derived.Test.YthccjefhlmngbaaDoorStp21
namespace Go.Proofs.YthccjefhlmngbaaDoor
open Go.RowKit

/-- no quote is used for more than it says -/
def Fit (M : QM) : Prop := ∀ x q, M x = some q → q.used ≤ q.most
theorem Fit.none : Fit (fun _ => none) := fun _ _ h => by cases h
theorem Fit.upd {M : QM} (h : Fit M) {x : List Nat} {q : Quo} (hq : q.used ≤ q.most) : Fit (updM M x q) := by
  intro y z hz
  unfold updM at hz
  split at hz
  · cases hz
    exact hq
  · exact h y z hz
theorem Fit.res {M : QM} (h : Fit M) {x : List Nat} {r : Quo × Nat} (hq : r.2 = 0 → r.1.used ≤ r.1.most) : Fit (resM M x r) := by
  unfold resM
  split
  · rename_i h0
    exact h.upd (hq h0)
  · exact h
theorem Fit.undo {M : QM} (h : Fit M) (x : List Nat) (u : Nat) : Fit (resM M x (undoS (M x) u)) := by
  refine h.res fun h0 => ?_
  unfold undoS at h0 ⊢
  cases hm : M x with
  | none => rw [hm] at h0; cases h0
  | some q =>
    rw [hm] at h0
    dsimp only at h0 ⊢
    have := h x q hm
    by_cases hu : q.used < u
    · rw [if_pos hu] at h0; cases h0
    · rw [if_neg hu]
      show q.used - u ≤ q.most
      omega
theorem accS_fit {id no : List Nat} {buy : Bool} {most rc ru : Nat} {til : Int} (h0 : (accS (some (askQ no id buy most)) rc ru til).2 = 0) : (accS (some (askQ no id buy most)) rc ru til).1.used ≤ (accS (some (askQ no id buy most)) rc ru til).1.most := by
  unfold accS at h0 ⊢
  split at h0
  · cases h0
  · rename_i h1
    rw [if_neg h1]
    split at h0
    · cases h0
    · rename_i h2
      rw [if_neg h2]
      have e : openS (some (askQ no id buy most)) = (askQ no id buy most, 0) := rfl
      rw [e, if_pos rfl]
      exact Nat.zero_le _
theorem Fit.quM {M : QM} (h : Fit M) (i : Nat) (q : Qd) (n : Nat) : Fit (quM i q M n).1 := by
  unfold Go.Proofs.YthccjefhlmngbaaDoor.quM
  split
  · split
    · exact (h.upd (Nat.zero_le _)).res accS_fit
    · exact h
  · exact h
theorem Fit.quS : ∀ (qs : List Qd) (i n : Nat) (M : QM), Fit M → Fit (quS i qs M n).1
  | [], _, _, _, h => h
  | q :: r, i, n, _, h => Fit.quS r (i + 1) _ _ (h.quM i q n)
/-- both offers of a forward have one lock -/
def Lk (L : List Fw) : Prop := ∀ f ∈ L, f.inn.o.lock = f.out.o.lock
theorem Lk.nil : Lk [] := fun _ h => absurd h List.not_mem_nil
theorem Lk.snoc {L : List Fw} (h : Lk L) {f : Fw} (hf : f.inn.o.lock = f.out.o.lock) : Lk (L ++ [f]) := by
  intro x hx
  rcases List.mem_append.1 hx with hx | hx
  · exact h x hx
  · rw [List.mem_singleton.1 hx]; exact hf
theorem Lk.set {L : List Fw} (h : Lk L) (j : Nat) {f : Fw} (hf : f.inn.o.lock = f.out.o.lock) : Lk (L.set j f) := by
  intro x hx
  rcases List.mem_or_eq_of_mem_set hx with hx | rfl
  · exact h x hx
  · exact hf
theorem Lk.erase {L : List Fw} (h : Lk L) (j : Nat) : Lk (L.eraseIdx j) := fun x hx => h x (List.mem_of_mem_eraseIdx hx)
theorem Lk.get {L : List Fw} (h : Lk L) {j : Nat} {f : Fw} (hj : L[j]? = some f) : f.inn.o.lock = f.out.o.lock := h f (List.mem_of_getElem? hj)
/-- what is kept where a pair of offers was handed on -/
structure Kept (a b : Lg) (q q' : Quo) (h dl : Int) : Prop where
  st : q'.st = 1
  til : h ≤ q'.til
  out : h < b.o.til
  tim : dl ≤ a.o.til - b.o.til
  fit : q'.used ≤ q'.most
  lock : a.o.lock = b.o.lock
  ah : 0 ≤ a.o.til ∧ a.o.til ≤ 1073741824
  bh : 0 ≤ b.o.til ∧ b.o.til ≤ 1073741824
  pay : (q'.buy = true ∧ a.o.id = hz32 ∧ b.o.id = q'.id ∧ b.o.am * q'.rc ≤ a.o.am * q'.ru) ∨ (q'.buy = false ∧ b.o.id = hz32 ∧ a.o.id = q'.id ∧ b.o.am * q'.ru ≤ a.o.am * q'.rc)
theorem isH_iff {n : Int} (h : isH n = true) : 0 ≤ n ∧ n ≤ 1073741824 := by
  unfold isH at h
  simpa using h
theorem holdsS_in {q q' : Quo} {h : Int} {u : Nat} (e : holdsS (some q) h u = (q', 0)) : q.st = 1 ∧ h ≤ q.til ∧ q' = { q with used := q.used + u } ∧ q.used + u ≤ q.most := by
  unfold holdsS at e
  dsimp only at e
  split at e
  · rename_i h1
    split at e
    · cases e
    · rename_i h2
      split at e
      · split at e
        · cases e
        · rename_i h4
          cases e
          exact ⟨h1, by omega, rfl, by omega⟩
      · cases e
  · cases e
theorem useS_ok {q q' : Quo} {buy : Bool} {h : Int} {u : Nat} {kept : Nat → Nat → Bool} (e : useS (some q) buy h u kept = (q', 0)) : q.st = 1 ∧ h ≤ q.til ∧ q' = { q with used := q.used + u } ∧ q.used + u ≤ q.most ∧ q.buy = buy ∧ kept q.rc q.ru = true := by
  unfold useS at e
  split at e
  · cases e
  · rcases hr : holdsS (some q) h u with ⟨r, k⟩
    rw [hr] at e
    dsimp only at e
    split at e
    · rename_i hk
      cases e
      exact absurd rfl hk
    · rename_i hk
      have hk0 : k = 0 := by omega
      subst hk0
      obtain ⟨h1, h2, h3, h4⟩ := holdsS_in hr
      split at e
      · cases e
      · rename_i h5
        cases e
        subst h3
        exact ⟨h1, h2, rfl, h4, by simpa using (not_or.1 h5).1, by simpa using (not_or.1 h5).2⟩
theorem payB_ok {n c d u : Nat} (h : payB n c d u = true) : d * u ≤ n * c := by
  unfold payB at h
  split at h
  · cases h
  · simpa using h
theorem handC_ok {a b : Lg} {no : List Nat} {h dl : Int} {L : List Fw} {M : QM} (hc : handC a b no h dl L M = 0) : ∃ q q', M no = some q ∧ handU M a b no h = (q', 0) ∧ Kept a b q q' h dl := by
  unfold handC at hc
  split at hc
  · cases hc
  rename_i ha
  split at hc
  · cases hc
  split at hc
  · cases hc
  split at hc
  · cases hc
  rename_i ht
  obtain ⟨-, hl, hid, hi1, hi2⟩ := argB_false (by simpa using ha)
  have ht' : timB a b h dl = false := by simpa using ht
  unfold timB at ht'
  rw [Bool.or_eq_false_iff, decide_eq_false_iff_not, decide_eq_false_iff_not] at ht'
  cases hm : M no with
  | none => rw [hm] at hc; cases hc
  | some q =>
    rw [hm] at hc
    unfold handT at hc
    dsimp only at hc
    split at hc
    · cases hc
    rename_i hq
    have hq' : (pickA a b).id = q.id := by simpa using hq
    rcases hr : handU M a b no h with ⟨q', k⟩
    rw [hr] at hc
    dsimp only at hc
    subst hc
    refine ⟨q, q', rfl, rfl, ?_⟩
    unfold handU at hr
    rw [hm] at hr
    by_cases hz : a.o.id = hz32
    · rw [if_pos hz] at hr
      obtain ⟨h1, h2, rfl, h4, h5, h6⟩ := useS_ok hr
      have pA : pickA a b = b.o := if_pos hz
      have pB : pickB a b = a.o := if_pos hz
      have h7 := payB_ok h6
      rw [pA, pB] at h7
      rw [pA] at hq'
      exact ⟨h1, h2, by omega, by omega, h4, hl, isH_iff hi1, isH_iff hi2, .inl ⟨h5, hz, hq', h7⟩⟩
    · rw [if_neg hz] at hr
      obtain ⟨h1, h2, rfl, h4, h5, h6⟩ := useS_ok hr
      have pA : pickA a b = a.o := if_neg hz
      have pB : pickB a b = b.o := if_neg hz
      have h7 := payB_ok h6
      rw [pA, pB] at h7
      rw [pA] at hq'
      have hb : b.o.id = hz32 := by
        by_cases hb : b.o.id = hz32
        · exact hb
        · exact absurd (hid.2 hb) hz
      exact ⟨h1, h2, by omega, by omega, h4, hl, isH_iff hi1, isH_iff hi2, .inr ⟨h5, hb, hq', h7⟩⟩
end Go.Proofs.YthccjefhlmngbaaDoor

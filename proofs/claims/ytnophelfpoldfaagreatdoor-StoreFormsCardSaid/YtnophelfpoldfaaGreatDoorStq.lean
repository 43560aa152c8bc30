/- Pairs as the law keeps them. -/
import Derived.Test.YtnophelfpoldfaaGreatDoorGCat
namespace Go.Proofs.YtnophelfpoldfaaGreatDoor
open Go.RowKit

/-- a pair and where its bytes lie -/
structure LP where
  ka : Option Addr
  kc : Nat
  k : List Nat
  va : Option Addr
  vc : Nat
  v : List Nat
def LP.cells (l : LP) : List Value := [.slice l.ka l.k.length l.kc, .slice l.va l.v.length l.vc]
def LP.pa (l : LP) : Pa := (l.k, l.v)
structure LP.good (w : World) (l : LP) : Prop where
  ks : Sl .u8 w l.ka l.k.length l.kc l.k
  k8 : ∀ d ∈ l.k, d < 256
  vs : Sl .u8 w l.va l.v.length l.vc l.v
  v8 : ∀ d ∈ l.v, d < 256
def Prs (w : World) (a : Option Addr) (n cap : Nat) (ls : List LP) : Prop := Rd w 2 a n cap (ls.flatMap LP.cells) ∧ ls.length = n ∧ ∀ l ∈ ls, l.good w
theorem LP.good.below {w w' : World} {l : LP} (h : l.good w) (b : Below w.heap.size w w') : l.good w' := ⟨h.ks.below b, h.k8, h.vs.below b, h.v8⟩
theorem Prs.below {w w' : World} {a : Option Addr} {n cap : Nat} {ls : List LP} (h : Prs w a n cap ls) (b : Below w.heap.size w w') : Prs w' a n cap ls := ⟨h.1.below b, h.2.1, fun l hl => (h.2.2 l hl).below b⟩
theorem flat2_get {ls : List LP} {j : Nat} {l : LP} (h : ls[j]? = some l) : (ls.flatMap LP.cells)[j * 2]? = some (.slice l.ka l.k.length l.kc) ∧ (ls.flatMap LP.cells)[j * 2 + 1]? = some (.slice l.va l.v.length l.vc) := by
  induction ls generalizing j with
  | nil => simp at h
  | cons x r ih =>
    cases j with
    | zero =>
      simp only [List.getElem?_cons_zero, Option.some.injEq] at h
      subst h
      exact ⟨rfl, rfl⟩
    | succ j =>
      rw [List.getElem?_cons_succ] at h
      have := ih h
      rw [show (j + 1) * 2 = j * 2 + 2 by omega]
      exact this
theorem Prs.cells {w : World} {a : Option Addr} {n cap j : Nat} {ls : List LP} {l : LP} (h : Prs w a n cap ls) (hj : ls[j]? = some l) :
    ∃ b off, a = some ⟨b, off, none⟩ ∧ w.cell? ⟨b, off + j * 2, none⟩ = some (.slice l.ka l.k.length l.kc) ∧ w.cell? ⟨b, off + j * 2 + 1, none⟩ = some (.slice l.va l.v.length l.vc) ∧ l.good w := by
  obtain ⟨⟨_, _, _, _, b, off, ha, hc⟩, hl, hg⟩ := h
  have hjl : j < ls.length := (List.getElem?_eq_some_iff.1 hj).1
  obtain ⟨f1, f2⟩ := flat2_get hj
  exact ⟨b, off, ha (by omega), hc _ _ f1, by rw [Nat.add_assoc]; exact hc _ _ f2, hg l (List.mem_of_getElem? hj)⟩
def LC.lp (c : LC) : LP := ⟨c.ka, c.kc, c.k, c.va, c.vc, c.v⟩
theorem LC.good.lp {w : World} {c : LC} (h : c.good w) : c.lp.good w := ⟨h.ks, h.k8, h.vs, h.v8⟩
def keepL (all : List LP) (k : List Nat) : List LP := all.filter (fun p => decide (p.k ≠ k))
def stepL (all : List LP) (c : LC) : List LP := keepL all c.k ++ (if c.g then [] else [c.lp])
def doneL (all : List LP) (cs : List LC) : List LP := cs.foldl stepL all
theorem stepL_pa (all : List LP) (c : LC) : (stepL all c).map LP.pa = stepP (all.map LP.pa) c.chg := by
  unfold stepL stepP keepL
  rw [List.map_append, List.filter_map]
  congr 1
  cases c with
  | mk ka kc k va vc v g => cases g <;> rfl
theorem doneL_pa (all : List LP) (cs : List LC) : (doneL all cs).map LP.pa = doneP (all.map LP.pa) (cs.map LC.chg) := by
  induction cs generalizing all with
  | nil => rfl
  | cons c r ih =>
    show (doneL (stepL all c) r).map LP.pa = doneP (stepP (all.map LP.pa) c.chg) (r.map LC.chg)
    rw [ih, stepL_pa]
theorem doneL_snoc (all : List LP) (cs : List LC) (c : LC) : doneL all (cs ++ [c]) = stepL (doneL all cs) c := by simp [doneL]
theorem stepL_good {w : World} {all : List LP} {c : LC} (h : ∀ l ∈ all, l.good w) (hc : c.good w) : ∀ l ∈ stepL all c, l.good w := by
  intro l hl
  unfold stepL keepL at hl
  rw [List.mem_append] at hl
  rcases hl with hl | hl
  · exact h l (List.mem_filter.1 hl).1
  · split at hl
    · simp at hl
    · simp only [List.mem_cons, List.not_mem_nil, or_false] at hl
      subst hl; exact hc.lp
theorem doneL_good {w : World} {all : List LP} {cs : List LC} (h : ∀ l ∈ all, l.good w) (hc : ∀ c ∈ cs, c.good w) : ∀ l ∈ doneL all cs, l.good w := by
  induction cs generalizing all with
  | nil => exact h
  | cons c r ih => exact ih (stepL_good h (hc c (by simp))) (fun d hd => hc d (by simp [hd]))
theorem doneL_len (all : List LP) (cs : List LC) : (doneL all cs).length ≤ all.length + cs.length := by
  induction cs generalizing all with
  | nil => simp [doneL]
  | cons c r ih =>
    have h1 := ih (stepL all c)
    have h2 : (stepL all c).length ≤ all.length + 1 := by
      unfold stepL keepL
      have := List.length_filter_le (fun p : LP => decide (p.k ≠ c.k)) all
      rw [List.length_append]
      split
      · exact Nat.le_succ_of_le this
      · exact Nat.succ_le_succ this
    show (doneL (stepL all c) r).length ≤ _
    rw [List.length_cons]; omega
end Go.Proofs.YtnophelfpoldfaaGreatDoor

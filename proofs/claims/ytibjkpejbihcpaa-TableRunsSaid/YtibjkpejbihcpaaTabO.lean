/- use against Sell and Buy: plain. -/
import Derived.Test.YtibjkpejbihcpaaTabX
import Derived.Test.YtibjkpejbihcpaaTabW
namespace Go.Proofs.Ytibjkpejbihcpaa
open Go.RowKit

def UseEq (o : Option Quo) (r : Quo × Nat) (u : Nat × Nat) : Prop := r.2 = u.1 ∧ (u.1 = 0 → ∃ q, o = some q ∧ r = ({ q with used := u.2 }, 0) ∧ u.2 < 18446744073709551616)
theorem use_same {o : Option Quo} {x : Stp} {buy : Bool} {kept : Nat → Nat → Bool} (hb : decide (x.k = 4) = buy) (hk : x.k = 3 ∨ x.k = 4)
    (hr : ∀ q, o = some q → q.st = 1 → (kept q.rc q.ru = true ↔ ¬ ((x.k = 3 ∧ x.a * q.rc < x.b * q.ru) ∨ (x.k = 4 ∧ x.b * q.ru < x.a * q.rc)))) :
    UseEq o (useS o buy x.h x.a kept) (useW (o.getD qz) o.isSome x) := by
  unfold UseEq useS useW
  by_cases ha : x.a = 0
  · rw [if_pos ha, if_pos ha]; exact ⟨rfl, fun h => by cases h⟩
  rw [if_neg ha, if_neg ha]
  cases o with
  | none =>
    rw [if_pos (by simp [holdsS]), if_pos (by rfl)]
    exact ⟨rfl, fun h => by cases h⟩
  | some q =>
    rw [if_neg (c := (some q).isSome = false) (by simp)]
    show _ ∧ _
    simp only [Option.getD_some]
    by_cases hst : q.st = 1
    case neg =>
      have e : holdsS (some q) x.h x.a = (qz, 52) := by unfold holdsS; simp only; rw [if_neg hst]
      rw [e, if_pos (by simp), if_pos hst]; exact ⟨rfl, fun h => by cases h⟩
    rw [if_neg (c := q.st ≠ 1) (by simp [hst])]
    by_cases hti : q.til < x.h
    · have e : holdsS (some q) x.h x.a = (qz, 33) := by unfold holdsS; simp only; rw [if_pos hst, if_pos hti]
      rw [e, if_pos (by simp), if_pos hti]; exact ⟨rfl, fun h => by cases h⟩
    rw [if_neg (c := q.til < x.h) hti]
    by_cases hf : ¬ q.used + x.a < 18446744073709551616 ∨ q.most < q.used + x.a
    · have e : holdsS (some q) x.h x.a = (qz, 51) := by
        unfold holdsS; simp only; rw [if_pos hst, if_neg hti]
        by_cases h1 : q.used + x.a < 18446744073709551616
        · rw [if_pos h1, if_pos (by rcases hf with h | h; exact absurd h1 h; exact h)]
        · rw [if_neg h1]
      rw [e, if_pos (by simp), if_pos hf]; exact ⟨rfl, fun h => by cases h⟩
    rw [if_neg (c := ¬ q.used + x.a < 18446744073709551616 ∨ q.most < q.used + x.a) hf]
    have h1 : q.used + x.a < 18446744073709551616 := Decidable.not_not.1 (fun h => hf (.inl h))
    have h2 : ¬ q.most < q.used + x.a := fun h => hf (.inr h)
    have e : holdsS (some q) x.h x.a = ({ q with used := q.used + x.a }, 0) := by
      unfold holdsS; simp only; rw [if_pos hst, if_neg hti, if_pos h1, if_neg h2]
    rw [e, if_neg (by simp), hb]
    have hkp := hr q rfl hst
    by_cases hc : q.buy ≠ buy ∨ kept q.rc q.ru = false
    · rw [if_pos hc, if_pos]
      · exact ⟨rfl, fun h => by cases h⟩
      · rcases hc with h | h
        · exact .inl (.inl h)
        · have := (not_congr hkp).1 (by simp [h])
          rcases Decidable.not_not.1 this with h | h
          · exact .inl (.inr h)
          · exact .inr h
    · rw [if_neg hc, if_neg]
      · exact ⟨rfl, fun _ => ⟨q, rfl, rfl, h1⟩⟩
      · rintro ((h | h) | h)
        · exact hc (.inl h)
        · refine hkp.1 (by cases hh : kept q.rc q.ru with
            | true => rfl
            | false => exact absurd (.inr hh) hc) (.inl h)
        · refine hkp.1 (by cases hh : kept q.rc q.ru with
            | true => rfl
            | false => exact absurd (.inr hh) hc) (.inr h)
theorem use_sell {o : Option Quo} {x : Stp} (hk : x.k = 3) (hr : ∀ q, o = some q → q.st = 1 → ¬ (q.rc = 0 ∨ q.ru = 0)) :
    UseEq o (useS o false x.h x.a (fun rc ru => payB x.a rc x.b ru)) (useW (o.getD qz) o.isSome x) := by
  refine use_same (by rw [hk]; rfl) (.inl hk) fun q hq hs => ?_
  rw [payB_ok (hr q hq hs), decide_eq_true_eq]
  constructor
  · rintro h (⟨_, h'⟩ | ⟨h', _⟩)
    · omega
    · omega
  · intro h
    exact Nat.le_of_not_lt fun h' => h (.inl ⟨hk, h'⟩)
theorem use_buy {o : Option Quo} {x : Stp} (hk : x.k = 4) (hr : ∀ q, o = some q → q.st = 1 → ¬ (q.rc = 0 ∨ q.ru = 0)) :
    UseEq o (useS o true x.h x.a (fun rc ru => payB x.b ru x.a rc)) (useW (o.getD qz) o.isSome x) := by
  refine use_same (by rw [hk]; rfl) (.inr hk) fun q hq hs => ?_
  rw [payB_ok (fun h => hr q hq hs (Or.symm h)), decide_eq_true_eq]
  constructor
  · rintro h (⟨h', _⟩ | ⟨_, h'⟩)
    · omega
    · omega
  · intro h
    exact Nat.le_of_not_lt fun h' => h (.inr ⟨hk, h'⟩)
end Go.Proofs.Ytibjkpejbihcpaa

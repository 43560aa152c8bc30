/- Plain facts for EdgeUses and EdgeFull. -/
import Derived.Test.YthccjefhlmngbaaDoorEg4
namespace Go.Proofs.YthccjefhlmngbaaDoor
open Go.RowKit

theorem first_last {L : List Fw} {f g : Fw} {p : Fw → Bool} {j : Nat} (h : FirstF (L ++ [f]) p j g) (hL : ∀ x ∈ L, p x = false) : j = L.length ∧ g = f := by
  obtain ⟨h1, h2, -⟩ := h
  by_cases hj : j < L.length
  · rw [List.getElem?_append_left hj] at h1
    have := hL g (List.mem_of_getElem? h1)
    rw [this] at h2
    cases h2
  · rw [List.getElem?_append_right (by omega)] at h1
    have hz : j - L.length = 0 := by
      cases hz : j - L.length with
      | zero => rfl
      | succ k => rw [hz] at h1; simp at h1
    rw [hz] at h1
    exact ⟨by omega, (Option.some.inj h1).symm⟩
theorem givC_last {M M' : QM} {L L' : List Fw} {f : Fw} {line no : Int} {lg : Lg} {k : Nat} (h : GivC (L ++ [f]) M line no lg k L' M') (hL : ∀ x ∈ L, hitF line no true x = false) (hh : hitF line no true f = true) (hs : f.st = 0) :
    lg = f.inn ∧ k = 0 ∧ L' = L ++ [{ f with st := 2 }] ∧ M' = resM M f.qt (undoS (M f.qt) f.units) := by
  rcases h with h | ⟨j, g, hf, h⟩
  · rw [h.1 f (by simp)] at hh
    cases hh
  · obtain ⟨rfl, rfl⟩ := first_last hf hL
    rcases h with h | h
    · exact absurd hs h.1
    · refine ⟨h.2.1, h.2.2.1, ?_, h.2.2.2.2⟩
      rw [h.2.2.2.1, List.set_append_right _ _ (Nat.le_refl _), Nat.sub_self]
      rfl
/-- the forward of EdgeUses and EdgeFull -/
def fwd1 (i : Int) (am : Nat) (lk : List Nat) : Fw := newF (legI i am lk) (legO i am lk 50) (hbx 0)
theorem fwd1_eq (i : Int) (am : Nat) (lk : List Nat) : fwd1 i am lk = ⟨legI i am lk, legO i am lk 50, hbx 0, am, hz32, 0⟩ := by
  unfold fwd1 newF
  rw [show pickA (legI i am lk) (legO i am lk 50) = (legI i am lk).o from if_neg hz_ne9]
  rfl
theorem hit_in (i j : Int) {am : Nat} {lk : List Nat} (s : Int) : hitF 1 j false { fwd1 i am lk with st := s } = decide (i = j) := by
  rw [fwd1_eq]
  unfold hitF legOf
  simp [legI]
theorem hit_out (i j : Int) {am : Nat} {lk : List Nat} (s : Int) : hitF 2 j true { fwd1 i am lk with st := s } = decide (i = j) := by
  rw [fwd1_eq]
  unfold hitF legOf
  simp [legO]
theorem undo_11 {m u am : Nat} : undoS (some (hqp m (u + am))) am = (hqp m u, 0) := by
  show (if u + am < am then (qz, 11) else ({ hqp m (u + am) with used := u + am - am }, 0)) = _
  rw [if_neg (by omega), Nat.add_sub_cancel]
  rfl
theorem hqp_ok {m u : Nat} (h : m < 18446744073709551616) (hu : u < 18446744073709551616) : (hqp m u).ok := ⟨rfl, (hbx_ok (by decide)).2, rfl, (hbx_ok (by decide)).2, h, (by decide : (1 : Nat) < 18446744073709551616), (by decide : (1 : Nat) < 18446744073709551616), hu, (by decide : (Lit.int .i64 1).wf = true), (by decide : (Lit.int .i64 40).wf = true)⟩
theorem getD_ltU {xs : List Nat} {M : Nat} (h : ∀ d ∈ xs, d < M) (hM : 0 < M) (k : Nat) : xs.getD k 0 < M := by
  rw [List.getD_eq_getElem?_getD]
  cases hk : xs[k]? with
  | none => exact hM
  | some y => exact h y (List.mem_of_getElem? hk)
/-- forwards of numbers below k -/
def LowF (L : List Fw) (k : Nat) : Prop := ∀ f ∈ L, ∃ (j am : Nat) (lk : List Nat) (s : Int), j < k ∧ f = { fwd1 (j : Int) am lk with st := s }
theorem LowF.nil : LowF [] 0 := fun _ h => absurd h List.not_mem_nil
theorem LowF.hits {L : List Fw} {k : Nat} (h : LowF L k) : (∀ f ∈ L, hitF 1 (k : Int) false f = false) ∧ ∀ f ∈ L, hitF 2 (k : Int) true f = false := by
  refine ⟨fun _ hf => ?_, fun _ hf => ?_⟩
  · obtain ⟨j, am, lk, s, hj, rfl⟩ := h _ hf
    rw [hit_in, decide_eq_false (by omega)]
  · obtain ⟨j, am, lk, s, hj, rfl⟩ := h _ hf
    rw [hit_out, decide_eq_false (by omega)]
theorem LowF.any {L : List Fw} {k : Nat} (h : LowF L k) : anyF L 1 (k : Int) false = false ∧ anyF L 2 (k : Int) true = false := by
  unfold anyF
  simp only [List.any_eq_false, Bool.not_eq_true]
  exact h.hits
theorem LowF.snoc {L : List Fw} {k : Nat} (h : LowF L k) (am : Nat) (lk : List Nat) (s : Int) : LowF (L ++ [{ fwd1 (k : Int) am lk with st := s }]) (k + 1) := by
  intro f hf
  rcases List.mem_append.1 hf with hf | hf
  · obtain ⟨j, a, l, t, hj, e⟩ := h f hf
    exact ⟨j, a, l, t, by omega, e⟩
  · exact ⟨k, am, lk, s, by omega, List.mem_singleton.1 hf⟩
theorem LowF.set {L : List Fw} {k i : Nat} (h : LowF L k) (hi : i < k) (j am : Nat) (lk : List Nat) (s : Int) : LowF (L.set j { fwd1 (i : Int) am lk with st := s }) k := by
  intro f hf
  rcases List.mem_or_eq_of_mem_set hf with hf | hf
  · exact h f hf
  · exact ⟨i, am, lk, s, hi, hf⟩
theorem LowF.erase {L : List Fw} {k : Nat} (h : LowF L k) (j : Nat) : LowF (L.eraseIdx j) k := fun f hf => h f (List.mem_of_mem_eraseIdx hf)
theorem and255 (n : Int) : ∃ m : Nat, m < 256 ∧ bits .and .i64 n 255 = (m : Int) := by
  have h127 : (BitVec.ofInt 64 255).toNat = 2 ^ 8 - 1 := by decide
  have key : (BitVec.ofInt 64 n &&& BitVec.ofInt 64 255).toNat = (n % ((2 ^ 64 : Nat) : Int)).toNat % 2 ^ 8 := by
    rw [BitVec.toNat_and, BitVec.toNat_ofInt, h127, Nat.and_two_pow_sub_one_eq_mod]
  refine ⟨(n % 256).toNat, by omega, ?_⟩
  show IntKind.i64.wrap ((BitVec.ofInt 64 n &&& BitVec.ofInt 64 255).toNat : Nat) = _
  rw [key, IntKind.wrap_i64]
  omega
/-- as many as there may be -/
def fulL (k : Nat) : List Fw := (List.range k).map fun (i : Nat) => fwd1 (i : Int) 1 hz32
theorem fulL_len (k : Nat) : (fulL k).length = k := by simp [fulL]
theorem fulL_get {k i : Nat} (h : i < k) : (fulL k)[i]? = some (fwd1 (i : Int) 1 hz32) := by
  unfold fulL
  rw [List.getElem?_map, List.getElem?_range h]
  rfl
theorem fulL_succ (k : Nat) : fulL (k + 1) = fulL k ++ [fwd1 (k : Int) 1 hz32] := by
  unfold fulL
  rw [List.range_succ, List.map_append]
  rfl
theorem fulL_low (k : Nat) : LowF (fulL k) k := by
  intro f hf
  obtain ⟨i, hi, rfl⟩ := List.mem_map.1 hf
  exact ⟨i, 1, hz32, 0, List.mem_range.1 hi, by rw [fwd1_eq]⟩
theorem st0 (i : Int) (am : Nat) (lk : List Nat) : ({ fwd1 i am lk with st := 0 } : Fw) = fwd1 i am lk := by rw [fwd1_eq]
theorem handC_full {M : QM} {L : List Fw} {n : Nat} {am : Nat} {lk : List Nat} {h dl til : Int} {no : List Nat} (t0 : 0 ≤ til) (t1 : til ≤ 1073741824) (hL : LowF L n) (h256 : 256 ≤ L.length) : handC (legI n am lk) (legO n am lk til) no h dl L M = 4 := by
  unfold handC
  have hf : (anyF L (legI n am lk).line (legI n am lk).o.no false || anyF L (legO n am lk til).line (legO n am lk til).o.no true) = false := by
    show (anyF L 1 n false || anyF L 2 n true) = false
    rw [hL.any.1, hL.any.2]
    rfl
  rw [arg_11 t0 t1, if_neg (by decide), hf, if_neg (by decide), if_pos h256]
theorem handC_have {M : QM} {L : List Fw} {n : Int} {am : Nat} {lk : List Nat} {h dl til : Int} {no : List Nat} (t0 : 0 ≤ til) (t1 : til ≤ 1073741824) {f : Fw} (hf : f ∈ L) (hh : hitF 1 n false f = true) : handC (legI n am lk) (legO n am lk til) no h dl L M = 6 := by
  unfold handC
  have ha : (anyF L (legI n am lk).line (legI n am lk).o.no false || anyF L (legO n am lk til).line (legO n am lk til).o.no true) = true := by
    show (anyF L 1 n false || anyF L 2 n true) = true
    have : anyF L 1 n false = true := List.any_eq_true.2 ⟨f, hf, hh⟩
    rw [this]
    rfl
  rw [arg_11 t0 t1, if_neg (by decide), ha, if_pos rfl]
/-- one of them is given back -/
def giv1 (m : Nat) : List Fw := (fulL 256).set m { fwd1 (m : Int) 1 hz32 with st := 2 }
theorem givC_full {M M' : QM} {L' : List Fw} {m k : Nat} {lg : Lg} (hm : m < 256) (h : GivC (fulL 256) M 2 (m : Int) lg k L' M') : k = 0 ∧ L' = giv1 m ∧ M' = resM M (hbx 0) (undoS (M (hbx 0)) 1) := by
  rcases h with h | ⟨j, g, hf, h⟩
  · have := h.1 _ (List.mem_of_getElem? (fulL_get hm))
    rw [← st0, hit_out, decide_eq_true rfl] at this
    cases this
  · obtain ⟨h1, h2, -⟩ := hf
    have hj : j < 256 := by have := (List.getElem?_eq_some_iff.1 h1).1; rwa [fulL_len] at this
    rw [fulL_get hj] at h1
    obtain rfl := Option.some.inj h1
    rw [← st0, hit_out, decide_eq_true_eq] at h2
    obtain rfl : j = m := by omega
    rcases h with h | h
    · exact absurd (show (fwd1 (j : Int) 1 hz32).st = 0 by rw [fwd1_eq]) h.1
    · refine ⟨h.2.2.1, h.2.2.2.1, ?_⟩
      rw [h.2.2.2.2]
      show resM M (fwd1 (j : Int) 1 hz32).qt (undoS (M (fwd1 (j : Int) 1 hz32).qt) (fwd1 (j : Int) 1 hz32).units) = _
      rw [fwd1_eq]
theorem giv1_get {m : Nat} (hm : m < 256) : (giv1 m)[m]? = some { fwd1 (m : Int) 1 hz32 with st := 2 } := by
  unfold giv1
  rw [List.getElem?_set_self (by rw [fulL_len]; exact hm)]
theorem giv1_low {m : Nat} (hm : m < 256) : LowF (giv1 m) 256 := (fulL_low 256).set hm _ _ _ _
theorem giv1_len (m : Nat) : (giv1 m).length = 256 := by unfold giv1; rw [List.length_set, fulL_len]
theorem cloC_full {L' : List Fw} {m k : Nat} (hm : m < 256) (h : CloC (giv1 m) 1 (m : Int) k L') : k = 0 ∧ L' = (giv1 m).eraseIdx m := by
  rcases h with h | ⟨j, g, hf, h⟩
  · have := h.1 _ (List.mem_of_getElem? (giv1_get hm))
    rw [hit_in, decide_eq_true rfl] at this
    cases this
  · obtain ⟨h1, h2, -⟩ := hf
    have hj : j < 256 := by have := (List.getElem?_eq_some_iff.1 h1).1; rwa [giv1_len] at this
    have hjm : j = m := by
      by_cases e : j = m
      · exact e
      · unfold giv1 at h1
        rw [List.getElem?_set_ne (by omega), fulL_get hj] at h1
        obtain rfl := Option.some.inj h1
        rw [← st0, hit_in, decide_eq_true_eq] at h2
        omega
    subst hjm
    rw [giv1_get hm] at h1
    obtain rfl := Option.some.inj h1
    rcases h with h | h
    · exact absurd h.1 (show ¬ (2 : Int) = 0 by decide)
    · exact h.2
theorem erase_len {m : Nat} (hm : m < 256) : ((giv1 m).eraseIdx m).length = 255 := by
  rw [List.length_eraseIdx_of_lt (by rw [giv1_len]; exact hm), giv1_len]
end Go.Proofs.YthccjefhlmngbaaDoor

/- The head of chapter 16. -/
import Derived.Test.YtnfklnbdebcpiaaDoorChg
namespace Go.Proofs.YtnfklnbdebcpiaaDoor
open Go.RowKit

def h5x : List Nat := [5, 0, 0, 0, 0, 0, 0, 0, 0, 0, 0, 0, 0, 0, 0, 0, 0, 0, 0, 0, 0, 0, 0, 0, 0, 0, 0, 0, 0, 0, 0, 0]
theorem h5_ok : H32 h5x := ⟨rfl, by decide⟩
/-- the secret at a place, of a seed -/
def secA (s : List Nat) (p : Nat) : List Nat := leadN p 48 s
theorem secA_ok {s : List Nat} (h : H32 s) (p : Nat) : H32 (secA s p) := leadN_ok h
/-- what is kept of the first secrets of a seed -/
def Kh (s : List Nat) : Nat → KM
  | 0 => noneK
  | n + 1 => updK (Kh s n) (nz (281474976710655 - n)) (281474976710655 - n, secA s (281474976710655 - n))
theorem nzF0 : nz 281474976710655 = 0 := by decide
theorem nzF1 : nz 281474976710654 = 1 := by decide
theorem nzF2 : nz 281474976710653 = 0 := by decide
theorem headOk (s : List Nat) : ∀ i, i < 3 → okP (Kh s i) (nz (281474976710655 - i)) (secA s (281474976710655 - i)) := by
  intro i hi j hj
  match i, hi with
  | 0, _ => rw [show 281474976710655 - 0 = 281474976710655 from rfl, nzF0] at hj; omega
  | 1, _ =>
    rw [show 281474976710655 - 1 = 281474976710654 from rfl] at hj ⊢
    rw [nzF1] at hj ⊢
    obtain rfl : j = 0 := by omega
    have e : Kh s 1 0 = (281474976710655, secA s 281474976710655) := by
      show updK noneK (nz 281474976710655) (281474976710655, secA s 281474976710655) 0 = _
      rw [nzF0]; simp [updK]
    rw [e]
    exact lead_to (q := 281474976710655) (k := 140737488355327) (lo := 1) (N := 48) (by omega) (by decide)
  | 2, _ => rw [show 281474976710655 - 2 = 281474976710653 from rfl, nzF2] at hj; omega
theorem kh3_0 (s : List Nat) : Kh s 3 0 = (281474976710653, secA s 281474976710653) := by
  show updK (Kh s 2) (nz 281474976710653) (281474976710653, secA s 281474976710653) 0 = _
  rw [nzF2]; simp [updK]
theorem kh3_1 (s : List Nat) : Kh s 3 1 = (281474976710654, secA s 281474976710654) := by
  show updK (updK (Kh s 1) (nz 281474976710654) (281474976710654, secA s 281474976710654)) (nz 281474976710653) (281474976710653, secA s 281474976710653) 1 = _
  rw [nzF2, nzF1]; simp [updK]
theorem headGet {s : List Nat} {w w' : World} {e : Ending} (h : GetRes (Kh s 3) 3 281474976710655 w e w') : e = .returned (.tuple #[hv (secA s 281474976710655), .bool true]) ∧ Below w.heap.size w w' := by
  have n0 : ¬ hit (Kh s 3) 3 281474976710655 0 := fun h => by have := h.1; rw [kh3_0] at this; simp only [Nat.pow_zero, Nat.div_one] at this; omega
  have y1 : hit (Kh s 3) 3 281474976710655 1 := ⟨by rw [kh3_1]; show 281474976710654 / 2 ^ 1 = 281474976710655 / 2 ^ 1; decide, by rw [kh3_1]; show 281474976710655 - 281474976710654 < 3; decide⟩
  obtain ⟨hb, ⟨i, hi, _, _, hh, hno, he⟩ | ⟨hbad, he⟩⟩ := h
  · have hi1 : i = 1 := by
      rcases Nat.lt_trichotomy i 1 with h | h | h
      · obtain rfl : i = 0 := by omega
        exact absurd hh n0
      · exact h
      · exact absurd y1 (hno 1 h)
    subst hi1
    refine ⟨?_, hb⟩
    rw [he, kh3_1]
    have : leadN 281474976710655 1 (secA s 281474976710654) = secA s 281474976710655 := lead_to (q := 281474976710655) (k := 140737488355327) (lo := 1) (N := 48) (by omega) (by decide)
    rw [this]
  · rcases hbad with h | h | h
    · omega
    · omega
    · exact absurd y1 (h 1 (by omega))
theorem first_ne : secA h5x 281474976710655 ≠ zero32 := by decide +kernel
theorem zch_list : zc47.toList = (List.range 49).flatMap (fun i => kc (noneK i)) ++ [.int .u64 ((0 : Nat) : Int)] := by kernel_rfl
theorem zch : ChC zc47 noneK 0 := ChC.ofList (fun i _ => ⟨by show 0 < _; omega, zero32_ok⟩) (by omega) zch_list
theorem built_ch : Tryd.prog.built 47 [] = some zc47 := by kernel_rfl
end Go.Proofs.YtnfklnbdebcpiaaDoor

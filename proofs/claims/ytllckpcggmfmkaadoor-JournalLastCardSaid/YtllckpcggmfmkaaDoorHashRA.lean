/- turn; plain facts for the walk of the reference's Hash. -/
import Derived.Test.YtllckpcggmfmkaaDoorRt
import Derived.Test.YtllckpcggmfmkaaDoorHash
import Derived.StillTailTactics
namespace Go.Proofs.YtllckpcggmfmkaaDoor
open Go.RowKit

theorem rot_or2 (n x : Nat) (hx : x < 4294967296) : bits .or .u32 ((x / 2 ^ n : Nat) : Int) ((x * 2 ^ (32 - n) % 4294967296 : Nat) : Int) = ((rot n x : Nat) : Int) := by
  rw [u32_or_nat _ _ (Nat.lt_of_le_of_lt (Nat.div_le_self _ _) hx) (Nat.mod_lt _ (by omega))]
  rfl
theorem turn2_walk (x : Nat) (hx : x < 4294967296) (w : World) : Calls Tryd.prog 54 #[.int .u32 (x : Int), .int .u64 2] w fun e w' => e = .returned (.int .u32 ((rot 2 x : Nat) : Int)) ∧ w = w' := by
  have R := hid (rot_or2 2 x hx)
  go_enter Tryd.func54, Tryd.ntmps54
  go_wp2
  go_ret
  exact ⟨by rw [← R.out]; rfl, rfl⟩
theorem turn6_walk (x : Nat) (hx : x < 4294967296) (w : World) : Calls Tryd.prog 54 #[.int .u32 (x : Int), .int .u64 6] w fun e w' => e = .returned (.int .u32 ((rot 6 x : Nat) : Int)) ∧ w = w' := by
  have R := hid (rot_or2 6 x hx)
  go_enter Tryd.func54, Tryd.ntmps54
  go_wp2
  go_ret
  exact ⟨by rw [← R.out]; rfl, rfl⟩
theorem turn7_walk (x : Nat) (hx : x < 4294967296) (w : World) : Calls Tryd.prog 54 #[.int .u32 (x : Int), .int .u64 7] w fun e w' => e = .returned (.int .u32 ((rot 7 x : Nat) : Int)) ∧ w = w' := by
  have R := hid (rot_or2 7 x hx)
  go_enter Tryd.func54, Tryd.ntmps54
  go_wp2
  go_ret
  exact ⟨by rw [← R.out]; rfl, rfl⟩
theorem turn11_walk (x : Nat) (hx : x < 4294967296) (w : World) : Calls Tryd.prog 54 #[.int .u32 (x : Int), .int .u64 11] w fun e w' => e = .returned (.int .u32 ((rot 11 x : Nat) : Int)) ∧ w = w' := by
  have R := hid (rot_or2 11 x hx)
  go_enter Tryd.func54, Tryd.ntmps54
  go_wp2
  go_ret
  exact ⟨by rw [← R.out]; rfl, rfl⟩
theorem turn13_walk (x : Nat) (hx : x < 4294967296) (w : World) : Calls Tryd.prog 54 #[.int .u32 (x : Int), .int .u64 13] w fun e w' => e = .returned (.int .u32 ((rot 13 x : Nat) : Int)) ∧ w = w' := by
  have R := hid (rot_or2 13 x hx)
  go_enter Tryd.func54, Tryd.ntmps54
  go_wp2
  go_ret
  exact ⟨by rw [← R.out]; rfl, rfl⟩
theorem turn17_walk (x : Nat) (hx : x < 4294967296) (w : World) : Calls Tryd.prog 54 #[.int .u32 (x : Int), .int .u64 17] w fun e w' => e = .returned (.int .u32 ((rot 17 x : Nat) : Int)) ∧ w = w' := by
  have R := hid (rot_or2 17 x hx)
  go_enter Tryd.func54, Tryd.ntmps54
  go_wp2
  go_ret
  exact ⟨by rw [← R.out]; rfl, rfl⟩
theorem turn18_walk (x : Nat) (hx : x < 4294967296) (w : World) : Calls Tryd.prog 54 #[.int .u32 (x : Int), .int .u64 18] w fun e w' => e = .returned (.int .u32 ((rot 18 x : Nat) : Int)) ∧ w = w' := by
  have R := hid (rot_or2 18 x hx)
  go_enter Tryd.func54, Tryd.ntmps54
  go_wp2
  go_ret
  exact ⟨by rw [← R.out]; rfl, rfl⟩
theorem turn19_walk (x : Nat) (hx : x < 4294967296) (w : World) : Calls Tryd.prog 54 #[.int .u32 (x : Int), .int .u64 19] w fun e w' => e = .returned (.int .u32 ((rot 19 x : Nat) : Int)) ∧ w = w' := by
  have R := hid (rot_or2 19 x hx)
  go_enter Tryd.func54, Tryd.ntmps54
  go_wp2
  go_ret
  exact ⟨by rw [← R.out]; rfl, rfl⟩
theorem turn22_walk (x : Nat) (hx : x < 4294967296) (w : World) : Calls Tryd.prog 54 #[.int .u32 (x : Int), .int .u64 22] w fun e w' => e = .returned (.int .u32 ((rot 22 x : Nat) : Int)) ∧ w = w' := by
  have R := hid (rot_or2 22 x hx)
  go_enter Tryd.func54, Tryd.ntmps54
  go_wp2
  go_ret
  exact ⟨by rw [← R.out]; rfl, rfl⟩
theorem turn25_walk (x : Nat) (hx : x < 4294967296) (w : World) : Calls Tryd.prog 54 #[.int .u32 (x : Int), .int .u64 25] w fun e w' => e = .returned (.int .u32 ((rot 25 x : Nat) : Int)) ∧ w = w' := by
  have R := hid (rot_or2 25 x hx)
  go_enter Tryd.func54, Tryd.ntmps54
  go_wp2
  go_ret
  exact ⟨by rw [← R.out]; rfl, rfl⟩
def zerosN (L : Nat) : Nat := if L % 64 < 56 then 55 - L % 64 else 119 - L % 64
theorem padN_eq {L : Nat} (h : L ≤ 140737488355328) : padN L = 128 :: (List.replicate (zerosN L) 0 ++ beN 8 (8 * L)) := by
  unfold padN zerosN
  rw [Nat.mod_eq_of_lt (show L * 8 < 18446744073709551616 by omega), Nat.mul_comm L 8]
theorem zeros_more {L z : Nat} (hz : z ≤ zerosN L) : (L + 1 + z) % 64 ≠ 56 ↔ z < zerosN L := by
  unfold zerosN at *
  split at hz <;> rename_i h
  · rw [if_pos h]; omega
  · rw [if_neg h]; omega
theorem wrap_not {e : Nat} (he : e < 4294967296) : IntKind.u32.wrap (4294967295 - (e : Int)) = ((4294967295 - e : Nat) : Int) := by
  rw [IntKind.wrap_u32]; omega
theorem chr_rule {e f g : Nat} (he : e < 4294967296) (hf : f < 4294967296) (hg : g < 4294967296) : bits .xor .u32 (bits .and .u32 (e : Int) (f : Int)) (bits .and .u32 (4294967295 - (e : Int)) (g : Int)) = ((chf e f g : Nat) : Int) := by
  rw [show (4294967295 : Int) - (e : Int) = ((4294967295 - e : Nat) : Int) by omega, u32_and_nat _ _ he hf, u32_and_nat _ _ (by omega) hg, u32_xor_nat _ _ (and_lt hf) (and_lt hg)]; rfl
def addU (S T : List Nat) : Nat → List Nat
  | 0 => S
  | i + 1 => (addU S T i).set i ((S.getD i 0 + T.getD i 0) % 4294967296)
theorem addU_len (S T : List Nat) (i : Nat) : (addU S T i).length = S.length := by
  induction i with
  | zero => rfl
  | succ i ih => simp [addU, ih]
theorem addU_get (S T : List Nat) (i j : Nat) (h : i ≤ j) : (addU S T i).getD j 0 = S.getD j 0 := by
  induction i with
  | zero => rfl
  | succ i ih =>
    rw [addU, List.getD_eq_getElem?_getD, List.getElem?_set_ne (by omega), ← List.getD_eq_getElem?_getD, ih (by omega)]
theorem addU_eq {S T : List Nat} (h : S.length = 8) (h' : T.length = 8) : addU S T 8 = addL S T := by
  match S, T, h, h' with
  | [a, b, c, d, e, f, g, k], [a', b', c', d', e', f', g', k'], _, _ => rfl
def outS (O : List Nat) (i x : Nat) : Nat → List Nat
  | 0 => O
  | t + 1 => (outS O i x t).set (4 * i + (3 - t)) (x / 256 ^ t % 256)
theorem outS_len (O : List Nat) (i x t : Nat) : (outS O i x t).length = O.length := by
  induction t with
  | zero => rfl
  | succ t ih => simp [outS, ih]
end Go.Proofs.YtllckpcggmfmkaaDoor

/- Contracts of math/bits.RotateLeft32 at the counts that the digest uses. -/
import Derived.Test.YtllckpcggmfmkaaDoorShaP
import Derived.Laws.BitsAllLaws
namespace Go.Proofs.YtllckpcggmfmkaaDoor
open Go.RowKit

theorem rot_or (n x : Nat) (hx : x < 4294967296) : bits .or .u32 ((x * 2 ^ (32 - n) % 4294967296 : Nat) : Int) ((x / 2 ^ n : Nat) : Int) = ((rot n x : Nat) : Int) := by
  rw [u32_or_nat _ _ (Nat.mod_lt _ (by omega)) (Nat.lt_of_le_of_lt (Nat.div_le_self _ _) hx), Nat.or_comm]
  rfl
theorem shl_u32 (x c : Nat) : IntKind.u32.wrap ((x : Int) * (c : Int)) = ((x * c % 4294967296 : Nat) : Int) := by
  rw [IntKind.wrap_u32]; omega
theorem rot2_walk (x : Nat) (hx : x < 4294967296) (w : World) : Calls Tryd.prog 65 #[.int .u32 (x : Int), .int .i64 (-2)] w fun e w' => e = .returned (.int .u32 ((rot 2 x : Nat) : Int)) ∧ w = w' := by
  have R := hid (rot_or 2 x hx)
  have e1 : bits .and .u64 (IntKind.u64.wrap (-2)) 31 = 30 := by decide
  go_enter Tryd.func65, Tryd.ntmps65
  go_wp2
  go_ret
  exact ⟨by rw [← R.out]; rfl, rfl⟩
theorem rot6_walk (x : Nat) (hx : x < 4294967296) (w : World) : Calls Tryd.prog 65 #[.int .u32 (x : Int), .int .i64 (-6)] w fun e w' => e = .returned (.int .u32 ((rot 6 x : Nat) : Int)) ∧ w = w' := by
  have R := hid (rot_or 6 x hx)
  have e1 : bits .and .u64 (IntKind.u64.wrap (-6)) 31 = 26 := by decide
  go_enter Tryd.func65, Tryd.ntmps65
  go_wp2
  go_ret
  exact ⟨by rw [← R.out]; rfl, rfl⟩
theorem rot7_walk (x : Nat) (hx : x < 4294967296) (w : World) : Calls Tryd.prog 65 #[.int .u32 (x : Int), .int .i64 (-7)] w fun e w' => e = .returned (.int .u32 ((rot 7 x : Nat) : Int)) ∧ w = w' := by
  have R := hid (rot_or 7 x hx)
  have e1 : bits .and .u64 (IntKind.u64.wrap (-7)) 31 = 25 := by decide
  go_enter Tryd.func65, Tryd.ntmps65
  go_wp2
  go_ret
  exact ⟨by rw [← R.out]; rfl, rfl⟩
theorem rot11_walk (x : Nat) (hx : x < 4294967296) (w : World) : Calls Tryd.prog 65 #[.int .u32 (x : Int), .int .i64 (-11)] w fun e w' => e = .returned (.int .u32 ((rot 11 x : Nat) : Int)) ∧ w = w' := by
  have R := hid (rot_or 11 x hx)
  have e1 : bits .and .u64 (IntKind.u64.wrap (-11)) 31 = 21 := by decide
  go_enter Tryd.func65, Tryd.ntmps65
  go_wp2
  go_ret
  exact ⟨by rw [← R.out]; rfl, rfl⟩
theorem rot13_walk (x : Nat) (hx : x < 4294967296) (w : World) : Calls Tryd.prog 65 #[.int .u32 (x : Int), .int .i64 (-13)] w fun e w' => e = .returned (.int .u32 ((rot 13 x : Nat) : Int)) ∧ w = w' := by
  have R := hid (rot_or 13 x hx)
  have e1 : bits .and .u64 (IntKind.u64.wrap (-13)) 31 = 19 := by decide
  go_enter Tryd.func65, Tryd.ntmps65
  go_wp2
  go_ret
  exact ⟨by rw [← R.out]; rfl, rfl⟩
theorem rot17_walk (x : Nat) (hx : x < 4294967296) (w : World) : Calls Tryd.prog 65 #[.int .u32 (x : Int), .int .i64 (-17)] w fun e w' => e = .returned (.int .u32 ((rot 17 x : Nat) : Int)) ∧ w = w' := by
  have R := hid (rot_or 17 x hx)
  have e1 : bits .and .u64 (IntKind.u64.wrap (-17)) 31 = 15 := by decide
  go_enter Tryd.func65, Tryd.ntmps65
  go_wp2
  go_ret
  exact ⟨by rw [← R.out]; rfl, rfl⟩
theorem rot18_walk (x : Nat) (hx : x < 4294967296) (w : World) : Calls Tryd.prog 65 #[.int .u32 (x : Int), .int .i64 (-18)] w fun e w' => e = .returned (.int .u32 ((rot 18 x : Nat) : Int)) ∧ w = w' := by
  have R := hid (rot_or 18 x hx)
  have e1 : bits .and .u64 (IntKind.u64.wrap (-18)) 31 = 14 := by decide
  go_enter Tryd.func65, Tryd.ntmps65
  go_wp2
  go_ret
  exact ⟨by rw [← R.out]; rfl, rfl⟩
theorem rot19_walk (x : Nat) (hx : x < 4294967296) (w : World) : Calls Tryd.prog 65 #[.int .u32 (x : Int), .int .i64 (-19)] w fun e w' => e = .returned (.int .u32 ((rot 19 x : Nat) : Int)) ∧ w = w' := by
  have R := hid (rot_or 19 x hx)
  have e1 : bits .and .u64 (IntKind.u64.wrap (-19)) 31 = 13 := by decide
  go_enter Tryd.func65, Tryd.ntmps65
  go_wp2
  go_ret
  exact ⟨by rw [← R.out]; rfl, rfl⟩
theorem rot22_walk (x : Nat) (hx : x < 4294967296) (w : World) : Calls Tryd.prog 65 #[.int .u32 (x : Int), .int .i64 (-22)] w fun e w' => e = .returned (.int .u32 ((rot 22 x : Nat) : Int)) ∧ w = w' := by
  have R := hid (rot_or 22 x hx)
  have e1 : bits .and .u64 (IntKind.u64.wrap (-22)) 31 = 10 := by decide
  go_enter Tryd.func65, Tryd.ntmps65
  go_wp2
  go_ret
  exact ⟨by rw [← R.out]; rfl, rfl⟩
theorem rot25_walk (x : Nat) (hx : x < 4294967296) (w : World) : Calls Tryd.prog 65 #[.int .u32 (x : Int), .int .i64 (-25)] w fun e w' => e = .returned (.int .u32 ((rot 25 x : Nat) : Int)) ∧ w = w' := by
  have R := hid (rot_or 25 x hx)
  have e1 : bits .and .u64 (IntKind.u64.wrap (-25)) 31 = 7 := by decide
  go_enter Tryd.func65, Tryd.ntmps65
  go_wp2
  go_ret
  exact ⟨by rw [← R.out]; rfl, rfl⟩
end Go.Proofs.YtllckpcggmfmkaaDoor

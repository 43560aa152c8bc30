/- The sort at the nil slice. -/
import Derived.Test.YtibjkpejbihcpaaDiv
import Derived.Test.YtibjkpejbihcpaaVar
namespace Go.Proofs.Ytibjkpejbihcpaa
open Go.RowKit

theorem insN_walk (f : Value) (w : World) : Calls Try.prog 51 #[.slice none 0 0, .int .i64 0, .int .i64 0, f] w fun e w' => e = .returned (.tuple #[]) ∧ w' = w := by
  go_enter Try.func51, Try.ntmps51
  go_wp2
  go_loopw [8] (fun x4 wr => x4 = .int .i64 1 ∧ wr = w) (fun _ _ => 0)
  case atStart => exact ⟨rfl, rfl⟩
  case round =>
    obtain ⟨rfl, rfl⟩ := hrel
    go_wp2
    first | go_end0 | (refine bodyPost_ret (results_none rfl _ _ _) rfl ?_)
    exact ⟨rfl, rfl⟩
set_option maxRecDepth 100000 in
set_option maxHeartbeats 1000000 in
theorem pdqN_walk (l : Value) (f : Value) (w : World) : Calls Try.prog 47 #[.slice none 0 0, .int .i64 0, .int .i64 0, l, f] w fun e w' => e = .returned (.tuple #[]) ∧ w' = w := by
  go_enter Try.func47, Try.ntmps47
  go_wp2
  go_loopw [1, 2] (fun x1 x2 wr => x1 = .int .i64 0 ∧ x2 = .int .i64 0 ∧ wr = w) (fun _ _ _ => 0)
  case atStart => exact ⟨rfl, rfl, rfl⟩
  case round =>
    obtain ⟨rfl, rfl, rfl⟩ := hrel
    go_wp2_with (go_at_call 51; refine (insN_walk _ _).mono ?_; rintro e w' ⟨rfl, rfl⟩)
    first | go_end0 | (refine bodyPost_ret (results_none rfl _ _ _) rfl ?_)
    exact ⟨rfl, rfl⟩
theorem sortN_walk (f : Value) (w : World) : Calls Try.prog 37 #[.slice none 0 0, f] w fun e w' => e = .returned (.tuple #[]) ∧ w' = w := by
  have hl := fun w => len64 0 w (by decide) (by decide)
  go_enter Try.func37, Try.ntmps37
  go_wp2_with (first | (go_at_call 47; refine (pdqN_walk _ _ _).mono ?_; rintro e w' ⟨rfl, rfl⟩) | (go_at_call 48; go_in) | (go_at_call 60; refine (hl _).mono ?_; rintro e w' ⟨rfl, rfl⟩))
  go_end0
  exact ⟨rfl, rfl⟩
end Go.Proofs.Ytibjkpejbihcpaa

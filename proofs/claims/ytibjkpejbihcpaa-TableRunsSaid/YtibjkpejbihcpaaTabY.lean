/- TableRuns for the frame. -/
import Derived.Test.YtibjkpejbihcpaaOpenK
import Derived.Test.YtibjkpejbihcpaaTabU3
namespace Go.Proofs.Ytibjkpejbihcpaa
open Go.RowKit Go.ChangeShapes

theorem lawRuns' (a : Option Addr) (n cap : Nat) (ls : List OStp) (w : World) (hl : ls.length = n) (hS : SLo.good w 71 120 OStp.cells (fun _ => True) ⟨a, cap, ls⟩) :
    Calls Try.prog 7 #[.slice a n cap] w (fun e w' => e = .returned (.bool true) ∧ Below w.heap.size w w') := by
  subst hl
  obtain ⟨h1, _, h3⟩ := hS
  rw [oflat] at h1
  refine lawRuns a ls.length cap (ls.map (fun s => s.1)) (by simp only at h3; omega) w ⟨by simp, h1, fun s hs => ?_⟩
  obtain ⟨x, _, rfl⟩ := List.mem_map.1 hs
  exact x.2
end Go.Proofs.Ytibjkpejbihcpaa

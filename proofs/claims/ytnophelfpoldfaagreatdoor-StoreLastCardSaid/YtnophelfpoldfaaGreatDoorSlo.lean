/- StoreLast's walk, its arguments opened. -/
import Derived.Test.YtnophelfpoldfaaGreatDoorStl
import Derived.Test.YtnophelfpoldfaaGreatDoorOpenG
namespace Go.Proofs.YtnophelfpoldfaaGreatDoor
open Go.RowKit

theorem opens_bytesP {H : Type} {enc : TypeId × Value → H} {W : World} : Opens enc Tryz.prog W 22 SLo.cells (SLo.good W 1 1 (fun z : Nat => [Value.int .u8 (z : Int)]) (fun z => z < 256)) :=
  opens_slice Tryz.underlying22 (opens_nat (fun _ => u8_nat) Tryz.underlying5) (by kernel_rfl) (by kernel_rfl) (fun _ => rfl) (by decide)
theorem opens_parts {H : Type} {enc : TypeId × Value → H} {W : World} : Opens enc Tryz.prog W 39 SLo.cells (SLo.good W 1 24 BS.cells (BS.good W)) := by
  refine opens_slice Tryz.underlying39 (Opens.map opens_bytesP (fun x => ⟨x.a, x.c, x.xs⟩) (fun _ => rfl) ?_) (by kernel_rfl) (by kernel_rfl) (fun _ => rfl) (by decide)
  intro s hs
  obtain ⟨h1, h2, h3⟩ := SLo.nums (k := .u8) (W := W) (bytes := 1) (M := 256) (s := s) hs
  exact ⟨h1, h2, by simpa using h3⟩
theorem lawSLast (a : Option Addr) (n c : Nat) (key : List Nat) (a' : Option Addr) (L c' : Nat) (ls : List BS) (gone : Bool) (hb8 : ∀ d ∈ key, d < 256) (_hz : n * 1 ≤ 140737488351232) (w : World) (hk : Sl .u8 w a n c key) (hl : ls.length = L) (h : SLo.good w 1 24 BS.cells (BS.good w) ⟨a', c', ls⟩) (ht : Tabs w) :
    Calls Tryz.prog 4 #[.slice a n c, .slice a' L c', .bool gone] w fun e w' => e = .returned (.bool true) ∧ Below w.heap.size w w' := by
  subst hl
  exact slast_walk a n c key a' ls.length c' ls gone hb8 w hk ⟨h.1, rfl, h.2.1⟩ ht
end Go.Proofs.YtnophelfpoldfaaGreatDoor

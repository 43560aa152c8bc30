/- StoreKeys' walk, its arguments opened. -/
import Derived.Test.YtnophelfpoldfaaGreatDoorSkl
import Derived.Test.YtnophelfpoldfaaGreatDoorOpenG
namespace Go.Proofs.YtnophelfpoldfaaGreatDoor
open Go.ChangeShapes Go.WideShapes Go.ChangeAt Go.RowKit

theorem opens_bytesK {H : Type} {enc : TypeId × Value → H} {W : World} : Opens enc Tryz.prog W 22 SLo.cells (SLo.good W 1 1 (fun z : Nat => [Value.int .u8 (z : Int)]) (fun z => z < 256)) :=
  opens_slice Tryz.underlying22 (opens_nat (fun _ => u8_nat) Tryz.underlying5) (by kernel_rfl) (by kernel_rfl) (fun _ => rfl) (by decide)
theorem opens_chg {H : Type} {enc : TypeId × Value → H} {W : World} : Opens enc Tryz.prog W 42 LC.cells (LC.good W) := by
  refine (opens_struct3 Tryz.underlying42 opens_bytesK (s0 := 1) (by kernel_rfl) opens_bytesK (s1 := 1) (by kernel_rfl) (opens_bool Tryz.underlying4) (s2 := 1) (by kernel_rfl) rfl rfl rfl (by kernel_rfl)).map (fun x => ⟨x.1.a, x.1.c, x.1.xs, x.2.1.a, x.2.1.c, x.2.1.xs, x.2.2⟩) (fun _ => rfl) ?_
  rintro ⟨s, t, b⟩ ⟨hs, ht, _⟩
  obtain ⟨h1, h2, _⟩ := SLo.nums (k := .u8) (W := W) (bytes := 1) (M := 256) (s := s) hs
  obtain ⟨k1, k2, _⟩ := SLo.nums (k := .u8) (W := W) (bytes := 1) (M := 256) (s := t) ht
  exact ⟨h1, h2, k1, k2⟩
theorem opens_chgs {H : Type} {enc : TypeId × Value → H} {W : World} : Opens enc Tryz.prog W 40 SLo.cells (SLo.good W 3 56 LC.cells (LC.good W)) :=
  opens_slice Tryz.underlying40 opens_chg (by kernel_rfl) (by kernel_rfl) (fun _ => rfl) (by decide)
theorem lawSKeys (a : Option Addr) (N c : Nat) (ls : List LC) (a' : Option Addr) (n c' : Nat) (fs : List Nat) (hb8 : ∀ d ∈ fs, d < 256) (_hz : n * 1 ≤ 140737488351232) (w : World) (hl : ls.length = N) (g : SLo.good w 3 56 LC.cells (LC.good w) ⟨a, c, ls⟩) (hk : Sl .u8 w a' n c' fs) (ht : Tabs w) :
    Calls Tryz.prog 5 #[.slice a N c, .slice a' n c'] w fun e w' => e = .returned (.bool true) ∧ Below w.heap.size w w' := by
  subst hl
  exact skeyslaw_walk a ls.length c ls a' n c' fs hb8 w ⟨g.1, rfl, g.2.1⟩ hk ht
end Go.Proofs.YtnophelfpoldfaaGreatDoor

/- What arguments of records read as. -/
import Derived.Test.YtfcnpmkpdikgeaaOpenG
import Derived.Test.YtfcnpmkpdikgeaaRec
namespace Go.Proofs.Ytfcnpmkpdikgeaa
open Go.ChangeShapes Go.WideShapes Go.ChangeAt Go.RowKit

theorem opens_bytes {H : Type} {enc : TypeId × Value → H} {W : World} : Opens enc Try.prog W 25 SLo.cells (SLo.good W 1 1 (fun z : Nat => [Value.int .u8 (z : Int)]) (fun z => z < 256)) :=
  opens_slice Try.underlying25 (opens_nat (fun _ => u8_nat) Try.underlying5) (by kernel_rfl) (by kernel_rfl) (fun _ => rfl) (by decide)
theorem opens_rec {H : Type} {enc : TypeId × Value → H} {W : World} : Opens enc Try.prog W 39 LR.cells (LR.good W) := by
  refine (opens_struct2 Try.underlying39 (opens_nat (fun _ => u64_nat) Try.underlying22) (s0 := 1) (by kernel_rfl) opens_bytes (s1 := 1) (by kernel_rfl) rfl rfl (by kernel_rfl)).map (fun x => ⟨x.1, x.2.a, x.2.c, x.2.xs⟩) (fun _ => rfl) ?_
  rintro ⟨t, s⟩ ⟨ht, hs⟩
  obtain ⟨h1, h2, h3⟩ := SLo.nums (k := .u8) (W := W) (bytes := 1) (M := 256) (s := s) hs
  exact ⟨ht, h1, h2, by simpa using h3⟩
theorem opens_recs {H : Type} {enc : TypeId × Value → H} {W : World} : Opens enc Try.prog W 35 SLo.cells (SLo.good W 2 32 LR.cells (LR.good W)) :=
  opens_slice Try.underlying35 opens_rec (by kernel_rfl) (by kernel_rfl) (fun _ => rfl) (by decide)
theorem recs_of {W : World} {a : Option Addr} {c : Nat} {ls : List LR} (h : SLo.good W 2 32 LR.cells (LR.good W) ⟨a, c, ls⟩) : Recs W a ls.length c ls := ⟨h.1, rfl, h.2.1⟩
end Go.Proofs.Ytfcnpmkpdikgeaa

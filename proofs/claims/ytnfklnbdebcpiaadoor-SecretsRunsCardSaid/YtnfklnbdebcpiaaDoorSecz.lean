/- SecretsRuns, its arguments as they come. -/
import Derived.Test.YtnfklnbdebcpiaaDoorSecv
import Derived.Test.YtnfklnbdebcpiaaDoorOpenH
namespace Go.Proofs.YtnfklnbdebcpiaaDoor
open Go.ChangeShapes Go.WideShapes Go.ChangeAt Go.RowKit

theorem opens_oh {H : Type} {enc : TypeId × Value → H} {W : World} : Opens enc Tryd.prog W 23 OH.cells (fun _ => True) := by
  intro fuel cs d p ht hw
  obtain ⟨x, rfl, h⟩ := opens_digest fuel cs d p ht hw
  exact ⟨⟨x, h.1, h.2⟩, rfl, trivial⟩
theorem opens_ohs {H : Type} {enc : TypeId × Value → H} {W : World} : Opens enc Tryd.prog W 39 SLo.cells (SLo.good W 32 32 OH.cells (fun _ => True)) :=
  opens_slice Tryd.underlying39 opens_oh (by kernel_rfl) (by kernel_rfl) (fun x => by rw [OH.cells, nums_length]; exact x.2.1) (by decide)
theorem opens_ints {H : Type} {enc : TypeId × Value → H} {W : World} : Opens enc Tryd.prog W 40 SLo.cells (SLo.good W 1 8 (fun z : Int => [Value.int .i64 z]) (fun z => (Lit.int .i64 z).wf = true)) :=
  opens_slice Tryd.underlying40 (opens_int Tryd.underlying3) (by kernel_rfl) (by kernel_rfl) (fun _ => rfl) (by decide)
theorem ints_flat (zs : List Int) : (zs.flatMap fun z : Int => [Value.int .i64 z]) = ints zs := by
  induction zs with
  | nil => rfl
  | cons x r ih => rw [List.flatMap_cons, ih]; rfl
theorem lawRuns' (s : List Nat) (oa : Option Addr) (on oc : Nat) (xs : List OH) (wa : Option Addr) (wn wc : Nat) (zs : List Int) (qa : Option Addr) (qn qc : Nat) (qs : List Nat)
    (hs : s.length = 32 ∧ ∀ d ∈ s, d < 256) (hq64 : ∀ d ∈ qs, d < 18446744073709551616) (_hz : qn * 8 ≤ 140737488351232) (w : World) (n1 : xs.length = on) (g1 : SLo.good w 32 32 OH.cells (fun _ => True) ⟨oa, oc, xs⟩)
    (n2 : zs.length = wn) (g2 : SLo.good w 1 8 (fun z : Int => [Value.int .i64 z]) (fun z => (Lit.int .i64 z).wf = true) ⟨wa, wc, zs⟩) (h3 : Sl .u64 w qa qn qc qs) (ht : Tabs w ∧ Tab64 w) :
    Calls Tryd.prog 5 #[hv s, .slice oa on oc, .slice wa wn wc, .slice qa qn qc] w fun e w' => e = .returned (.bool true) ∧ Below w.heap.size w w' := by
  subst n1 n2
  have k1 := g1.1
  have k2 := g2.1
  rw [oh_flat] at k1
  rw [ints_flat] at k2
  refine lawRuns s oa xs.length oc (xs.map (·.1)) wa zs.length wc zs qa qn qc qs hs hq64 w ⟨k1, by simp, fun q hq => ?_⟩ k2 h3 ht
  obtain ⟨x, _, rfl⟩ := List.mem_map.1 hq
  exact x.2
end Go.Proofs.YtnfklnbdebcpiaaDoor

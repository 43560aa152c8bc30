/- What arguments of transactions and outputs read as. -/
import Derived.Test.YtdopbhahcpjjgaaDoorOpnG
import Derived.Test.YtdopbhahcpjjgaaDoorChp
namespace Go.Proofs.YtdopbhahcpjjgaaDoor
open Go.ChangeShapes Go.WideShapes Go.ChangeAt Go.RowKit

theorem opens_hashC {H : Type} {enc : TypeId × Value → H} {W : World} : Opens enc Tryd.prog W 27 (fun xs : List Nat => nums .u8 xs) H32b :=
  (opens_array Tryd.underlying27 (opens_nat (fun _ => u8_nat) Tryd.underlying5) (size := 1) (by kernel_rfl) (fun _ => rfl) (by kernel_rfl)).map id (fun xs => (flat_nums xs).symm) (fun _ h => h)
theorem opens_i64C {H : Type} {enc : TypeId × Value → H} {W : World} : Opens enc Tryd.prog W 3 (fun z : Int => [Value.int .i64 z]) i64ok := by
  intro fuel cs d p ht hw
  obtain ⟨x, h1, h2⟩ := opens_int Tryd.underlying3 fuel cs d p ht hw
  refine ⟨x, h1, ?_⟩
  have e1 : IntKind.i64.min = -9223372036854775808 := by decide
  have e2 : IntKind.i64.max = 9223372036854775807 := by decide
  simp [Lit.wf, e1, e2] at h2
  exact ⟨by omega, by omega⟩
theorem opens_pointC {H : Type} {enc : TypeId × Value → H} {W : World} : Opens enc Tryd.prog W 31 (fun x : List Nat × Int => nums .u8 x.1 ++ [Value.int .i64 x.2]) (fun x => H32b x.1 ∧ i64ok x.2) :=
  opens_struct2 Tryd.underlying31 opens_hashC (s0 := 32) (by kernel_rfl) opens_i64C (s1 := 1) (by kernel_rfl) rfl rfl (by kernel_rfl)
def PS := { p : PathD // p.ok }
def PS.cells (p : PS) : List Value := p.1.cells
theorem opens_path {H : Type} {enc : TypeId × Value → H} {W : World} : Opens enc Tryd.prog W 61 PS.cells (fun _ => True) := by
  intro fuel cs d p ht hw
  obtain ⟨x, rfl, h⟩ := opens_struct5 Tryd.underlying61 opens_hashC (s0 := 32) (by kernel_rfl) opens_hashC (s1 := 32) (by kernel_rfl) opens_hashC (s2 := 32) (by kernel_rfl) opens_i64C (s3 := 1) (by kernel_rfl) opens_i64C (s4 := 1) (by kernel_rfl) rfl rfl rfl rfl rfl (by kernel_rfl) fuel cs d p ht hw
  refine ⟨⟨⟨x.1, x.2.1, x.2.2.1, x.2.2.2.1, x.2.2.2.2⟩, ⟨h.1, h.2.1, h.2.2.1, h.2.2.2.1, h.2.2.2.2⟩⟩, ?_, trivial⟩
  simp [PS.cells, PathD.cells]
theorem opens_paths {H : Type} {enc : TypeId × Value → H} {W : World} : Opens enc Tryd.prog W 39 SLo.cells (SLo.good W 98 112 PS.cells (fun _ => True)) :=
  opens_slice Tryd.underlying39 opens_path (by kernel_rfl) (by kernel_rfl) (fun x => PathD.len x.2) (by decide)
theorem ps_flat (xs : List PS) : xs.flatMap PS.cells = (xs.map (·.1)).flatMap PathD.cells := by
  induction xs with
  | nil => rfl
  | cons x r ih => rw [List.flatMap_cons, ih, List.map_cons, List.flatMap_cons]; rfl
def OS := { o : OutD // o.anchor.length = 32 }
def OS.cells (o : OS) : List Value := o.1.cells
theorem OS.len (o : OS) : o.cells.length = 34 := by
  show o.1.cells.length = 34
  simp [OutD.cells, o.2]
theorem opens_outS {H : Type} {enc : TypeId × Value → H} {W : World} : Opens enc Tryd.prog W 41 OS.cells (fun o => o.1.good W) := by
  intro fuel cs d p ht hw
  obtain ⟨x, rfl, h⟩ := opens_struct3 Tryd.underlying41 (opens_nat (fun _ => u64_nat) Tryd.underlying38) (s0 := 1) (by kernel_rfl) opens_paths (s1 := 1) (by kernel_rfl) opens_hashC (s2 := 32) (by kernel_rfl) rfl rfl rfl (by kernel_rfl) fuel cs d p ht hw
  obtain ⟨c, s, an⟩ := x
  refine ⟨⟨⟨c, s.a, s.c, s.xs.map (·.1), an⟩, h.2.2.1⟩, ?_, ⟨h.1, h.2.2, ?_, fun q hq => ?_⟩⟩
  · simp [OS.cells, OutD.cells, SLo.cells]
  · have := h.2.1.1
    rw [ps_flat] at this
    simpa using this
  · obtain ⟨y, _, rfl⟩ := List.mem_map.1 hq
    exact y.2
theorem opens_outC {H : Type} {enc : TypeId × Value → H} {W : World} : Opens enc Tryd.prog W 41 OutD.cells (OutD.good W) := opens_outS.map (·.1) (fun _ => rfl) (fun _ h => h)
theorem opens_outsC {H : Type} {enc : TypeId × Value → H} {W : World} : Opens enc Tryd.prog W 23 SLo.cells (SLo.good W 34 64 OS.cells (fun o => o.1.good W)) :=
  opens_slice Tryd.underlying23 opens_outS (by kernel_rfl) (by kernel_rfl) OS.len (by decide)
theorem os_flat (xs : List OS) : xs.flatMap OS.cells = (xs.map (·.1)).flatMap OutD.cells := by
  induction xs with
  | nil => rfl
  | cons x r ih => rw [List.flatMap_cons, ih, List.map_cons, List.flatMap_cons]; rfl
def IS := { i : InD // i.ok }
def IS.cells (i : IS) : List Value := i.1.cells
theorem opens_inS {H : Type} {enc : TypeId × Value → H} {W : World} : Opens enc Tryd.prog W 33 IS.cells (fun _ => True) := by
  intro fuel cs d p ht hw
  obtain ⟨x, rfl, h⟩ := opens_struct5 Tryd.underlying33 opens_pointC (s0 := 33) (by kernel_rfl) opens_i64C (s1 := 1) (by kernel_rfl) opens_hashC (s2 := 32) (by kernel_rfl) opens_hashC (s3 := 32) (by kernel_rfl) opens_hashC (s4 := 32) (by kernel_rfl) rfl rfl rfl rfl rfl (by kernel_rfl) fuel cs d p ht hw
  refine ⟨⟨⟨x.1.1, x.1.2, x.2.1, x.2.2.1, x.2.2.2.1, x.2.2.2.2⟩, ⟨h.1.1, h.1.2, h.2.1, h.2.2.1, h.2.2.2.1, h.2.2.2.2⟩⟩, ?_, trivial⟩
  simp [IS.cells, InD.cells]
theorem opens_insC {H : Type} {enc : TypeId × Value → H} {W : World} : Opens enc Tryd.prog W 22 SLo.cells (SLo.good W 130 144 IS.cells (fun _ => True)) :=
  opens_slice Tryd.underlying22 opens_inS (by kernel_rfl) (by kernel_rfl) (fun x => InD.len x.2) (by decide)
theorem is_flat (xs : List IS) : xs.flatMap IS.cells = (xs.map (·.1)).flatMap InD.cells := by
  induction xs with
  | nil => rfl
  | cons x r ih => rw [List.flatMap_cons, ih, List.map_cons, List.flatMap_cons]; rfl
theorem opens_txC {H : Type} {enc : TypeId × Value → H} {W : World} : Opens enc Tryd.prog W 25 TxD.cells (TxD.good W) := by
  intro fuel cs d p ht hw
  obtain ⟨x, rfl, h⟩ := opens_struct2 Tryd.underlying25 opens_insC (s0 := 1) (by kernel_rfl) opens_outsC (s1 := 1) (by kernel_rfl) rfl rfl (by kernel_rfl) fuel cs d p ht hw
  obtain ⟨s1, s2⟩ := x
  refine ⟨⟨s1.a, s1.c, s1.xs.map (·.1), s2.a, s2.c, s2.xs.map (·.1)⟩, ?_, ⟨?_, fun i hi => ?_, ?_, fun o ho => ?_⟩⟩
  · simp [TxD.cells, SLo.cells]
  · have := h.1.1
    rw [is_flat] at this
    simpa using this
  · obtain ⟨y, _, rfl⟩ := List.mem_map.1 hi
    exact y.2
  · have := h.2.1
    rw [os_flat] at this
    simpa using this
  · obtain ⟨y, hy, rfl⟩ := List.mem_map.1 ho
    exact h.2.2.1 y hy
end Go.Proofs.YtdopbhahcpjjgaaDoor

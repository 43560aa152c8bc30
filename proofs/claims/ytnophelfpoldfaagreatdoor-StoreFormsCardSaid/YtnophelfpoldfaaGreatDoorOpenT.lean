/- The tables of the program as the row lists them; the witness' world. -/
import Derived.Test.YtnophelfpoldfaaGreatDoorRows
import Derived.Test.YtnophelfpoldfaaGreatDoorOpen
import Derived.Test.YtnophelfpoldfaaGreatDoorGShaW
import Derived.LaidMore
import Derived.Lib.LaidTab
import Derived.Stop.Joined
import Derived.Handed
namespace Go.Proofs.YtnophelfpoldfaaGreatDoor
open Go.ChangeShapes Go.WideShapes Go.ChangeAt Go.RowKit

def laidL : List (String × DataW Unit) := [("moneyer/sha.start", Rows.laid_moneyer_sha_start), ("moneyer/sha.rounds", Rows.laid_moneyer_sha_rounds)]
theorem gStart : Tryz.prog.globalNamed "moneyer/sha.start" = some 1 := by kernel_rfl
theorem gRounds : Tryz.prog.globalNamed "moneyer/sha.rounds" = some 2 := by kernel_rfl
theorem tStart : (Tryz.prog.globals[1]?).map (·.type) = some 123 := by kernel_rfl
theorem tRounds : (Tryz.prog.globals[2]?).map (·.type) = some 165 := by kernel_rfl
theorem cU32 : Tryz.prog.cellsOf 114 = 1 := by kernel_rfl
theorem c8 : Tryz.prog.cellsOf 123 = 8 := by kernel_rfl
theorem c64 : Tryz.prog.cellsOf 165 = 64 := by kernel_rfl
theorem door_met (os : Os) (args : Array Value) : laidMetH Tryz.prog laidL ((World.doorLaid Tryz.prog 19 os).forCall (fun _ _ => 0) ⟨#[], args, []⟩).memory :=
  laidMetH_of_parts3 (fuel := 8) (laidMet_of_run' 8 (by kernel_rfl) (by kernel_rfl)) (by kernel_rfl) (by kernel_rfl)
theorem of_laid {W : World} (h : laidMetH Tryz.prog laidL W) : Tabs W := by
  rw [MakeChecks.laidMetH_plain _ _ _ (by kernel_rfl)] at h
  obtain ⟨ps, ⟨g0, t0, cs0, f0, p0, q0, hg0, ht0, hv0, hd0, ⟨g1, t1, cs1, f1, p1, q1, hg1, ht1, hv1, hd1, _, _⟩, _⟩, _, _⟩ := h
  obtain rfl := Option.some.inj (gStart.symm.trans hg0)
  obtain rfl := Option.some.inj (gRounds.symm.trans hg1)
  obtain rfl := Option.some.inj (tStart.symm.trans ht0)
  obtain rfl := Option.some.inj (tRounds.symm.trans ht1)
  have e0 := Lib.cells_of_tab (zs := H0.map (fun (d : Nat) => (d : Int))) Tryz.underlying123 Tryz.underlying114 cU32 c8 hd0
  have e1 := Lib.cells_of_tab (zs := K0.map (fun (d : Nat) => (d : Int))) Tryz.underlying165 Tryz.underlying114 cU32 c64 hd1
  refine ⟨fun i hi => ?_, fun i hi => ?_⟩
  · have := World.var?_cell hg0 hv0 i
    rw [this]
    have hl : i < H0.length := hi
    have e2 : cs0[i]? = cs0.toList[i]? := by simp
    rw [e2, e0, List.map_map, List.getElem?_map, List.getD_eq_getElem?_getD, List.getElem?_eq_getElem hl]
    rfl
  · have := World.var?_cell hg1 hv1 i
    rw [this]
    have hl : i < K0.length := hi
    have e2 : cs1[i]? = cs1.toList[i]? := by simp
    rw [e2, e1, List.map_map, List.getElem?_map, List.getD_eq_getElem?_getD, List.getElem?_eq_getElem hl]
    rfl
end Go.Proofs.YtnophelfpoldfaaGreatDoor

/- What an argument reads as, for the walks: numbers and slices of numbers. -/
import Derived.Test.YtnbmpgballopeaaGreatDoorRows
import Derived.ProofKit
import Derived.OpenShut
import Derived.ShutString
import Derived.ChangeOld
import Derived.SizedLaws
import Derived.LaidMore
import Derived.Lib.LaidTab
import Derived.Stop.Joined
import Derived.Handed
import Derived.Test.YtnbmpgballopeaaGreatDoorZOnce
import Derived.Test.YtnbmpgballopeaaGreatDoorZShaE
namespace Go.Proofs.YtnbmpgballopeaaGreatDoor
open Go.ChangeShapes Go.WideShapes Go.ChangeAt Go.RowKit
theorem own:ownKnob Tryz.prog.godebug=none:=by kernel_rfl
theorem laidOut:laidOutB Tryz.prog=true:=by kernel_rfl
theorem u64_nat{a:Int}(h:(Lit.int .u64 a).wf=true):∃n:Nat,a=(n:Int)∧n<18446744073709551616:=by
 have:=bounds_u64 h
 exact⟨a.toNat,by omega,by omega⟩
theorem u8_nat{a:Int}(h:(Lit.int .u8 a).wf=true):∃n:Nat,a=(n:Int)∧n<256:=by
 have:=bounds_u8 h
 exact⟨a.toNat,by omega,by omega⟩
end Go.Proofs.YtnbmpgballopeaaGreatDoor
/- The tables of the program as the row lists them; the witness' world. -/
namespace Go.Proofs.YtnbmpgballopeaaGreatDoor
open Go.ChangeShapes Go.WideShapes Go.ChangeAt Go.RowKit
def laidL:List (String × DataW Unit):=[("moneyer/sha.start",Rows.laid_moneyer_sha_start),("moneyer/sha.rounds",Rows.laid_moneyer_sha_rounds)]
theorem gStart:Tryz.prog.globalNamed "moneyer/sha.start" = some 0:=by kernel_rfl
theorem gRounds:Tryz.prog.globalNamed "moneyer/sha.rounds" = some 1:=by kernel_rfl
theorem tStart:(Tryz.prog.globals[0]?).map (·.type)=some 47:=by kernel_rfl
theorem tRounds:(Tryz.prog.globals[1]?).map (·.type)=some 48:=by kernel_rfl
theorem cU32:Tryz.prog.cellsOf 46=1:=by kernel_rfl
theorem c8:Tryz.prog.cellsOf 47=8:=by kernel_rfl
theorem c64:Tryz.prog.cellsOf 48=64:=by kernel_rfl
theorem door_met(os:Os)(args:Array Value):laidMetH Tryz.prog laidL ((World.doorLaid Tryz.prog 19 os).forCall (fun _ _=>0) ⟨#[],args,[]⟩).memory:=
 laidMetH_of_parts3 (fuel:=8) (laidMet_of_run' 8 (by kernel_rfl) (by kernel_rfl)) (by kernel_rfl) (by kernel_rfl)
theorem of_laid{W:World}(h:laidMetH Tryz.prog laidL W):Tabs W:=by
 rw [MakeChecks.laidMetH_plain _ _ _ (by kernel_rfl)] at h
 obtain⟨ps,⟨g0,t0,cs0,f0,p0,q0,hg0,ht0,hv0,hd0,⟨g1,t1,cs1,f1,p1,q1,hg1,ht1,hv1,hd1,_,_⟩,_⟩,_,_⟩:=h
 obtain rfl:=Option.some.inj (gStart.symm.trans hg0)
 obtain rfl:=Option.some.inj (gRounds.symm.trans hg1)
 obtain rfl:=Option.some.inj (tStart.symm.trans ht0)
 obtain rfl:=Option.some.inj (tRounds.symm.trans ht1)
 have e0:=Lib.cells_of_tab (zs:=H0.map (fun(d:Nat)=>(d:Int))) Tryz.underlying47 Tryz.underlying46 cU32 c8 hd0
 have e1:=Lib.cells_of_tab (zs:=K0.map (fun(d:Nat)=>(d:Int))) Tryz.underlying48 Tryz.underlying46 cU32 c64 hd1
 refine⟨fun i hi=>?_,fun i hi=>?_⟩
 ·have:=World.var?_cell hg0 hv0 i
  rw [this]
  have hl:i<H0.length:=hi
  have e2:cs0[i]? = cs0.toList[i]?:=by simp
  rw [e2,e0,List.map_map,List.getElem?_map,List.getD_eq_getElem?_getD,List.getElem?_eq_getElem hl]
  rfl
 ·have:=World.var?_cell hg1 hv1 i
  rw [this]
  have hl:i<K0.length:=hi
  have e2:cs1[i]? = cs1.toList[i]?:=by simp
  rw [e2,e1,List.map_map,List.getElem?_map,List.getD_eq_getElem?_getD,List.getElem?_eq_getElem hl]
  rfl
end Go.Proofs.YtnbmpgballopeaaGreatDoor

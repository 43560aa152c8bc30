/- Steps of a walk by the operation's own shape: an operation of another kind is passed by at once. -/
import Derived.Test.YtnbmpgballopeaaGreatDoorZStr
import Derived.Test.YtnbmpgballopeaaGreatDoorZKeep
import Derived.Test.YtnbmpgballopeaaGreatDoorZOpx
namespace Go.Proofs.YtnbmpgballopeaaGreatDoor
open Go.RowKit
section
variable {P:Program} {ops:Array Oper} {rest:List Oper} {a:Act} {w:World} {Q:Exit→Act→World→Prop} {dst:Option Tmp} {ty t:TypeId} {pos:String} {af:Array Edge}
theorem wpList_mk0{cells:Array Value}(hb:P.built t []=some cells)  (h:wpList P ops Q rest (a.put dst (.agg cells)) w):
  wpList P ops Q ({ dst:=dst,op:=Op.build t #[],type:=ty,pos:=pos,after:=af,guard:=none } :: rest) a w:=by
 have hv:((#[]:Array (Nat × Operand)).map fun(i,x)=>(i,a.eval x)).toList=[]:=by simp
 exact wpList_build rfl t _ rfl (by rw [hv,hb];rfl) (by rw [hv,hb];exact h)
end
end Go.Proofs.YtnbmpgballopeaaGreatDoor
/- The chain's Out.Check. -/
namespace Go.Proofs.YtnbmpgballopeaaGreatDoor
open Go.RowKit
theorem laidW{F:World→Prop}{w:World}{z c:Array Value}{t:TypeId}(h:∀w3,Hid (w3.heap[w.heap.size]? = some (.cells c t (0,0)))→Hid (Below w.heap.size w w3)→F w3):F ((w.alloc (.cells z t)).setRow w.heap.size c):=
 h _ (hid (laid w z c t).1) (hid (laid w z c t).2)
theorem PathD.c96{p:PathD}(h:p.ok):p.cells[96]? = some (.int .i64 p.wait):=by
 unfold PathD.cells
 rw [List.getElem?_append_right (by simp [h.own.1]),List.getElem?_append_right (by simp [h.own.1,h.also.1]),List.getElem?_append_right (by simp [h.own.1,h.also.1,h.lock.1])]
 simp [h.own.1,h.also.1,h.lock.1]
theorem PathD.c97{p:PathD}(h:p.ok):p.cells[97]? = some (.int .i64 p.till):=by
 unfold PathD.cells
 rw [List.getElem?_append_right (by simp [h.own.1]),List.getElem?_append_right (by simp [h.own.1,h.also.1]),List.getElem?_append_right (by simp [h.own.1,h.also.1,h.lock.1])]
 simp [h.own.1,h.also.1,h.lock.1]
theorem PathD.one(p:PathD):∀u∈p.cells,u.oneCell'=true:=by
 intro u hu
 unfold PathD.cells at hu
 simp only [List.mem_append,List.mem_cons,List.not_mem_nil,or_false] at hu
 rcases hu with h|h|h|rfl|rfl
 ·exact nums_oneCell _ _ u h
 ·exact nums_oneCell _ _ u h
 ·exact nums_oneCell _ _ u h
 ·rfl
 ·rfl
theorem code_bad{o:OutD}{i:Nat}{p:PathD}(h0:¬ o.paths.length=0)(h4:¬ 4<o.paths.length)(hp:o.paths[i]? = some p)(hb:p.wait<0∨1073741824<p.wait∨p.till<0∨1073741824<p.till):(1:Int)=(o.code:Int):=by
 unfold OutD.code
 rw [if_neg (fun e=>by rcases e with e|e;exact h0 e;exact h4 e),if_pos (List.any_eq_true.2 ⟨p,List.mem_of_getElem? hp,decide_eq_true hb⟩)]
 rfl
theorem pathsOne{w:World}{o:OutD}(h:o.good w):∀p∈o.paths,(PathD.cells p).length=98:=fun p hp=>PathD.len (h.ok p hp)
set_option maxRecDepth 100000 in
set_option maxHeartbeats 4000000 in
theorem ocheck_walk(o:OutD)(w:World)(h:o.good w):Calls Tryz.prog 33 #[.agg o.cells.toArray] w fun e w'=>e = .returned (.int .i64 (o.code:Int))∧Below w.heap.size w w':=by
 obtain⟨N,hN⟩:∃N,N=o.paths.length:=⟨_,rfl⟩
 obtain⟨pc,hpc⟩:∃pc,pc=o.pc:=⟨_,rfl⟩
 obtain⟨pa,hpa⟩:∃pa,pa=o.pa:=⟨_,rfl⟩
 obtain⟨oc,hoc⟩:∃oc,oc=o.cells:=⟨_,rfl⟩
 have ol:=OutD.len h
 have NB:=hid (show N≤9223372036854775807 by rw [hN];have:=h.paths.2.1;have:=h.paths.2.2.1;unfold maxLen at this;omega)
 have b1:=(Below.refl w.heap.size w).alloc (Nat.le_refl _) (.cells oc.toArray 66)
 have c1:(w.alloc (.cells oc.toArray 66)).cell? ⟨w.heap.size,1,none⟩=some (.slice pa N pc):=gen_cell (j:=1) (row_range (heap_alloc_new w _)) (by rw [hoc,hpa,hpc,hN];rfl)
 have B1:=hid b1
 have G:=hid h
 have NN:=hid hN
 have PP:=hid (show Rd w 98 pa N pc (o.paths.flatMap PathD.cells) by rw [hpa,hpc,hN];exact h.paths)
 rw [← hoc]
 clear hoc hpc hpa hN h b1
 go_enter Tryz.func33,Tryz.ntmps33
 go_upto_region 1 with(fail)
 generalize w.alloc (.cells oc.toArray 66)=w1 at *
 by_cases h0:N=0
 ·have t1:((N:Int) == 0)=true:=by rw [beq_iff_eq];omega
  have t2:(N == 0)=true:=by rw [beq_iff_eq];omega
  have H0:=hid h0
  clear h0
  go_wp2_with (fail)
  go_ret
  refine⟨?_,B1.out⟩
  unfold OutD.code
  rw [if_pos (.inl (by rw [← NN.out];exact H0.out))]
  rfl
 have t1:((N:Int) == 0)=false:=by rw [beq_eq_false_iff_ne];omega
 have t2:(N == 0)=false:=by rw [beq_eq_false_iff_ne];omega
 by_cases h4:4<N
 ·have t3:decide ((4:Int)<(N:Int))=true:=decide_eq_true (by omega)
  have t4:decide (4<N)=true:=decide_eq_true h4
  have H4:=hid h4
  clear h0 h4
  go_wp2_with (fail)
  go_ret
  refine⟨?_,B1.out⟩
  unfold OutD.code
  rw [if_pos (.inr (by rw [← NN.out];exact H4.out))]
  rfl
 have t3:decide ((4:Int)<(N:Int))=false:=decide_eq_false (by omega)
 have t4:decide (4<N)=false:=decide_eq_false h4
 have HN:=hid (And.intro h0 h4)
 clear h0 h4
 go_upto_region 4 with(fail)
 clear t1 t2 t3 t4
 go_loopw [18] (fun x18 wr=>∃i:Nat,i≤N∧x18 = .int .i64 (i:Int)∧(o.paths.take i).any PathD.bad=false∧Below w.heap.size w wr) (fun x18 _=>N - (intOf x18).toNat)
 case atStart=>exact⟨0,Nat.zero_le _,rfl,by simp,B1.out⟩
 case round=>
  obtain⟨i,hi,rfl,hbad,hb⟩:=hrel
  have BR:=hid hb
  have BD:=hid hbad
  clear hb hbad
  by_cases hlt:i<N
  case neg=>
   obtain rfl:i=N:=by omega
   have t1:decide (i<i)=false:=decide_eq_false (by omega)
   have t2:decide ((i:Int)<(i:Int))=false:=decide_eq_false (by omega)
   clear hi hlt
   go_wp2_with (fail)
   go_ret
   refine⟨?_,BR.out⟩
   have hbd:=BD.out
   rw [NN.out,List.take_length] at hbd
   unfold OutD.code
   rw [if_neg (by rw [← NN.out];exact fun e=>by rcases e with e|e;exact HN.out.1 e;exact HN.out.2 e),if_neg (by rw [hbd];decide)]
   rfl
  have t1:decide (i<N)=true:=decide_eq_true hlt
  have t2:decide ((i:Int)<(N:Int))=true:=decide_eq_true (by omega)
  obtain⟨p,hp⟩:∃p,o.paths[i]? = some p:=⟨_,List.getElem?_eq_getElem (by rw [← NN.out];exact hlt)⟩
  obtain⟨b,off,rfl,rg⟩:=rd_row (pathsOne G.out) PP.out hp hlt
  have rgr:=range_keep BR.out rg
  have pok:=G.out.ok p (List.mem_of_getElem? hp)
  obtain⟨pcs,hpcs⟩:∃pcs,pcs=p.cells:=⟨_,rfl⟩
  have PL:=hid (show pcs.length=98 by rw [hpcs];exact PathD.len pok)
  rw [← hpcs] at rgr
  have hiC:=hid (show(Tryz.prog.info? 121).map (·.size)=some pcs.length by rw [PL.out];kernel_rfl)
  have hiCa:=hid (show(Tryz.prog.info? 121).map (·.size)=some pcs.toArray.size by rw [List.size_toArray,PL.out];kernel_rfl)
  have hoC:=hid (show 98=pcs.toArray.size by rw [List.size_toArray,PL.out])
  have h16:=hid (show(pcs.toArray.all fun x=>x.oneCell')=true by rw [hpcs];exact all_oneCell_toArray (PathD.one p))
  have t6:(i:Int)<(N:Int):=by omega
  have t7:¬ ((N:Int)≤(i:Int)):=by omega
  have t8:¬ (N≤i):=by omega
  have t9:i<N:=hlt
  obtain⟨i1,hi1⟩:∃i1,i1=i+1:=⟨_,rfl⟩
  have r4:IntKind.i64.wrap ((i:Int)+1)=(i1:Int):=by have:=NB.out;rw [IntKind.wrap_i64];omega
  have I1:=hid (And.intro hi1 hlt)
  have PC:=hid (show pcs[96]? = some (.int .i64 p.wait)∧pcs[97]? = some (.int .i64 p.till) from by rw [hpcs];exact⟨PathD.c96 pok,PathD.c97 pok⟩)
  have HP:=hid hp
  clear hi hlt hp rg pok hpcs hi1
  go_upto_region 6 with(first|with_reducible refine wpList_load_mid rfl _ _ rfl b (off+i*98) rfl pcs _ rgr Tryz.underlying121 rfl hiC.out ?_|(refine wpList_store_row rfl _ _ _ rfl wr.heap.size pcs.toArray rfl rfl _ _ (heap_alloc_new _ _) hiCa.out hoC.out h16.out ?_;refine laidW (F:=fun w3=>wpList _ _ _ _ _ w3) ?_;intro w3 h3 b3))
  have c96:=gen_cell (j:=96) (row_range h3.out) PC.out.1
  have c97:=gen_cell (j:=97) (row_range h3.out) PC.out.2
  have B3:=hid (BR.out.trans (b3.out.mono BR.out.size))
  obtain⟨wt,hwt⟩:∃wt,wt=p.wait:=⟨_,rfl⟩
  obtain⟨tl,htl⟩:∃tl,tl=p.till:=⟨_,rfl⟩
  rw [← hwt] at c96
  rw [← htl] at c97
  have WT:=hid (And.intro hwt htl)
  clear hwt htl h3 b3 t1 t2 t6 t7 t8 t9 rgr
  have BADR:=fun(hb:wt<0∨1073741824<wt∨tl<0∨1073741824<tl)=>hid (code_bad (o:=o) (i:=i) (p:=p) (by rw [← NN.out];exact HN.out.1) (by rw [← NN.out];exact HN.out.2) HP.out (by rw [← WT.out.1,← WT.out.2];exact hb))
  by_cases k1:wt<0
  ·have E:=BADR (.inl k1)
   have u1:decide (wt<0)=true:=decide_eq_true k1
   clear BADR k1
   go_wp2_with (fail)
   go_ret
   exact⟨congrArg (fun n=>Ending.returned (Value.int .i64 n)) E.out,B3.out⟩
  have u1:decide (wt<0)=false:=decide_eq_false k1
  by_cases k2:1073741824<wt
  ·have E:=BADR (.inr (.inl k2))
   have u2:decide (1073741824<wt)=true:=decide_eq_true k2
   clear BADR k1 k2
   go_wp2_with (fail)
   go_ret
   exact⟨congrArg (fun n=>Ending.returned (Value.int .i64 n)) E.out,B3.out⟩
  have u2:decide (1073741824<wt)=false:=decide_eq_false k2
  by_cases k3:tl<0
  ·have E:=BADR (.inr (.inr (.inl k3)))
   have u3:decide (tl<0)=true:=decide_eq_true k3
   clear BADR k1 k2 k3
   go_wp2_with (fail)
   go_ret
   exact⟨congrArg (fun n=>Ending.returned (Value.int .i64 n)) E.out,B3.out⟩
  have u3:decide (tl<0)=false:=decide_eq_false k3
  by_cases k4:1073741824<tl
  ·have E:=BADR (.inr (.inr (.inr k4)))
   have u4:decide (1073741824<tl)=true:=decide_eq_true k4
   clear BADR k1 k2 k3 k4
   go_wp2_with (fail)
   go_ret
   exact⟨congrArg (fun n=>Ending.returned (Value.int .i64 n)) E.out,B3.out⟩
  have u4:decide (1073741824<tl)=false:=decide_eq_false k4
  have FB:=hid (show PathD.bad p=false from decide_eq_false (by rw [← WT.out.1,← WT.out.2];omega))
  clear BADR k1 k2 k3 k4
  go_wp2_with (fail)
  go_roundw
  case rel=>exact⟨i1,by have:=I1.out;omega,rfl,by rw [I1.out.1,List.take_add_one,HP.out,List.any_append,BD.out];simp [FB.out],B3.out⟩
  case measure=>simp [intOf];have:=I1.out;omega
end Go.Proofs.YtnbmpgballopeaaGreatDoor
/- The reference's CheckOut. -/
namespace Go.Proofs.YtnbmpgballopeaaGreatDoor
open Go.RowKit
set_option maxRecDepth 100000 in
set_option maxHeartbeats 4000000 in
theorem rocheck_walk(o:OutD)(w:World)(h:o.good w):Calls Tryz.prog 35 #[.agg o.cells.toArray] w fun e w'=>e = .returned (.int .i64 (o.code:Int))∧Below w.heap.size w w':=by
 obtain⟨N,hN⟩:∃N,N=o.paths.length:=⟨_,rfl⟩
 obtain⟨pc,hpc⟩:∃pc,pc=o.pc:=⟨_,rfl⟩
 obtain⟨pa,hpa⟩:∃pa,pa=o.pa:=⟨_,rfl⟩
 obtain⟨oc,hoc⟩:∃oc,oc=o.cells:=⟨_,rfl⟩
 have ol:=OutD.len h
 have NB:=hid (show N≤9223372036854775807 by rw [hN];have:=h.paths.2.1;have:=h.paths.2.2.1;unfold maxLen at this;omega)
 have b1:=(Below.refl w.heap.size w).alloc (Nat.le_refl _) (.cells oc.toArray 96)
 have c1:(w.alloc (.cells oc.toArray 96)).cell? ⟨w.heap.size,1,none⟩=some (.slice pa N pc):=gen_cell (j:=1) (row_range (heap_alloc_new w _)) (by rw [hoc,hpa,hpc,hN];rfl)
 have B1:=hid b1
 have G:=hid h
 have NN:=hid hN
 have PP:=hid (show Rd w 98 pa N pc (o.paths.flatMap PathD.cells) by rw [hpa,hpc,hN];exact h.paths)
 rw [← hoc]
 clear hoc hpc hpa hN h b1
 go_enter Tryz.func35,Tryz.ntmps35
 go_upto_region 1 with(fail)
 generalize w.alloc (.cells oc.toArray 96)=w1 at *
 by_cases h0:N=0
 ·have t1:decide ((N:Int)<1)=true:=decide_eq_true (by omega)
  have t2:decide (N<1)=true:=decide_eq_true (by omega)
  have H0:=hid h0
  clear h0
  go_wp2_with (fail)
  go_ret
  refine⟨?_,B1.out⟩
  unfold OutD.code
  rw [if_pos (.inl (by rw [← NN.out];exact H0.out))]
  rfl
 have t1:decide ((N:Int)<1)=false:=decide_eq_false (by omega)
 have t2:decide (N<1)=false:=decide_eq_false (by omega)
 by_cases h4:4<N
 ·have t3:decide ((4:Int)<(N:Int))=true:=decide_eq_true (by omega)
  have t4:decide (4<N)=true:=decide_eq_true h4
  have H4:=hid h4
  clear h0 h4
  go_wp2_with (fail)
  go_ret
  refine⟨?_,B1.out⟩
  unfold OutD.code
  rw [if_pos (.inr (by rw [← NN.out];exact H4.out))]
  rfl
 have t3:decide ((4:Int)<(N:Int))=false:=decide_eq_false (by omega)
 have t4:decide (4<N)=false:=decide_eq_false h4
 have HN:=hid (And.intro h0 h4)
 clear h0 h4
 go_upto_region 4 with(fail)
 clear t1 t2 t3 t4
 go_loopw [18] (fun x18 wr=>∃i:Nat,i≤N∧x18 = .int .i64 (i:Int)∧(o.paths.take i).any PathD.bad=false∧Below w.heap.size w wr) (fun x18 _=>N - (intOf x18).toNat)
 case atStart=>exact⟨0,Nat.zero_le _,rfl,by simp,B1.out⟩
 case round=>
  obtain⟨i,hi,rfl,hbad,hb⟩:=hrel
  have BR:=hid hb
  have BD:=hid hbad
  clear hb hbad
  by_cases hlt:i<N
  case neg=>
   obtain rfl:i=N:=by omega
   have t1:decide (i<i)=false:=decide_eq_false (by omega)
   have t2:decide ((i:Int)<(i:Int))=false:=decide_eq_false (by omega)
   clear hi hlt
   go_wp2_with (fail)
   go_ret
   refine⟨?_,BR.out⟩
   have hbd:=BD.out
   rw [NN.out,List.take_length] at hbd
   unfold OutD.code
   rw [if_neg (by rw [← NN.out];exact fun e=>by rcases e with e|e;exact HN.out.1 e;exact HN.out.2 e),if_neg (by rw [hbd];decide)]
   rfl
  have t1:decide (i<N)=true:=decide_eq_true hlt
  have t2:decide ((i:Int)<(N:Int))=true:=decide_eq_true (by omega)
  obtain⟨p,hp⟩:∃p,o.paths[i]? = some p:=⟨_,List.getElem?_eq_getElem (by rw [← NN.out];exact hlt)⟩
  obtain⟨b,off,rfl,rg⟩:=rd_row (pathsOne G.out) PP.out hp hlt
  have rgr:=range_keep BR.out rg
  have pok:=G.out.ok p (List.mem_of_getElem? hp)
  obtain⟨pcs,hpcs⟩:∃pcs,pcs=p.cells:=⟨_,rfl⟩
  have PL:=hid (show pcs.length=98 by rw [hpcs];exact PathD.len pok)
  rw [← hpcs] at rgr
  have hiC:=hid (show(Tryz.prog.info? 152).map (·.size)=some pcs.length by rw [PL.out];kernel_rfl)
  have hiCa:=hid (show(Tryz.prog.info? 152).map (·.size)=some pcs.toArray.size by rw [List.size_toArray,PL.out];kernel_rfl)
  have hoC:=hid (show 98=pcs.toArray.size by rw [List.size_toArray,PL.out])
  have h16:=hid (show(pcs.toArray.all fun x=>x.oneCell')=true by rw [hpcs];exact all_oneCell_toArray (PathD.one p))
  have t6:(i:Int)<(N:Int):=by omega
  have t7:¬ ((N:Int)≤(i:Int)):=by omega
  have t8:¬ (N≤i):=by omega
  have t9:i<N:=hlt
  obtain⟨i1,hi1⟩:∃i1,i1=i+1:=⟨_,rfl⟩
  have r4:IntKind.i64.wrap ((i:Int)+1)=(i1:Int):=by have:=NB.out;rw [IntKind.wrap_i64];omega
  have I1:=hid (And.intro hi1 hlt)
  have PC:=hid (show pcs[96]? = some (.int .i64 p.wait)∧pcs[97]? = some (.int .i64 p.till) from by rw [hpcs];exact⟨PathD.c96 pok,PathD.c97 pok⟩)
  have HP:=hid hp
  clear hi hlt hp rg pok hpcs hi1
  go_upto_region 6 with(first|with_reducible refine wpList_load_mid rfl _ _ rfl b (off+i*98) rfl pcs _ rgr Tryz.underlying152 rfl hiC.out ?_|(refine wpList_store_row rfl _ _ _ rfl wr.heap.size pcs.toArray rfl rfl _ _ (heap_alloc_new _ _) hiCa.out hoC.out h16.out ?_;refine laidW (F:=fun w3=>wpList _ _ _ _ _ w3) ?_;intro w3 h3 b3))
  have c96:=gen_cell (j:=96) (row_range h3.out) PC.out.1
  have c97:=gen_cell (j:=97) (row_range h3.out) PC.out.2
  have B3:=hid (BR.out.trans (b3.out.mono BR.out.size))
  obtain⟨wt,hwt⟩:∃wt,wt=p.wait:=⟨_,rfl⟩
  obtain⟨tl,htl⟩:∃tl,tl=p.till:=⟨_,rfl⟩
  rw [← hwt] at c96
  rw [← htl] at c97
  have WT:=hid (And.intro hwt htl)
  clear hwt htl h3 b3 t1 t2 t6 t7 t8 t9 rgr
  have BADR:=fun(hb:wt<0∨1073741824<wt∨tl<0∨1073741824<tl)=>hid (code_bad (o:=o) (i:=i) (p:=p) (by rw [← NN.out];exact HN.out.1) (by rw [← NN.out];exact HN.out.2) HP.out (by rw [← WT.out.1,← WT.out.2];exact hb))
  by_cases k1:wt<0
  ·have E:=BADR (.inl k1)
   have u1:decide (wt<0)=true:=decide_eq_true k1
   clear BADR k1
   go_wp2_with (fail)
   go_ret
   exact⟨congrArg (fun n=>Ending.returned (Value.int .i64 n)) E.out,B3.out⟩
  have u1:decide (wt<0)=false:=decide_eq_false k1
  by_cases k2:1073741824<wt
  ·have E:=BADR (.inr (.inl k2))
   have u2:decide (1073741824<wt)=true:=decide_eq_true k2
   clear BADR k1 k2
   go_wp2_with (fail)
   go_ret
   exact⟨congrArg (fun n=>Ending.returned (Value.int .i64 n)) E.out,B3.out⟩
  have u2:decide (1073741824<wt)=false:=decide_eq_false k2
  by_cases k3:tl<0
  ·have E:=BADR (.inr (.inr (.inl k3)))
   have u3:decide (tl<0)=true:=decide_eq_true k3
   clear BADR k1 k2 k3
   go_wp2_with (fail)
   go_ret
   exact⟨congrArg (fun n=>Ending.returned (Value.int .i64 n)) E.out,B3.out⟩
  have u3:decide (tl<0)=false:=decide_eq_false k3
  by_cases k4:1073741824<tl
  ·have E:=BADR (.inr (.inr (.inr k4)))
   have u4:decide (1073741824<tl)=true:=decide_eq_true k4
   clear BADR k1 k2 k3 k4
   go_wp2_with (fail)
   go_ret
   exact⟨congrArg (fun n=>Ending.returned (Value.int .i64 n)) E.out,B3.out⟩
  have u4:decide (1073741824<tl)=false:=decide_eq_false k4
  have FB:=hid (show PathD.bad p=false from decide_eq_false (by rw [← WT.out.1,← WT.out.2];omega))
  clear BADR k1 k2 k3 k4
  go_wp2_with (fail)
  go_roundw
  case rel=>exact⟨i1,by have:=I1.out;omega,rfl,by rw [I1.out.1,List.take_add_one,HP.out,List.any_append,BD.out];simp [FB.out],B3.out⟩
  case measure=>simp [intOf];have:=I1.out;omega
end Go.Proofs.YtnbmpgballopeaaGreatDoor

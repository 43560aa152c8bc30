/- The chain's Encode. -/
import Derived.Test.YtnbmpgballopeaaGreatDoorZParts
import Derived.Test.YtnbmpgballopeaaGreatDoorZEncR
import Derived.Test.YtnbmpgballopeaaGreatDoorZCht
import Derived.Test.YtnbmpgballopeaaGreatDoorZChg
import Derived.Test.YtnbmpgballopeaaGreatDoorZRe8
import Derived.Test.YtnbmpgballopeaaGreatDoorZChr
namespace Go.Proofs.YtnbmpgballopeaaGreatDoor
open Go.RowKit
def encC(t:TxD):Nat:=if t.code≠0 then t.code else encE (recsT t.ins t.outs)
def encB(t:TxD):List Nat:=if encC t=0 then encAll (recsT t.ins t.outs) else []
def CEncR(w:World)(t:TxD)(e:Ending)(w':World):Prop:=∃v,e = .returned (.tuple #[v,.int .i64 ((encC t:Nat):Int)])∧SlV .u8 w' v (encB t)∧Below w.heap.size w w'
theorem insQ_len:∀ {is:List InD},(∀i∈is,i.ok)→(is.flatMap inQ).length=133*is.length
 | [],_=>rfl
 | i::r,h=>by
  rw [List.flatMap_cons,List.length_append,inQ_len (h i (by simp)),insQ_len (fun q hq=>h q (by simp [hq])),List.length_cons];omega
theorem inQ_lt{i:InD}(h:i.ok):∀d∈inQ i,d<256:=by
 intro d hd
 simp only [inQ,List.mem_append,List.mem_cons] at hd
 rcases hd with hd|hd|rfl|hd|hd|hd
 ·exact h.tx.2 d hd
 ·exact f4_lt _ d hd
 ·omega
 ·exact h.token.2 d hd
 ·exact h.more.2 d hd
 ·exact h.secret.2 d hd
theorem outB_lt{o:OutD}(ha:H32b o.anchor)(h:∀p∈o.paths,p.ok)(h4:o.paths.length≤4):∀d∈outB o,d<256:=by
 intro d hd
 simp only [outB,List.mem_append,List.mem_cons,List.mem_flatMap] at hd
 rcases hd with hd|hd|hd|rfl|⟨p,hp,hd⟩
 ·exact f4_lt _ d hd
 ·exact f4_lt _ d hd
 ·exact ha.2 d hd
 ·omega
 ·have pk:=h p hp
  simp only [pathB,List.mem_append] at hd
  rcases hd with hd|hd|hd|hd|hd
  ·exact pk.own.2 d hd
  ·exact pk.also.2 d hd
  ·exact pk.lock.2 d hd
  ·exact f4_lt _ d hd
  ·exact f4_lt _ d hd
theorem InD.mor{i:InD}(h:i.ok):(i.cells.drop 66).take 32=nums .u8 i.more:=by
 unfold InD.cells
 rw [show nums .u8 i.tx++(Value.int .i64 i.out::Value.int .i64 i.path::(nums .u8 i.token++(nums .u8 i.more++nums .u8 i.secret)))=(nums .u8 i.tx++([Value.int .i64 i.out,Value.int .i64 i.path]++nums .u8 i.token))++(nums .u8 i.more++nums .u8 i.secret) by simp]
 rw [List.drop_left' (by simp [h.tx.1,h.token.1]),List.take_left' (by simp [h.more.1])]
theorem InD.sec{i:InD}(h:i.ok):(i.cells.drop 98).take 32=nums .u8 i.secret:=by
 unfold InD.cells
 rw [show nums .u8 i.tx++(Value.int .i64 i.out::Value.int .i64 i.path::(nums .u8 i.token++(nums .u8 i.more++nums .u8 i.secret)))=(nums .u8 i.tx++([Value.int .i64 i.out,Value.int .i64 i.path]++(nums .u8 i.token++nums .u8 i.more)))++nums .u8 i.secret by simp]
 rw [List.drop_left' (by simp [h.tx.1,h.token.1,h.more.1]),List.take_of_length_le (by simp [h.secret.1])]
set_option maxRecDepth 100000 in
set_option maxHeartbeats 8000000 in
theorem cenc_walk(t:TxD)(w:World)(h:t.good w):Calls Tryz.prog 6 #[.agg t.cells.toArray] w (CEncR w t):=by
 have G:=hid h
 obtain⟨tc,htc⟩:∃tc,tc=t.cells:=⟨_,rfl⟩
 have TL:=hid (show tc.length=2 by rw [htc];rfl)
 have HTC:=hid htc
 have CK:=fun(wx:World) (bx:Below w.heap.size w wx)=>hid (show Calls Tryz.prog 9 #[.agg tc.toArray] wx _ from by rw [htc];exact tcheck_walk t wx (G.out.below bx))
 have hiT:=hid (show(Tryz.prog.info? 25).map (·.size)=some tc.length by rw [TL.out];kernel_rfl)
 have HA:=hid (heap_alloc_new w (.cells tc.toArray 25))
 have B1:=hid ((Below.refl w.heap.size w).alloc (Nat.le_refl _) (.cells tc.toArray 25))
 obtain⟨N,hN⟩:∃N,N=t.ins.length:=⟨_,rfl⟩
 obtain⟨M,hM⟩:∃M,M=t.outs.length:=⟨_,rfl⟩
 obtain⟨ia,hia⟩:∃ia,ia=t.ia:=⟨_,rfl⟩
 obtain⟨ic,hic⟩:∃ic,ic=t.ic:=⟨_,rfl⟩
 obtain⟨oa,hoa⟩:∃oa,oa=t.oa:=⟨_,rfl⟩
 obtain⟨oc,hoc⟩:∃oc,oc=t.oc:=⟨_,rfl⟩
 have NN:=hid (And.intro hN hM)
 have PI:=hid (show Rd w 130 ia N ic (t.ins.flatMap InD.cells) by rw [hia,hic,hN];exact h.ins)
 have PO:=hid (show Rd w 34 oa M oc (t.outs.flatMap OutD.cells) by rw [hoa,hoc,hM];exact h.outs)
 have TCE:=hid (show tc=[.slice ia N ic,.slice oa M oc] by rw [htc];unfold TxD.cells;rw [hia,hic,hN,hoa,hoc,hM])
 rw [← htc]
 clear h htc hN hM hia hic hoa hoc
 go_enter Tryz.func6,Tryz.ntmps6
 go_upto_region 1 with(fail)
 generalize w.alloc (.cells tc.toArray 25)=w1 at *
 have rT:=row_range HA.out
 go_wp2_with (with_reducible refine wpList_load_mid rfl _ _ rfl w.heap.size 0 rfl tc _ rT Tryz.underlying25 rfl hiT.out ?_)
 refine(CK w1 B1.out).out.mono ?_
 rintro e w2 ⟨rfl,b2⟩
 have B2:=hid (show Below w.heap.size w w2 from B1.out.trans (b2.mono B1.out.size))
 have HA2:=hid (heap_keep HA.out b2)
 clear b2 rT
 by_cases hz:t.code=0
 case neg=>
  have v1:((t.code:Int) != 0)=true:=by rw [bne_iff_ne];omega
  have HZ:=hid hz
  clear hz
  go_wp2_with (fail)
  go_ret2
  have e:encC t=t.code:=by unfold encC;rw [if_pos HZ.out]
  refine⟨_,by rw [e];rfl,?_,B2.out⟩
  unfold encB
  rw [e,if_neg HZ.out]
  exact(Sl.nilS .u8 _ (Nat.zero_le _) (fun _=>rfl)).toV
 have v1:((t.code:Int) != 0)=false:=by rw [bne_eq_false_iff_eq];omega
 have CZ:=hid (code_zero hz)
 have CB:=hid (code_ins hz)
 have EC:=hid (show encC t=encE (recsT t.ins t.outs) by unfold encC;rw [if_neg (by omega)])
 have NB:=hid (show N≤256∧M≤256 from⟨by rw [NN.out.1];exact CZ.out.1,by rw [NN.out.2];exact CZ.out.2.1⟩)
 have OLEN:=hid (show(t.outs.flatMap outB).length≤457*256 from by
  have h1:=outsB_len (os:=t.outs) (fun o ho=>⟨(G.out.ook o ho).anchor.1,(G.out.ook o ho).ok,CZ.out.2.2 o ho⟩)
  have h2:=CZ.out.2.1
  omega)
 have ILEN:=hid (show ∀k,((t.ins.take k).flatMap inQ).length≤133*256 from fun k=>by
  have h2:=CZ.out.1
  rw [insQ_len (fun i hi=>G.out.iok i (List.mem_of_mem_take hi)),List.length_take];omega)
 have k0:w2.cell? ⟨w.heap.size,0,none⟩=some (.slice ia N ic):=gen_cell (j:=0) (row_range HA2.out) (by rw [TCE.out];rfl)
 have K1:=hid (show w2.cell? ⟨w.heap.size,1,none⟩=some (.slice oa M oc) from gen_cell (j:=1) (row_range HA2.out) (by rw [TCE.out];rfl))
 have L2:=hid (show w.heap.size<w2.heap.size from(Array.getElem?_eq_some_iff.1 HA2.out).1)
 clear hz
 go_upto_region 6 with(fail)
 clear v1 k0
 go_loopw [5,16] (fun x5 x16 wr=>∃(k:Nat) (v5:Value),v5=x5∧k≤N∧x16 = .int .i64 (k:Int)∧wr.ownsRow w2.heap.size 5 1 v5 ((t.ins.take k).flatMap inQ).length (nums .u8 ((t.ins.take k).flatMap inQ))∧Below w2.heap.size w2 wr) (fun _ x16 _=>N - (intOf x16).toNat)
 case atStart=>exact⟨0,_,rfl,Nat.zero_le _,rfl,⟨by simp,.inl ⟨rfl,rfl⟩⟩,Below.refl _ _⟩
 case round=>
  obtain⟨k,v5,hv5,hk,rfl,ho,hb⟩:=hrel
  obtain⟨wo,rfl⟩:∃wo,wo=wr:=⟨_,rfl⟩
  subst hv5
  have BR:=hid hb
  have OW:=hid ho
  have BW:=hid (B2.out.trans (hb.mono B2.out.size))
  clear hb ho
  by_cases hlk:k<N
  case neg=>
   obtain rfl:k=N:=by omega
   have u1:decide (k<k)=false:=decide_eq_false (by omega)
   have u2:decide ((k:Int)<(k:Int))=false:=decide_eq_false (by omega)
   have k1':=cell_keep BR.out K1.out
   have CO:=hid (couts_walk oa M oc t.outs wo NN.out.2 (PO.out.below BW.out) (fun o ho=>(G.out.ook o ho).below BW.out) CZ.out.2.2 NB.out.2)
   obtain⟨ib,hib⟩:∃ib,ib=(t.ins.take k).flatMap inQ:=⟨_,rfl⟩
   have IB:=hid (show ib=t.ins.flatMap inQ by rw [hib,NN.out.1,List.take_length])
   have IL:=hid (show ib.length≤34048 by rw [hib];exact ILEN.out k)
   rw [← hib] at OW
   obtain⟨il,hil⟩:∃il,il=ib.length:=⟨_,rfl⟩
   rw [← hil] at OW IL
   have HIL:=hid hil
   obtain⟨a5,c5,rfl,rd5⟩:=Rd.of_owns OW.out
   have RD5:=hid rd5
   clear hk hlk hib hil rd5
   go_wp2_with (fail)
   refine CO.out.mono ?_
   rintro e w6 ⟨v6,rfl,o6,b6⟩
   obtain⟨ob,hob⟩:∃ob,ob=t.outs.flatMap outB:=⟨_,rfl⟩
   rw [← hob] at o6
   obtain⟨ol,hol⟩:∃ol,ol=ob.length:=⟨_,rfl⟩
   have OB:=hid (show ob=t.outs.flatMap outB from hob)
   have HOL:=hid (show ol≤457*256∧ol=ob.length from⟨by rw [hol,hob];exact OLEN.out,hol⟩)
   rw [← hol] at o6
   obtain⟨a6,c6,rfl,rd6⟩:=Rd.of_owns o6
   have RD6:=hid rd6
   have B6:=hid b6
   have RG:=hid (show Recs (w6.alloc (.cells #[.int .u64 0,.slice a5 il c5,.int .u64 2,.slice a6 ol c6] 82)) (some ⟨w6.heap.size,0,none⟩) 2 2 [LR.mk 0 a5 c5 ib,LR.mk 2 a6 c6 ob] from
    recs_lit' _ rfl (by simp [LR.cells,HIL.out,HOL.out.2]) rfl (by decide) (fun l hl=>by
     simp only [List.mem_cons,List.not_mem_nil,or_false] at hl
     rcases hl with rfl|rfl
     ·refine⟨(by decide:(0:Nat)<18446744073709551616),?_,?_,?_⟩
      ·show Sl .u8 w6 a5 ib.length c5 ib
       rw [← HIL.out];exact Rd.below RD5.out B6.out
      ·intro d hd
       have hd':d∈ib:=hd
       rw [IB.out] at hd'
       obtain⟨i,hi,hd'⟩:=List.mem_flatMap.1 hd'
       exact inQ_lt (G.out.iok i hi) d hd'
      ·show ib.length≤_
       have:=IL.out;have:=HIL.out;omega
     ·refine⟨(by decide:(2:Nat)<18446744073709551616),?_,?_,?_⟩
      ·show Sl .u8 w6 a6 ob.length c6 ob
       rw [← HOL.out.2];exact RD6.out
      ·intro d hd
       have hd':d∈ob:=hd
       rw [OB.out] at hd'
       obtain⟨o,ho,hd'⟩:=List.mem_flatMap.1 hd'
       exact outB_lt (G.out.ook o ho).anchor (G.out.ook o ho).ok (CZ.out.2.2 o ho) d hd'
      ·show ob.length≤_
       have:=HOL.out;omega))
   have EN:=hid (enc_walk (some ⟨w6.heap.size,0,none⟩) 2 2 [LR.mk 0 a5 c5 ib,LR.mk 2 a6 c6 ob] _ RG.out)
   have ER:=hid (show [LR.mk 0 a5 c5 ib,LR.mk 2 a6 c6 ob].map LR.pr=recsT t.ins t.outs from by unfold recsT;rw [← IB.out,← OB.out];rfl)
   clear o6 b6 rd6 CO k1' hob hol
   go_wp2_with (fail)
   refine EN.out.mono ?_
   rintro e w7 ⟨v7,rfl,s7,b7⟩
   rw [ER.out] at s7 ⊢
   have S7:=hid s7
   have B7:=hid b7
   clear s7 b7 EN
   go_wp2_with (fail)
   go_ret2
   refine⟨v7,by rw [EC.out];rfl,by unfold encB;rw [EC.out];exact S7.out,?_⟩
   have b6w:=BW.out.trans (B6.out.mono BW.out.size)
   have b7w:=b6w.alloc b6w.size (.cells #[.int .u64 0,.slice a5 il c5,.int .u64 2,.slice a6 ol c6] 82)
   exact b7w.trans (B7.out.mono b7w.size)
  have u1:decide (k<N)=true:=decide_eq_true hlk
  have u2:decide ((k:Int)<(N:Int))=true:=decide_eq_true (by omega)
  have u6:(k:Int)<(N:Int):=by omega
  have u7:¬ ((N:Int)≤(k:Int)):=by omega
  have u8':¬ (N≤k):=by omega
  obtain⟨x,hx⟩:∃x,t.ins[k]? = some x:=⟨_,List.getElem?_eq_getElem (by rw [← NN.out.1];exact hlk)⟩
  have xok:=hid (G.out.iok x (List.mem_of_getElem? hx))
  have xbd:=CB.out x (List.mem_of_getElem? hx)
  obtain⟨b,off,rfl,rg⟩:=rd_row (fun z hz=>InD.len (G.out.iok z hz)) PI.out hx hlk
  have rgr:=range_keep BW.out rg
  obtain⟨xcs,hxcs⟩:∃xcs,xcs=x.cells:=⟨_,rfl⟩
  have XL:=hid (show xcs.length=130 by rw [hxcs];exact InD.len xok.out)
  rw [← hxcs] at rgr
  have hiC:=hid (show(Tryz.prog.info? 69).map (·.size)=some xcs.length by rw [XL.out];kernel_rfl)
  have hiCa:=hid (show(Tryz.prog.info? 69).map (·.size)=some xcs.toArray.size by rw [List.size_toArray,XL.out];kernel_rfl)
  have hoC:=hid (show 130=xcs.toArray.size by rw [List.size_toArray,XL.out])
  have h16:=hid (show(xcs.toArray.all fun x=>x.oneCell')=true by rw [hxcs];exact all_oneCell_toArray (InD.one x))
  obtain⟨k1n,hk1⟩:∃k1n,k1n=k+1:=⟨_,rfl⟩
  have r4:IntKind.i64.wrap ((k:Int)+1)=(k1n:Int):=by have:=NB.out;rw [IntKind.wrap_i64];omega
  have I1:=hid (And.intro hk1 hlk)
  obtain⟨pn,hpn⟩:∃pn,pn=(x.path % 256).toNat:=⟨_,rfl⟩
  obtain⟨px',hpx'⟩:∃px',px'=x.path:=⟨_,rfl⟩
  have r5:IntKind.u8.wrap px'=(pn:Int):=by rw [IntKind.wrap_u8,hpn,hpx'];omega
  have r5':px' % 256=(pn:Int):=by rw [hpn,hpx'];omega
  have XC:=hid (show((xcs.drop 0).take 33=ptI x.tx x.out∧xcs[33]? = some (.int .i64 px'))∧(xcs.drop 34).take 32=nums .u8 x.token∧(xcs.drop 66).take 32=nums .u8 x.more∧(xcs.drop 98).take 32=nums .u8 x.secret from by
   rw [hxcs,hpx'];exact⟨⟨InD.point xok.out,InD.c33 xok.out⟩,InD.tok xok.out,InD.mor xok.out,InD.sec xok.out⟩)
  have XQ:=hid (show inQ x=x.tx++f4 x.out++[pn]++x.token++x.more++x.secret by unfold inQ;rw [hpn];simp)
  have HX:=hid hx
  obtain⟨bs0,hbs0⟩:∃bs0,bs0=(t.ins.take k).flatMap inQ:=⟨_,rfl⟩
  obtain⟨n0,hn0⟩:∃n0,n0=bs0.length:=⟨_,rfl⟩
  rw [← hbs0,← hn0] at OW
  have BS0:=hid (And.intro hbs0 hn0)
  have N0:=hid (show n0≤34048 by rw [hn0,hbs0];exact ILEN.out k)
  clear hk hlk hx rg hxcs hk1 hpn hpx' xbd hbs0 hn0
  go_upto_region 8 with(first|with_reducible refine wpList_load_mid rfl _ _ rfl b (off+k*130) rfl xcs _ rgr Tryz.underlying69 rfl hiC.out ?_|(refine wpList_store_row rfl _ _ _ rfl wo.heap.size xcs.toArray rfl rfl _ _ (heap_alloc_new _ _) hiCa.out hoC.out h16.out ?_;refine laidW (F:=fun w3=>wpList _ _ _ _ _ w3) ?_;intro w3 h3 b3))
  have OW3:=hid (ownKB OW.out b3.out)
  have hnV:=hid (show v5.ownBlock≠some wo.heap.size from fun e=>by have:=(OW.out.lt _ e).2;omega)
  have low3:=hid (show ∀i,v5.ownBlock=some i→w2.heap.size≤i from fun i e=>(OW.out.lt _ e).1)
  have WL3:=hid (show w2.heap.size≤w3.heap.size from Nat.le_trans BR.out.size b3.out.size)
  have B3:=hid (BR.out.trans (b3.out.mono BR.out.size))
  have ptr:=gen_range (row_range h3.out) 0 33
  rw [XC.out.1.1] at ptr
  obtain⟨lx,hlx⟩:∃lx,lx=ptI x.tx x.out:=⟨_,rfl⟩
  have hiP:=hid (show(Tryz.prog.info? 60).map (·.size)=some lx.length from by rw [hlx,show(ptI x.tx x.out).length=33 by simp [ptI,xok.out.tx.1]];kernel_rfl)
  have CP:=hid (cput_walk x.tx x.out xok.out.tx w3)
  rw [← hlx] at CP ptr
  clear u1 u2 u6 u7 u8' rgr hlx OW
  go_upto_region 8 with(fail)
  go_wp2_with (with_reducible refine wpList_load_mid rfl _ _ rfl wo.heap.size 0 rfl lx _ ptr Tryz.underlying60 rfl hiP.out ?_)
  refine CP.out.mono ?_
  rintro e w5 ⟨v6,rfl,o5,b5⟩
  have l5:(x.tx++f4 x.out).length=36:=inB_len xok.out
  rw [l5] at o5
  obtain⟨a5,c5,rfl,rd5⟩:=Rd.of_owns o5
  have RD5:=hid rd5
  have OW5:=hid (ownKB OW3.out b5)
  have G5:=hid ((Grow.refl w3 v5).below b5)
  clear o5 b5 rd5 CP ptr l5
  go_upto_region 9 with(at_builtin;refine wpList_when (by rfl) (fun K hK=>wp_cat _ _ 28 rfl tyBy w2.heap.size OW5.out rfl rfl RD5.out (nums_oneCell _ _) (by have:=N0.out;omega) (by have:=N0.out;unfold maxLen;omega) (Nat.le_trans WL3.out G5.out.1.size) (fun v6 w6 own6 g6 nb6=>hK _ _ ?_));clear hK K;have O6:=hid own6;have G6:=hid (G5.out.cat g6 nb6);clear own6 g6 nb6)
  have H6:=hid (G6.out.heap h3.out hnV.out)
  have c33:=gen_cell (j:=33) (row_range H6.out) XC.out.1.2
  go_upto_region 10 with(at_builtin;refine wpList_pushK rfl _ _ 28 rfl tyBy w2.heap.size O6.out rfl rfl rfl rfl (by have:=N0.out;omega) (by decide) (Nat.le_trans WL3.out G6.out.1.size) ?_;intro v7 w7 own7 k7 nb7;have O7:=hid own7;have G7:=hid (G6.out.push k7 nb7);clear own7 k7 nb7)
  have SL1:=hid (sl_in (G7.out.heap h3.out hnV.out) xok.out.token XC.out.2.1)
  clear c33 r5 r5'
  refine wp_region_held_drew (S:=fun _=>True) (by kernel_rfl) (trivial) (fun hHeld=>?_)
  try simp only [List.size_toArray,List.length_cons,List.length_nil,Nat.reduceAdd,Array.replicate_succ,Array.replicate_zero,List.push_toArray,List.nil_append,List.cons_append]
  refine tkH (i:=0) (oi:=⟨_,.move (.tmp 5),_,_,_,_⟩) (v:=?v1001) rfl (yi ?y1001) hHeld ?_
  case y1001=>(intro w _;go_simp;(try with_reducible rfl))
  (try simp only [Act.put,s0,s1,s2])
  refine tkH (i:=1) (oi:=⟨_,.fieldAddr 69 (.tmp 7) 2,_,_,_,_⟩) (v:=?v1002) rfl (yi ?y1002) hHeld ?_
  case y1002=>(intro w _;go_simp;(try with_reducible rfl))
  (try simp only [Act.put,s0,s1,s2])
  refine tkH (i:=2) (oi:=⟨_,.slice 43 (.tmp 32) none none none,_,_,_,_⟩) (v:=?v1003) rfl (yi ?y1003) hHeld ?_
  case y1003=>(intro w _;go_simp;(try with_reducible rfl))
  (try simp only [Act.put,s0,s1,s2])
  refine tkH (i:=4) (oi:=⟨_,.fieldAddr 69 (.tmp 7) 3,_,_,_,_⟩) (v:=?v1004) rfl (yi ?y1004) hHeld ?_
  case y1004=>(intro w _;go_simp;(try with_reducible rfl))
  (try simp only [Act.put,s0,s1,s2])
  refine tkH (i:=5) (oi:=⟨_,.slice 43 (.tmp 35) none none none,_,_,_,_⟩) (v:=?v1005) rfl (yi ?y1005) hHeld ?_
  case y1005=>(intro w _;go_simp;(try with_reducible rfl))
  (try simp only [Act.put,s0,s1,s2])
  refine tkH (i:=7) (oi:=⟨_,.fieldAddr 69 (.tmp 7) 4,_,_,_,_⟩) (v:=?v1006) rfl (yi ?y1006) hHeld ?_
  case y1006=>(intro w _;go_simp;(try with_reducible rfl))
  (try simp only [Act.put,s0,s1,s2])
  refine tkH (i:=8) (oi:=⟨_,.slice 43 (.tmp 38) none none none,_,_,_,_⟩) (v:=?v1007) rfl (yi ?y1007) hHeld ?_
  case y1007=>(intro w _;go_simp;(try with_reducible rfl))
  (try simp only [Act.put,s0,s1,s2])
  refine wpAnyH_ready (rs:=[3]) (by kernel_rfl) (by simp) ?_
  refine AllReadyH.cons (o:=⟨_,.call ⟨.builtin .append,#[.tmp 31,.tmp 33],#[28,28]⟩,_,_,_,_⟩) rfl (fun K hK=>?_) ?_
  rw [if_pos (by rfl)];refine wp_cat _ _ 28 rfl tyBy w2.heap.size (ownKB O7.out (Below.refl _ _).drew) rfl rfl (SL1.out.below (Below.refl _ _).drew) (nums_oneCell _ _) (by have:=N0.out;omega) (by have:=N0.out;unfold maxLen;omega) (Nat.le_trans WL3.out G7.out.1.size) ?_;intro va wa owna ga nba;have OA:=hid owna;have GA:=hid ((G7.out.below (Below.refl _ _).drew).cat ga nba);have SL2:=hid (sl_in (GA.out.heap h3.out hnV.out) xok.out.more XC.out.2.2.1);clear owna ga nba
  refine hK.out _ _ (trivial) (fun hHeld=>?_)
  clear hK K
  (try simp only [s0,s1,s2])
  refine wpAnyH_ready (rs:=[6]) (by kernel_rfl) (by simp) ?_
  refine AllReadyH.cons (o:=⟨_,.call ⟨.builtin .append,#[.tmp 34,.tmp 36],#[28,28]⟩,_,_,_,_⟩) rfl (fun K hK=>?_) ?_
  rw [if_pos (by rfl)];refine wp_cat _ _ 28 rfl tyBy w2.heap.size OA.out rfl rfl SL2.out (nums_oneCell _ _) (by have:=N0.out;omega) (by have:=N0.out;unfold maxLen;omega) (Nat.le_trans WL3.out GA.out.1.size) ?_;intro vb wb ownb gb nbb;have OB2:=hid ownb;have GB:=hid (GA.out.cat gb nbb);have SL3:=hid (sl_in (GB.out.heap h3.out hnV.out) xok.out.secret XC.out.2.2.2);clear ownb gb nbb
  refine hK.out _ _ (trivial) (fun hHeld=>?_)
  clear hK K
  (try simp only [s0,s1,s2])
  refine wpAnyH_ready (rs:=[9]) (by kernel_rfl) (by simp) ?_
  refine AllReadyH.cons (o:=⟨_,.call ⟨.builtin .append,#[.tmp 37,.tmp 39],#[28,28]⟩,_,_,_,_⟩) rfl (fun K hK=>?_) ?_
  rw [if_pos (by rfl)];refine wp_cat _ _ 28 rfl tyBy w2.heap.size OB2.out rfl rfl SL3.out (nums_oneCell _ _) (by have:=N0.out;omega) (by have:=N0.out;unfold maxLen;omega) (Nat.le_trans WL3.out GB.out.1.size) ?_;intro vc wc ownc gc nbc;have OC:=hid ownc;have GC:=hid (GB.out.cat gc nbc);clear ownc gc nbc
  refine hK.out _ _ (trivial) (fun hHeld=>?_)
  clear hK K
  (try simp only [s0,s1,s2])
  refine tkH (i:=10) (oi:=⟨_,.assign (.tmp 40),_,_,_,_⟩) (v:=?v1008) rfl (yi ?y1008) hHeld ?_
  case y1008=>(intro w _;go_simp;(try with_reducible rfl))
  (try simp only [Act.put,s0,s1,s2])
  refine wpAnyH_done (by kernel_rfl) ?_ _
  rotate_left
  exact AllReadyH.nil
  exact AllReadyH.nil
  exact AllReadyH.nil
  clear hHeld SL1 SL2 SL3
  have FIN:=hid (show wc.ownsRow w2.heap.size 5 1 vc ((t.ins.take k1n).flatMap inQ).length (nums .u8 ((t.ins.take k1n).flatMap inQ)) from by
   have oc:=OC.out
   have e2:nums .u8 bs0++nums .u8 (x.tx++f4 x.out)++(#[Value.int .u8 (pn:Int)]:Array Value).toList++nums .u8 x.token++nums .u8 x.more++nums .u8 x.secret=nums .u8 ((t.ins.take k1n).flatMap inQ):=by
    rw [I1.out.1,List.take_add_one,HX.out,List.flatMap_append,BS0.out.1]
    simp [nums,XQ.out]
   rw [e2] at oc
   have hl:=oc.1
   rw [nums_length,Nat.mul_one] at hl
   rw [hl]
   exact oc)
  have BF:=hid (show Below w2.heap.size w2 wc from B3.out.trans (GC.out.low low3.out WL3.out))
  clear OA OB2 OC GA GB GC
  go_wp2_with (fail)
  go_roundw
  case rel=>exact⟨k1n,vc,rfl,by have:=I1.out;omega,rfl,FIN.out,BF.out⟩
  case measure=>simp [intOf];have:=I1.out;omega
end Go.Proofs.YtnbmpgballopeaaGreatDoor

/- The reference's Encode of a transaction. -/
import Derived.Test.YtnbmpgballopeaaGreatDoorZEncR
import Derived.Test.YtnbmpgballopeaaGreatDoorZTokO
import Derived.Test.YtnbmpgballopeaaGreatDoorZPointR
import Derived.Test.YtnbmpgballopeaaGreatDoorZCen
import Derived.Test.YtnbmpgballopeaaGreatDoorZRou
import Derived.Test.YtnbmpgballopeaaGreatDoorZRch
import Derived.Test.YtnbmpgballopeaaGreatDoorZPln
import Derived.Test.YtnbmpgballopeaaGreatDoorZRtag
namespace Go.Proofs.YtnbmpgballopeaaGreatDoor
open Go.RowKit
theorem code_paths{t:TxD}(h:t.code=0):∀o∈t.outs,∀p∈o.paths,p.bad=false:=by
 unfold TxD.code at h
 split at h
 ·omega
 ·split at h
  ·omega
  ·split at h
   ·rename_i h3;exact absurd h h3
   ·split at h
    ·rename_i h4;exact absurd h h4
    ·rename_i h4
     intro o ho p hp
     have h6:=outsC_zero (Classical.byContradiction h4:outsC t.outs=0) o ho
     unfold OutD.code at h6
     split at h6
     ·omega
     ·split at h6
      ·omega
      ·rename_i h7
       have h8:o.paths.any PathD.bad=false:=by simpa using h7
       exact(List.any_eq_false.1 h8 p hp) |> (by simpa using ·)
theorem ptb_f4(tx:List Nat){o:Nat}(h:o<256):ptb tx o=tx++f4 (o:Int):=by
 rw [f4_be]
 unfold ptb
 congr 1
 simp only [be,List.cons.injEq,and_true]
 refine⟨?_,?_,?_,?_⟩ <;> omega
set_option maxRecDepth 100000 in
set_option maxHeartbeats 8000000 in
theorem rcenc_walk(t:TxD)(w:World)(h:t.good w):Calls Tryz.prog 7 #[.agg t.cells.toArray] w (CEncR w t):=by
 have G:=hid h
 obtain⟨tc,htc⟩:∃tc,tc=t.cells:=⟨_,rfl⟩
 have TL:=hid (show tc.length=2 by rw [htc];rfl)
 have HTC:=hid htc
 have CK:=fun(wx:World) (bx:Below w.heap.size w wx)=>hid (show Calls Tryz.prog 10 #[.agg tc.toArray] wx _ from by rw [htc];exact rtcheck_walk t wx (G.out.below bx))
 have hiT:=hid (show(Tryz.prog.info? 37).map (·.size)=some tc.length by rw [TL.out];kernel_rfl)
 have HA:=hid (heap_alloc_new w (.cells tc.toArray 37))
 have B1:=hid ((Below.refl w.heap.size w).alloc (Nat.le_refl _) (.cells tc.toArray 37))
 obtain⟨N,hN⟩:∃N,N=t.ins.length:=⟨_,rfl⟩
 obtain⟨M,hM⟩:∃M,M=t.outs.length:=⟨_,rfl⟩
 obtain⟨ia,hia⟩:∃ia,ia=t.ia:=⟨_,rfl⟩
 obtain⟨ic,hic⟩:∃ic,ic=t.ic:=⟨_,rfl⟩
 obtain⟨oa,hoa⟩:∃oa,oa=t.oa:=⟨_,rfl⟩
 obtain⟨oc,hoc⟩:∃oc,oc=t.oc:=⟨_,rfl⟩
 have NN:=hid (And.intro hN hM)
 have PI:=hid (show Rd w 130 ia N ic (t.ins.flatMap InD.cells) by rw [hia,hic,hN];exact h.ins)
 have PO:=hid (show Rd w 34 oa M oc (t.outs.flatMap OutD.cells) by rw [hoa,hoc,hM];exact h.outs)
 have TCE:=hid (show tc=[.slice ia N ic,.slice oa M oc] by rw [htc];unfold TxD.cells;rw [hia,hic,hN,hoa,hoc,hM])
 rw [← htc]
 clear h htc hN hM hia hic hoa hoc
 go_enter Tryz.func7,Tryz.ntmps7
 go_upto_region 1 with(fail)
 generalize w.alloc (.cells tc.toArray 37)=w1 at *
 have rT:=row_range HA.out
 go_wp2_with (with_reducible refine wpList_load_mid rfl _ _ rfl w.heap.size 0 rfl tc _ rT Tryz.underlying37 rfl hiT.out ?_)
 refine(CK w1 B1.out).out.mono ?_
 rintro e w2 ⟨rfl,b2⟩
 have B2:=hid (show Below w.heap.size w w2 from B1.out.trans (b2.mono B1.out.size))
 have HA2:=hid (heap_keep HA.out b2)
 clear b2 rT
 by_cases hz:t.code=0
 case neg=>
  have v1:((t.code:Int) != 0)=true:=by rw [bne_iff_ne];omega
  have HZ:=hid hz
  clear hz
  go_wp2_with (fail)
  go_ret2
  have e:encC t=t.code:=by unfold encC;rw [if_pos HZ.out]
  refine⟨_,by rw [e];rfl,?_,B2.out⟩
  unfold encB
  rw [e,if_neg HZ.out]
  exact(Sl.nilS .u8 _ (Nat.zero_le _) (fun _=>rfl)).toV
 have v1:((t.code:Int) != 0)=false:=by rw [bne_eq_false_iff_eq];omega
 have CZ:=hid (code_zero hz)
 have CB:=hid (code_ins hz)
 have PBD:=hid (code_paths hz)
 have EC:=hid (show encC t=encE (recsT t.ins t.outs) by unfold encC;rw [if_neg (by omega)])
 have NB:=hid (show N≤256∧M≤256 from⟨by rw [NN.out.1];exact CZ.out.1,by rw [NN.out.2];exact CZ.out.2.1⟩)
 have OLEN:=hid (show(t.outs.flatMap outB).length≤457*256 from by
  have h1:=outsB_len (os:=t.outs) (fun o ho=>⟨(G.out.ook o ho).anchor.1,(G.out.ook o ho).ok,CZ.out.2.2 o ho⟩)
  have h2:=CZ.out.2.1
  omega)
 have ILEN:=hid (show ∀k,((t.ins.take k).flatMap inQ).length≤133*256 from fun k=>by
  have h2:=CZ.out.1
  rw [insQ_len (fun i hi=>G.out.iok i (List.mem_of_mem_take hi)),List.length_take];omega)
 have k0:w2.cell? ⟨w.heap.size,0,none⟩=some (.slice ia N ic):=gen_cell (j:=0) (row_range HA2.out) (by rw [TCE.out];rfl)
 have K1:=hid (show w2.cell? ⟨w.heap.size,1,none⟩=some (.slice oa M oc) from gen_cell (j:=1) (row_range HA2.out) (by rw [TCE.out];rfl))
 have L2:=hid (show w.heap.size<w2.heap.size from(Array.getElem?_eq_some_iff.1 HA2.out).1)
 clear hz
 go_upto_region 4 with(fail)
 have M0:=hid (World.ownsRow_made (base:=w2.heap.size) (e:=5) (size:=1) w2 #[] 0 (Nat.le_refl _) (by simp) (by simp))
 have BM0:=hid ((Below.refl w2.heap.size w2).alloc (Nat.le_refl _) (.cells #[] 5))
 go_upto_region 5 with(fail)
 have k0':=cell_keep BM0.out k0
 go_upto_region 6 with(fail)
 clear v1 k0 k0'
 go_loopw [5,17] (fun x5 x16 wr=>∃(k:Nat) (v5:Value),v5=x5∧k≤N∧x16 = .int .i64 (k:Int)∧wr.ownsRow w2.heap.size 5 1 v5 ((t.ins.take k).flatMap inQ).length (nums .u8 ((t.ins.take k).flatMap inQ))∧Below w2.heap.size w2 wr) (fun _ x16 _=>N - (intOf x16).toNat)
 case atStart=>exact⟨0,_,rfl,Nat.zero_le _,rfl,M0.out,BM0.out⟩
 case round=>
  obtain⟨k,v5,hv5,hk,rfl,ho,hb⟩:=hrel
  obtain⟨wo,rfl⟩:∃wo,wo=wr:=⟨_,rfl⟩
  subst hv5
  have BR:=hid hb
  have OW:=hid ho
  have BW:=hid (B2.out.trans (hb.mono B2.out.size))
  clear hb ho
  by_cases hlk:k<N
  case neg=>
   obtain rfl:k=N:=by omega
   have u1:decide (k<k)=false:=decide_eq_false (by omega)
   have u2:decide ((k:Int)<(k:Int))=false:=decide_eq_false (by omega)
   have k1':=cell_keep BR.out K1.out
   have CO:=hid (routs_walk oa M oc t.outs wo NN.out.2 (PO.out.below BW.out) (fun o ho=>(G.out.ook o ho).below BW.out) CZ.out.2.2 PBD.out NB.out.2)
   obtain⟨ib,hib⟩:∃ib,ib=(t.ins.take k).flatMap inQ:=⟨_,rfl⟩
   have IB:=hid (show ib=t.ins.flatMap inQ by rw [hib,NN.out.1,List.take_length])
   have IL:=hid (show ib.length≤34048 by rw [hib];exact ILEN.out k)
   rw [← hib] at OW
   obtain⟨il,hil⟩:∃il,il=ib.length:=⟨_,rfl⟩
   rw [← hil] at OW IL
   have HIL:=hid hil
   obtain⟨a5,c5,rfl,rd5⟩:=Rd.of_owns OW.out
   have RD5:=hid rd5
   clear hk hlk hib hil rd5
   go_wp2_with (fail)
   refine CO.out.mono ?_
   rintro e w6 ⟨v6,rfl,o6,b6⟩
   obtain⟨ob,hob⟩:∃ob,ob=t.outs.flatMap outB:=⟨_,rfl⟩
   rw [← hob] at o6
   obtain⟨ol,hol⟩:∃ol,ol=ob.length:=⟨_,rfl⟩
   have OB:=hid (show ob=t.outs.flatMap outB from hob)
   have HOL:=hid (show ol≤457*256∧ol=ob.length from⟨by rw [hol,hob];exact OLEN.out,hol⟩)
   rw [← hol] at o6
   obtain⟨a6,c6,rfl,rd6⟩:=Rd.of_owns o6
   have RD6:=hid rd6
   have B6:=hid b6
   have RG:=hid (show Recs (w6.alloc (.cells #[.int .u64 0,.slice a5 il c5,.int .u64 2,.slice a6 ol c6] 91)) (some ⟨w6.heap.size,0,none⟩) 2 2 [LR.mk 0 a5 c5 ib,LR.mk 2 a6 c6 ob] from
    recs_lit' _ rfl (by simp [LR.cells,HIL.out,HOL.out.2]) rfl (by decide) (fun l hl=>by
     simp only [List.mem_cons,List.not_mem_nil,or_false] at hl
     rcases hl with rfl|rfl
     ·refine⟨(by decide:(0:Nat)<18446744073709551616),?_,?_,?_⟩
      ·show Sl .u8 w6 a5 ib.length c5 ib
       rw [← HIL.out];exact Rd.below RD5.out B6.out
      ·intro d hd
       have hd':d∈ib:=hd
       rw [IB.out] at hd'
       obtain⟨i,hi,hd'⟩:=List.mem_flatMap.1 hd'
       exact inQ_lt (G.out.iok i hi) d hd'
      ·show ib.length≤_
       have:=IL.out;have:=HIL.out;omega
     ·refine⟨(by decide:(2:Nat)<18446744073709551616),?_,?_,?_⟩
      ·show Sl .u8 w6 a6 ob.length c6 ob
       rw [← HOL.out.2];exact RD6.out
      ·intro d hd
       have hd':d∈ob:=hd
       rw [OB.out] at hd'
       obtain⟨o,ho,hd'⟩:=List.mem_flatMap.1 hd'
       exact outB_lt (G.out.ook o ho).anchor (G.out.ook o ho).ok (CZ.out.2.2 o ho) d hd'
      ·show ob.length≤_
       have:=HOL.out;omega))
   have EN:=hid (renc_walk (some ⟨w6.heap.size,0,none⟩) 2 2 [LR.mk 0 a5 c5 ib,LR.mk 2 a6 c6 ob] _ RG.out)
   have ER:=hid (show [LR.mk 0 a5 c5 ib,LR.mk 2 a6 c6 ob].map LR.pr=recsT t.ins t.outs from by unfold recsT;rw [← IB.out,← OB.out];rfl)
   clear o6 b6 rd6 CO k1' hob hol
   go_wp2_with (fail)
   refine EN.out.mono ?_
   rintro e w7 ⟨v7,rfl,s7,b7⟩
   rw [ER.out] at s7 ⊢
   have S7:=hid s7
   have B7:=hid b7
   clear s7 b7 EN
   go_wp2_with (fail)
   go_ret2
   refine⟨v7,by rw [EC.out];rfl,by unfold encB;rw [EC.out];exact S7.out,?_⟩
   have b6w:=BW.out.trans (B6.out.mono BW.out.size)
   have b7w:=b6w.alloc b6w.size (.cells #[.int .u64 0,.slice a5 il c5,.int .u64 2,.slice a6 ol c6] 91)
   exact b7w.trans (B7.out.mono b7w.size)
  have u1:decide (k<N)=true:=decide_eq_true hlk
  have u2:decide ((k:Int)<(N:Int))=true:=decide_eq_true (by omega)
  have u6:(k:Int)<(N:Int):=by omega
  have u7:¬ ((N:Int)≤(k:Int)):=by omega
  have u8':¬ (N≤k):=by omega
  obtain⟨x,hx⟩:∃x,t.ins[k]? = some x:=⟨_,List.getElem?_eq_getElem (by rw [← NN.out.1];exact hlk)⟩
  have xok:=hid (G.out.iok x (List.mem_of_getElem? hx))
  have xbd:=CB.out x (List.mem_of_getElem? hx)
  obtain⟨b,off,rfl,rg⟩:=rd_row (fun z hz=>InD.len (G.out.iok z hz)) PI.out hx hlk
  have rgr:=range_keep BW.out rg
  obtain⟨xcs,hxcs⟩:∃xcs,xcs=x.cells:=⟨_,rfl⟩
  have XL:=hid (show xcs.length=130 by rw [hxcs];exact InD.len xok.out)
  rw [← hxcs] at rgr
  have hiC:=hid (show(Tryz.prog.info? 88).map (·.size)=some xcs.length by rw [XL.out];kernel_rfl)
  have hiCa:=hid (show(Tryz.prog.info? 88).map (·.size)=some xcs.toArray.size by rw [List.size_toArray,XL.out];kernel_rfl)
  have hoC:=hid (show 130=xcs.toArray.size by rw [List.size_toArray,XL.out])
  have h16:=hid (show(xcs.toArray.all fun x=>x.oneCell')=true by rw [hxcs];exact all_oneCell_toArray (InD.one x))
  obtain⟨k1n,hk1⟩:∃k1n,k1n=k+1:=⟨_,rfl⟩
  have r4:IntKind.i64.wrap ((k:Int)+1)=(k1n:Int):=by have:=NB.out;rw [IntKind.wrap_i64];omega
  have I1:=hid (And.intro hk1 hlk)
  obtain⟨pn,hpn⟩:∃pn,pn=(x.path % 256).toNat:=⟨_,rfl⟩
  obtain⟨px',hpx'⟩:∃px',px'=x.path:=⟨_,rfl⟩
  have r5:IntKind.u8.wrap px'=(pn:Int):=by rw [IntKind.wrap_u8,hpn,hpx'];omega
  have r5':px' % 256=(pn:Int):=by rw [hpn,hpx'];omega
  have XC:=hid (show((xcs.drop 0).take 33=ptI x.tx x.out∧xcs[33]? = some (.int .i64 px'))∧(xcs.drop 34).take 32=nums .u8 x.token∧(xcs.drop 66).take 32=nums .u8 x.more∧(xcs.drop 98).take 32=nums .u8 x.secret from by
   rw [hxcs,hpx'];exact⟨⟨InD.point xok.out,InD.c33 xok.out⟩,InD.tok xok.out,InD.mor xok.out,InD.sec xok.out⟩)
  have XC0:=hid (show(xcs.drop 0).take 32=nums .u8 x.tx∧xcs[32]? = some (.int .i64 x.out) from by rw [hxcs];exact⟨InD.tx32 xok.out,InD.c32 xok.out⟩)
  have xbd2:¬ (x.out<0∨256≤x.out∨x.path<0∨4≤x.path):=of_decide_eq_false xbd
  have XQ:=hid (show inQ x=x.tx++f4 x.out++[pn]++x.token++x.more++x.secret by unfold inQ;rw [hpn];simp)
  have HX:=hid hx
  obtain⟨bs0,hbs0⟩:∃bs0,bs0=(t.ins.take k).flatMap inQ:=⟨_,rfl⟩
  obtain⟨n0,hn0⟩:∃n0,n0=bs0.length:=⟨_,rfl⟩
  rw [← hbs0,← hn0] at OW
  have BS0:=hid (And.intro hbs0 hn0)
  have N0:=hid (show n0≤34048 by rw [hn0,hbs0];exact ILEN.out k)
  clear hk hlk hx rg hxcs hk1 hpn hpx' xbd hbs0 hn0
  go_upto_region 8 with(first|with_reducible refine wpList_load_mid rfl _ _ rfl b (off+k*130) rfl xcs _ rgr Tryz.underlying88 rfl hiC.out ?_|(refine wpList_store_row rfl _ _ _ rfl wo.heap.size xcs.toArray rfl rfl _ _ (heap_alloc_new _ _) hiCa.out hoC.out h16.out ?_;refine laidW (F:=fun w3=>wpList _ _ _ _ _ w3) ?_;intro w3 h3 b3))
  have OW3:=hid (ownKB OW.out b3.out)
  have hnV:=hid (show v5.ownBlock≠some wo.heap.size from fun e=>by have:=(OW.out.lt _ e).2;omega)
  have low3:=hid (show ∀i,v5.ownBlock=some i→w2.heap.size≤i from fun i e=>(OW.out.lt _ e).1)
  have WL3:=hid (show w2.heap.size≤w3.heap.size from Nat.le_trans BR.out.size b3.out.size)
  have B3:=hid (BR.out.trans (b3.out.mono BR.out.size))
  obtain⟨on,hon,honl⟩:∃on:Nat,(on:Int)=x.out∧on<256:=⟨x.out.toNat,by omega,by omega⟩
  have HON:=hid (And.intro hon honl)
  have c32:=gen_cell (j:=32) (row_range h3.out) XC0.out.2
  rw [← hon] at c32
  have ptr:=gen_range (row_range h3.out) 0 32
  rw [XC0.out.1] at ptr
  obtain⟨lx,hlx⟩:∃lx,lx=nums .u8 x.tx:=⟨_,rfl⟩
  have hiP:=hid (show(Tryz.prog.info? 42).map (·.size)=some lx.length from by rw [hlx,nums_length,xok.out.tx.1];kernel_rfl)
  have CP:=hid (rpoint_walk x.tx on xok.out.tx.1 honl w3)
  rw [← hlx] at CP ptr
  clear u1 u2 u6 u7 u8' rgr hlx OW xbd2 hon honl
  go_upto_region 8 with(fail)
  go_wp2_with (with_reducible refine wpList_load_mid rfl _ _ rfl wo.heap.size 0 rfl lx _ ptr Tryz.underlying42 rfl hiP.out ?_)
  refine CP.out.mono ?_
  rintro e w5 ⟨v6,rfl,_,o5,b5⟩
  have l5:(x.tx++f4 x.out).length=36:=inB_len xok.out
  rw [ptb_f4 x.tx HON.out.2,HON.out.1,l5] at o5
  obtain⟨a5,c5,rfl,rd5⟩:=Rd.of_owns o5
  have RD5:=hid rd5
  have OW5:=hid (ownKB OW3.out b5)
  have G5:=hid ((Grow.refl w3 v5).below b5)
  clear o5 b5 rd5 CP ptr l5 c32
  go_upto_region 9 with(at_builtin;refine wpList_when (by rfl) (fun K hK=>wp_cat _ _ 28 rfl tyBy w2.heap.size OW5.out rfl rfl RD5.out (nums_oneCell _ _) (by have:=N0.out;omega) (by have:=N0.out;unfold maxLen;omega) (Nat.le_trans WL3.out G5.out.1.size) (fun v6 w6 own6 g6 nb6=>hK _ _ ?_));clear hK K;have O6:=hid own6;have G6:=hid (G5.out.cat g6 nb6);clear own6 g6 nb6)
  have H6:=hid (G6.out.heap h3.out hnV.out)
  have c33:=gen_cell (j:=33) (row_range H6.out) XC.out.1.2
  go_upto_region 10 with(at_builtin;refine wpList_pushK rfl _ _ 28 rfl tyBy w2.heap.size O6.out rfl rfl rfl rfl (by have:=N0.out;omega) (by decide) (Nat.le_trans WL3.out G6.out.1.size) ?_;intro v7 w7 own7 k7 nb7;have O7:=hid own7;have G7:=hid (G6.out.push k7 nb7);clear own7 k7 nb7)
  have SL1:=hid (sl_in (G7.out.heap h3.out hnV.out) xok.out.token XC.out.2.1)
  clear c33 r5 r5'
  refine wp_region_held_drew (S:=fun _=>True) (by kernel_rfl) (trivial) (fun hHeld=>?_)
  try simp only [List.size_toArray,List.length_cons,List.length_nil,Nat.reduceAdd,Array.replicate_succ,Array.replicate_zero,List.push_toArray,List.nil_append,List.cons_append]
  refine tkH (i:=0) (oi:=⟨_,.move (.tmp 5),_,_,_,_⟩) (v:=?v1001) rfl (yi ?y1001) hHeld ?_
  case y1001=>(intro w _;go_simp;(try with_reducible rfl))
  (try simp only [Act.put,s0,s1,s2])
  refine tkH (i:=1) (oi:=⟨_,.fieldAddr 88 (.tmp 7) 2,_,_,_,_⟩) (v:=?v1002) rfl (yi ?y1002) hHeld ?_
  case y1002=>(intro w _;go_simp;(try with_reducible rfl))
  (try simp only [Act.put,s0,s1,s2])
  refine tkH (i:=2) (oi:=⟨_,.slice 42 (.tmp 37) none none none,_,_,_,_⟩) (v:=?v1003) rfl (yi ?y1003) hHeld ?_
  case y1003=>(intro w _;go_simp;(try with_reducible rfl))
  (try simp only [Act.put,s0,s1,s2])
  refine tkH (i:=4) (oi:=⟨_,.fieldAddr 88 (.tmp 7) 3,_,_,_,_⟩) (v:=?v1004) rfl (yi ?y1004) hHeld ?_
  case y1004=>(intro w _;go_simp;(try with_reducible rfl))
  (try simp only [Act.put,s0,s1,s2])
  refine tkH (i:=5) (oi:=⟨_,.slice 42 (.tmp 40) none none none,_,_,_,_⟩) (v:=?v1005) rfl (yi ?y1005) hHeld ?_
  case y1005=>(intro w _;go_simp;(try with_reducible rfl))
  (try simp only [Act.put,s0,s1,s2])
  refine tkH (i:=7) (oi:=⟨_,.fieldAddr 88 (.tmp 7) 4,_,_,_,_⟩) (v:=?v1006) rfl (yi ?y1006) hHeld ?_
  case y1006=>(intro w _;go_simp;(try with_reducible rfl))
  (try simp only [Act.put,s0,s1,s2])
  refine tkH (i:=8) (oi:=⟨_,.slice 42 (.tmp 43) none none none,_,_,_,_⟩) (v:=?v1007) rfl (yi ?y1007) hHeld ?_
  case y1007=>(intro w _;go_simp;(try with_reducible rfl))
  (try simp only [Act.put,s0,s1,s2])
  refine wpAnyH_ready (rs:=[3]) (by kernel_rfl) (by simp) ?_
  refine AllReadyH.cons (o:=⟨_,.call ⟨.builtin .append,#[.tmp 36,.tmp 38],#[28,28]⟩,_,_,_,_⟩) rfl (fun K hK=>?_) ?_
  rw [if_pos (by rfl)];refine wp_cat _ _ 28 rfl tyBy w2.heap.size (ownKB O7.out (Below.refl _ _).drew) rfl rfl (SL1.out.below (Below.refl _ _).drew) (nums_oneCell _ _) (by have:=N0.out;omega) (by have:=N0.out;unfold maxLen;omega) (Nat.le_trans WL3.out G7.out.1.size) ?_;intro va wa owna ga nba;have OA:=hid owna;have GA:=hid ((G7.out.below (Below.refl _ _).drew).cat ga nba);have SL2:=hid (sl_in (GA.out.heap h3.out hnV.out) xok.out.more XC.out.2.2.1);clear owna ga nba
  refine hK.out _ _ (trivial) (fun hHeld=>?_)
  clear hK K
  (try simp only [s0,s1,s2])
  refine wpAnyH_ready (rs:=[6]) (by kernel_rfl) (by simp) ?_
  refine AllReadyH.cons (o:=⟨_,.call ⟨.builtin .append,#[.tmp 39,.tmp 41],#[28,28]⟩,_,_,_,_⟩) rfl (fun K hK=>?_) ?_
  rw [if_pos (by rfl)];refine wp_cat _ _ 28 rfl tyBy w2.heap.size OA.out rfl rfl SL2.out (nums_oneCell _ _) (by have:=N0.out;omega) (by have:=N0.out;unfold maxLen;omega) (Nat.le_trans WL3.out GA.out.1.size) ?_;intro vb wb ownb gb nbb;have OB2:=hid ownb;have GB:=hid (GA.out.cat gb nbb);have SL3:=hid (sl_in (GB.out.heap h3.out hnV.out) xok.out.secret XC.out.2.2.2);clear ownb gb nbb
  refine hK.out _ _ (trivial) (fun hHeld=>?_)
  clear hK K
  (try simp only [s0,s1,s2])
  refine wpAnyH_ready (rs:=[9]) (by kernel_rfl) (by simp) ?_
  refine AllReadyH.cons (o:=⟨_,.call ⟨.builtin .append,#[.tmp 42,.tmp 44],#[28,28]⟩,_,_,_,_⟩) rfl (fun K hK=>?_) ?_
  rw [if_pos (by rfl)];refine wp_cat _ _ 28 rfl tyBy w2.heap.size OB2.out rfl rfl SL3.out (nums_oneCell _ _) (by have:=N0.out;omega) (by have:=N0.out;unfold maxLen;omega) (Nat.le_trans WL3.out GB.out.1.size) ?_;intro vc wc ownc gc nbc;have OC:=hid ownc;have GC:=hid (GB.out.cat gc nbc);clear ownc gc nbc
  refine hK.out _ _ (trivial) (fun hHeld=>?_)
  clear hK K
  (try simp only [s0,s1,s2])
  refine tkH (i:=10) (oi:=⟨_,.assign (.tmp 45),_,_,_,_⟩) (v:=?v1008) rfl (yi ?y1008) hHeld ?_
  case y1008=>(intro w _;go_simp;(try with_reducible rfl))
  (try simp only [Act.put,s0,s1,s2])
  refine wpAnyH_done (by kernel_rfl) ?_ _
  rotate_left
  exact AllReadyH.nil
  exact AllReadyH.nil
  exact AllReadyH.nil
  clear hHeld SL1 SL2 SL3
  have FIN:=hid (show wc.ownsRow w2.heap.size 5 1 vc ((t.ins.take k1n).flatMap inQ).length (nums .u8 ((t.ins.take k1n).flatMap inQ)) from by
   have oc:=OC.out
   have e2:nums .u8 bs0++nums .u8 (x.tx++f4 x.out)++(#[Value.int .u8 (pn:Int)]:Array Value).toList++nums .u8 x.token++nums .u8 x.more++nums .u8 x.secret=nums .u8 ((t.ins.take k1n).flatMap inQ):=by
    rw [I1.out.1,List.take_add_one,HX.out,List.flatMap_append,BS0.out.1]
    simp [nums,XQ.out]
   rw [e2] at oc
   have hl:=oc.1
   rw [nums_length,Nat.mul_one] at hl
   rw [hl]
   exact oc)
  have BF:=hid (show Below w2.heap.size w2 wc from B3.out.trans (GC.out.low low3.out WL3.out))
  clear OA OB2 OC GA GB GC
  go_wp2_with (fail)
  go_roundw
  case rel=>exact⟨k1n,vc,rfl,by have:=I1.out;omega,rfl,FIN.out,BF.out⟩
  case measure=>simp [intOf];have:=I1.out;omega
end Go.Proofs.YtnbmpgballopeaaGreatDoor
/- The reference's name of a transaction: Id. -/
namespace Go.Proofs.YtnbmpgballopeaaGreatDoor
open Go.RowKit
theorem alloc3q(w:World)(a b c:Obj):(((w.alloc a).alloc b).alloc c).heap[w.heap.size]? = some a∧(((w.alloc a).alloc b).alloc c).heap[w.heap.size+1]? = some b∧(((w.alloc a).alloc b).alloc c).heap[w.heap.size+1+1]? = some c∧Below w.heap.size w (((w.alloc a).alloc b).alloc c):=by
 obtain⟨h0,h1,h2,h3⟩:=alloc2p w a b
 have h4:=heap_alloc_new ((w.alloc a).alloc b) c
 rw [h2] at h4
 have b4:=(Below.refl ((w.alloc a).alloc b).heap.size ((w.alloc a).alloc b)).alloc (Nat.le_refl _) c
 exact⟨heap_keep h0 b4,heap_keep h1 b4,h4,h3.trans (b4.mono h3.size)⟩
theorem parts2{w:World}{P n1 c1 n2 c2:Nat}{T:TypeId}{a1 a2:Option Addr}{b1 b2:List Nat}(hP:w.heap[P]? = some (.cells #[.slice a1 n1 c1,.slice a2 n2 c2] T (0,0)))(h1:Sl .u8 w a1 n1 c1 b1)(h2:Sl .u8 w a2 n2 c2 b2)(hb1:∀d∈b1,d<256)(hb2:∀d∈b2,d<256)(hn1:n1≤140737488351232)(hn2:n2≤140737488351232):Parts w (some ⟨P,0,none⟩) 2 2 [⟨a1,c1,b1⟩,⟨a2,c2,b2⟩]:=by
 have l1:b1.length=n1:=h1.len
 have l2:b2.length=n2:=h2.len
 refine⟨⟨by simp [BS.cells],Nat.le_refl _,by decide,(fun e=>nomatch e),P,0,fun _=>rfl,fun j u hu=>?_⟩,rfl,fun l hl'=>?_⟩
 ·have:=gen_cell (j:=j) (row_range (L:=[.slice a1 n1 c1,.slice a2 n2 c2]) hP) (v:=u) (by simpa [BS.cells,l1,l2] using hu)
  simpa using this
 ·simp only [List.mem_cons,List.not_mem_nil,or_false] at hl'
  rcases hl' with rfl|rfl
  ·exact⟨by rw [show(BS.mk a1 c1 b1).v.length=n1 from l1];exact h1,hb1,by rw [show(BS.mk a1 c1 b1).v.length=n1 from l1];exact hn1⟩
  ·exact⟨by rw [show(BS.mk a2 c2 b2).v.length=n2 from l2];exact h2,hb2,by rw [show(BS.mk a2 c2 b2).v.length=n2 from l2];exact hn2⟩
set_option maxRecDepth 100000 in
set_option maxHeartbeats 16000000 in
theorem rcid_walk(t:TxD)(w:World)(h:t.good w):Calls Tryz.prog 13 #[tabV,.agg t.cells.toArray] w fun e w'=>e = .returned (.agg (nums .u8 (idB t)).toArray)∧Below w.heap.size w w':=by
 have G:=hid h
 obtain⟨tl,htl⟩:∃tl:List Value,tl=nums .u32 (H0++K0):=⟨_,rfl⟩
 have hT:tabV = .agg tl.toArray:=by rw [htl];rfl
 rw [hT]
 have hiTb:=hid (show(Tryz.prog.info? 50).map (·.size)=some tl.length from by have:=tc_info (tc:=tl.toArray) (by rw [htl]);rwa [List.size_toArray] at this)
 have HTV:=hid hT
 obtain⟨tc,htc⟩:∃tc,tc=t.cells:=⟨_,rfl⟩
 have TL:=hid (show tc.length=2 by rw [htc];rfl)
 have HTC:=hid htc
 obtain⟨zz,hzz⟩:∃zz:List Nat,zz=zh:=⟨_,rfl⟩
 have ZH:∀w:World,(zeroValue 42).run Tryz.prog w = .ok (.agg (nums .u8 zz).toArray) w:=by rw [hzz];exact zv_of (by kernel_rfl)
 have BZ:=hid (show Tryz.prog.built 42 []=some (nums .u8 zz).toArray from by rw [hzz];kernel_rfl)
 have HZZ:=hid hzz
 have lz:=hid (show zz.length=32 by rw [hzz];rfl)
 have A3:=alloc3q w (.cells tl.toArray 50) (.cells tc.toArray 37) (.cells (nums .u8 zz).toArray 42)
 have HB:=hid A3.1
 have HA:=hid A3.2.1
 have HR:=hid A3.2.2.1
 have B1:=hid A3.2.2.2
 have CK:=fun(wx:World) (bx:Below w.heap.size w wx)=>hid (show Calls Tryz.prog 10 #[.agg tc.toArray] wx _ from by rw [htc];exact rtcheck_walk t wx (G.out.below bx))
 have hiT:=hid (show(Tryz.prog.info? 37).map (·.size)=some tc.length by rw [TL.out];kernel_rfl)
 obtain⟨N,hN⟩:∃N,N=t.ins.length:=⟨_,rfl⟩
 obtain⟨M,hM⟩:∃M,M=t.outs.length:=⟨_,rfl⟩
 obtain⟨ia,hia⟩:∃ia,ia=t.ia:=⟨_,rfl⟩
 obtain⟨ic,hic⟩:∃ic,ic=t.ic:=⟨_,rfl⟩
 obtain⟨oa,hoa⟩:∃oa,oa=t.oa:=⟨_,rfl⟩
 obtain⟨oc,hoc⟩:∃oc,oc=t.oc:=⟨_,rfl⟩
 have NN:=hid (And.intro hN hM)
 have PI:=hid (show Rd w 130 ia N ic (t.ins.flatMap InD.cells) by rw [hia,hic,hN];exact h.ins)
 have PO:=hid (show Rd w 34 oa M oc (t.outs.flatMap OutD.cells) by rw [hoa,hoc,hM];exact h.outs)
 have TCE:=hid (show tc=[.slice ia N ic,.slice oa M oc] by rw [htc];unfold TxD.cells;rw [hia,hic,hN,hoa,hoc,hM])
 rw [← htc]
 clear h A3 hzz htc htl hT hN hM hia hic hoa hoc
 go_enter Tryz.func13,Tryz.ntmps13
 go_upto_region 1 with(fail)
 generalize ((w.alloc (.cells tl.toArray 50)).alloc (.cells tc.toArray 37)).alloc (.cells (nums .u8 zz).toArray 42)=w1 at *
 have rT:=row_range HA.out
 go_wp2_with (with_reducible refine wpList_load_mid rfl _ _ rfl (w.heap.size+1) 0 rfl tc _ rT Tryz.underlying37 rfl hiT.out ?_)
 refine(CK w1 B1.out).out.mono ?_
 rintro e w2 ⟨rfl,b2⟩
 have B2:=hid (show Below w.heap.size w w2 from B1.out.trans (b2.mono B1.out.size))
 have HB2:=hid (heap_keep HB.out b2)
 have HA2:=hid (heap_keep HA.out b2)
 have HR2:=hid (heap_keep HR.out b2)
 clear b2 rT CK
 by_cases hz:t.code=0
 case neg=>
  have v1:((t.code:Int) != 0)=true:=by rw [bne_iff_ne];omega
  have HZ:=hid hz
  have hiZ:=hid (show(Tryz.prog.info? 42).map (·.size)=some (nums .u8 zz).toArray.size by rw [List.size_toArray,nums_length,lz.out];kernel_rfl)
  have hz1:=hid (all_oneCell_toArray (nums_oneCell .u8 zz))
  clear hz
  go_upto_region 2 with(fail)
  go_wp2_with (first|with_reducible refine wpList_mk0 BZ.out ?_|refine wpList_store_row rfl _ _ _ rfl (w.heap.size+1+1) (nums .u8 zz).toArray rfl rfl _ _ HR2.out hiZ.out rfl hz1.out ?_)
  refine bodyPost_ret (results_cellH rfl _ _ (w.heap.size+1+1) _ (nums .u8 zz).toArray _ _ rfl (setRow_heap _ _ _ _ _ _ HR2.out) Tryz.underlying42 rfl hiZ.out) rfl ?_
  exact⟨by unfold idB;rw [if_neg HZ.out,HZZ.out],below_setRow B2.out (by omega) _⟩
 have v1:((t.code:Int) != 0)=false:=by rw [bne_eq_false_iff_eq];omega
 have CZ:=hid (code_zero hz)
 have CB:=hid (code_ins hz)
 have PBD:=hid (code_paths hz)
 have NB:=hid (show N≤256∧M≤256 from⟨by rw [NN.out.1];exact CZ.out.1,by rw [NN.out.2];exact CZ.out.2.1⟩)
 have IDB:=hid (show idB t=sha (tagH nmTx++bodyB t) from by unfold idB;rw [if_pos hz])
 have OLEN:=hid (show(t.outs.flatMap outB).length≤457*256 from by
  have h1:=outsB_len (os:=t.outs) (fun o ho=>⟨(G.out.ook o ho).anchor.1,(G.out.ook o ho).ok,CZ.out.2.2 o ho⟩)
  have h2:=CZ.out.2.1
  omega)
 have ILEN:=hid (show ∀k,((t.ins.take k).flatMap inB).length≤36*256 from fun k=>by
  have h2:=CZ.out.1
  rw [insB_len (fun i hi=>G.out.iok i (List.mem_of_mem_take hi)),List.length_take];omega)
 have k0:w2.cell? ⟨w.heap.size+1,0,none⟩=some (.slice ia N ic):=gen_cell (j:=0) (row_range HA2.out) (by rw [TCE.out];rfl)
 have K1:=hid (show w2.cell? ⟨w.heap.size+1,1,none⟩=some (.slice oa M oc) from gen_cell (j:=1) (row_range HA2.out) (by rw [TCE.out];rfl))
 have L2:=hid (show w.heap.size+1+1<w2.heap.size from(Array.getElem?_eq_some_iff.1 HR2.out).1)
 obtain⟨c0,hc0⟩:∃c0,c0=N % 256:=⟨_,rfl⟩
 obtain⟨c1,hc1⟩:∃c1,c1=N / 256:=⟨_,rfl⟩
 have r0:(N:Int).tmod 256=(c0:Int):=by rw [Int.tmod_eq_emod_of_nonneg (by omega)];omega
 have r0':(N:Int) % 256=(c0:Int):=by omega
 have r1:(N:Int).tdiv 256=(c1:Int):=by rw [Int.tdiv_eq_ediv_of_nonneg (by omega)];omega
 have r1':(N:Int) / 256=(c1:Int):=by omega
 have r2:IntKind.i64.wrap (c0:Int)=(c0:Int):=by rw [IntKind.wrap_i64];omega
 have r3:IntKind.i64.wrap (c1:Int)=(c1:Int):=by have:=NB.out;rw [IntKind.wrap_i64];omega
 have r5:IntKind.u8.wrap (c0:Int)=(c0:Int):=by rw [IntKind.wrap_u8];omega
 have r6:IntKind.u8.wrap (c1:Int)=(c1:Int):=by have:=NB.out;rw [IntKind.wrap_u8];omega
 have HC:=hid (show c0=N % 256∧c1=N / 256 % 256 from⟨hc0,by have:=NB.out;omega⟩)
 clear hz hc0 hc1
 go_upto_region 4 with(fail)
 have M2:=hid (own_lit2 w2 c0 c1)
 have bl:=hid ((Below.refl w2.heap.size w2).alloc (Nat.le_refl _) (.cells #[.int .u8 (c0:Int),.int .u8 (c1:Int)] 5))
 have k0':=cell_keep bl.out k0
 go_upto_region 5 with(fail)
 clear v1 k0 k0' r0 r0' r1 r1' r2 r3 r5 r6
 go_loopw [5,26] (fun x5 x26 wr=>∃(k:Nat) (v5:Value),v5=x5∧k≤N∧x26 = .int .i64 (k:Int)∧wr.ownsRow w2.heap.size 5 1 v5 (2+((t.ins.take k).flatMap inB).length) (nums .u8 ([c0,c1]++(t.ins.take k).flatMap inB))∧Below w2.heap.size w2 wr) (fun _ x26 _=>N - (intOf x26).toNat)
 case atStart=>exact⟨0,_,rfl,Nat.zero_le _,rfl,M2.out,bl.out⟩
 case round=>
  obtain⟨k,v5,hv5,hk,rfl,ho,hb⟩:=hrel
  obtain⟨wo,rfl⟩:∃wo,wo=wr:=⟨_,rfl⟩
  subst hv5
  have BR:=hid hb
  have OW:=hid ho
  have BW:=hid (B2.out.trans (hb.mono B2.out.size))
  clear hb ho M2 bl
  by_cases hlk:k<N
  case neg=>
   obtain rfl:k=N:=by omega
   have u1:decide (k<k)=false:=decide_eq_false (by omega)
   have u2:decide ((k:Int)<(k:Int))=false:=decide_eq_false (by omega)
   have HBo:=hid (heap_keep HB2.out BR.out)
   have HRo:=hid (heap_keep HR2.out BR.out)
   have K1o:=hid (cell_keep BR.out K1.out)
   have RTb:=hid (row_range HBo.out)
   obtain⟨ib,hib⟩:∃ib,ib=[c0,c1]++(t.ins.take k).flatMap inB:=⟨_,rfl⟩
   obtain⟨il,hil⟩:∃il,il=2+((t.ins.take k).flatMap inB).length:=⟨_,rfl⟩
   have IL:=hid (show il≤9218 by have:=ILEN.out k;omega)
   have IBL:=hid (show ib.length=il by rw [hib,hil,List.length_append];rfl)
   rw [← hib,← hil] at OW
   have BODY:=hid (show bodyB t=ib++t.outs.flatMap outB by unfold bodyB;rw [hib,HC.out.1,HC.out.2,NN.out.1,List.take_length,List.append_assoc])
   have B8:=hid (bodyB_lt G.out CZ.out.2.2)
   have IB8:=hid (show ∀d∈ib,d<256 from fun d hd=>B8.out d (by rw [BODY.out];exact List.mem_append_left _ hd))
   have OB8:=hid (show ∀d∈t.outs.flatMap outB,d<256 from fun d hd=>B8.out d (by rw [BODY.out];exact List.mem_append_right _ hd))
   obtain⟨a5,c5,rfl,_⟩:=Rd.of_owns OW.out
   have RO:=fun(wx:World) (bx:Below w.heap.size w wx)=>hid (routs_walk oa M oc t.outs wx NN.out.2 (PO.out.below bx) (fun o ho=>(G.out.ook o ho).below bx) CZ.out.2.2 PBD.out NB.out.2)
   have hi6:=hid (show(Tryz.prog.info? 42).map (·.size)=some (nums .u8 (idB t)).toArray.size by rw [List.size_toArray,nums_length,IDB.out,sha_len];kernel_rfl)
   have ho6:=hid (show(nums .u8 zz).toArray.size=(nums .u8 (idB t)).toArray.size by rw [List.size_toArray,List.size_toArray,nums_length,nums_length,lz.out,IDB.out,sha_len])
   have h16:=hid (all_oneCell_toArray (nums_oneCell .u8 (idB t)))
   clear hk hlk hib hil
   go_upto_region 9 with(fail)
   clear u1 u2
   refine wp_region_X (l:=7) (S:=fun b w'=>Below w.heap.size w w'∧(b=false→Below wo.heap.size wo w')) (by kernel_rfl) (⟨BW.out.trans ((Below.refl _ _).drew.mono BW.out.size),fun _=>(Below.refl _ _).drew⟩) (fun hHeld=>?_)
   try simp only [List.size_toArray,List.length_cons,List.length_nil,Nat.reduceAdd,Array.replicate_succ,Array.replicate_zero,List.push_toArray,List.nil_append,List.cons_append]
   refine' tkE (i:=0) (oi:=⟨_,.load 50 (.tmp 2),_,_,_,_⟩) (v:=_) rfl (yieldsIf_load_mid (by rfl) _ _ rfl w.heap.size 0 rfl tl _ (fun _ h=>range_keep (h.2 rfl) RTb.out) Tryz.underlying50 rfl hiTb.out) hHeld ?_
   (try simp only [Act.put,s0,s1,s2])
   refine tkE (i:=1) (oi:=⟨_,.move (.tmp 5),_,_,_,_⟩) (v:=?v1001) rfl (yi ?y1001) hHeld ?_
   case y1001=>(intro w _;go_simp;(try with_reducible rfl))
   (try simp only [Act.put,s0,s1,s2])
   refine tkE (i:=2) (oi:=⟨_,.fieldAddr 37 (.tmp 3) 1,_,_,_,_⟩) (v:=?v1002) rfl (yi ?y1002) hHeld ?_
   case y1002=>(intro w _;go_simp;(try with_reducible rfl))
   (try simp only [Act.put,s0,s1,s2])
   refine tkE (i:=3) (oi:=⟨_,.load 35 (.tmp 42),_,_,_,_⟩) (v:=(.slice oa M oc)) rfl (Or.inl ⟨by rfl,fun w h=>by have c9:=cell_keep (h.2 rfl) K1o.out;go_simp⟩) hHeld ?_
   (try simp only [Act.put,s0,s1,s2])
   refine wpAnyX_ready (rs:=[4]) (by kernel_rfl) (by simp) ?_
   refine AllReadyX.cons (o:=⟨_,.call ⟨.value (.func 31),#[.tmp 43],#[35]⟩,_,_,_,_⟩) rfl (b:=false) (by kernel_rfl) (fun K hK=>?_) ?_
   go_simp;refine(RO _ hHeld.1).out.mono ?_;rintro e w6 ⟨v6,rfl,o6,b6⟩;obtain⟨ol,hol⟩:∃ol,ol=(t.outs.flatMap outB).length:=⟨_,rfl⟩;have HOL:=hid (show ol≤457*256∧ol=(t.outs.flatMap outB).length from⟨by rw [hol];exact OLEN.out,hol⟩);rw [← hol] at o6;obtain⟨a6,c6,rfl,rd6⟩:=Rd.of_owns o6;have RD6:=hid rd6;have B6:=hid b6;clear o6 rd6 b6 hol
   refine hK.out _ _ (⟨hHeld.1.trans (B6.out.mono hHeld.1.size),fun e=>(hHeld.2 e).trans (B6.out.mono (hHeld.2 e).size)⟩) (fun hHeld=>?_)
   clear hK K
   (try simp only [s0,s1,s2])
   refine wpAnyX_ready (rs:=[5]) (by kernel_rfl) (by simp) ?_
   refine AllReadyX.cons (o:=⟨_,.buildSlice 173 2 #[(0,.tmp 41),(1,.tmp 44)],_,_,_,_⟩) rfl (b:=false) (by kernel_rfl) (fun K hK=>?_) ?_
   go_simp;(first|refine newZ ?_|refine newZd ?_);intro w7 HP B7;have OW7:=hid (ownKB OW.out ((hHeld.2 rfl).trans (B7.out.mono (hHeld.2 rfl).size)))
   refine hK.out _ _ (⟨hHeld.1.trans (B7.out.mono hHeld.1.size),fun e=>(hHeld.2 e).trans (B7.out.mono (hHeld.2 e).size)⟩) (fun hHeld=>?_)
   clear hK K
   (try simp only [s0,s1,s2])
   refine wpAnyX_ready (rs:=[6]) (by kernel_rfl) (by simp) ?_
   refine AllReadyX.cons (o:=⟨_,.call ⟨.value (.func 40),#[.tmp 40,.const (.string { data:=#[109,111,110,101,121,101,114,47,116,120] }),.tmp 45],#[50,9,173]⟩,_,_,_,_⟩) rfl (b:=false) (by kernel_rfl) (fun K hK=>?_) ?_
   go_simp;have TS:=rtag_walk nmTx (by decide) (some ⟨w6.heap.size,0,none⟩) 2 2 [⟨a5,c5,ib⟩,⟨a6,c6,t.outs.flatMap outB⟩] w7 (parts2 HP.out (by have:=sl_of_own OW7.out;exact this) (Rd.below RD6.out B7.out) IB8.out OB8.out (by have:=IL.out;omega) (by have:=HOL.out;omega)) (by have h1:=IBL.out;have h2:=IL.out;have h3:=HOL.out;simp only [flat,List.flatMap_cons,List.flatMap_nil,List.append_nil,List.length_append];omega);rw [show flat [⟨a5,c5,ib⟩,⟨a6,c6,t.outs.flatMap outB⟩]=bodyB t from by rw [BODY.out];simp [flat],← IDB.out,HTV.out] at TS;refine TS.mono ?_;clear TS;rintro e w8 ⟨rfl,b8⟩;have B8w:=hid b8;clear b8;rw [show hv (idB t) = .agg (nums .u8 (idB t)).toArray from rfl]
   refine hK.out _ _ (⟨hHeld.1.trans (B8w.out.mono hHeld.1.size),fun e=>(hHeld.2 e).trans (B8w.out.mono (hHeld.2 e).size)⟩) (fun hHeld=>?_)
   clear hK K
   (try simp only [s0,s1,s2])
   refine wpAnyX_ready (rs:=[7]) (by kernel_rfl) (by simp) ?_
   refine AllReadyX.cons (o:=⟨_,.store 42 (.tmp 4) (.tmp 46),_,_,_,_⟩) rfl (b:=true) (by kernel_rfl) (fun K hK=>?_) ?_
   have hr5:=heap_keep HRo.out (hHeld.2 rfl);have HR5:=hid hr5;rw [if_pos (by rfl)];refine wp_store_row _ _ _ rfl (w.heap.size+1+1) (nums .u8 (idB t)).toArray rfl rfl _ _ hr5 hi6.out ho6.out h16.out ?_
   refine hK.out _ _ (⟨below_setRow hHeld.1 (by omega) _,nofun⟩) (fun hHeld=>?_)
   clear hK K
   (try simp only [s0,s1,s2])
   refine wpAnyX_done (by kernel_rfl) ?_ _
   rotate_left
   exact AllReadyX.nil
   exact AllReadyX.nil
   exact AllReadyX.nil
   exact AllReadyX.nil
   have BF:=hid hHeld.1
   clear hHeld
   go_wp2_with (fail)
   refine bodyPost_ret (results_cellH rfl _ _ (w.heap.size+1+1) _ (nums .u8 (idB t)).toArray _ _ rfl (setRow_heap _ _ _ _ _ _ HR5.out) Tryz.underlying42 rfl hi6.out) rfl ?_
   exact⟨rfl,BF.out⟩
  have u1:decide (k<N)=true:=decide_eq_true hlk
  have u2:decide ((k:Int)<(N:Int))=true:=decide_eq_true (by omega)
  have u6:(k:Int)<(N:Int):=by omega
  have u7:¬ ((N:Int)≤(k:Int)):=by omega
  have u8':¬ (N≤k):=by omega
  obtain⟨x,hx⟩:∃x,t.ins[k]? = some x:=⟨_,List.getElem?_eq_getElem (by rw [← NN.out.1];exact hlk)⟩
  have xok:=hid (G.out.iok x (List.mem_of_getElem? hx))
  have xbd:=CB.out x (List.mem_of_getElem? hx)
  have xbd2:¬ (x.out<0∨256≤x.out∨x.path<0∨4≤x.path):=of_decide_eq_false xbd
  obtain⟨b,off,rfl,rg⟩:=rd_row (fun z hz=>InD.len (G.out.iok z hz)) PI.out hx hlk
  have rgr:=range_keep BW.out rg
  obtain⟨xcs,hxcs⟩:∃xcs,xcs=x.cells:=⟨_,rfl⟩
  have XL:=hid (show xcs.length=130 by rw [hxcs];exact InD.len xok.out)
  rw [← hxcs] at rgr
  have hiC:=hid (show(Tryz.prog.info? 88).map (·.size)=some xcs.length by rw [XL.out];kernel_rfl)
  have hiCa:=hid (show(Tryz.prog.info? 88).map (·.size)=some xcs.toArray.size by rw [List.size_toArray,XL.out];kernel_rfl)
  have hoC:=hid (show 130=xcs.toArray.size by rw [List.size_toArray,XL.out])
  have h16:=hid (show(xcs.toArray.all fun x=>x.oneCell')=true by rw [hxcs];exact all_oneCell_toArray (InD.one x))
  obtain⟨k1n,hk1⟩:∃k1n,k1n=k+1:=⟨_,rfl⟩
  have r4:IntKind.i64.wrap ((k:Int)+1)=(k1n:Int):=by have:=NB.out;rw [IntKind.wrap_i64];omega
  have I1:=hid (And.intro hk1 hlk)
  have XC0:=hid (show(xcs.drop 0).take 32=nums .u8 x.tx∧xcs[32]? = some (.int .i64 x.out) from by rw [hxcs];exact⟨InD.tx32 xok.out,InD.c32 xok.out⟩)
  obtain⟨on,hon,honl⟩:∃on:Nat,(on:Int)=x.out∧on<256:=⟨x.out.toNat,by omega,by omega⟩
  have HON:=hid (And.intro hon honl)
  have HX:=hid hx
  have NL:=hid (ILEN.out k)
  clear hk hlk hx rg hxcs hk1 xbd xbd2
  go_upto_region 7 with(first|with_reducible refine wpList_load_mid rfl _ _ rfl b (off+k*130) rfl xcs _ rgr Tryz.underlying88 rfl hiC.out ?_|(refine wpList_store_row rfl _ _ _ rfl wo.heap.size xcs.toArray rfl rfl _ _ (heap_alloc_new _ _) hiCa.out hoC.out h16.out ?_;refine laidW (F:=fun w3=>wpList _ _ _ _ _ w3) ?_;intro w3 h3 b3))
  have c32:=gen_cell (j:=32) (row_range h3.out) XC0.out.2
  rw [← hon] at c32
  have ptr:=gen_range (row_range h3.out) 0 32
  rw [XC0.out.1] at ptr
  obtain⟨lx,hlx⟩:∃lx,lx=nums .u8 x.tx:=⟨_,rfl⟩
  have hiP:=hid (show(Tryz.prog.info? 42).map (·.size)=some lx.length from by rw [hlx,nums_length,xok.out.tx.1];kernel_rfl)
  have CP:=hid (rpoint_walk x.tx on xok.out.tx.1 honl w3)
  rw [← hlx] at CP ptr
  have OW3:=hid (ownKB OW.out b3.out)
  clear u1 u2 u6 u7 u8' rgr hlx hon honl
  go_wp2_with (with_reducible refine wpList_load_mid rfl _ _ rfl wo.heap.size 0 rfl lx _ ptr Tryz.underlying42 rfl hiP.out ?_)
  refine CP.out.mono ?_
  rintro e w5 ⟨v6,rfl,_,o5,b5⟩
  have l5:(x.tx++f4 x.out).length=36:=inB_len xok.out
  rw [ptb_f4 x.tx HON.out.2,HON.out.1,l5] at o5
  obtain⟨a5,c5,rfl,rd5⟩:=Rd.of_owns o5
  have RD5:=hid rd5
  have OW5:=hid (ownKB OW3.out b5)
  have B5:=hid (show Below w2.heap.size w2 w5 from(BR.out.trans (b3.out.mono BR.out.size)).trans (b5.mono (Nat.le_trans BR.out.size b3.out.size)))
  clear o5 b5 rd5 CP ptr l5 c32
  go_wp2_with (at_builtin;refine wpList_when (by rfl) (fun K hK=>wp_cat _ _ 28 rfl tyBy w2.heap.size OW5.out rfl rfl RD5.out (nums_oneCell _ _) (by have:=NL.out;omega) (by have:=NL.out;unfold maxLen;omega) B5.out.size (fun v6 w6 own6 g6 nb6=>hK _ _ ?_));clear hK K;have O6:=hid own6;have B6:=hid ((Keep.grown g6 (S:=fun i=>v5.ownBlock=some i) (fun _ e=>e)).below (B:=w2.heap.size) (fun i e=>(OW5.out.lt _ e).1) B5.out.size);clear own6 g6 nb6)
  go_roundw
  case rel=>
   refine⟨k1n,v6,rfl,by have:=I1.out;omega,rfl,?_,B5.out.trans B6.out⟩
   have o6:=O6.out
   rw [nums_append] at o6
   have hl:=o6.1
   rw [nums_length,Nat.mul_one] at hl
   have e:[c0,c1]++(t.ins.take k).flatMap inB++(x.tx++f4 x.out)=[c0,c1]++(t.ins.take k1n).flatMap inB:=by
    rw [I1.out.1,List.take_add_one,HX.out,List.flatMap_append]
    simp [inB]
   rw [e] at o6 hl
   rw [← hl] at o6
   rw [show 2+((t.ins.take k1n).flatMap inB).length=([c0,c1]++(t.ins.take k1n).flatMap inB).length from by rw [List.length_append];rfl]
   exact o6
  case measure=>simp [intOf];have:=I1.out;omega
end Go.Proofs.YtnbmpgballopeaaGreatDoor

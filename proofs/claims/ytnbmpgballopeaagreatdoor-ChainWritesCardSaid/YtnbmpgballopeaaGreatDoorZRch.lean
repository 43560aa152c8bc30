/- The reference's Check. -/
import Derived.Test.YtnbmpgballopeaaGreatDoorZOpx
import Derived.Test.YtnbmpgballopeaaGreatDoorZRco
import Derived.Test.YtnbmpgballopeaaGreatDoorZCht
namespace Go.Proofs.YtnbmpgballopeaaGreatDoor
open Go.RowKit
theorem rkl_point{tx:List Nat}{o:Int}(ht:tx.length=32)(hb:∀d∈tx,d<256)(ho:(Lit.int .i64 o).wf=true)(d:Nat):KL (d+3) 86 (ptI tx o):=by
 unfold ptI
 refine KL.struct Tryz.underlying86 (by rw [List.length_append,nums_length,ht];kernel_rfl) (by kernel_rfl) fun f hf=>?_
 simp only [List.mem_cons,List.not_mem_nil,or_false] at hf
 rcases hf with rfl|rfl
 ·rw [show Tryz.prog.cellsOf _=32 by kernel_rfl]
  rw [show List.take 32 (List.drop 0 (nums .u8 tx++[Value.int .i64 o]))=nums .u8 tx by rw [List.drop_zero,List.take_append_of_le_length (by rw [nums_length];omega),List.take_of_length_le (by rw [nums_length];omega)]]
  exact KL.bytes Tryz.underlying42 (by kernel_rfl) ht hb
 ·rw [show Tryz.prog.cellsOf _=1 by kernel_rfl]
  rw [show List.take 1 (List.drop 32 (nums .u8 tx++[Value.int .i64 o]))=[Value.int .i64 o] by rw [List.drop_append_of_le_length (by rw [nums_length];omega),List.drop_of_length_le (by rw [nums_length];omega)];rfl]
  exact KL.int Tryz.underlying3 ho
theorem keyRPoint:KeyT 86 3:=⟨by kernel_rfl,by kernel_rfl,by kernel_rfl,by decide,by kernel_rfl⟩
theorem rkv_point{tx:List Nat}{o:Int}(ht:H32b tx)(ho:i64ok o):KV 86 (.agg (ptI tx o).toArray):=
 KV.mk keyRPoint.wide (by kernel_rfl) (by unfold ptI;rw [List.length_append,nums_length,ht.1];kernel_rfl) (fun d=>rkl_point (d:=d+5) ht.1 ht.2 (wf64 ho))
theorem rpoint_eql{x y:List Nat}{a b:Int}(hx:H32b x)(hy:H32b y)(ha:i64ok a)(hb:i64ok b):∀w:World,(binOp .eql 86 (.agg (ptI x a).toArray) (.agg (ptI y b).toArray)).run Tryz.prog w = .ok (.bool (decide (x=y∧a=b))) w:=
 keyRPoint.eql (rkv_point hx ha) (rkv_point hy hb) (point_inj hx hy)
theorem range_pre{w:World}{b o:Nat}{L:List Value}(k:Nat)(h:w.rangeAt b o L):w.rangeAt b o (L.take k):=fun j v hv=>h j v (by rw [List.getElem?_take] at hv;split at hv;exact hv;cases hv)
theorem own_mk0(w:World):(w.alloc (.cells #[] 63)).ownsRow w.heap.size 63 1 (.slice (some ⟨w.heap.size,0,none⟩) 0 0) 0 (nums .u64 (([]:List OutD).map OutD.coins)):=
 World.ownsRow_made (base:=w.heap.size) (e:=63) (size:=1) w #[] 0 (Nat.le_refl _) (by simp) (by simp)
set_option maxRecDepth 100000 in
set_option maxHeartbeats 8000000 in
theorem rtcheck_walk(t:TxD)(w:World)(h:t.good w):Calls Tryz.prog 10 #[.agg t.cells.toArray] w fun e w'=>e = .returned (.int .i64 (t.code:Int))∧Below w.heap.size w w':=by
 obtain⟨N,hN⟩:∃N,N=t.ins.length:=⟨_,rfl⟩
 obtain⟨M,hM⟩:∃M,M=t.outs.length:=⟨_,rfl⟩
 obtain⟨ia,hia⟩:∃ia,ia=t.ia:=⟨_,rfl⟩
 obtain⟨ic,hic⟩:∃ic,ic=t.ic:=⟨_,rfl⟩
 obtain⟨oa,hoa⟩:∃oa,oa=t.oa:=⟨_,rfl⟩
 obtain⟨oc,hoc⟩:∃oc,oc=t.oc:=⟨_,rfl⟩
 have G:=hid h
 have NN:=hid (And.intro hN hM)
 have PI:=hid (show Rd w 130 ia N ic (t.ins.flatMap InD.cells) by rw [hia,hic,hN];exact h.ins)
 have PO:=hid (show Rd w 34 oa M oc (t.outs.flatMap OutD.cells) by rw [hoa,hoc,hM];exact h.outs)
 have e:t.cells=[.slice ia N ic,.slice oa M oc]:=by unfold TxD.cells;rw [hia,hic,hN,hoa,hoc,hM]
 rw [e]
 have b1:=(Below.refl w.heap.size w).alloc (Nat.le_refl _) (.cells #[.slice ia N ic,.slice oa M oc] 37)
 have k0:(w.alloc (.cells #[.slice ia N ic,.slice oa M oc] 37)).cell? ⟨w.heap.size,0,none⟩=some (.slice ia N ic):=gen_cell (j:=0) (row_range (L:=[.slice ia N ic,.slice oa M oc]) (heap_alloc_new w _)) rfl
 have k1:(w.alloc (.cells #[.slice ia N ic,.slice oa M oc] 37)).cell? ⟨w.heap.size,1,none⟩=some (.slice oa M oc):=gen_cell (j:=1) (row_range (L:=[.slice ia N ic,.slice oa M oc]) (heap_alloc_new w _)) rfl
 have B1:=hid b1
 clear h hN hM hia hic hoa hoc e b1
 go_enter Tryz.func10,Tryz.ntmps10
 go_upto_region 1 with(fail)
 generalize w.alloc (.cells #[.slice ia N ic,.slice oa M oc] 37)=w1 at *
 by_cases a1:256<N
 ·have t1:decide ((256:Int)<(N:Int))=true:=decide_eq_true (by omega)
  have t2:decide (256<N)=true:=decide_eq_true a1
  have H:=hid a1
  clear a1
  go_wp2_with (fail)
  go_ret
  refine⟨?_,B1.out⟩
  unfold TxD.code
  rw [if_pos (.inl (by rw [← NN.out.1];exact H.out))]
  rfl
 have t1:decide ((256:Int)<(N:Int))=false:=decide_eq_false (by omega)
 have t2:decide (256<N)=false:=decide_eq_false a1
 by_cases a2:256<M
 ·have t3:decide ((256:Int)<(M:Int))=true:=decide_eq_true (by omega)
  have t4:decide (256<M)=true:=decide_eq_true a2
  have H:=hid a2
  clear a1 a2
  go_wp2_with (fail)
  go_ret
  refine⟨?_,B1.out⟩
  unfold TxD.code
  rw [if_pos (.inr (by rw [← NN.out.2];exact H.out))]
  rfl
 have t3:decide ((256:Int)<(M:Int))=false:=decide_eq_false (by omega)
 have t4:decide (256<M)=false:=decide_eq_false a2
 have L1:=hid (show ¬ (256<t.ins.length∨256<t.outs.length) by rw [← NN.out.1,← NN.out.2];omega)
 by_cases a3:N=0
 ·have t5:((N:Int) == 0)=true:=by rw [beq_iff_eq];omega
  have H:=hid a3
  clear a1 a2 a3
  go_wp2_with (fail)
  go_ret
  refine⟨?_,B1.out⟩
  unfold TxD.code
  rw [if_neg L1.out,if_pos (.inl (by rw [← NN.out.1];exact H.out))]
  rfl
 have t5:((N:Int) == 0)=false:=by rw [beq_eq_false_iff_ne];omega
 by_cases a4:M=0
 ·have t6:((M:Int) == 0)=true:=by rw [beq_iff_eq];omega
  have H:=hid a4
  clear a1 a2 a3 a4
  go_wp2_with (fail)
  go_ret
  refine⟨?_,B1.out⟩
  unfold TxD.code
  rw [if_neg L1.out,if_pos (.inr (by rw [← NN.out.2];exact H.out))]
  rfl
 have t6:((M:Int) == 0)=false:=by rw [beq_eq_false_iff_ne];omega
 have L2:=hid (show ¬ (t.ins.length=0∨t.outs.length=0) by rw [← NN.out.1,← NN.out.2];omega)
 have NB:=hid (show N≤256∧M≤256 by omega)
 clear a1 a2 a3 a4
 go_upto_region 6 with(fail)
 clear t1 t2 t3 t4 t5 t6
 go_loopw [35] (fun x35 wr=>∃i:Nat,i≤N∧x35 = .int .i64 (i:Int)∧insC [] t.ins=insC (t.ins.take i) (t.ins.drop i)∧Below w1.heap.size w1 wr) (fun x35 _=>N - (intOf x35).toNat)
 case atStart=>exact⟨0,Nat.zero_le _,rfl,by simp,Below.refl _ _⟩
 case round=>
  obtain⟨i,hi,rfl,hc,hb⟩:=hrel
  obtain⟨wo,rfl⟩:∃wo,wo=wr:=⟨_,rfl⟩
  have BR:=hid hb
  have CC:=hid hc
  have K0:=hid (cell_keep hb k0)
  have K1:=hid (cell_keep hb k1)
  clear hb hc
  by_cases hlt:i<N
  case neg=>
   obtain rfl:i=N:=by omega
   have t1:decide (i<i)=false:=decide_eq_false (by omega)
   have t2:decide ((i:Int)<(i:Int))=false:=decide_eq_false (by omega)
   clear hi hlt
   have k1':=K1.out
   have C0:=hid (show insC [] t.ins=0 from by have:=CC.out;rw [this,NN.out.1,List.drop_length];rfl)
   have WR:=hid (Nat.le_refl wo.heap.size)
   have BW0:=hid (B1.out.trans (BR.out.mono B1.out.size))
   clear PI
   go_upto_region 17 with(fail)
   have bM:=(Below.refl wo.heap.size wo).alloc (Nat.le_refl _) (.cells #[] 63)
   have oM:=own_mk0 wo
   have k2':=cell_keep bM k1'
   clear k1'
   generalize wo.alloc (.cells #[] 63)=wo2 at *
   go_upto_region 18 with(fail)
   go_loopw [6,79] (fun x7 x80 wr=>∃(k:Nat) (v7:Value),v7=x7∧k≤M∧x80 = .int .i64 (k:Int)∧outsC t.outs=outsC (t.outs.drop k)∧wr.ownsRow wo.heap.size 63 1 v7 k (nums .u64 ((t.outs.take k).map OutD.coins))∧Below wo.heap.size wo wr) (fun _ x80 _=>M - (intOf x80).toNat)
   case atStart=>exact⟨0,_,rfl,Nat.zero_le _,rfl,by simp,oM,bM⟩
   case round=>
    obtain⟨k,v7,hv7,hk,rfl,hoc,ho,hq⟩:=hrel
    subst hv7
    have BQ:=hid hq
    have OO:=hid ho
    have OC:=hid hoc
    clear ho hq hoc
    by_cases hlk:k<M
    case neg=>
     obtain rfl:k=M:=by omega
     have u1:decide (k<k)=false:=decide_eq_false (by omega)
     have u2:decide ((k:Int)<(k:Int))=false:=decide_eq_false (by omega)
     obtain⟨a7,c7,rfl,hr7⟩:=Rd.of_owns OO.out
     have S7:=hid (show Sl .u64 wr a7 k c7 (t.outs.map OutD.coins) from by rw [NN.out.2,List.take_length] at hr7;rw [NN.out.2];exact hr7)
     have TT:=hid (rtotal_walk a7 k c7 (t.outs.map OutD.coins) (fun d hd=>by obtain⟨o,ho,rfl⟩:=List.mem_map.1 hd;exact(G.out.ook o ho).coins) (by have:=NB.out;omega) wr S7.out)
     have O0:=hid (show outsC t.outs=0 from by have:=OC.out;rw [this,NN.out.2,List.drop_length];rfl)
     clear hr7 hlk hk
     go_wp2_with (fail)
     refine TT.out.mono ?_
     rintro e w7 ⟨rfl,b7⟩
     have B7t:=hid b7
     clear b7 TT
     by_cases hs:(t.outs.map OutD.coins).sum<18446744073709551616
     ·rw [totV_yes hs]
      have HS:=hid hs
      clear hs
      go_wp2_with (fail)
      go_ret
      refine⟨?_,(BW0.out.trans (BQ.out.mono BW0.out.size)).trans (B7t.out.mono (Nat.le_trans BW0.out.size BQ.out.size))⟩
      unfold TxD.code
      rw [if_neg L1.out,if_neg L2.out,C0.out,O0.out,if_neg (by decide),if_neg (by decide),if_pos HS.out]
      rfl
     ·rw [totV_no hs]
      have HS:=hid hs
      clear hs
      go_wp2_with (fail)
      go_ret
      refine⟨?_,(BW0.out.trans (BQ.out.mono BW0.out.size)).trans (B7t.out.mono (Nat.le_trans BW0.out.size BQ.out.size))⟩
      unfold TxD.code
      rw [if_neg L1.out,if_neg L2.out,C0.out,O0.out,if_neg (by decide),if_neg (by decide),if_neg HS.out]
      rfl
    have u1:decide (k<M)=true:=decide_eq_true hlk
    have u2:decide ((k:Int)<(M:Int))=true:=decide_eq_true (by omega)
    have u6:(k:Int)<(M:Int):=by omega
    have u7:¬ ((M:Int)≤(k:Int)):=by omega
    have u8':¬ (M≤k):=by omega
    obtain⟨o,ho⟩:∃o,t.outs[k]? = some o:=⟨_,List.getElem?_eq_getElem (by rw [← NN.out.2];exact hlk)⟩
    have og:=G.out.ook o (List.mem_of_getElem? ho)
    obtain⟨b,off,rfl,rg⟩:=rd_row (fun z hz=>OutD.len (G.out.ook z hz)) PO.out ho hlk
    have bwq:=BW0.out.trans (BQ.out.mono BW0.out.size)
    have rgr:=range_keep bwq rg
    obtain⟨ocs,hocs⟩:∃ocs,ocs=o.cells:=⟨_,rfl⟩
    have OL:=hid (show ocs.length=34 by rw [hocs];exact OutD.len og)
    rw [← hocs] at rgr
    have hiC:=hid (show(Tryz.prog.info? 96).map (·.size)=some ocs.length by rw [OL.out];kernel_rfl)
    have hiCa:=hid (show(Tryz.prog.info? 96).map (·.size)=some ocs.toArray.size by rw [List.size_toArray,OL.out];kernel_rfl)
    have hoC:=hid (show 34=ocs.toArray.size by rw [List.size_toArray,OL.out])
    have h16:=hid (show(ocs.toArray.all fun x=>x.oneCell')=true by rw [hocs];exact all_oneCell_toArray (OutD.one o))
    obtain⟨k1n,hk1⟩:∃k1n,k1n=k+1:=⟨_,rfl⟩
    have r4:IntKind.i64.wrap ((k:Int)+1)=(k1n:Int):=by have:=NB.out;rw [IntKind.wrap_i64];omega
    have I1:=hid (And.intro hk1 hlk)
    have HO:=hid ho
    have OG:=hid (og.below bwq)
    have HOC:=hid hocs
    have OC0:=hid (show ocs[0]? = some (.int .u64 (o.coins:Int)) from by rw [hocs];rfl)
    clear hk hlk ho og rg bwq hk1 hocs
    go_upto_region 20 with(first|with_reducible refine wpList_load_mid rfl _ _ rfl b (off+k*34) rfl ocs _ rgr Tryz.underlying96 rfl hiC.out ?_|(refine wpList_store_row rfl _ _ _ rfl wr.heap.size ocs.toArray rfl rfl _ _ (heap_alloc_new _ _) hiCa.out hoC.out h16.out ?_;refine laidW (F:=fun w3=>wpList _ _ _ _ _ w3) ?_;intro w3 h3 b3))
    have rg3:=row_range h3.out
    have OCK:=hid (rocheck_walk o w3 (OG.out.below b3.out))
    rw [← HOC.out] at OCK
    clear u1 u2 u6 u7 u8' rgr
    go_wp2_with (with_reducible refine wpList_load_mid rfl _ _ rfl wr.heap.size 0 rfl ocs _ rg3 Tryz.underlying96 rfl hiC.out ?_)
    refine OCK.out.mono ?_
    rintro e w6 ⟨rfl,b6⟩
    have B6:=hid (show Below wo.heap.size wo w6 from(BQ.out.trans (b3.out.mono BQ.out.size)).trans (b6.mono (Nat.le_trans BQ.out.size b3.out.size)))
    have b36:=hid (show Below wr.heap.size wr w6 from b3.out.trans (b6.mono b3.out.size))
    have c0:=gen_cell (j:=0) (row_range (heap_keep h3.out b6)) OC0.out
    clear OCK b6 rg3
    by_cases hz:o.code=0
    case neg=>
     have v1:((o.code:Int) != 0)=true:=by rw [bne_iff_ne];omega
     have E:=hid (show t.code=o.code from by
      unfold TxD.code
      have h1:=OC.out
      rw [drop_at HO.out,outsC,if_neg hz] at h1
      rw [if_neg L1.out,if_neg L2.out,C0.out,if_neg (by decide),h1,if_pos hz])
     clear hz
     go_wp2_with (fail)
     go_ret
     exact⟨congrArg (fun n:Nat=>Ending.returned (Value.int .i64 (n:Int))) E.out.symm,BW0.out.trans (B6.out.mono BW0.out.size)⟩
    have v1:((o.code:Int) != 0)=false:=by rw [bne_eq_false_iff_eq];omega
    have HZ:=hid hz
    clear hz
    go_wp2_with (at_builtin;refine wpList_pushK rfl _ _ 98 rfl tyU64c wo.heap.size (ownKB OO.out b36.out) rfl rfl rfl rfl (by have:=NB.out;have:=I1.out;omega) (by decide) (B6.out.size) ?_;intro v9 w9 own9 k9 nb9;have O9:=hid own9;have K9:=hid k9;clear own9 k9 nb9)
    go_roundw
    case rel=>
     refine⟨k1n,_,rfl,by have:=I1.out;omega,rfl,?_,?_,B6.out.trans (K9.out.below (fun g hg=>(OO.out.lt _ hg).1) B6.out.size)⟩
     ·have h1:=OC.out
      rw [drop_at HO.out,outsC,if_pos HZ.out] at h1
      rw [I1.out.1];exact h1
     ·have o9:=O9.out
      rw [I1.out.1,List.take_add_one,HO.out,List.map_append,← nums_append]
      exact o9
    case measure=>simp [intOf];have:=I1.out;omega
  have t1:decide (i<N)=true:=decide_eq_true hlt
  have t2:decide ((i:Int)<(N:Int))=true:=decide_eq_true (by omega)
  have t6:(i:Int)<(N:Int):=by omega
  have t7:¬ ((N:Int)≤(i:Int)):=by omega
  have t8:¬ (N≤i):=by omega
  have t9:i<N:=hlt
  obtain⟨x,hx⟩:∃x,t.ins[i]? = some x:=⟨_,List.getElem?_eq_getElem (by rw [← NN.out.1];exact hlt)⟩
  have rdr:=fun(j:Nat) (y:InD) (hy:t.ins[j]? = some y) (hj:j<N)=>rd_row (fun z hz=>InD.len (G.out.iok z hz)) PI.out hy hj
  obtain⟨b,off,rfl,rg⟩:=rdr i x hx hlt
  have xok:=hid (G.out.iok x (List.mem_of_getElem? hx))
  have bw:=hid (B1.out.trans (BR.out.mono B1.out.size))
  have rgr:=range_keep bw.out rg
  obtain⟨xcs,hxcs⟩:∃xcs,xcs=x.cells:=⟨_,rfl⟩
  have XL:=hid (show xcs.length=130 by rw [hxcs];exact InD.len xok.out)
  rw [← hxcs] at rgr
  have hiC:=hid (show(Tryz.prog.info? 88).map (·.size)=some xcs.length by rw [XL.out];kernel_rfl)
  have hiCa:=hid (show(Tryz.prog.info? 88).map (·.size)=some xcs.toArray.size by rw [List.size_toArray,XL.out];kernel_rfl)
  have hoC:=hid (show 130=xcs.toArray.size by rw [List.size_toArray,XL.out])
  have h16:=hid (show(xcs.toArray.all fun x=>x.oneCell')=true by rw [hxcs];exact all_oneCell_toArray (InD.one x))
  obtain⟨i1,hi1⟩:∃i1,i1=i+1:=⟨_,rfl⟩
  have r4:IntKind.i64.wrap ((i:Int)+1)=(i1:Int):=by have:=NB.out;rw [IntKind.wrap_i64];omega
  have I1:=hid (And.intro hi1 hlt)
  have XC:=hid (show xcs[32]? = some (.int .i64 x.out)∧xcs[33]? = some (.int .i64 x.path)∧(xcs.drop 0).take 33=ptI x.tx x.out from by rw [hxcs];exact⟨InD.c32 xok.out,InD.c33 xok.out,InD.point xok.out⟩)
  have HX:=hid hx
  clear hi hlt hx rg hxcs hi1
  go_upto_region 8 with(first|with_reducible refine wpList_load_mid rfl _ _ rfl b (off+i*130) rfl xcs _ rgr Tryz.underlying88 rfl hiC.out ?_|(refine wpList_store_row rfl _ _ _ rfl wo.heap.size xcs.toArray rfl rfl _ _ (heap_alloc_new _ _) hiCa.out hoC.out h16.out ?_;refine laidW (F:=fun w3=>wpList _ _ _ _ _ w3) ?_;intro w3 h3 b3))
  have c32:=gen_cell (j:=32) (row_range h3.out) XC.out.1
  have c33:=gen_cell (j:=33) (row_range h3.out) XC.out.2.1
  have B3:=hid (BR.out.trans (b3.out.mono BR.out.size))
  have BW3:=hid (bw.out.trans (b3.out.mono bw.out.size))
  obtain⟨xo,hxo⟩:∃xo,xo=x.out:=⟨_,rfl⟩
  obtain⟨xp,hxp⟩:∃xp,xp=x.path:=⟨_,rfl⟩
  rw [← hxo] at c32
  rw [← hxp] at c33
  have XE:=hid (And.intro hxo hxp)
  have c0:=cell_keep b3.out K0.out
  have K00:=hid k0
  clear hxo hxp t1 t2 t6 t7 t8 t9 rgr
  have BADR:=fun(hb:xo<0∨256≤xo∨xp<0∨4≤xp)=>hid (show(1:Int)=(t.code:Int) from by
   have e:=TxD.code_ins L1.out L2.out (k:=1) (by rw [CC.out,drop_at HX.out,insC_bad (decide_eq_true (by rw [← XE.out.1,← XE.out.2];exact hb))]) (by decide)
   rw [e];rfl)
  by_cases k1:xo<0
  ·have E:=BADR (.inl k1)
   have u1:decide (xo<0)=true:=decide_eq_true k1
   clear BADR k1
   go_wp2_with (fail)
   go_ret
   exact⟨congrArg (fun n=>Ending.returned (Value.int .i64 n)) E.out,BW3.out⟩
  have u1:decide (xo<0)=false:=decide_eq_false k1
  by_cases k2:256≤xo
  ·have E:=BADR (.inr (.inl k2))
   have u2:decide (255<xo)=true:=decide_eq_true (by omega)
   clear BADR k1 k2
   go_wp2_with (fail)
   go_ret
   exact⟨congrArg (fun n=>Ending.returned (Value.int .i64 n)) E.out,BW3.out⟩
  have u2:decide (255<xo)=false:=decide_eq_false (by omega)
  by_cases k3:xp<0
  ·have E:=BADR (.inr (.inr (.inl k3)))
   have u3:decide (xp<0)=true:=decide_eq_true k3
   clear BADR k1 k2 k3
   go_wp2_with (fail)
   go_ret
   exact⟨congrArg (fun n=>Ending.returned (Value.int .i64 n)) E.out,BW3.out⟩
  have u3:decide (xp<0)=false:=decide_eq_false k3
  by_cases k4:4≤xp
  ·have E:=BADR (.inr (.inr (.inr k4)))
   have u4:decide (3<xp)=true:=decide_eq_true (by omega)
   clear BADR k1 k2 k3 k4
   go_wp2_with (fail)
   go_ret
   exact⟨congrArg (fun n=>Ending.returned (Value.int .i64 n)) E.out,BW3.out⟩
  have u4:decide (3<xp)=false:=decide_eq_false (by omega)
  have FB:=hid (show InD.bad x=false from decide_eq_false (by rw [← XE.out.1,← XE.out.2];omega))
  clear BADR k1 k2 k3 k4
  go_upto_region 11 with(fail)
  clear u1 u2 u3 u4
  go_loopw [5] (fun x66 wr=>∃j:Nat,j≤i∧x66 = .int .i64 (j:Int)∧(t.ins.take j).any x.meets=false∧Below w3.heap.size w3 wr) (fun x66 _=>i - (intOf x66).toNat)
  case atStart=>exact⟨0,Nat.zero_le _,rfl,by simp,Below.refl _ _⟩
  case round=>
   obtain⟨j,hj,rfl,hm,hq⟩:=hrel
   have BQ:=hid hq
   have HM:=hid hm
   clear hq hm
   by_cases hlj:j<i
   case neg=>
    obtain rfl:j=i:=by omega
    have u1:decide (j<j)=false:=decide_eq_false (by omega)
    have u2:decide ((j:Int)<(j:Int))=false:=decide_eq_false (by omega)
    clear hj hlj
    go_wp2_with (fail)
    go_roundw
    case rel=>exact⟨i1,by have:=I1.out;omega,rfl,by rw [CC.out,drop_at HX.out,insC_step FB.out HM.out,I1.out.1,List.take_add_one,HX.out];rfl,B3.out.trans (BQ.out.mono B3.out.size)⟩
    case measure=>simp [intOf];have:=I1.out;omega
   have u1:decide (j<i)=true:=decide_eq_true hlj
   have u2:decide ((j:Int)<(i:Int))=true:=decide_eq_true (by omega)
   have u6:(j:Int)<(i:Int):=by omega
   have u7:¬ ((i:Int)≤(j:Int)):=by omega
   have u8':¬ (i≤j):=by omega
   obtain⟨y,hy⟩:∃y,t.ins[j]? = some y:=⟨_,List.getElem?_eq_getElem (by rw [← NN.out.1];have:=I1.out;omega)⟩
   obtain⟨b2,off2,e2,rg2⟩:=rdr j y hy (by have:=I1.out;omega)
   cases e2
   have yok:=hid (G.out.iok y (List.mem_of_getElem? hy))
   have bwq:=BW3.out.trans (BQ.out.mono BW3.out.size)
   have rgq:=range_keep bwq rg2
   have jn:j<N:=by have:=I1.out;omega
   have n2:(j:Int)<(N:Int):=by omega
   have n3:¬ ((N:Int)≤(j:Int)):=by omega
   have n4:¬ (N≤j):=by omega
   obtain⟨ycs,hycs⟩:∃ycs,ycs=y.cells:=⟨_,rfl⟩
   have YL:=hid (show ycs.length=130 by rw [hycs];exact InD.len yok.out)
   have py':=range_pre 33 rgq
   have YC:=hid (show y.cells.take 33=ptI y.tx y.out from InD.point yok.out)
   rw [YC.out] at py'
   have py:wr.rangeAt b (off+j*130) (ptI y.tx y.out):=py'
   obtain⟨j1,hj1⟩:∃j1,j1=j+1:=⟨_,rfl⟩
   have r5:IntKind.i64.wrap ((j:Int)+1)=(j1:Int):=by have:=NB.out;have:=I1.out;rw [IntKind.wrap_i64];omega
   have J1:=hid (And.intro hj1 hlj)
   have HY:=hid hy
   have K0q:=hid (cell_keep (B3.out.trans (BQ.out.mono B3.out.size)) K00.out)
   clear hj hlj hy rg2 bwq hycs hj1 rgq py'
   go_upto_region 13 with(fail)
   have px:=gen_range (row_range (heap_keep h3.out BQ.out)) 0 33
   rw [XC.out.2.2] at px
   have eq:=rpoint_eql (x:=y.tx) (y:=x.tx) (a:=y.out) (b:=x.out) yok.out.tx xok.out.tx yok.out.out xok.out.out
   obtain⟨ly,hly⟩:∃ly,ly=ptI y.tx y.out:=⟨_,rfl⟩
   obtain⟨lx,hlx⟩:∃lx,lx=ptI x.tx x.out:=⟨_,rfl⟩
   have hiP:=hid (show(Tryz.prog.info? 86).map (·.size)=some ly.length∧(Tryz.prog.info? 86).map (·.size)=some lx.length from by
    rw [hly,hlx]
    refine⟨?_,?_⟩
    ·rw [show(ptI y.tx y.out).length=33 by simp [ptI,yok.out.tx.1]];kernel_rfl
    ·rw [show(ptI x.tx x.out).length=33 by simp [ptI,xok.out.tx.1]];kernel_rfl)
   rw [← hly] at py eq
   rw [← hlx] at px eq
   have PY:=hid py
   have PX:=hid px
   clear hly hlx
   by_cases hp:y.tx=x.tx∧y.out=x.out
   ·rw [decide_eq_true hp] at eq
    have E:=hid (show t.code=6 from TxD.code_ins L1.out L2.out (by
     rw [CC.out,drop_at HX.out]
     refine insC_have FB.out (List.any_eq_true.2 ⟨y,List.mem_of_getElem? (i:=j) ?_,decide_eq_true hp⟩)
     rw [List.getElem?_take,if_pos J1.out.2];exact HY.out) (by decide))
    clear hp
    refine wp_region_held_drew (S:=fun w'=>Below wr.heap.size wr w') (by kernel_rfl) ((Below.refl _ _).drew) (fun hHeld=>?_)
    try simp only [List.size_toArray,List.length_cons,List.length_nil,Nat.reduceAdd,Array.replicate_succ,Array.replicate_zero,List.push_toArray,List.nil_append,List.cons_append]
    refine tkH (i:=0) (oi:=⟨_,.fieldAddr 37 (.tmp 1) 0,_,_,_,_⟩) (v:=?v1001) rfl (yi ?y1001) hHeld ?_
    case y1001=>(intro w _;go_simp;(try with_reducible rfl))
    (try simp only [Act.put,s0,s1,s2])
    refine tkH (i:=1) (oi:=⟨_,.load 34 (.tmp 65),_,_,_,_⟩) (v:=(.slice (some ⟨b,off,none⟩) N ic)) rfl (Or.inl ⟨by rfl,fun w h=>by have c9:=cell_keep h K0q.out;go_simp⟩) hHeld ?_
    (try simp only [Act.put,s0,s1,s2])
    refine tkH (i:=2) (oi:=⟨_,.move (.tmp 5),_,_,_,_⟩) (v:=?v1002) rfl (yi ?y1002) hHeld ?_
    case y1002=>(intro w _;go_simp;(try with_reducible rfl))
    (try simp only [Act.put,s0,s1,s2])
    refine tkH (i:=3) (oi:=⟨_,.indexAddr 34 (.tmp 66) (.tmp 67),_,_,_,_⟩) (v:=?v1003) rfl (yi ?y1003) hHeld ?_
    case y1003=>(intro w _;go_simp;(try with_reducible rfl))
    (try simp only [Act.put,s0,s1,s2])
    refine tkH (i:=4) (oi:=⟨_,.fieldAddr 88 (.tmp 68) 0,_,_,_,_⟩) (v:=?v1004) rfl (yi ?y1004) hHeld ?_
    case y1004=>(intro w _;go_simp;(try with_reducible rfl))
    (try simp only [Act.put,s0,s1,s2])
    refine' tkH (i:=5) (oi:=⟨_,.load 86 (.tmp 69),_,_,_,_⟩) (v:=_) rfl (yieldsIf_load_mid (by rfl) _ _ rfl b (off+j*130) rfl ly _ (fun _ h=>range_keep h PY.out) Tryz.underlying86 rfl hiP.out.1) hHeld ?_
    (try simp only [Act.put,s0,s1,s2])
    refine tkH (i:=6) (oi:=⟨_,.fieldAddr 88 (.tmp 4) 0,_,_,_,_⟩) (v:=?v1005) rfl (yi ?y1005) hHeld ?_
    case y1005=>(intro w _;go_simp;(try with_reducible rfl))
    (try simp only [Act.put,s0,s1,s2])
    refine' tkH (i:=7) (oi:=⟨_,.load 86 (.tmp 71),_,_,_,_⟩) (v:=_) rfl (yieldsIf_load_mid (by rfl) _ _ rfl wo.heap.size 0 rfl lx _ (fun _ h=>range_keep h PX.out) Tryz.underlying86 rfl hiP.out.2) hHeld ?_
    (try simp only [Act.put,s0,s1,s2])
    refine tkH (i:=8) (oi:=⟨_,.binOp .eql 86 (.tmp 70) (.tmp 72) 86,_,_,_,_⟩) (v:=(.bool true)) rfl (Or.inl ⟨by rfl,fun w _=>by have e9:=eq;go_simp⟩) hHeld ?_
    (try simp only [Act.put,s0,s1,s2])
    refine wpAnyH_done (by kernel_rfl) ?_ _
    rotate_left
    clear hHeld
    go_wp2_with (fail)
    go_ret
    exact⟨by rw [E.out];rfl,BW3.out.trans ((BQ.out.trans ((Below.refl _ _).drew.mono BQ.out.size)).mono BW3.out.size)⟩
   ·rw [decide_eq_false hp] at eq
    have E:=hid (show(t.ins.take j1).any x.meets=false from by
     rw [J1.out.1,List.take_add_one,HY.out,List.any_append,HM.out]
     simp [InD.meets]
     exact fun h1 h2=>hp ⟨h1,h2⟩)
    clear hp
    refine wp_region_held_drew (S:=fun w'=>Below wr.heap.size wr w') (by kernel_rfl) ((Below.refl _ _).drew) (fun hHeld=>?_)
    try simp only [List.size_toArray,List.length_cons,List.length_nil,Nat.reduceAdd,Array.replicate_succ,Array.replicate_zero,List.push_toArray,List.nil_append,List.cons_append]
    refine tkH (i:=0) (oi:=⟨_,.fieldAddr 37 (.tmp 1) 0,_,_,_,_⟩) (v:=?v2001) rfl (yi ?y2001) hHeld ?_
    case y2001=>(intro w _;go_simp;(try with_reducible rfl))
    (try simp only [Act.put,s0,s1,s2])
    refine tkH (i:=1) (oi:=⟨_,.load 34 (.tmp 65),_,_,_,_⟩) (v:=(.slice (some ⟨b,off,none⟩) N ic)) rfl (Or.inl ⟨by rfl,fun w h=>by have c9:=cell_keep h K0q.out;go_simp⟩) hHeld ?_
    (try simp only [Act.put,s0,s1,s2])
    refine tkH (i:=2) (oi:=⟨_,.move (.tmp 5),_,_,_,_⟩) (v:=?v2002) rfl (yi ?y2002) hHeld ?_
    case y2002=>(intro w _;go_simp;(try with_reducible rfl))
    (try simp only [Act.put,s0,s1,s2])
    refine tkH (i:=3) (oi:=⟨_,.indexAddr 34 (.tmp 66) (.tmp 67),_,_,_,_⟩) (v:=?v2003) rfl (yi ?y2003) hHeld ?_
    case y2003=>(intro w _;go_simp;(try with_reducible rfl))
    (try simp only [Act.put,s0,s1,s2])
    refine tkH (i:=4) (oi:=⟨_,.fieldAddr 88 (.tmp 68) 0,_,_,_,_⟩) (v:=?v2004) rfl (yi ?y2004) hHeld ?_
    case y2004=>(intro w _;go_simp;(try with_reducible rfl))
    (try simp only [Act.put,s0,s1,s2])
    refine' tkH (i:=5) (oi:=⟨_,.load 86 (.tmp 69),_,_,_,_⟩) (v:=_) rfl (yieldsIf_load_mid (by rfl) _ _ rfl b (off+j*130) rfl ly _ (fun _ h=>range_keep h PY.out) Tryz.underlying86 rfl hiP.out.1) hHeld ?_
    (try simp only [Act.put,s0,s1,s2])
    refine tkH (i:=6) (oi:=⟨_,.fieldAddr 88 (.tmp 4) 0,_,_,_,_⟩) (v:=?v2005) rfl (yi ?y2005) hHeld ?_
    case y2005=>(intro w _;go_simp;(try with_reducible rfl))
    (try simp only [Act.put,s0,s1,s2])
    refine' tkH (i:=7) (oi:=⟨_,.load 86 (.tmp 71),_,_,_,_⟩) (v:=_) rfl (yieldsIf_load_mid (by rfl) _ _ rfl wo.heap.size 0 rfl lx _ (fun _ h=>range_keep h PX.out) Tryz.underlying86 rfl hiP.out.2) hHeld ?_
    (try simp only [Act.put,s0,s1,s2])
    refine tkH (i:=8) (oi:=⟨_,.binOp .eql 86 (.tmp 70) (.tmp 72) 86,_,_,_,_⟩) (v:=(.bool false)) rfl (Or.inl ⟨by rfl,fun w _=>by have e9:=eq;go_simp⟩) hHeld ?_
    (try simp only [Act.put,s0,s1,s2])
    refine wpAnyH_done (by kernel_rfl) ?_ _
    rotate_left
    clear hHeld
    go_wp2_with (fail)
    go_roundw
    case rel=>exact⟨j1,by have:=J1.out;omega,rfl,E.out,BQ.out.trans ((Below.refl _ _).drew.mono BQ.out.size)⟩
    case measure=>simp [intOf];have:=J1.out;omega
end Go.Proofs.YtnbmpgballopeaaGreatDoor

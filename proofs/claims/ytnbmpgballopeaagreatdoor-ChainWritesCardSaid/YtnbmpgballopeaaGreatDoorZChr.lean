/- The chain's Try, for inputs whose path asks for its owner alone. -/
import Derived.Test.YtnbmpgballopeaaGreatDoorZLed
namespace Go.Proofs.YtnbmpgballopeaaGreatDoor
open Go.RowKit
def tryIn(HM:HM')(SM:SM')(M:EM)(ht:Int)(id:List Nat)(x:InD):Nat:=
 match HM (x.tx,x.out) with
 | none=>if (SM (x.tx,x.out)).isSome then 32 else 5
 | some h=>match h.out.paths[x.path.toNat]? with
  | none=>1
  | some p=>if aldB M p.own id x.token=false then 31 else if ht+1<p.till∨ht+1 - h.height<p.wait then 33 else 0
def tryL(HM:HM')(SM:SM')(M:EM)(ht:Int)(id:List Nat):List InD→Nat
 | []=>0
 | x::r=>if tryIn HM SM M ht id x=0 then tryL HM SM M ht id r else tryIn HM SM M ht id x
def coinIn(HM:HM')(x:InD):Nat:=((HM (x.tx,x.out)).getD zHeld).out.coins
def tryC(HM:HM')(SM:SM')(M:EM)(ht:Int)(t:TxD):Nat:=
 if t.code≠0 then t.code else if tryL HM SM M ht (idB t) t.ins≠0 then tryL HM SM M ht (idB t) t.ins else
 if ¬ (t.ins.map (coinIn HM)).sum<18446744073709551616 then 10 else if (t.ins.map (coinIn HM)).sum<(t.outs.map OutD.coins).sum then 34 else 0
def easyIn(HM:HM')(M:EM)(id:List Nat)(x:InD):Prop:=∀h p,HM (x.tx,x.out)=some h→h.out.paths[x.path.toNat]? = some p→aldB M p.own id x.token=false∨(p.also=zh∧p.lock=zh)
theorem insC_ok:∀ {r pre:List InD},insC pre r=0 → ∀i∈r,i.bad=false
 | [],_,_,i,hi=>by simp at hi
 | x::r,pre,h,i,hi=>by
  rw [insC] at h
  split at h
  ·omega
  ·rename_i hx
   split at h
   ·omega
   ·rcases List.mem_cons.1 hi with rfl|hi
    ·simpa using hx
    ·exact insC_ok h i hi
theorem code_ins{t:TxD}(h:t.code=0):∀i∈t.ins,i.bad=false:=by
 unfold TxD.code at h
 split at h
 ·omega
 ·split at h
  ·omega
  ·split at h
   ·rename_i h3;exact absurd h h3
   ·rename_i h3
    exact insC_ok (Classical.byContradiction h3)
theorem code_sum{t:TxD}(h:t.code=0):(t.outs.map OutD.coins).sum<18446744073709551616:=by
 unfold TxD.code at h
 split at h
 ·omega
 ·split at h
  ·omega
  ·split at h
   ·omega
   ·split at h
    ·omega
    ·split at h
     ·assumption
     ·omega
theorem bh0:Tryz.prog.built 43 []=some (nums .u8 zh).toArray:=by kernel_rfl
theorem InD.tok{i:InD}(h:i.ok):(i.cells.drop 34).take 32=nums .u8 i.token:=by
 unfold InD.cells
 rw [show nums .u8 i.tx++(Value.int .i64 i.out::Value.int .i64 i.path::(nums .u8 i.token++(nums .u8 i.more++nums .u8 i.secret)))=(nums .u8 i.tx++[Value.int .i64 i.out,Value.int .i64 i.path])++(nums .u8 i.token++(nums .u8 i.more++nums .u8 i.secret)) by simp]
 rw [List.drop_left' (by simp [h.tx.1]),List.take_left' (by simp [h.token.1])]
theorem HeldD.c1(h:HeldD):h.cells[1]? = some (.slice h.out.pa h.out.paths.length h.out.pc):=rfl
theorem HeldD.c0(h:HeldD):h.cells[0]? = some (.int .u64 (h.out.coins:Int)):=rfl
theorem HeldD.c34{w:World}{h:HeldD}(hg:h.out.good w):h.cells[34]? = some (.int .i64 h.height):=by
 unfold HeldD.cells
 rw [List.getElem?_append_right (by rw [OutD.len hg];exact Nat.le_refl _),OutD.len hg]
 rfl
set_option maxRecDepth 100000 in
set_option maxHeartbeats 16000000 in
theorem ctry_walk{w:World}{cb ob hm dm wm sm nh ns mb n:Nat}{ht gf:Int}{pool:Value}(h:ChAt w cb ob ht hm dm wm sm pool gf)(HM:HM')(hM:MapIs EP w hm (heldM HM) nh)(hk:∀p x,HM p=some x→x.out.good w∧x.out.paths.length≤4∧0≤x.height∧x.height≤ht+1)
  (SM:SM') (hS:MapIs EP w sm (hashM SM) ns) (hs:∀p x,SM p=some x→H32b x) (M:EM) (hO:OffAt w ob mb M n) (hht:0≤ht∧ht≤1073741824) (t:TxD) (hg:t.good w) (hP:∀x∈t.ins,easyIn HM M (idB t) x) (hT:Tabs w):
  Calls Tryz.prog 52 #[.pointer (some ⟨cb,0,none⟩),.agg t.cells.toArray] w fun e w'=>e = .returned (.int .i64 (tryC HM SM M ht t:Int))∧Below w.heap.size w w':=by
 have H:=hid h
 have MM:=hid hM
 have HK:=hid hk
 have MS:=hid hS
 have HSK:=hid hs
 have OO:=hid hO
 have HHT:=hid hht
 have G:=hid hg
 have EZ:=hid hP
 have HT:=hid hT
 obtain⟨tc,htc⟩:∃tc,tc=t.cells:=⟨_,rfl⟩
 have TL:=hid (show tc.length=2 by rw [htc];rfl)
 have HTC:=hid htc
 have CK:=fun(wx:World) (bx:Below w.heap.size w wx)=>hid (show Calls Tryz.prog 9 #[.agg tc.toArray] wx _ from by rw [htc];exact tcheck_walk t wx (G.out.below bx))
 have CI:=fun(wx:World) (bx:Below w.heap.size w wx)=>hid (show Calls Tryz.prog 12 #[.agg tc.toArray] wx _ from by rw [htc];exact cid_walk t wx (G.out.below bx) (HT.out.below bx))
 have hiT:=hid (show(Tryz.prog.info? 25).map (·.size)=some tc.length by rw [TL.out];kernel_rfl)
 have HA:=hid (heap_alloc_new w (.cells tc.toArray 25))
 have B1:=hid ((Below.refl w.heap.size w).alloc (Nat.le_refl _) (.cells tc.toArray 25))
 obtain⟨N,hN⟩:∃N,N=t.ins.length:=⟨_,rfl⟩
 obtain⟨K,hK⟩:∃K,K=t.outs.length:=⟨_,rfl⟩
 obtain⟨ia,hia⟩:∃ia,ia=t.ia:=⟨_,rfl⟩
 obtain⟨ic,hic⟩:∃ic,ic=t.ic:=⟨_,rfl⟩
 obtain⟨oa,hoa⟩:∃oa,oa=t.oa:=⟨_,rfl⟩
 obtain⟨oc,hoc⟩:∃oc,oc=t.oc:=⟨_,rfl⟩
 have NN:=hid (And.intro hN hK)
 have PI:=hid (show Rd w 130 ia N ic (t.ins.flatMap InD.cells) by rw [hia,hic,hN];exact hg.ins)
 have PO:=hid (show Rd w 34 oa K oc (t.outs.flatMap OutD.cells) by rw [hoa,hoc,hK];exact hg.outs)
 have TCE:=hid (show tc=[.slice ia N ic,.slice oa K oc] by rw [htc];unfold TxD.cells;rw [hia,hic,hN,hoa,hoc,hK])
 rw [← htc]
 clear h hM hk hS hs hO hht hg hP hT htc hN hK hia hic hoa hoc
 go_enter Tryz.func52,Tryz.ntmps52
 go_upto_region 3 with(fail)
 generalize w.alloc (.cells tc.toArray 25)=w1 at *
 have rT:=row_range HA.out
 go_wp2_with (with_reducible refine wpList_load_mid rfl _ _ rfl w.heap.size 0 rfl tc _ rT Tryz.underlying25 rfl hiT.out ?_)
 refine(CK w1 B1.out).out.mono ?_
 rintro e w2 ⟨rfl,b2⟩
 have B2:=hid (show Below w.heap.size w w2 from B1.out.trans (b2.mono B1.out.size))
 have HA2:=hid (heap_keep HA.out b2)
 clear b2 rT
 by_cases hz:t.code=0
 case neg=>
  have v1:((t.code:Int) != 0)=true:=by rw [bne_iff_ne];omega
  have HZ:=hid hz
  clear hz
  go_wp2_with (fail)
  go_ret
  exact⟨by unfold tryC;rw [if_pos HZ.out];rfl,B2.out⟩
 have v1:((t.code:Int) != 0)=false:=by rw [bne_eq_false_iff_eq];omega
 have CZ:=hid hz
 clear hz
 go_upto_region 7 with(fail)
 have rT2:=row_range HA2.out
 go_wp2_with (with_reducible refine wpList_load_mid rfl _ _ rfl w.heap.size 0 rfl tc _ rT2 Tryz.underlying25 rfl hiT.out ?_)
 refine(CI w2 B2.out).out.mono ?_
 rintro e w3 ⟨rfl,b3⟩
 obtain⟨id,hid'⟩:∃id,id=idB t:=⟨_,rfl⟩
 rw [← hid']
 have IDE:=hid hid'
 have IDO:=hid (show H32b id by rw [hid'];exact idB_ok t)
 have B3:=hid (show Below w.heap.size w w3 from B2.out.trans (b3.mono B2.out.size))
 have HA3:=hid (heap_keep HA2.out b3)
 have hiH:=hid (show(Tryz.prog.info? 43).map (·.size)=some (nums .u8 id).toArray.size by rw [List.size_toArray,nums_length,IDO.out.1];kernel_rfl)
 have hoH:=hid (show 32=(nums .u8 id).toArray.size by rw [List.size_toArray,nums_length,IDO.out.1])
 have h16:=hid (all_oneCell_toArray (nums_oneCell .u8 id))
 clear b3 rT2 v1 hid'
 go_upto_region 8 with(refine wpList_store_row rfl _ _ _ rfl w3.heap.size (nums .u8 id).toArray rfl rfl _ _ (heap_alloc_new _ _) hiH.out hoH.out h16.out ?_;refine laidW (F:=fun w4=>wpList _ _ _ _ _ w4) ?_;intro w4 h4 b4)
 have HID:=hid h4.out
 have B4:=hid (show Below w.heap.size w w4 from B3.out.trans (b4.out.mono B3.out.size))
 have HA4:=hid (heap_keep HA3.out b4.out)
 have L3:=hid B3.out.size
 have L4:=hid (show w3.heap.size<w4.heap.size from(Array.getElem?_eq_some_iff.1 h4.out).1)
 clear h4 b4
 generalize w3.heap.size=IB at *
 have k0:w4.cell? ⟨w.heap.size,0,none⟩=some (.slice ia N ic):=gen_cell (j:=0) (row_range HA4.out) (by rw [TCE.out];rfl)
 have k1:w4.cell? ⟨w.heap.size,1,none⟩=some (.slice oa K oc):=gen_cell (j:=1) (row_range HA4.out) (by rw [TCE.out];rfl)
 go_frame
 go_upto_region 9 with(fail)
 go_loopw [6,34] (fun x6 x34 wr=>∃(i:Nat) (v6:Value),v6=x6∧i≤N∧x34 = .int .i64 (i:Int)∧tryL HM SM M ht id t.ins=tryL HM SM M ht id (t.ins.drop i)∧wr.ownsRow w4.heap.size 63 1 v6 i (nums .u64 ((t.ins.take i).map (coinIn HM)))∧Below w4.heap.size w4 wr) (fun _ x34 _=>N - (intOf x34).toNat)
 case atStart=>exact⟨0,_,rfl,Nat.zero_le _,rfl,by simp,⟨by simp,.inl ⟨rfl,rfl⟩⟩,Below.refl _ _⟩
 case round=>
  obtain⟨i,v6,hv6,hi,rfl,hl,ho,hb⟩:=hrel
  subst hv6
  have BI:=hid hb
  have OI:=hid ho
  have LI:=hid hl
  clear hb ho hl
  by_cases hlt:i<N
  case neg=>
   obtain rfl:i=N:=by omega
   have t1:decide (i<i)=false:=decide_eq_false (by omega)
   have t2:decide ((i:Int)<(i:Int))=false:=decide_eq_false (by omega)
   have LZ:=hid (show tryL HM SM M ht id t.ins=0 from by have:=LI.out;rw [this,NN.out.1,List.drop_length];rfl)
   obtain⟨a6,c6,rfl,hr6⟩:=Rd.of_owns OI.out
   have S6:=hid (show Sl .u64 wr a6 i c6 (t.ins.map (coinIn HM)) from by rw [NN.out.1,List.take_length] at hr6;rw [NN.out.1];exact hr6)
   have BW:=hid (show Below w.heap.size w wr from B4.out.trans (BI.out.mono B4.out.size))
   have k1':=hid (cell_keep BI.out k1)
   clear hi hlt hr6 k0 k1
   have c1:=k1'.out
   go_upto_region 27 with(fail)
   obtain⟨wo,rfl⟩:∃wo,wo=wr:=⟨_,rfl⟩
   go_loopw [7,151] (fun x7 x151 wr=>∃(k:Nat) (v7:Value),v7=x7∧k≤K∧x151 = .int .i64 (k:Int)∧wr.ownsRow wo.heap.size 63 1 v7 k (nums .u64 ((t.outs.take k).map OutD.coins))∧Below wo.heap.size wo wr) (fun _ x151 _=>K - (intOf x151).toNat)
   case atStart=>exact⟨0,_,rfl,Nat.zero_le _,rfl,⟨by simp,.inl ⟨rfl,rfl⟩⟩,Below.refl _ _⟩
   case round=>
    obtain⟨k,v7,hv7,hk,rfl,ho,hq⟩:=hrel
    subst hv7
    have BQ:=hid hq
    have O7:=hid ho
    clear ho hq
    by_cases hlk:k<K
    case neg=>
     obtain rfl:k=K:=by omega
     have u1:decide (k<k)=false:=decide_eq_false (by omega)
     have u2:decide ((k:Int)<(k:Int))=false:=decide_eq_false (by omega)
     obtain⟨a7,c7,rfl,hr7⟩:=Rd.of_owns O7.out
     have S7:=hid (show Sl .u64 wr a7 k c7 (t.outs.map OutD.coins) from by rw [NN.out.2,List.take_length] at hr7;rw [NN.out.2];exact hr7)
     have T6:=hid (stotal_walk a6 i c6 (t.ins.map (coinIn HM)) (fun d hd=>by
      obtain⟨x,hx,rfl⟩:=List.mem_map.1 hd
      unfold coinIn
      cases hs:HM (x.tx,x.out) with
      | none=>decide
      | some y=>exact(HK.out _ _ hs).1.coins) wr (S6.out.below BQ.out))
     have T7:=hid (stotal_walk a7 k c7 (t.outs.map OutD.coins) (fun d hd=>by obtain⟨o,ho,rfl⟩:=List.mem_map.1 hd;exact(G.out.ook o ho).coins) wr S7.out)
     have BF:=hid (show Below w.heap.size w wr from BW.out.trans (BQ.out.mono BW.out.size))
     have CS:=hid (code_sum CZ.out)
     clear hr7 hlk hk
     go_wp2_with (fail)
     refine T6.out.mono ?_
     rintro e w7 ⟨rfl,rfl⟩
     by_cases hs:(t.ins.map (coinIn HM)).sum<18446744073709551616
     case neg=>
      rw [totV_no hs]
      have HS:=hid hs
      clear hs
      go_wp2_with (fail)
      go_ret
      exact⟨by unfold tryC;rw [if_neg (by rw [CZ.out];decide),← IDE.out,LZ.out,if_neg (by decide),if_pos HS.out];rfl,BF.out⟩
     rw [totV_yes hs]
     have HS:=hid hs
     clear hs
     go_wp2_with (fail)
     refine T7.out.mono ?_
     rintro e w7 ⟨rfl,rfl⟩
     rw [totV_yes CS.out]
     obtain⟨si,hsi⟩:∃si,si=(t.ins.map (coinIn HM)).sum:=⟨_,rfl⟩
     obtain⟨so,hso⟩:∃so,so=(t.outs.map OutD.coins).sum:=⟨_,rfl⟩
     rw [← hsi,← hso]
     have SE:=hid (And.intro hsi hso)
     clear hsi hso
     by_cases hc:si<so
     ·have z1:decide (si<so)=true:=decide_eq_true hc
      have HC:=hid hc
      clear hc
      go_wp2_with (fail)
      go_ret
      exact⟨by unfold tryC;rw [if_neg (by rw [CZ.out];decide),← IDE.out,LZ.out,if_neg (by decide),if_neg (fun h=>h HS.out),← SE.out.1,← SE.out.2,if_pos HC.out];rfl,BF.out⟩
     ·have z1:decide (si<so)=false:=decide_eq_false hc
      have HC:=hid hc
      clear hc
      go_wp2_with (fail)
      go_ret
      exact⟨by unfold tryC;rw [if_neg (by rw [CZ.out];decide),← IDE.out,LZ.out,if_neg (by decide),if_neg (fun h=>h HS.out),← SE.out.1,← SE.out.2,if_neg HC.out];rfl,BF.out⟩
    have u1:decide (k<K)=true:=decide_eq_true hlk
    have u2:decide ((k:Int)<(K:Int))=true:=decide_eq_true (by omega)
    have u6:(k:Int)<(K:Int):=by omega
    have u7:¬ ((K:Int)≤(k:Int)):=by omega
    have u8':¬ (K≤k):=by omega
    obtain⟨o,ho⟩:∃o,t.outs[k]? = some o:=⟨_,List.getElem?_eq_getElem (by rw [← NN.out.2];exact hlk)⟩
    have og:=G.out.ook o (List.mem_of_getElem? ho)
    obtain⟨b,off,rfl,rg⟩:=rd_row (fun z hz=>OutD.len (G.out.ook z hz)) PO.out ho hlk
    have bwq:=BW.out.trans (BQ.out.mono BW.out.size)
    have rgr:=range_keep bwq rg
    obtain⟨ocs,hocs⟩:∃ocs,ocs=o.cells:=⟨_,rfl⟩
    have OL:=hid (show ocs.length=34 by rw [hocs];exact OutD.len og)
    rw [← hocs] at rgr
    have hiC:=hid (show(Tryz.prog.info? 66).map (·.size)=some ocs.length by rw [OL.out];kernel_rfl)
    have hiCa:=hid (show(Tryz.prog.info? 66).map (·.size)=some ocs.toArray.size by rw [List.size_toArray,OL.out];kernel_rfl)
    have hoC:=hid (show 34=ocs.toArray.size by rw [List.size_toArray,OL.out])
    have h17:=hid (show(ocs.toArray.all fun x=>x.oneCell')=true by rw [hocs];exact all_oneCell_toArray (OutD.one o))
    obtain⟨k1n,hk1⟩:∃k1n,k1n=k+1:=⟨_,rfl⟩
    have NB:=hid (code_zero CZ.out)
    have r4:IntKind.i64.wrap ((k:Int)+1)=(k1n:Int):=by have:=NB.out.2.1;have:=NN.out.2;rw [IntKind.wrap_i64];omega
    have I1:=hid (And.intro hk1 hlk)
    have HO:=hid ho
    have OC0:=hid (show ocs[0]? = some (.int .u64 (o.coins:Int)) from by rw [hocs];rfl)
    clear hk hlk ho og rg bwq hk1 hocs
    go_upto_region 29 with(first|with_reducible refine wpList_load_mid rfl _ _ rfl b (off+k*34) rfl ocs _ rgr Tryz.underlying66 rfl hiC.out ?_|(refine wpList_store_row rfl _ _ _ rfl wr.heap.size ocs.toArray rfl rfl _ _ (heap_alloc_new _ _) hiCa.out hoC.out h17.out ?_;refine laidW (F:=fun w3=>wpList _ _ _ _ _ w3) ?_;intro w5 h5 b5))
    have c0:=gen_cell (j:=0) (row_range h5.out) OC0.out
    have B5:=hid (show Below wo.heap.size wo w5 from BQ.out.trans (b5.out.mono BQ.out.size))
    clear u1 u2 u6 u7 u8' rgr c1
    go_frame
    go_wp2_with (at_builtin;refine wpList_pushK rfl _ _ 98 rfl tyU64c wo.heap.size (ownKB O7.out b5.out) rfl rfl rfl rfl (by have:=NB.out.2.1;have:=NN.out.2;have:=I1.out;omega) (by decide) (B5.out.size) ?_;intro v9 w9 own9 k9 nb9;have O9:=hid own9;have K9:=hid k9;clear own9 k9 nb9)
    go_roundw
    case rel=>
     refine⟨k1n,_,rfl,by have:=I1.out;omega,rfl,?_,B5.out.trans (K9.out.below (fun g hg=>(O7.out.lt _ hg).1) B5.out.size)⟩
     have o9:=O9.out
     rw [I1.out.1,List.take_add_one,HO.out,List.map_append,← nums_append]
     exact o9
    case measure=>simp [intOf];have:=I1.out;omega
  have t1:decide (i<N)=true:=decide_eq_true hlt
  have t2:decide ((i:Int)<(N:Int))=true:=decide_eq_true (by omega)
  have t6:(i:Int)<(N:Int):=by omega
  have t7:¬ ((N:Int)≤(i:Int)):=by omega
  have t8:¬ (N≤i):=by omega
  obtain⟨x,hx⟩:∃x,t.ins[i]? = some x:=⟨_,List.getElem?_eq_getElem (by rw [← NN.out.1];exact hlt)⟩
  obtain⟨b,off,rfl,rg⟩:=rd_row (fun z hz=>InD.len (G.out.iok z hz)) PI.out hx hlt
  have xok:=hid (G.out.iok x (List.mem_of_getElem? hx))
  have bw:=hid (show Below w.heap.size w wr from B4.out.trans (BI.out.mono B4.out.size))
  have rgr:=range_keep bw.out rg
  obtain⟨xcs,hxcs⟩:∃xcs,xcs=x.cells:=⟨_,rfl⟩
  have XL:=hid (show xcs.length=130 by rw [hxcs];exact InD.len xok.out)
  rw [← hxcs] at rgr
  have hiC:=hid (show(Tryz.prog.info? 69).map (·.size)=some xcs.length by rw [XL.out];kernel_rfl)
  have hiCa:=hid (show(Tryz.prog.info? 69).map (·.size)=some xcs.toArray.size by rw [List.size_toArray,XL.out];kernel_rfl)
  have hoC:=hid (show 130=xcs.toArray.size by rw [List.size_toArray,XL.out])
  have h17:=hid (show(xcs.toArray.all fun x=>x.oneCell')=true by rw [hxcs];exact all_oneCell_toArray (InD.one x))
  obtain⟨i1,hi1⟩:∃i1,i1=i+1:=⟨_,rfl⟩
  have NB:=hid (code_zero CZ.out)
  have r4:IntKind.i64.wrap ((i:Int)+1)=(i1:Int):=by have:=NB.out.1;have:=NN.out.1;rw [IntKind.wrap_i64];omega
  have I1:=hid (And.intro hi1 hlt)
  have HX:=hid hx
  have XB:=hid (code_ins CZ.out x (List.mem_of_getElem? hx))
  obtain⟨lp,hlp⟩:∃lp,lp=ptI x.tx x.out:=⟨_,rfl⟩
  obtain⟨pn,hpn⟩:∃pn:Nat,x.path=(pn:Int):=⟨x.path.toNat,by have:=XB.out;simp only [InD.bad,decide_eq_false_iff_not] at this;omega⟩
  have XC:=hid (show xcs[33]? = some (.int .i64 (pn:Int))∧(xcs.drop 0).take 33=lp∧(xcs.drop 34).take 32=nums .u8 x.token from by rw [hxcs,hlp,← hpn];exact⟨InD.c33 xok.out,InD.point xok.out,InD.tok xok.out⟩)
  have PN:=hid hpn
  have LPE:=hid (show Value.agg lp.toArray=EP.enc (x.tx,x.out) from by rw [hlp];rfl)
  have OK:=hid (show EP.ok (x.tx,x.out) from⟨xok.out.tx,xok.out.out⟩)
  have hiP:=hid (show(Tryz.prog.info? 60).map (·.size)=some lp.length from by rw [hlp,show(ptI x.tx x.out).length=33 by simp [ptI,xok.out.tx.1]];kernel_rfl)
  have TLX:=hid (show tryL HM SM M ht id t.ins=(if tryIn HM SM M ht id x=0 then tryL HM SM M ht id (t.ins.drop i1) else tryIn HM SM M ht id x) from by have:=LI.out;rw [this,drop_at HX.out,I1.out.1];rfl)
  have EIX:=hid (show easyIn HM M id x from by have:=EZ.out x (List.mem_of_getElem? hx);rwa [← IDE.out] at this)
  have BAD:=fun(c:Nat) (hc:c≠0) (h:tryIn HM SM M ht id x=c)=>hid (show tryC HM SM M ht t=c from by
   unfold tryC
   have e:=TLX.out
   rw [h,if_neg hc] at e
   rw [if_neg (by rw [CZ.out];decide),← IDE.out,e,if_pos hc])
  clear hi hlt hx rg hxcs hi1 hlp hpn k0 k1
  go_upto_region 11 with(first|with_reducible refine wpList_load_mid rfl _ _ rfl b (off+i*130) rfl xcs _ rgr Tryz.underlying69 rfl hiC.out ?_|(refine wpList_store_row rfl _ _ _ rfl wr.heap.size xcs.toArray rfl rfl _ _ (heap_alloc_new _ _) hiCa.out hoC.out h17.out ?_;refine laidW (F:=fun w3=>wpList _ _ _ _ _ w3) ?_;intro w5 h5 b5))
  have HX5:=hid h5.out
  have B5:=hid (show Below w4.heap.size w4 w5 from BI.out.trans (b5.out.mono BI.out.size))
  have BW5:=hid (show Below w.heap.size w w5 from B4.out.trans (B5.out.mono B4.out.size))
  have O5:=hid (ownKB OI.out b5.out)
  have LX:=hid (show w4.heap.size≤wr.heap.size from BI.out.size)
  have LX5:=hid (show wr.heap.size<w5.heap.size from(Array.getElem?_eq_some_iff.1 h5.out).1)
  clear h5 b5 t1 t2 t6 t7 t8 rgr
  generalize wr.heap.size=X at *
  go_frame
  obtain⟨zz,hzz⟩:∃zz:List Value,zz=zHeld.cells:=⟨_,rfl⟩
  have ZH:∀w:World,(zeroValue 75).run Tryz.prog w = .ok (.agg zz.toArray) w:=by rw [hzz];exact zv_of (by kernel_rfl)
  have lz:=hid (show zz.length=35 by rw [hzz];rfl)
  obtain⟨hv',hhv⟩:∃hv',hv'=(HM (x.tx,x.out)).getD zHeld:=⟨_,rfl⟩
  obtain⟨kn,hkn⟩:∃kn,kn=(HM (x.tx,x.out)).isSome:=⟨_,rfl⟩
  have GO:=hid (show hv'.out.good w∧hv'.out.paths.length≤4 from by
   rw [hhv]
   cases hs:HM (x.tx,x.out) with
   | none=>exact⟨zHeld_good w,by decide⟩
   | some y=>exact⟨(HK.out _ y hs).1,(HK.out _ y hs).2.1⟩)
  obtain⟨rv,hrv⟩:∃rv,rv=hv'.cells:=⟨_,rfl⟩
  have RV:=hid hrv
  have RL:=hid (show rv.length=35 by rw [hrv];exact HeldD.len GO.out.1)
  have HV:=hid (show(if true=true then Value.tuple #[(heldM HM (x.tx,x.out)).getD (.agg zz.toArray),.bool (heldM HM (x.tx,x.out)).isSome] else (heldM HM (x.tx,x.out)).getD (.agg zz.toArray)) = .tuple #[.agg rv.toArray,.bool kn] from by
   rw [hrv,hkn,hzz,hhv]
   unfold heldM
   cases HM (x.tx,x.out) <;> rfl)
  have FIN:=hid (And.intro hhv hkn)
  have hi6:=hid (show(Tryz.prog.info? 75).map (·.size)=some rv.toArray.size by rw [List.size_toArray,RL.out];kernel_rfl)
  have ho6:=hid (show zz.toArray.size=rv.toArray.size by rw [List.size_toArray,List.size_toArray,lz.out,RL.out])
  have h18:=hid (show(rv.toArray.all fun x=>x.oneCell')=true by rw [hrv];exact all_oneCell_toArray (HeldD.one _))
  have c2:=hid (H.out.below BW5.out).c2
  have M5:=hid (MM.out.below BW5.out)
  have rP:=hid (show w5.rangeAt X 0 lp from by have:=gen_range (row_range HX5.out) 0 33;rw [XC.out.2.1] at this;exact this)
  clear hzz hhv hkn hrv
  refine wp_region_held_drew (S:=fun w'=>Below w5.heap.size w5 w') (by kernel_rfl) ((Below.refl _ _).drew) (fun hHeld=>?_)
  try simp only [List.size_toArray,List.length_cons,List.length_nil,Nat.reduceAdd,Array.replicate_succ,Array.replicate_zero,List.push_toArray,List.nil_append,List.cons_append]
  refine tkH (i:=0) (oi:=⟨_,.move (.tmp 0),_,_,_,_⟩) (v:=?v1001) rfl (yi ?y1001) hHeld ?_
  case y1001=>(intro w _;go_simp;(try with_reducible rfl))
  (try simp only [Act.put,s0,s1,s2])
  refine tkH (i:=1) (oi:=⟨_,.nilCheck (.tmp 39),_,_,_,_⟩) (v:=?v1002) rfl (yi ?y1002) hHeld ?_
  case y1002=>(intro w _;go_simp;(try with_reducible rfl))
  (try simp only [Act.put,s0,s1,s2])
  refine tkH (i:=2) (oi:=⟨_,.fieldAddr 137 (.tmp 40) 2,_,_,_,_⟩) (v:=?v1003) rfl (yi ?y1003) hHeld ?_
  case y1003=>(intro w _;go_simp;(try with_reducible rfl))
  (try simp only [Act.put,s0,s1,s2])
  refine tkH (i:=3) (oi:=⟨_,.load 131 (.tmp 41),_,_,_,_⟩) (v:=(.map (some hm))) rfl (Or.inl ⟨by rfl,fun w h=>by have c9:=cell_keep h c2.out;go_simp⟩) hHeld ?_
  (try simp only [Act.put,s0,s1,s2])
  refine tkH (i:=4) (oi:=⟨_,.fieldAddr 69 (.tmp 10) 0,_,_,_,_⟩) (v:=?v1004) rfl (yi ?y1004) hHeld ?_
  case y1004=>(intro w _;go_simp;(try with_reducible rfl))
  (try simp only [Act.put,s0,s1,s2])
  refine' tkH (i:=5) (oi:=⟨_,.load 60 (.tmp 43),_,_,_,_⟩) (v:=_) rfl (yieldsIf_load_mid (by rfl) _ _ rfl X 0 rfl lp _ (fun _ h=>range_keep h rP.out) Tryz.underlying60 rfl hiP.out) hHeld ?_
  (try simp only [Act.put,s0,s1,s2])
  refine tkH (i:=6) (oi:=⟨_,.lookup 131 (.tmp 42) (.tmp 44) true,_,_,_,_⟩) (v:=(.tuple #[.agg rv.toArray,.bool kn])) rfl (Or.inl ⟨by rfl,fun w h=>by rw [← HV.out];exact run_look (.tmp 42) (.tmp 44) _ true rfl Tryz.underlying131 (ZH w) (M5.out.below h) rfl (x.tx,x.out) OK.out LPE.out⟩) hHeld ?_
  (try simp only [Act.put,s0,s1,s2])
  refine tkH (i:=7) (oi:=⟨_,.move (.tmp 45),_,_,_,_⟩) (v:=?v1005) rfl (yi ?y1005) hHeld ?_
  case y1005=>(intro w _;go_simp;(try with_reducible rfl))
  (try simp only [Act.put,s0,s1,s2])
  refine tkH (i:=8) (oi:=⟨_,.extract (.tmp 38) 0,_,_,_,_⟩) (v:=?v1006) rfl (yi ?y1006) hHeld ?_
  case y1006=>(intro w _;go_simp;(try with_reducible rfl))
  (try simp only [Act.put,s0,s1,s2])
  refine tkH (i:=9) (oi:=⟨_,.extract (.tmp 38) 1,_,_,_,_⟩) (v:=?v1007) rfl (yi ?y1007) hHeld ?_
  case y1007=>(intro w _;go_simp;(try with_reducible rfl))
  (try simp only [Act.put,s0,s1,s2])
  refine wpAnyH_ready (rs:=[10]) (by kernel_rfl) (by simp) ?_
  refine AllReadyH.cons (o:=⟨_,.alloc 75,_,_,_,_⟩) rfl (fun K hK=>?_) ?_
  have BVL:=hid hHeld.size;go_simp;(first|refine newZ ?_|refine newZd ?_);intro wa HW BW
  refine hK.out _ _ (by first|exact hHeld.trans (BW.out.mono hHeld.size)|exact BW.out) (fun hHeld=>?_)
  clear hK K
  (try simp only [s0,s1,s2])
  refine wpAnyH_ready (rs:=[11]) (by kernel_rfl) (by simp) ?_
  refine AllReadyH.cons (o:=⟨_,.store 75 (.tmp 11) (.tmp 46),_,_,_,_⟩) rfl (fun K hK=>?_) ?_
  rw [if_pos (by rfl)];refine wp_store_row _ _ _ rfl _ rv.toArray rfl rfl _ _ HW.out hi6.out ho6.out h18.out ?_
  refine hK.out _ _ (below_setRow hHeld BVL.out _) (fun hHeld=>?_)
  clear hK K
  (try simp only [s0,s1,s2])
  refine tkH (i:=12) (oi:=⟨_,.assign (.tmp 47),_,_,_,_⟩) (v:=?v1008) rfl (yi ?y1008) hHeld ?_
  case y1008=>(intro w _;go_simp;(try with_reducible rfl))
  (try simp only [Act.put,s0,s1,s2])
  refine wpAnyH_done (by kernel_rfl) ?_ _
  rotate_left
  exact AllReadyH.nil
  exact AllReadyH.nil
  have BE:=hid hHeld
  have hV:=hid (setRow_heap _ _ _ rv.toArray _ _ HW.out)
  clear hHeld
  generalize wa.setRow w5.heap.size rv.toArray=wz at *
  have BWz:=hid (show Below w.heap.size w wz from BW5.out.trans (BE.out.mono BW5.out.size))
  have B4z:=hid (show Below w4.heap.size w4 wz from B5.out.trans (BE.out.mono B5.out.size))
  have O6:=hid (ownKB O5.out BE.out)
  have HXz:=hid (heap_keep HX5.out BE.out)
  have hVz:=hid (show wz.heap[w5.heap.size]? = some (.cells rv.toArray 75 (0,0)) from hV.out)
  have LV:=hid (show w5.heap.size<wz.heap.size from(Array.getElem?_eq_some_iff.1 hVz.out).1)
  clear hV BE HW BVL BW rP M5 c2 hi6 ho6 h18 ZH lz HV zz
  generalize w5.heap.size=V at *
  cases hs:HM (x.tx,x.out) with
  | none=>
   obtain rfl:kn=false:=by rw [FIN.out.2,hs];rfl
   have HS:=hid hs
   clear hs
   go_upto_region 13 with(fail)
   obtain⟨zz,hzz⟩:∃zz:List Nat,zz=zh:=⟨_,rfl⟩
   have ZH:∀w:World,(zeroValue 43).run Tryz.prog w = .ok (.agg (nums .u8 zz).toArray) w:=by rw [hzz];exact zv_of (by kernel_rfl)
   have lz:=hid (show zz.length=32 by rw [hzz];rfl)
   obtain⟨rv2,hrv⟩:∃rv2,rv2=(SM (x.tx,x.out)).getD zh:=⟨_,rfl⟩
   obtain⟨kn,hkn⟩:∃kn,kn=(SM (x.tx,x.out)).isSome:=⟨_,rfl⟩
   have RL2:=hid (show rv2.length=32 from by
    rw [hrv]
    cases hs:SM (x.tx,x.out) with
    | none=>rfl
    | some y=>exact(HSK.out _ y hs).1)
   have HV:=hid (show(if true=true then Value.tuple #[(hashM SM (x.tx,x.out)).getD (.agg (nums .u8 zz).toArray),.bool (hashM SM (x.tx,x.out)).isSome] else (hashM SM (x.tx,x.out)).getD (.agg (nums .u8 zz).toArray)) = .tuple #[.agg (nums .u8 rv2).toArray,.bool kn] from by
    rw [hrv,hkn,hzz]
    unfold hashM
    cases SM (x.tx,x.out) <;> rfl)
   have KN:=hid hkn
   have hi6:=hid (show(Tryz.prog.info? 43).map (·.size)=some (nums .u8 rv2).toArray.size by rw [List.size_toArray,nums_length,RL2.out];kernel_rfl)
   have ho6:=hid (show(nums .u8 zz).toArray.size=(nums .u8 rv2).toArray.size by rw [List.size_toArray,List.size_toArray,nums_length,nums_length,lz.out,RL2.out])
   have h18:=hid (all_oneCell_toArray (nums_oneCell .u8 rv2))
   have c5:=hid (H.out.below BWz.out).c5
   have M5:=hid (MS.out.below BWz.out)
   have rP:=hid (show wz.rangeAt X 0 lp from by have:=gen_range (row_range HXz.out) 0 33;rw [XC.out.2.1] at this;exact this)
   clear hzz hkn hrv
   refine wp_region_held_drew (S:=fun w'=>Below wz.heap.size wz w') (by kernel_rfl) ((Below.refl _ _).drew) (fun hHeld=>?_)
   try simp only [List.size_toArray,List.length_cons,List.length_nil,Nat.reduceAdd,Array.replicate_succ,Array.replicate_zero,List.push_toArray,List.nil_append,List.cons_append]
   refine tkH (i:=0) (oi:=⟨_,.move (.tmp 0),_,_,_,_⟩) (v:=?v2001) rfl (yi ?y2001) hHeld ?_
   case y2001=>(intro w _;go_simp;(try with_reducible rfl))
   (try simp only [Act.put,s0,s1,s2])
   refine tkH (i:=1) (oi:=⟨_,.nilCheck (.tmp 51),_,_,_,_⟩) (v:=?v2002) rfl (yi ?y2002) hHeld ?_
   case y2002=>(intro w _;go_simp;(try with_reducible rfl))
   (try simp only [Act.put,s0,s1,s2])
   refine tkH (i:=2) (oi:=⟨_,.fieldAddr 137 (.tmp 52) 5,_,_,_,_⟩) (v:=?v2003) rfl (yi ?y2003) hHeld ?_
   case y2003=>(intro w _;go_simp;(try with_reducible rfl))
   (try simp only [Act.put,s0,s1,s2])
   refine tkH (i:=3) (oi:=⟨_,.load 134 (.tmp 53),_,_,_,_⟩) (v:=(.map (some sm))) rfl (Or.inl ⟨by rfl,fun w h=>by have c9:=cell_keep h c5.out;go_simp⟩) hHeld ?_
   (try simp only [Act.put,s0,s1,s2])
   refine tkH (i:=4) (oi:=⟨_,.fieldAddr 69 (.tmp 10) 0,_,_,_,_⟩) (v:=?v2004) rfl (yi ?y2004) hHeld ?_
   case y2004=>(intro w _;go_simp;(try with_reducible rfl))
   (try simp only [Act.put,s0,s1,s2])
   refine' tkH (i:=5) (oi:=⟨_,.load 60 (.tmp 55),_,_,_,_⟩) (v:=_) rfl (yieldsIf_load_mid (by rfl) _ _ rfl X 0 rfl lp _ (fun _ h=>range_keep h rP.out) Tryz.underlying60 rfl hiP.out) hHeld ?_
   (try simp only [Act.put,s0,s1,s2])
   refine tkH (i:=6) (oi:=⟨_,.lookup 134 (.tmp 54) (.tmp 56) true,_,_,_,_⟩) (v:=(.tuple #[.agg (nums .u8 rv2).toArray,.bool kn])) rfl (Or.inl ⟨by rfl,fun w h=>by rw [← HV.out];exact run_look (.tmp 54) (.tmp 56) _ true rfl Tryz.underlying134 (ZH w) (M5.out.below h) rfl (x.tx,x.out) OK.out LPE.out⟩) hHeld ?_
   (try simp only [Act.put,s0,s1,s2])
   refine tkH (i:=7) (oi:=⟨_,.move (.tmp 57),_,_,_,_⟩) (v:=?v2005) rfl (yi ?y2005) hHeld ?_
   case y2005=>(intro w _;go_simp;(try with_reducible rfl))
   (try simp only [Act.put,s0,s1,s2])
   refine tkH (i:=8) (oi:=⟨_,.extract (.tmp 50) 0,_,_,_,_⟩) (v:=?v2006) rfl (yi ?y2006) hHeld ?_
   case y2006=>(intro w _;go_simp;(try with_reducible rfl))
   (try simp only [Act.put,s0,s1,s2])
   refine tkH (i:=9) (oi:=⟨_,.extract (.tmp 50) 1,_,_,_,_⟩) (v:=?v2007) rfl (yi ?y2007) hHeld ?_
   case y2007=>(intro w _;go_simp;(try with_reducible rfl))
   (try simp only [Act.put,s0,s1,s2])
   refine wpAnyH_ready (rs:=[10]) (by kernel_rfl) (by simp) ?_
   refine AllReadyH.cons (o:=⟨_,.alloc 43,_,_,_,_⟩) rfl (fun K hK=>?_) ?_
   have BVL:=hid hHeld.size;go_simp;(first|refine newZ ?_|refine newZd ?_);intro wa HW BW
   refine hK.out _ _ (by first|exact hHeld.trans (BW.out.mono hHeld.size)|exact BW.out) (fun hHeld=>?_)
   clear hK K
   (try simp only [s0,s1,s2])
   refine wpAnyH_ready (rs:=[11]) (by kernel_rfl) (by simp) ?_
   refine AllReadyH.cons (o:=⟨_,.store 43 (.tmp 13) (.tmp 58),_,_,_,_⟩) rfl (fun K hK=>?_) ?_
   rw [if_pos (by rfl)];refine wp_store_row _ _ _ rfl _ (nums .u8 rv2).toArray rfl rfl _ _ HW.out hi6.out ho6.out h18.out ?_
   refine hK.out _ _ (below_setRow hHeld BVL.out _) (fun hHeld=>?_)
   clear hK K
   (try simp only [s0,s1,s2])
   refine tkH (i:=12) (oi:=⟨_,.assign (.tmp 59),_,_,_,_⟩) (v:=?v2008) rfl (yi ?y2008) hHeld ?_
   case y2008=>(intro w _;go_simp;(try with_reducible rfl))
   (try simp only [Act.put,s0,s1,s2])
   refine wpAnyH_done (by kernel_rfl) ?_ _
   rotate_left
   exact AllReadyH.nil
   exact AllReadyH.nil
   have BE:=hid (show Below w.heap.size w (wa.setRow wz.heap.size (nums .u8 rv2).toArray) from BWz.out.trans (hHeld.mono BWz.out.size))
   clear hHeld BVL HW BW
   generalize wa.setRow wz.heap.size (nums .u8 rv2).toArray=wy at *
   cases kn with
   | true=>
    have E:=BAD 32 (by decide) (by unfold tryIn;rw [HS.out];dsimp only;rw [if_pos KN.out.symm])
    go_wp2_with (fail)
    go_ret
    exact⟨by rw [E.out];rfl,BE.out⟩
   | false=>
    have E:=BAD 5 (by decide) (by unfold tryIn;rw [HS.out];dsimp only;rw [if_neg (by rw [← KN.out];decide)])
    go_wp2_with (fail)
    go_ret
    exact⟨by rw [E.out];rfl,BE.out⟩
  | some y=>
   obtain rfl:kn=true:=by rw [FIN.out.2,hs];rfl
   obtain rfl:hv'=y:=by rw [FIN.out.1,hs];rfl
   have HS:=hid hs
   have cp:=gen_cell (j:=33) (row_range HXz.out) XC.out.1
   obtain⟨L,hL⟩:∃L,L=hv'.out.paths.length:=⟨_,rfl⟩
   have LE:=hid hL
   have cv:=gen_cell (j:=1) (row_range hVz.out) (v:=.slice hv'.out.pa L hv'.out.pc) (by rw [RV.out,hL];rfl)
   clear hs hL
   by_cases hpl:L≤pn
   ·have t1:decide (L≤pn)=true:=decide_eq_true hpl
    have t2:decide ((L:Int)≤(pn:Int))=true:=decide_eq_true (by omega)
    have E:=BAD 1 (by decide) (by unfold tryIn;rw [HS.out];dsimp only;rw [PN.out,Int.toNat_natCast,List.getElem?_eq_none (by rw [← LE.out];exact hpl)])
    clear hpl
    go_wp2_with (fail)
    go_ret
    exact⟨by rw [E.out];rfl,BWz.out⟩
   have t1:decide (L≤pn)=false:=decide_eq_false hpl
   have t2:decide ((L:Int)≤(pn:Int))=false:=decide_eq_false (by omega)
   have PL:=hid (show pn<L by omega)
   obtain⟨p,hp⟩:∃p,hv'.out.paths[pn]? = some p:=⟨_,List.getElem?_eq_getElem (by rw [← LE.out];exact PL.out)⟩
   have t3:pn<L:=by omega
   have t4:(pn:Int)<(L:Int):=by omega
   have t5:¬ ((L:Int)≤(pn:Int)):=by omega
   clear hpl
   have py:=hid (GO.out.1.ok p (List.mem_of_getElem? hp))
   obtain⟨pb,po,hpa,rg⟩:=rd_row (pathsOne GO.out.1) GO.out.1.paths hp (by rw [← LE.out];exact PL.out)
   rw [hpa] at cv
   have PA:=hid hpa
   have rgp:=range_keep BWz.out rg
   obtain⟨pcs,hpcs⟩:∃pcs,pcs=p.cells:=⟨_,rfl⟩
   rw [← hpcs] at rgp
   have PCL:=hid (show pcs.length=98 by rw [hpcs];exact PathD.len py.out)
   have hiC2:=hid (show(Tryz.prog.info? 121).map (·.size)=some pcs.length by rw [PCL.out];kernel_rfl)
   have hiC3:=hid (show(Tryz.prog.info? 121).map (·.size)=some pcs.toArray.size by rw [List.size_toArray,PCL.out];kernel_rfl)
   have hoC2:=hid (show 98=pcs.toArray.size by rw [List.size_toArray,PCL.out])
   have h19:=hid (show(pcs.toArray.all fun x=>x.oneCell')=true by rw [hpcs];exact all_oneCell_toArray (PathD.one p))
   have PCE:=hid hpcs
   have HP:=hid hp
   clear rg hp hpa hpcs
   go_upto_region 20 with(first|with_reducible refine wpList_load_mid rfl _ _ rfl pb (po+pn*98) rfl pcs _ rgp Tryz.underlying121 rfl hiC2.out ?_|(refine wpList_store_row rfl _ _ _ rfl wz.heap.size pcs.toArray rfl rfl _ _ (heap_alloc_new _ _) hiC3.out hoC2.out h19.out ?_;refine laidW (F:=fun w3=>wpList _ _ _ _ _ w3) ?_;intro w8 h8 b8))
   have HP8:=hid h8.out
   have B8:=hid (show Below w.heap.size w w8 from BWz.out.trans (b8.out.mono BWz.out.size))
   have B48:=hid (show Below w4.heap.size w4 w8 from B4z.out.trans (b8.out.mono B4z.out.size))
   have O8:=hid (ownKB O6.out b8.out)
   have HX8:=hid (heap_keep HXz.out b8.out)
   have HV8:=hid (heap_keep hVz.out b8.out)
   have LP:=hid (show wz.heap.size<w8.heap.size from(Array.getElem?_eq_some_iff.1 h8.out).1)
   have HID8:=hid (heap_keep HID.out B48.out)
   clear h8 b8 t1 t2 t3 t4 t5 rgp cp cv
   generalize wz.heap.size=PB at *
   go_frame
   have OC:∀w',Below w8.heap.size w8 w'→OffAt w' ob mb M n:=fun w' b=>OO.out.below (B8.out.trans (b.mono B8.out.size))
   have OCH:=hid OC
   have c0:=hid (H.out.below B8.out).c0
   have un:=Tryz.underlying43
   have rOwn:=hid (show w8.rangeAt PB 0 (nums .u8 p.own) from by have:=gen_range (row_range HP8.out) 0 32;rw [PCE.out,PathD.p0 py.out] at this;exact this)
   have rAlso:=hid (show w8.rangeAt PB 32 (nums .u8 p.also) from by have:=gen_range (row_range HP8.out) 32 32;rw [PCE.out,PathD.p1 py.out] at this;exact this)
   have rLock:=hid (show w8.rangeAt PB 64 (nums .u8 p.lock) from by have:=gen_range (row_range HP8.out) 64 32;rw [PCE.out,PathD.p2 py.out] at this;exact this)
   have rTok:=hid (show w8.rangeAt X 34 (nums .u8 x.token) from by have:=gen_range (row_range HX8.out) 34 32;rw [XC.out.2.2] at this;exact this)
   have rId:=hid (row_range HID8.out)
   have hiOwn:=hid (show(Tryz.prog.info? 43).map (·.size)=some (nums .u8 p.own).length by rw [nums_length,py.out.own.1];kernel_rfl)
   have hiAlso:=hid (show(Tryz.prog.info? 43).map (·.size)=some (nums .u8 p.also).length by rw [nums_length,py.out.also.1];kernel_rfl)
   have hiLock:=hid (show(Tryz.prog.info? 43).map (·.size)=some (nums .u8 p.lock).length by rw [nums_length,py.out.lock.1];kernel_rfl)
   have hiTok:=hid (show(Tryz.prog.info? 43).map (·.size)=some (nums .u8 x.token).length by rw [nums_length,xok.out.token.1];kernel_rfl)
   have hiId:=hid (show(Tryz.prog.info? 43).map (·.size)=some (nums .u8 id).length by rw [nums_length,IDO.out.1];kernel_rfl)
   have AL:=fun(wx:World) (bx:Below w8.heap.size w8 wx)=>hid (show Calls Tryz.prog 76 #[.pointer (some ⟨ob,0,none⟩),.agg (nums .u8 p.own).toArray,.agg (nums .u8 id).toArray,.agg (nums .u8 x.token).toArray] wx (AldRes (aldB M p.own id x.token) wx) from allowed_walk p.own id x.token py.out.own IDO.out xok.out.token ob mb n M wx (OCH.out wx bx))
   have TRY:=hid (show tryIn HM SM M ht id x=if aldB M p.own id x.token=false then 31 else if ht+1<p.till∨ht+1 - hv'.height<p.wait then 33 else 0 from by unfold tryIn;rw [HS.out];dsimp only;rw [PN.out,Int.toNat_natCast,HP.out])
   have EZX:=hid (EIX.out _ _ HS.out (by rw [PN.out,Int.toNat_natCast];exact HP.out))
   obtain⟨ab,hab⟩:∃ab,ab=aldB M p.own id x.token:=⟨_,rfl⟩
   rw [← hab] at AL TRY EZX
   clear OC hab
   cases ab with
   | false=>
    have E:=BAD 31 (by decide) (by rw [TRY.out,if_pos rfl])
    refine wp_region_held_drew (S:=fun w'=>Below w8.heap.size w8 w') (by kernel_rfl) ((Below.refl _ _).drew) (fun hHeld=>?_)
    try simp only [List.size_toArray,List.length_cons,List.length_nil,Nat.reduceAdd,Array.replicate_succ,Array.replicate_zero,List.push_toArray,List.nil_append,List.cons_append]
    refine tkH (i:=0) (oi:=⟨_,.move (.tmp 0),_,_,_,_⟩) (v:=?v3001) rfl (yi ?y3001) hHeld ?_
    case y3001=>(intro w _;go_simp;(try with_reducible rfl))
    (try simp only [Act.put,s0,s1,s2])
    refine tkH (i:=1) (oi:=⟨_,.nilCheck (.tmp 75),_,_,_,_⟩) (v:=?v3002) rfl (yi ?y3002) hHeld ?_
    case y3002=>(intro w _;go_simp;(try with_reducible rfl))
    (try simp only [Act.put,s0,s1,s2])
    refine tkH (i:=2) (oi:=⟨_,.fieldAddr 137 (.tmp 76) 0,_,_,_,_⟩) (v:=?v3003) rfl (yi ?y3003) hHeld ?_
    case y3003=>(intro w _;go_simp;(try with_reducible rfl))
    (try simp only [Act.put,s0,s1,s2])
    refine tkH (i:=3) (oi:=⟨_,.load 55 (.tmp 77),_,_,_,_⟩) (v:=(.pointer (some ⟨ob,0,none⟩))) rfl (Or.inl ⟨by rfl,fun w h=>by have c9:=cell_keep h c0.out;go_simp⟩) hHeld ?_
    (try simp only [Act.put,s0,s1,s2])
    refine tkH (i:=4) (oi:=⟨_,.fieldAddr 121 (.tmp 15) 0,_,_,_,_⟩) (v:=?v3004) rfl (yi ?y3004) hHeld ?_
    case y3004=>(intro w _;go_simp;(try with_reducible rfl))
    (try simp only [Act.put,s0,s1,s2])
    refine' tkH (i:=5) (oi:=⟨_,.load 43 (.tmp 79),_,_,_,_⟩) (v:=_) rfl (yieldsIf_load_mid (by rfl) _ _ rfl PB 0 rfl (nums .u8 p.own) _ (fun _ h=>range_keep h rOwn.out) un rfl hiOwn.out) hHeld ?_
    (try simp only [Act.put,s0,s1,s2])
    refine' tkH (i:=6) (oi:=⟨_,.load 43 (.tmp 8),_,_,_,_⟩) (v:=_) rfl (yieldsIf_load_mid (by rfl) _ _ rfl IB 0 rfl (nums .u8 id) _ (fun _ h=>range_keep h rId.out) un rfl hiId.out) hHeld ?_
    (try simp only [Act.put,s0,s1,s2])
    refine tkH (i:=7) (oi:=⟨_,.fieldAddr 69 (.tmp 10) 2,_,_,_,_⟩) (v:=?v3005) rfl (yi ?y3005) hHeld ?_
    case y3005=>(intro w _;go_simp;(try with_reducible rfl))
    (try simp only [Act.put,s0,s1,s2])
    refine' tkH (i:=8) (oi:=⟨_,.load 43 (.tmp 82),_,_,_,_⟩) (v:=_) rfl (yieldsIf_load_mid (by rfl) _ _ rfl X 34 rfl (nums .u8 x.token) _ (fun _ h=>range_keep h rTok.out) un rfl hiTok.out) hHeld ?_
    (try simp only [Act.put,s0,s1,s2])
    refine wpAnyH_ready (rs:=[9]) (by kernel_rfl) (by simp) ?_
    refine AllReadyH.cons (o:=⟨_,.call ⟨.value (.func 76),#[.tmp 78,.tmp 80,.tmp 81,.tmp 83],#[55,43,43,43]⟩,_,_,_,_⟩) rfl (fun K hK=>?_) ?_
    go_simp;refine(AL _ hHeld).out.mono ?_;rintro e w9 ⟨rfl,b9⟩;have B9:=hid b9;clear b9
    refine hK.out _ _ (hHeld.trans (B9.out.mono hHeld.size)) (fun hHeld=>?_)
    clear hK K
    (try simp only [s0,s1,s2])
    refine tkH (i:=10) (oi:=⟨_,.unOp .not 4 (.tmp 84),_,_,_,_⟩) (v:=?v3006) rfl (yi ?y3006) hHeld ?_
    case y3006=>(intro w _;go_simp;(try with_reducible rfl))
    (try simp only [Act.put,s0,s1,s2])
    refine tkH (i:=11) (oi:=⟨_,.move (.tmp 85),_,_,_,_⟩) (v:=?v3007) rfl (yi ?y3007) hHeld ?_
    case y3007=>(intro w _;go_simp;(try with_reducible rfl))
    (try simp only [Act.put,s0,s1,s2])
    refine tkH (i:=12) (oi:=⟨_,.fieldAddr 121 (.tmp 15) 1,_,_,_,_⟩) (v:=undef) rfl (Or.inr ⟨by rfl,rfl⟩) hHeld ?_
    (try simp only [Act.put,s0,s1,s2])
    refine tkH (i:=13) (oi:=⟨_,.load 43 (.tmp 87),_,_,_,_⟩) (v:=undef) rfl (Or.inr ⟨by rfl,rfl⟩) hHeld ?_
    (try simp only [Act.put,s0,s1,s2])
    refine tkH (i:=14) (oi:=⟨_,.build 43 #[],_,_,_,_⟩) (v:=undef) rfl (Or.inr ⟨by rfl,rfl⟩) hHeld ?_
    (try simp only [Act.put,s0,s1,s2])
    refine tkH (i:=15) (oi:=⟨_,.binOp .neq 43 (.tmp 88) (.tmp 89) 43,_,_,_,_⟩) (v:=undef) rfl (Or.inr ⟨by rfl,rfl⟩) hHeld ?_
    (try simp only [Act.put,s0,s1,s2])
    refine tkH (i:=16) (oi:=⟨_,.move (.tmp 90),_,_,_,_⟩) (v:=undef) rfl (Or.inr ⟨by rfl,rfl⟩) hHeld ?_
    (try simp only [Act.put,s0,s1,s2])
    refine tkH (i:=17) (oi:=⟨_,.move (.tmp 0),_,_,_,_⟩) (v:=undef) rfl (Or.inr ⟨by rfl,rfl⟩) hHeld ?_
    (try simp only [Act.put,s0,s1,s2])
    refine tkH (i:=18) (oi:=⟨_,.nilCheck (.tmp 92),_,_,_,_⟩) (v:=undef) rfl (Or.inr ⟨by rfl,rfl⟩) hHeld ?_
    (try simp only [Act.put,s0,s1,s2])
    refine tkH (i:=19) (oi:=⟨_,.fieldAddr 137 (.tmp 93) 0,_,_,_,_⟩) (v:=undef) rfl (Or.inr ⟨by rfl,rfl⟩) hHeld ?_
    (try simp only [Act.put,s0,s1,s2])
    refine tkH (i:=20) (oi:=⟨_,.load 55 (.tmp 94),_,_,_,_⟩) (v:=undef) rfl (Or.inr ⟨by rfl,rfl⟩) hHeld ?_
    (try simp only [Act.put,s0,s1,s2])
    refine tkH (i:=21) (oi:=⟨_,.fieldAddr 121 (.tmp 15) 1,_,_,_,_⟩) (v:=undef) rfl (Or.inr ⟨by rfl,rfl⟩) hHeld ?_
    (try simp only [Act.put,s0,s1,s2])
    refine tkH (i:=22) (oi:=⟨_,.load 43 (.tmp 96),_,_,_,_⟩) (v:=undef) rfl (Or.inr ⟨by rfl,rfl⟩) hHeld ?_
    (try simp only [Act.put,s0,s1,s2])
    refine tkH (i:=23) (oi:=⟨_,.load 43 (.tmp 8),_,_,_,_⟩) (v:=undef) rfl (Or.inr ⟨by rfl,rfl⟩) hHeld ?_
    (try simp only [Act.put,s0,s1,s2])
    refine tkH (i:=24) (oi:=⟨_,.fieldAddr 69 (.tmp 10) 3,_,_,_,_⟩) (v:=undef) rfl (Or.inr ⟨by rfl,rfl⟩) hHeld ?_
    (try simp only [Act.put,s0,s1,s2])
    refine tkH (i:=25) (oi:=⟨_,.load 43 (.tmp 99),_,_,_,_⟩) (v:=undef) rfl (Or.inr ⟨by rfl,rfl⟩) hHeld ?_
    (try simp only [Act.put,s0,s1,s2])
    refine tkH (i:=26) (oi:=⟨_,.call ⟨.value (.func 76),#[.tmp 95,.tmp 97,.tmp 98,.tmp 100],#[55,43,43,43]⟩,_,_,_,_⟩) (v:=undef) rfl (Or.inr ⟨by rfl,rfl⟩) hHeld ?_
    (try simp only [Act.put,s0,s1,s2])
    refine tkH (i:=27) (oi:=⟨_,.unOp .not 4 (.tmp 101),_,_,_,_⟩) (v:=undef) rfl (Or.inr ⟨by rfl,rfl⟩) hHeld ?_
    (try simp only [Act.put,s0,s1,s2])
    refine tkH (i:=28) (oi:=⟨_,.pick (.tmp 91) (.tmp 102) (.const (.bool false)),_,_,_,_⟩) (v:=undef) rfl (Or.inr ⟨by rfl,rfl⟩) hHeld ?_
    (try simp only [Act.put,s0,s1,s2])
    refine tkH (i:=29) (oi:=⟨_,.pick (.tmp 86) (.const (.bool true)) (.tmp 103),_,_,_,_⟩) (v:=?v3008) rfl (yi ?y3008) hHeld ?_
    case y3008=>(intro w _;go_simp;(try with_reducible rfl))
    (try simp only [Act.put,s0,s1,s2])
    refine tkH (i:=30) (oi:=⟨_,.move (.tmp 104),_,_,_,_⟩) (v:=?v3009) rfl (yi ?y3009) hHeld ?_
    case y3009=>(intro w _;go_simp;(try with_reducible rfl))
    (try simp only [Act.put,s0,s1,s2])
    refine tkH (i:=31) (oi:=⟨_,.fieldAddr 121 (.tmp 15) 2,_,_,_,_⟩) (v:=undef) rfl (Or.inr ⟨by rfl,rfl⟩) hHeld ?_
    (try simp only [Act.put,s0,s1,s2])
    refine tkH (i:=32) (oi:=⟨_,.load 43 (.tmp 106),_,_,_,_⟩) (v:=undef) rfl (Or.inr ⟨by rfl,rfl⟩) hHeld ?_
    (try simp only [Act.put,s0,s1,s2])
    refine tkH (i:=33) (oi:=⟨_,.build 43 #[],_,_,_,_⟩) (v:=undef) rfl (Or.inr ⟨by rfl,rfl⟩) hHeld ?_
    (try simp only [Act.put,s0,s1,s2])
    refine tkH (i:=34) (oi:=⟨_,.binOp .neq 43 (.tmp 107) (.tmp 108) 43,_,_,_,_⟩) (v:=undef) rfl (Or.inr ⟨by rfl,rfl⟩) hHeld ?_
    (try simp only [Act.put,s0,s1,s2])
    refine tkH (i:=35) (oi:=⟨_,.move (.tmp 109),_,_,_,_⟩) (v:=undef) rfl (Or.inr ⟨by rfl,rfl⟩) hHeld ?_
    (try simp only [Act.put,s0,s1,s2])
    refine tkH (i:=36) (oi:=⟨_,.fieldAddr 69 (.tmp 10) 4,_,_,_,_⟩) (v:=undef) rfl (Or.inr ⟨by rfl,rfl⟩) hHeld ?_
    (try simp only [Act.put,s0,s1,s2])
    refine tkH (i:=37) (oi:=⟨_,.slice 43 (.tmp 111) none none none,_,_,_,_⟩) (v:=undef) rfl (Or.inr ⟨by rfl,rfl⟩) hHeld ?_
    (try simp only [Act.put,s0,s1,s2])
    refine tkH (i:=38) (oi:=⟨_,.buildSlice 173 1 #[(0,.tmp 112)],_,_,_,_⟩) (v:=undef) rfl (Or.inr ⟨by rfl,rfl⟩) hHeld ?_
    (try simp only [Act.put,s0,s1,s2])
    refine tkH (i:=39) (oi:=⟨_,.call ⟨.value (.func 66),#[.tmp 113],#[173]⟩,_,_,_,_⟩) (v:=undef) rfl (Or.inr ⟨by rfl,rfl⟩) hHeld ?_
    (try simp only [Act.put,s0,s1,s2])
    refine tkH (i:=40) (oi:=⟨_,.fieldAddr 121 (.tmp 15) 2,_,_,_,_⟩) (v:=undef) rfl (Or.inr ⟨by rfl,rfl⟩) hHeld ?_
    (try simp only [Act.put,s0,s1,s2])
    refine tkH (i:=41) (oi:=⟨_,.load 43 (.tmp 115),_,_,_,_⟩) (v:=undef) rfl (Or.inr ⟨by rfl,rfl⟩) hHeld ?_
    (try simp only [Act.put,s0,s1,s2])
    refine tkH (i:=42) (oi:=⟨_,.binOp .neq 43 (.tmp 114) (.tmp 116) 43,_,_,_,_⟩) (v:=undef) rfl (Or.inr ⟨by rfl,rfl⟩) hHeld ?_
    (try simp only [Act.put,s0,s1,s2])
    refine tkH (i:=43) (oi:=⟨_,.pick (.tmp 110) (.tmp 117) (.const (.bool false)),_,_,_,_⟩) (v:=undef) rfl (Or.inr ⟨by rfl,rfl⟩) hHeld ?_
    (try simp only [Act.put,s0,s1,s2])
    refine tkH (i:=44) (oi:=⟨_,.pick (.tmp 105) (.const (.bool true)) (.tmp 118),_,_,_,_⟩) (v:=?v3010) rfl (yi ?y3010) hHeld ?_
    case y3010=>(intro w _;go_simp;(try with_reducible rfl))
    (try simp only [Act.put,s0,s1,s2])
    refine wpAnyH_done (by kernel_rfl) ?_ _
    rotate_left
    exact AllReadyH.nil
    have BE:=hid (show Below w.heap.size w w9 from B8.out.trans (hHeld.mono B8.out.size))
    clear hHeld
    go_wp2_with (fail)
    go_ret
    exact⟨by rw [E.out];rfl,BE.out⟩
   | true=>
    obtain⟨pal,plk⟩:p.also=zh∧p.lock=zh:=by
     rcases EZX.out with h|h
     ·cases h
     ·exact h
    rw [pal] at rAlso hiAlso
    rw [plk] at rLock hiLock
    have nq:=neq_hv (xs:=zh) (ys:=zh) zh32.1 zh32.1 zh32.2 zh32.2
    have ng:=guard_hv zh zh
    rw [show decide (zh=zh)=true from decide_eq_true rfl] at nq
    unfold hv at nq ng
    have BH:=hid bh0
    clear pal plk
    refine wp_region_held_drew (S:=fun w'=>Below w8.heap.size w8 w') (by kernel_rfl) ((Below.refl _ _).drew) (fun hHeld=>?_)
    try simp only [List.size_toArray,List.length_cons,List.length_nil,Nat.reduceAdd,Array.replicate_succ,Array.replicate_zero,List.push_toArray,List.nil_append,List.cons_append]
    refine tkH (i:=0) (oi:=⟨_,.move (.tmp 0),_,_,_,_⟩) (v:=?v4001) rfl (yi ?y4001) hHeld ?_
    case y4001=>(intro w _;go_simp;(try with_reducible rfl))
    (try simp only [Act.put,s0,s1,s2])
    refine tkH (i:=1) (oi:=⟨_,.nilCheck (.tmp 75),_,_,_,_⟩) (v:=?v4002) rfl (yi ?y4002) hHeld ?_
    case y4002=>(intro w _;go_simp;(try with_reducible rfl))
    (try simp only [Act.put,s0,s1,s2])
    refine tkH (i:=2) (oi:=⟨_,.fieldAddr 137 (.tmp 76) 0,_,_,_,_⟩) (v:=?v4003) rfl (yi ?y4003) hHeld ?_
    case y4003=>(intro w _;go_simp;(try with_reducible rfl))
    (try simp only [Act.put,s0,s1,s2])
    refine tkH (i:=3) (oi:=⟨_,.load 55 (.tmp 77),_,_,_,_⟩) (v:=(.pointer (some ⟨ob,0,none⟩))) rfl (Or.inl ⟨by rfl,fun w h=>by have c9:=cell_keep h c0.out;go_simp⟩) hHeld ?_
    (try simp only [Act.put,s0,s1,s2])
    refine tkH (i:=4) (oi:=⟨_,.fieldAddr 121 (.tmp 15) 0,_,_,_,_⟩) (v:=?v4004) rfl (yi ?y4004) hHeld ?_
    case y4004=>(intro w _;go_simp;(try with_reducible rfl))
    (try simp only [Act.put,s0,s1,s2])
    refine' tkH (i:=5) (oi:=⟨_,.load 43 (.tmp 79),_,_,_,_⟩) (v:=_) rfl (yieldsIf_load_mid (by rfl) _ _ rfl PB 0 rfl (nums .u8 p.own) _ (fun _ h=>range_keep h rOwn.out) un rfl hiOwn.out) hHeld ?_
    (try simp only [Act.put,s0,s1,s2])
    refine' tkH (i:=6) (oi:=⟨_,.load 43 (.tmp 8),_,_,_,_⟩) (v:=_) rfl (yieldsIf_load_mid (by rfl) _ _ rfl IB 0 rfl (nums .u8 id) _ (fun _ h=>range_keep h rId.out) un rfl hiId.out) hHeld ?_
    (try simp only [Act.put,s0,s1,s2])
    refine tkH (i:=7) (oi:=⟨_,.fieldAddr 69 (.tmp 10) 2,_,_,_,_⟩) (v:=?v4005) rfl (yi ?y4005) hHeld ?_
    case y4005=>(intro w _;go_simp;(try with_reducible rfl))
    (try simp only [Act.put,s0,s1,s2])
    refine' tkH (i:=8) (oi:=⟨_,.load 43 (.tmp 82),_,_,_,_⟩) (v:=_) rfl (yieldsIf_load_mid (by rfl) _ _ rfl X 34 rfl (nums .u8 x.token) _ (fun _ h=>range_keep h rTok.out) un rfl hiTok.out) hHeld ?_
    (try simp only [Act.put,s0,s1,s2])
    refine wpAnyH_ready (rs:=[9]) (by kernel_rfl) (by simp) ?_
    refine AllReadyH.cons (o:=⟨_,.call ⟨.value (.func 76),#[.tmp 78,.tmp 80,.tmp 81,.tmp 83],#[55,43,43,43]⟩,_,_,_,_⟩) rfl (fun K hK=>?_) ?_
    go_simp;refine(AL _ hHeld).out.mono ?_;rintro e w9 ⟨rfl,b9⟩;have B9:=hid b9;clear b9
    refine hK.out _ _ (hHeld.trans (B9.out.mono hHeld.size)) (fun hHeld=>?_)
    clear hK K
    (try simp only [s0,s1,s2])
    refine tkH (i:=10) (oi:=⟨_,.unOp .not 4 (.tmp 84),_,_,_,_⟩) (v:=?v4006) rfl (yi ?y4006) hHeld ?_
    case y4006=>(intro w _;go_simp;(try with_reducible rfl))
    (try simp only [Act.put,s0,s1,s2])
    refine tkH (i:=11) (oi:=⟨_,.move (.tmp 85),_,_,_,_⟩) (v:=?v4007) rfl (yi ?y4007) hHeld ?_
    case y4007=>(intro w _;go_simp;(try with_reducible rfl))
    (try simp only [Act.put,s0,s1,s2])
    refine tkH (i:=12) (oi:=⟨_,.fieldAddr 121 (.tmp 15) 1,_,_,_,_⟩) (v:=?v4008) rfl (yi ?y4008) hHeld ?_
    case y4008=>(intro w _;go_simp;(try with_reducible rfl))
    (try simp only [Act.put,s0,s1,s2])
    refine' tkH (i:=13) (oi:=⟨_,.load 43 (.tmp 87),_,_,_,_⟩) (v:=_) rfl (yieldsIf_load_mid (by rfl) _ _ rfl PB 32 rfl (nums .u8 zh) _ (fun _ h=>range_keep h rAlso.out) un rfl hiAlso.out) hHeld ?_
    (try simp only [Act.put,s0,s1,s2])
    refine tkH (i:=14) (oi:=⟨_,.build 43 #[],_,_,_,_⟩) (v:=(.agg (nums .u8 zh).toArray)) rfl (Or.inl ⟨by rfl,fun w _=>run_buildN rfl (by simpa using BH.out)⟩) hHeld ?_
    (try simp only [Act.put,s0,s1,s2])
    refine tkH (i:=15) (oi:=⟨_,.binOp .neq 43 (.tmp 88) (.tmp 89) 43,_,_,_,_⟩) (v:=(.bool false)) rfl (Or.inl ⟨by rfl,fun w _=>by go_simp⟩) hHeld ?_
    (try simp only [Act.put,s0,s1,s2])
    refine tkH (i:=16) (oi:=⟨_,.move (.tmp 90),_,_,_,_⟩) (v:=?v4009) rfl (yi ?y4009) hHeld ?_
    case y4009=>(intro w _;go_simp;(try with_reducible rfl))
    (try simp only [Act.put,s0,s1,s2])
    refine tkH (i:=17) (oi:=⟨_,.move (.tmp 0),_,_,_,_⟩) (v:=undef) rfl (Or.inr ⟨by rfl,rfl⟩) hHeld ?_
    (try simp only [Act.put,s0,s1,s2])
    refine tkH (i:=18) (oi:=⟨_,.nilCheck (.tmp 92),_,_,_,_⟩) (v:=undef) rfl (Or.inr ⟨by rfl,rfl⟩) hHeld ?_
    (try simp only [Act.put,s0,s1,s2])
    refine tkH (i:=19) (oi:=⟨_,.fieldAddr 137 (.tmp 93) 0,_,_,_,_⟩) (v:=undef) rfl (Or.inr ⟨by rfl,rfl⟩) hHeld ?_
    (try simp only [Act.put,s0,s1,s2])
    refine tkH (i:=20) (oi:=⟨_,.load 55 (.tmp 94),_,_,_,_⟩) (v:=undef) rfl (Or.inr ⟨by rfl,rfl⟩) hHeld ?_
    (try simp only [Act.put,s0,s1,s2])
    refine tkH (i:=21) (oi:=⟨_,.fieldAddr 121 (.tmp 15) 1,_,_,_,_⟩) (v:=undef) rfl (Or.inr ⟨by rfl,rfl⟩) hHeld ?_
    (try simp only [Act.put,s0,s1,s2])
    refine tkH (i:=22) (oi:=⟨_,.load 43 (.tmp 96),_,_,_,_⟩) (v:=undef) rfl (Or.inr ⟨by rfl,rfl⟩) hHeld ?_
    (try simp only [Act.put,s0,s1,s2])
    refine tkH (i:=23) (oi:=⟨_,.load 43 (.tmp 8),_,_,_,_⟩) (v:=undef) rfl (Or.inr ⟨by rfl,rfl⟩) hHeld ?_
    (try simp only [Act.put,s0,s1,s2])
    refine tkH (i:=24) (oi:=⟨_,.fieldAddr 69 (.tmp 10) 3,_,_,_,_⟩) (v:=undef) rfl (Or.inr ⟨by rfl,rfl⟩) hHeld ?_
    (try simp only [Act.put,s0,s1,s2])
    refine tkH (i:=25) (oi:=⟨_,.load 43 (.tmp 99),_,_,_,_⟩) (v:=undef) rfl (Or.inr ⟨by rfl,rfl⟩) hHeld ?_
    (try simp only [Act.put,s0,s1,s2])
    refine tkH (i:=26) (oi:=⟨_,.call ⟨.value (.func 76),#[.tmp 95,.tmp 97,.tmp 98,.tmp 100],#[55,43,43,43]⟩,_,_,_,_⟩) (v:=undef) rfl (Or.inr ⟨by rfl,rfl⟩) hHeld ?_
    (try simp only [Act.put,s0,s1,s2])
    refine tkH (i:=27) (oi:=⟨_,.unOp .not 4 (.tmp 101),_,_,_,_⟩) (v:=undef) rfl (Or.inr ⟨by rfl,rfl⟩) hHeld ?_
    (try simp only [Act.put,s0,s1,s2])
    refine tkH (i:=28) (oi:=⟨_,.pick (.tmp 91) (.tmp 102) (.const (.bool false)),_,_,_,_⟩) (v:=?v4010) rfl (yi ?y4010) hHeld ?_
    case y4010=>(intro w _;go_simp;(try with_reducible rfl))
    (try simp only [Act.put,s0,s1,s2])
    refine tkH (i:=29) (oi:=⟨_,.pick (.tmp 86) (.const (.bool true)) (.tmp 103),_,_,_,_⟩) (v:=?v4011) rfl (yi ?y4011) hHeld ?_
    case y4011=>(intro w _;go_simp;(try with_reducible rfl))
    (try simp only [Act.put,s0,s1,s2])
    refine tkH (i:=30) (oi:=⟨_,.move (.tmp 104),_,_,_,_⟩) (v:=?v4012) rfl (yi ?y4012) hHeld ?_
    case y4012=>(intro w _;go_simp;(try with_reducible rfl))
    (try simp only [Act.put,s0,s1,s2])
    refine tkH (i:=31) (oi:=⟨_,.fieldAddr 121 (.tmp 15) 2,_,_,_,_⟩) (v:=?v4013) rfl (yi ?y4013) hHeld ?_
    case y4013=>(intro w _;go_simp;(try with_reducible rfl))
    (try simp only [Act.put,s0,s1,s2])
    refine' tkH (i:=32) (oi:=⟨_,.load 43 (.tmp 106),_,_,_,_⟩) (v:=_) rfl (yieldsIf_load_mid (by rfl) _ _ rfl PB 64 rfl (nums .u8 zh) _ (fun _ h=>range_keep h rLock.out) un rfl hiLock.out) hHeld ?_
    (try simp only [Act.put,s0,s1,s2])
    refine tkH (i:=33) (oi:=⟨_,.build 43 #[],_,_,_,_⟩) (v:=(.agg (nums .u8 zh).toArray)) rfl (Or.inl ⟨by rfl,fun w _=>run_buildN rfl (by simpa using BH.out)⟩) hHeld ?_
    (try simp only [Act.put,s0,s1,s2])
    refine tkH (i:=34) (oi:=⟨_,.binOp .neq 43 (.tmp 107) (.tmp 108) 43,_,_,_,_⟩) (v:=(.bool false)) rfl (Or.inl ⟨by rfl,fun w _=>by go_simp⟩) hHeld ?_
    (try simp only [Act.put,s0,s1,s2])
    refine tkH (i:=35) (oi:=⟨_,.move (.tmp 109),_,_,_,_⟩) (v:=?v4014) rfl (yi ?y4014) hHeld ?_
    case y4014=>(intro w _;go_simp;(try with_reducible rfl))
    (try simp only [Act.put,s0,s1,s2])
    refine tkH (i:=36) (oi:=⟨_,.fieldAddr 69 (.tmp 10) 4,_,_,_,_⟩) (v:=undef) rfl (Or.inr ⟨by rfl,rfl⟩) hHeld ?_
    (try simp only [Act.put,s0,s1,s2])
    refine tkH (i:=37) (oi:=⟨_,.slice 43 (.tmp 111) none none none,_,_,_,_⟩) (v:=undef) rfl (Or.inr ⟨by rfl,rfl⟩) hHeld ?_
    (try simp only [Act.put,s0,s1,s2])
    refine tkH (i:=38) (oi:=⟨_,.buildSlice 173 1 #[(0,.tmp 112)],_,_,_,_⟩) (v:=undef) rfl (Or.inr ⟨by rfl,rfl⟩) hHeld ?_
    (try simp only [Act.put,s0,s1,s2])
    refine tkH (i:=39) (oi:=⟨_,.call ⟨.value (.func 66),#[.tmp 113],#[173]⟩,_,_,_,_⟩) (v:=undef) rfl (Or.inr ⟨by rfl,rfl⟩) hHeld ?_
    (try simp only [Act.put,s0,s1,s2])
    refine tkH (i:=40) (oi:=⟨_,.fieldAddr 121 (.tmp 15) 2,_,_,_,_⟩) (v:=undef) rfl (Or.inr ⟨by rfl,rfl⟩) hHeld ?_
    (try simp only [Act.put,s0,s1,s2])
    refine tkH (i:=41) (oi:=⟨_,.load 43 (.tmp 115),_,_,_,_⟩) (v:=undef) rfl (Or.inr ⟨by rfl,rfl⟩) hHeld ?_
    (try simp only [Act.put,s0,s1,s2])
    refine tkH (i:=42) (oi:=⟨_,.binOp .neq 43 (.tmp 114) (.tmp 116) 43,_,_,_,_⟩) (v:=undef) rfl (Or.inr ⟨by rfl,rfl⟩) hHeld ?_
    (try simp only [Act.put,s0,s1,s2])
    refine tkH (i:=43) (oi:=⟨_,.pick (.tmp 110) (.tmp 117) (.const (.bool false)),_,_,_,_⟩) (v:=?v4015) rfl (yi ?y4015) hHeld ?_
    case y4015=>(intro w _;go_simp;(try with_reducible rfl))
    (try simp only [Act.put,s0,s1,s2])
    refine tkH (i:=44) (oi:=⟨_,.pick (.tmp 105) (.const (.bool true)) (.tmp 118),_,_,_,_⟩) (v:=?v4016) rfl (yi ?y4016) hHeld ?_
    case y4016=>(intro w _;go_simp;(try with_reducible rfl))
    (try simp only [Act.put,s0,s1,s2])
    refine wpAnyH_done (by kernel_rfl) ?_ _
    rotate_left
    exact AllReadyH.nil
    have BE:=hid hHeld
    have B9w:=hid (show Below w.heap.size w w9 from B8.out.trans (hHeld.mono B8.out.size))
    have B49:=hid (show Below w4.heap.size w4 w9 from B48.out.trans (hHeld.mono B48.out.size))
    clear hHeld nq ng B9
    go_upto_region 22 with(fail)
    obtain⟨tl,htl⟩:∃tl,tl=p.till:=⟨_,rfl⟩
    obtain⟨wt,hwt⟩:∃wt,wt=p.wait:=⟨_,rfl⟩
    obtain⟨hh,hhh⟩:∃hh,hh=hv'.height:=⟨_,rfl⟩
    obtain⟨h1,hh1⟩:∃h1,h1=ht+1:=⟨_,rfl⟩
    obtain⟨dd,hdd⟩:∃dd,dd=h1 - hh:=⟨_,rfl⟩
    have TRY2:=hid (show tryIn HM SM M ht id x=if h1<tl∨dd<wt then 33 else 0 from by have:=TRY.out;rw [if_neg (by decide),← htl,← hwt,← hhh,← hh1,← hdd] at this;exact this)
    have HB:=hid (show 0≤hh∧hh≤ht+1 from by rw [hhh];exact⟨(HK.out _ _ HS.out).2.2.1,(HK.out _ _ HS.out).2.2.2⟩)
    have c1:=hid (H.out.below B9w.out).c1
    have c34:=hid (show w9.cell? ⟨V,34,none⟩=some (.int .i64 hh) from gen_cell (j:=34) (row_range (heap_keep HV8.out BE.out)) (by rw [RV.out,hhh];exact HeldD.c34 GO.out.1))
    have c96:=hid (show w9.cell? ⟨PB,96,none⟩=some (.int .i64 wt) from gen_cell (j:=96) (row_range (heap_keep HP8.out BE.out)) (by rw [PCE.out,hwt];exact PathD.c96 py.out))
    have c97:=hid (show w9.cell? ⟨PB,97,none⟩=some (.int .i64 tl) from gen_cell (j:=97) (row_range (heap_keep HP8.out BE.out)) (by rw [PCE.out,htl];exact PathD.c97 py.out))
    have r5:IntKind.i64.wrap (ht+1)=h1:=by have:=HHT.out;rw [IntKind.wrap_i64];omega
    have r6:IntKind.i64.wrap (h1 - hh)=dd:=by have:=HHT.out;have:=HB.out;rw [IntKind.wrap_i64];omega
    have HH1:=hid hh1
    clear htl hwt hhh hh1 hdd
    by_cases a1:h1<tl
    ·have z1:decide (h1<tl)=true:=decide_eq_true a1
     have E:=BAD 33 (by decide) (by rw [TRY2.out,if_pos (.inl a1)])
     clear a1
     refine wp_region_held_drew (S:=fun w'=>Below w9.heap.size w9 w') (by kernel_rfl) ((Below.refl _ _).drew) (fun hHeld=>?_)
     try simp only [List.size_toArray,List.length_cons,List.length_nil,Nat.reduceAdd,Array.replicate_succ,Array.replicate_zero,List.push_toArray,List.nil_append,List.cons_append]
     refine tkH (i:=0) (oi:=⟨_,.move (.tmp 0),_,_,_,_⟩) (v:=?v5001) rfl (yi ?y5001) hHeld ?_
     case y5001=>(intro w _;go_simp;(try with_reducible rfl))
     (try simp only [Act.put,s0,s1,s2])
     refine tkH (i:=1) (oi:=⟨_,.nilCheck (.tmp 120),_,_,_,_⟩) (v:=?v5002) rfl (yi ?y5002) hHeld ?_
     case y5002=>(intro w _;go_simp;(try with_reducible rfl))
     (try simp only [Act.put,s0,s1,s2])
     refine tkH (i:=2) (oi:=⟨_,.fieldAddr 137 (.tmp 121) 1,_,_,_,_⟩) (v:=?v5003) rfl (yi ?y5003) hHeld ?_
     case y5003=>(intro w _;go_simp;(try with_reducible rfl))
     (try simp only [Act.put,s0,s1,s2])
     refine tkH (i:=3) (oi:=⟨_,.load 3 (.tmp 122),_,_,_,_⟩) (v:=(.int .i64 ht)) rfl (Or.inl ⟨by rfl,fun w h=>by have c9:=cell_keep h c1.out;go_simp⟩) hHeld ?_
     (try simp only [Act.put,s0,s1,s2])
     refine tkH (i:=4) (oi:=⟨_,.binOp .add 3 (.tmp 123) (.const (.int .i64 1)) 3,_,_,_,_⟩) (v:=?v5004) rfl (yi ?y5004) hHeld ?_
     case y5004=>(intro w _;go_simp;(try with_reducible rfl))
     (try simp only [Act.put,s0,s1,s2])
     refine tkH (i:=5) (oi:=⟨_,.fieldAddr 121 (.tmp 15) 4,_,_,_,_⟩) (v:=?v5005) rfl (yi ?y5005) hHeld ?_
     case y5005=>(intro w _;go_simp;(try with_reducible rfl))
     (try simp only [Act.put,s0,s1,s2])
     refine tkH (i:=6) (oi:=⟨_,.load 3 (.tmp 125),_,_,_,_⟩) (v:=(.int .i64 tl)) rfl (Or.inl ⟨by rfl,fun w h=>by have c9:=cell_keep h c97.out;go_simp⟩) hHeld ?_
     (try simp only [Act.put,s0,s1,s2])
     refine tkH (i:=7) (oi:=⟨_,.binOp .lss 3 (.tmp 124) (.tmp 126) 3,_,_,_,_⟩) (v:=(.bool true)) rfl (Or.inl ⟨by rfl,fun w _=>by go_simp⟩) hHeld ?_
     (try simp only [Act.put,s0,s1,s2])
     refine tkH (i:=8) (oi:=⟨_,.move (.tmp 127),_,_,_,_⟩) (v:=?v5006) rfl (yi ?y5006) hHeld ?_
     case y5006=>(intro w _;go_simp;(try with_reducible rfl))
     (try simp only [Act.put,s0,s1,s2])
     refine tkH (i:=9) (oi:=⟨_,.move (.tmp 0),_,_,_,_⟩) (v:=undef) rfl (Or.inr ⟨by rfl,rfl⟩) hHeld ?_
     (try simp only [Act.put,s0,s1,s2])
     refine tkH (i:=10) (oi:=⟨_,.nilCheck (.tmp 129),_,_,_,_⟩) (v:=undef) rfl (Or.inr ⟨by rfl,rfl⟩) hHeld ?_
     (try simp only [Act.put,s0,s1,s2])
     refine tkH (i:=11) (oi:=⟨_,.fieldAddr 137 (.tmp 130) 1,_,_,_,_⟩) (v:=undef) rfl (Or.inr ⟨by rfl,rfl⟩) hHeld ?_
     (try simp only [Act.put,s0,s1,s2])
     refine tkH (i:=12) (oi:=⟨_,.load 3 (.tmp 131),_,_,_,_⟩) (v:=undef) rfl (Or.inr ⟨by rfl,rfl⟩) hHeld ?_
     (try simp only [Act.put,s0,s1,s2])
     refine tkH (i:=13) (oi:=⟨_,.binOp .add 3 (.tmp 132) (.const (.int .i64 1)) 3,_,_,_,_⟩) (v:=undef) rfl (Or.inr ⟨by rfl,rfl⟩) hHeld ?_
     (try simp only [Act.put,s0,s1,s2])
     refine tkH (i:=14) (oi:=⟨_,.fieldAddr 75 (.tmp 11) 1,_,_,_,_⟩) (v:=undef) rfl (Or.inr ⟨by rfl,rfl⟩) hHeld ?_
     (try simp only [Act.put,s0,s1,s2])
     refine tkH (i:=15) (oi:=⟨_,.load 3 (.tmp 134),_,_,_,_⟩) (v:=undef) rfl (Or.inr ⟨by rfl,rfl⟩) hHeld ?_
     (try simp only [Act.put,s0,s1,s2])
     refine tkH (i:=16) (oi:=⟨_,.binOp .sub 3 (.tmp 133) (.tmp 135) 3,_,_,_,_⟩) (v:=undef) rfl (Or.inr ⟨by rfl,rfl⟩) hHeld ?_
     (try simp only [Act.put,s0,s1,s2])
     refine tkH (i:=17) (oi:=⟨_,.fieldAddr 121 (.tmp 15) 3,_,_,_,_⟩) (v:=undef) rfl (Or.inr ⟨by rfl,rfl⟩) hHeld ?_
     (try simp only [Act.put,s0,s1,s2])
     refine tkH (i:=18) (oi:=⟨_,.load 3 (.tmp 137),_,_,_,_⟩) (v:=undef) rfl (Or.inr ⟨by rfl,rfl⟩) hHeld ?_
     (try simp only [Act.put,s0,s1,s2])
     refine tkH (i:=19) (oi:=⟨_,.binOp .lss 3 (.tmp 136) (.tmp 138) 3,_,_,_,_⟩) (v:=undef) rfl (Or.inr ⟨by rfl,rfl⟩) hHeld ?_
     (try simp only [Act.put,s0,s1,s2])
     refine tkH (i:=20) (oi:=⟨_,.pick (.tmp 128) (.const (.bool true)) (.tmp 139),_,_,_,_⟩) (v:=?v5007) rfl (yi ?y5007) hHeld ?_
     case y5007=>(intro w _;go_simp;(try with_reducible rfl))
     (try simp only [Act.put,s0,s1,s2])
     refine wpAnyH_done (by kernel_rfl) ?_ _
     rotate_left
     have BF:=hid (show Below w.heap.size w w9.drew from B9w.out.trans (hHeld.mono B9w.out.size))
     clear hHeld
     go_wp2_with (fail)
     go_ret
     exact⟨by rw [E.out];rfl,BF.out⟩
    ·have z1:decide (h1<tl)=false:=decide_eq_false a1
     have A1:=hid a1
     obtain⟨tb,htb⟩:∃tb,decide (dd<wt)=tb:=⟨_,rfl⟩
     have TB:=hid htb
     clear a1
     refine wp_region_held_drew (S:=fun w'=>Below w9.heap.size w9 w') (by kernel_rfl) ((Below.refl _ _).drew) (fun hHeld=>?_)
     try simp only [List.size_toArray,List.length_cons,List.length_nil,Nat.reduceAdd,Array.replicate_succ,Array.replicate_zero,List.push_toArray,List.nil_append,List.cons_append]
     refine tkH (i:=0) (oi:=⟨_,.move (.tmp 0),_,_,_,_⟩) (v:=?v6001) rfl (yi ?y6001) hHeld ?_
     case y6001=>(intro w _;go_simp;(try with_reducible rfl))
     (try simp only [Act.put,s0,s1,s2])
     refine tkH (i:=1) (oi:=⟨_,.nilCheck (.tmp 120),_,_,_,_⟩) (v:=?v6002) rfl (yi ?y6002) hHeld ?_
     case y6002=>(intro w _;go_simp;(try with_reducible rfl))
     (try simp only [Act.put,s0,s1,s2])
     refine tkH (i:=2) (oi:=⟨_,.fieldAddr 137 (.tmp 121) 1,_,_,_,_⟩) (v:=?v6003) rfl (yi ?y6003) hHeld ?_
     case y6003=>(intro w _;go_simp;(try with_reducible rfl))
     (try simp only [Act.put,s0,s1,s2])
     refine tkH (i:=3) (oi:=⟨_,.load 3 (.tmp 122),_,_,_,_⟩) (v:=(.int .i64 ht)) rfl (Or.inl ⟨by rfl,fun w h=>by have c9:=cell_keep h c1.out;go_simp⟩) hHeld ?_
     (try simp only [Act.put,s0,s1,s2])
     refine tkH (i:=4) (oi:=⟨_,.binOp .add 3 (.tmp 123) (.const (.int .i64 1)) 3,_,_,_,_⟩) (v:=?v6004) rfl (yi ?y6004) hHeld ?_
     case y6004=>(intro w _;go_simp;(try with_reducible rfl))
     (try simp only [Act.put,s0,s1,s2])
     refine tkH (i:=5) (oi:=⟨_,.fieldAddr 121 (.tmp 15) 4,_,_,_,_⟩) (v:=?v6005) rfl (yi ?y6005) hHeld ?_
     case y6005=>(intro w _;go_simp;(try with_reducible rfl))
     (try simp only [Act.put,s0,s1,s2])
     refine tkH (i:=6) (oi:=⟨_,.load 3 (.tmp 125),_,_,_,_⟩) (v:=(.int .i64 tl)) rfl (Or.inl ⟨by rfl,fun w h=>by have c9:=cell_keep h c97.out;go_simp⟩) hHeld ?_
     (try simp only [Act.put,s0,s1,s2])
     refine tkH (i:=7) (oi:=⟨_,.binOp .lss 3 (.tmp 124) (.tmp 126) 3,_,_,_,_⟩) (v:=(.bool false)) rfl (Or.inl ⟨by rfl,fun w _=>by go_simp⟩) hHeld ?_
     (try simp only [Act.put,s0,s1,s2])
     refine tkH (i:=8) (oi:=⟨_,.move (.tmp 127),_,_,_,_⟩) (v:=?v6006) rfl (yi ?y6006) hHeld ?_
     case y6006=>(intro w _;go_simp;(try with_reducible rfl))
     (try simp only [Act.put,s0,s1,s2])
     refine tkH (i:=9) (oi:=⟨_,.move (.tmp 0),_,_,_,_⟩) (v:=?v6007) rfl (yi ?y6007) hHeld ?_
     case y6007=>(intro w _;go_simp;(try with_reducible rfl))
     (try simp only [Act.put,s0,s1,s2])
     refine tkH (i:=10) (oi:=⟨_,.nilCheck (.tmp 129),_,_,_,_⟩) (v:=?v6008) rfl (yi ?y6008) hHeld ?_
     case y6008=>(intro w _;go_simp;(try with_reducible rfl))
     (try simp only [Act.put,s0,s1,s2])
     refine tkH (i:=11) (oi:=⟨_,.fieldAddr 137 (.tmp 130) 1,_,_,_,_⟩) (v:=?v6009) rfl (yi ?y6009) hHeld ?_
     case y6009=>(intro w _;go_simp;(try with_reducible rfl))
     (try simp only [Act.put,s0,s1,s2])
     refine tkH (i:=12) (oi:=⟨_,.load 3 (.tmp 131),_,_,_,_⟩) (v:=(.int .i64 ht)) rfl (Or.inl ⟨by rfl,fun w h=>by have c9:=cell_keep h c1.out;go_simp⟩) hHeld ?_
     (try simp only [Act.put,s0,s1,s2])
     refine tkH (i:=13) (oi:=⟨_,.binOp .add 3 (.tmp 132) (.const (.int .i64 1)) 3,_,_,_,_⟩) (v:=?v6010) rfl (yi ?y6010) hHeld ?_
     case y6010=>(intro w _;go_simp;(try with_reducible rfl))
     (try simp only [Act.put,s0,s1,s2])
     refine tkH (i:=14) (oi:=⟨_,.fieldAddr 75 (.tmp 11) 1,_,_,_,_⟩) (v:=?v6011) rfl (yi ?y6011) hHeld ?_
     case y6011=>(intro w _;go_simp;(try with_reducible rfl))
     (try simp only [Act.put,s0,s1,s2])
     refine tkH (i:=15) (oi:=⟨_,.load 3 (.tmp 134),_,_,_,_⟩) (v:=(.int .i64 hh)) rfl (Or.inl ⟨by rfl,fun w h=>by have c9:=cell_keep h c34.out;go_simp⟩) hHeld ?_
     (try simp only [Act.put,s0,s1,s2])
     refine tkH (i:=16) (oi:=⟨_,.binOp .sub 3 (.tmp 133) (.tmp 135) 3,_,_,_,_⟩) (v:=?v6012) rfl (yi ?y6012) hHeld ?_
     case y6012=>(intro w _;go_simp;(try with_reducible rfl))
     (try simp only [Act.put,s0,s1,s2])
     refine tkH (i:=17) (oi:=⟨_,.fieldAddr 121 (.tmp 15) 3,_,_,_,_⟩) (v:=?v6013) rfl (yi ?y6013) hHeld ?_
     case y6013=>(intro w _;go_simp;(try with_reducible rfl))
     (try simp only [Act.put,s0,s1,s2])
     refine tkH (i:=18) (oi:=⟨_,.load 3 (.tmp 137),_,_,_,_⟩) (v:=(.int .i64 wt)) rfl (Or.inl ⟨by rfl,fun w h=>by have c9:=cell_keep h c96.out;go_simp⟩) hHeld ?_
     (try simp only [Act.put,s0,s1,s2])
     refine tkH (i:=19) (oi:=⟨_,.binOp .lss 3 (.tmp 136) (.tmp 138) 3,_,_,_,_⟩) (v:=(.bool tb)) rfl (Or.inl ⟨by rfl,fun w _=>by go_simp⟩) hHeld ?_
     (try simp only [Act.put,s0,s1,s2])
     refine tkH (i:=20) (oi:=⟨_,.pick (.tmp 128) (.const (.bool true)) (.tmp 139),_,_,_,_⟩) (v:=?v6014) rfl (yi ?y6014) hHeld ?_
     case y6014=>(intro w _;go_simp;(try with_reducible rfl))
     (try simp only [Act.put,s0,s1,s2])
     refine wpAnyH_done (by kernel_rfl) ?_ _
     rotate_left
     have BF:=hid (show Below w.heap.size w w9.drew from B9w.out.trans (hHeld.mono B9w.out.size))
     have BF4:=hid (show Below w4.heap.size w4 w9.drew from B49.out.trans (hHeld.mono B49.out.size))
     have O9:=hid (ownKB (ownKB O8.out BE.out) hHeld)
     have cc:=cell_keep hHeld (show w9.cell? ⟨V,0,none⟩=some (.int .u64 (hv'.out.coins:Int)) from gen_cell (j:=0) (row_range (heap_keep HV8.out BE.out)) (by rw [RV.out];rfl))
     clear hHeld htb
     generalize w9.drew=wd at *
     cases tb with
     | true=>
      have E:=BAD 33 (by decide) (by rw [TRY2.out,if_pos (.inr (of_decide_eq_true TB.out))])
      clear cc
      go_wp2_with (fail)
      go_ret
      exact⟨by rw [E.out];rfl,BF.out⟩
     | false=>
      have E:=hid (show tryIn HM SM M ht id x=0 from by rw [TRY2.out,if_neg (fun h=>h.elim A1.out (of_decide_eq_false TB.out))])
      go_wp2_with (at_builtin;refine wpList_pushK rfl _ _ 98 rfl tyU64c w4.heap.size O9.out rfl rfl rfl rfl (by have:=NB.out.1;have:=NN.out.1;have:=I1.out;omega) (by decide) (BF4.out.size) ?_;intro v10 w10 own10 k10 nb10;have O10:=hid own10;have K10:=hid k10;clear own10 k10 nb10)
      go_roundw
      case rel=>
       refine⟨i1,_,rfl,by have:=I1.out;omega,rfl,?_,?_,BF4.out.trans (K10.out.below (fun g hg=>(O9.out.lt _ hg).1) BF4.out.size)⟩
       ·have e:=TLX.out
        rw [E.out,if_pos rfl] at e
        exact e
       ·have o10:=O10.out
        rw [I1.out.1,List.take_add_one,HX.out,List.map_append,← nums_append]
        have ec:coinIn HM x=hv'.out.coins:=by unfold coinIn;rw [HS.out];rfl
        rw [show((some x).toList.map (coinIn HM))=[hv'.out.coins] from by simp [ec]]
        exact o10
      case measure=>simp [intOf];have:=I1.out;omega
end Go.Proofs.YtnbmpgballopeaaGreatDoor

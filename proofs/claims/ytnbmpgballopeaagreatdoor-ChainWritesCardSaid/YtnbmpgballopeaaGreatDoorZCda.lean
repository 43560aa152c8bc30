/- The chain's Decode. -/
import Derived.Test.YtnbmpgballopeaaGreatDoorZPlo
namespace Go.Proofs.YtnbmpgballopeaaGreatDoor
open Go.RowKit
set_option maxRecDepth 100000 in
set_option maxHeartbeats 16000000 in
theorem cdec_walk(a:Option Addr)(n cap:Nat)(bs:List Nat)(hbs:∀d∈bs,d<256)(hn:n≤16777216)(w:World)(h:Sl .u8 w a n cap bs):
  Calls Tryz.prog 15 #[.slice a n cap] w (CDecR w bs):=by
 have BS:=hid hbs
 have LEN:=hid h.len
 have NLE:=hid hn
 have HZ:=hid (show zTx = #[.slice none 0 0,.slice none 0 0] from rfl)
 have BZ:=hid (show Tryz.prog.built 25 []=some zTx from by kernel_rfl)
 have hiZ:=hid (show(Tryz.prog.info? 25).map (·.size)=some zTx.size from by kernel_rfl)
 have h1Z:=hid (show(zTx.all fun x=>x.oneCell')=true from by kernel_rfl)
 have ZT:∀w:World,(zeroValue 25).run Tryz.prog w = .ok (.agg zTx) w:=zv_of (by kernel_rfl)
 have H0:=hid (heap_alloc_new w (.cells zTx 25))
 have B0:=hid ((Below.refl w.heap.size w).alloc (Nat.le_refl _) (.cells zTx 25))
 have DC:=hid (dec_walk2 a n cap bs hbs (by omega) _ (h.below B0.out))
 clear hbs hn h HZ
 go_enter Tryz.func15,Tryz.ntmps15
 go_upto_region 1 with(fail)
 generalize w.alloc (.cells zTx 25)=w0 at *
 go_wp2_with (fail)
 refine DC.out.mono ?_
 rintro e w1 ⟨v,ls,rfl,⟨la,lc,rfl,hR⟩,hls,h256,b1,_,hrb⟩
 have RC:=hid hR
 have LS:=hid hls
 have RBS:=hid hrb
 have B1:=hid (show Below w.heap.size w w1 from B0.out.trans (b1.mono B0.out.size))
 have H1:=hid (heap_keep H0.out b1)
 have N1:=hid (show w.heap.size<w1.heap.size from(Array.getElem?_eq_some_iff.1 H1.out).1)
 have W01:=hid b1
 clear DC hR hls hrb b1 h256
 obtain⟨ec,hec⟩:∃ec,ec=(decS bs).2:=⟨_,rfl⟩
 rw [← hec]
 have EC:=hid hec
 clear hec
 by_cases he:ec=0
 case neg=>
  have u1:((ec:Int) != 0)=true:=by rw [bne_iff_ne];omega
  have E:=hid (show decT bs=(([],[]),ec) by rw [EC.out];exact decT_bad (by rw [← EC.out];exact he))
  clear he
  go_wp2_with (first|with_reducible refine wpList_mk0 BZ.out ?_|with_reducible refine wpList_store_row rfl _ _ _ rfl w.heap.size zTx rfl rfl _ _ H1.out hiZ.out rfl h1Z.out ?_)
  refine bodyPost_ret (results_cell_tmp rfl _ _ w.heap.size _ zTx _ _ _ rfl rfl (setRow_heap _ _ _ _ _ _ H1.out) Tryz.underlying25 rfl hiZ.out) rfl ?_
  exact CDecR.bad E.out rfl (below_setRow B1.out (Nat.le_refl _) _)
 have u1:((ec:Int) != 0)=false:=by rw [bne_eq_false_iff_eq];omega
 have E0:=hid (show(decS bs).2=0 by rw [← EC.out];exact he)
 clear he
 go_upto_region 4 with(fail)
 by_cases hl:ls.length=2
 case neg=>
  have u2:((ls.length:Int) != 2)=true:=by rw [bne_iff_ne];omega
  have E:=hid (decT_form E0.out (by rintro⟨x,y,e,_⟩;have:=congrArg List.length LS.out;rw [e,List.length_map] at this;exact hl this))
  clear hl
  go_upto_region 5 with(fail)
  go_wp2_with (first|with_reducible refine wpList_mk0 BZ.out ?_|with_reducible refine wpList_store_row rfl _ _ _ rfl w.heap.size zTx rfl rfl _ _ H1.out hiZ.out rfl h1Z.out ?_)
  refine bodyPost_ret (results_cell_tmp rfl _ _ w.heap.size _ zTx _ _ _ rfl rfl (setRow_heap _ _ _ _ _ _ H1.out) Tryz.underlying25 rfl hiZ.out) rfl ?_
  exact CDecR.bad E.out rfl (below_setRow B1.out (Nat.le_refl _) _)
 obtain⟨x,y,rfl⟩:∃x y,ls=[x,y]:=by
  match ls,hl with
  | [x,y],_=>exact⟨x,y,rfl⟩
 obtain⟨lb,lo,rfl,x0,x1,gx⟩:=RC.out.cells (j:=0) rfl
 obtain⟨lb',lo',e',y0,y1,gy⟩:=RC.out.cells (j:=1) rfl
 simp only [Option.some.injEq,Addr.mk.injEq,and_true] at e'
 obtain⟨rfl,rfl⟩:=e'
 have LSE:=hid (show(decS bs).1=[x.pr,y.pr] from LS.out.symm)
 have GX:=hid gx
 have GY:=hid gy
 have RX:=hid (RBS.out x (by simp))
 have RY:=hid (RBS.out y (by simp))
 have u2:(([x,y].length:Int) != 2)=false:=by rw [List.length_cons,List.length_cons,List.length_nil];rfl
 have u2':((2:Int) != 2)=false:=rfl
 simp only [Nat.zero_mul,Nat.one_mul,Nat.add_zero] at x0 x1 y0 y1
 obtain⟨xt,hxt⟩:∃xt,xt=x.t:=⟨_,rfl⟩
 obtain⟨yt,hyt⟩:∃yt,yt=y.t:=⟨_,rfl⟩
 obtain⟨xn,hxn⟩:∃xn,xn=x.v.length:=⟨_,rfl⟩
 obtain⟨yn,hyn⟩:∃yn,yn=y.v.length:=⟨_,rfl⟩
 rw [← hxt] at x0
 rw [← hyt] at y0
 rw [← hxn] at x1
 rw [← hyn] at y1
 have X1:=hid x1
 have Y1:=hid y1
 have XN:=hid (And.intro hxn hyn)
 have XT:=hid (And.intro hxt hyt)
 clear gx gy hl RC RBS LS hxt hyt hxn hyn x1 y1
 by_cases hx0:xt=0
 case neg=>
  have u3:((xt:Int) != 0)=true:=by rw [bne_iff_ne];omega
  have E:=hid (decT_form E0.out (by rintro⟨p,q,e,h1,h2⟩;rw [LSE.out] at e;cases e;exact hx0 (XT.out.1.trans h1)))
  clear hx0
  go_upto_region 5 with(fail)
  go_wp2_with (first|with_reducible refine wpList_mk0 BZ.out ?_|with_reducible refine wpList_store_row rfl _ _ _ rfl w.heap.size zTx rfl rfl _ _ H1.out hiZ.out rfl h1Z.out ?_)
  refine bodyPost_ret (results_cell_tmp rfl _ _ w.heap.size _ zTx _ _ _ rfl rfl (setRow_heap _ _ _ _ _ _ H1.out) Tryz.underlying25 rfl hiZ.out) rfl ?_
  exact CDecR.bad E.out rfl (below_setRow B1.out (Nat.le_refl _) _)
 have u3:((xt:Int) != 0)=false:=by rw [bne_eq_false_iff_eq];omega
 by_cases hy0:yt=2
 case neg=>
  have u4:((yt:Int) != 2)=true:=by rw [bne_iff_ne];omega
  have E:=hid (decT_form E0.out (by rintro⟨p,q,e,h1,h2⟩;rw [LSE.out] at e;cases e;exact hy0 (XT.out.2.trans h2)))
  clear hy0 hx0
  go_upto_region 5 with(fail)
  go_wp2_with (first|with_reducible refine wpList_mk0 BZ.out ?_|with_reducible refine wpList_store_row rfl _ _ _ rfl w.heap.size zTx rfl rfl _ _ H1.out hiZ.out rfl h1Z.out ?_)
  refine bodyPost_ret (results_cell_tmp rfl _ _ w.heap.size _ zTx _ _ _ rfl rfl (setRow_heap _ _ _ _ _ _ H1.out) Tryz.underlying25 rfl hiZ.out) rfl ?_
  exact CDecR.bad E.out rfl (below_setRow B1.out (Nat.le_refl _) _)
 have u4:((yt:Int) != 2)=false:=by rw [bne_eq_false_iff_eq];omega
 have DT:=hid (decT_ab E0.out LSE.out (XT.out.1.symm.trans hx0) (XT.out.2.symm.trans hy0))
 have XLE:=hid (show x.v.length≤16777216∧y.v.length≤16777216 from⟨by have:=decS_len BS.out E0.out x.pr (by rw [LSE.out];simp);have:=LEN.out;have:=NLE.out;unfold LR.pr at *;dsimp only at *;omega,by have:=decS_len BS.out E0.out y.pr (by rw [LSE.out];simp);have:=LEN.out;have:=NLE.out;unfold LR.pr at *;dsimp only at *;omega⟩)
 clear hx0 hy0
 go_upto_region 6 with(fail)
 clear u1 u2 u2' u3 u4 x0 y0
 go_upto_region 7 with(fail)
 have b6:=(Below.refl w1.heap.size w1).alloc (Nat.le_refl _) (.cells zTx 25)
 have H6:=hid (heap_alloc_new w1 (.cells zTx 25))
 have H16:=hid (heap_keep H1.out b6)
 have x1:=cell_keep b6 X1.out
 have Y6:=hid (cell_keep b6 Y1.out)
 have GX6:=hid (GX.out.below b6)
 have GY6:=hid (GY.out.below b6)
 have B6:=hid (B1.out.trans (b6.mono B1.out.size))
 have L6:=hid (show w1.heap.size<(w1.alloc (.cells zTx 25)).heap.size from(Array.getElem?_eq_some_iff.1 H6.out).1)
 have LX:=hid (RX.out.lt)
 have LY:=hid (RY.out.lt)
 have LB:=hid (show lb<w1.heap.size from World.block_lt_of_cell? w1 _ X1.out)
 clear b6 RX RY GX GY H1 X1 Y1
 generalize w1.alloc (.cells zTx 25)=w2 at *
 go_upto_region 8 with(fail)
 have b7:=(Below.refl w2.heap.size w2).alloc (Nat.le_refl _) (.cells #[.slice x.a xn x.c,.bool false] 116)
 have H7:=hid (heap_alloc_new w2 (.cells #[.slice x.a xn x.c,.bool false] 116))
 have H67:=hid (heap_keep H6.out b7)
 have H17:=hid (heap_keep H16.out b7)
 have Y7:=hid (cell_keep b7 Y6.out)
 have GX7:=hid (GX6.out.below b7)
 have GY7:=hid (GY6.out.below b7)
 have B7:=hid (B6.out.trans (b7.mono B6.out.size))
 have L7:=hid (show w2.heap.size<(w2.alloc (.cells #[.slice x.a xn x.c,.bool false] 116)).heap.size from(Array.getElem?_eq_some_iff.1 H7.out).1)
 clear b7 x1 GX6 GY6 H6 H16 Y6
 generalize w2.alloc (.cells #[.slice x.a xn x.c,.bool false] 116)=w3 at *
 have I0:=hid (show InS w3 w3.heap.size w2.heap.size w1.heap.size x.v w3 [] x.v (.slice none 0 0) from
  ⟨H67.out,⟨by simp,.inl ⟨rfl,rfl⟩⟩,by simp,(joinI_nil (insR x.v) (insR_bad _ _)).symm,⟨GX7.out.2.2.1,by have:=XLE.out;omega,x.a,x.c,by rw [← XN.out.1];exact H7.out,GX7.out.2.1,fun ad ha=>⟨by have:=LX.out ad ha;have:=L6.out;omega,LX.out ad ha⟩⟩,Keep.refl _ _,by simp⟩)
 go_loopw [8] (fun _ wr=>∃is vr vi,InS w3 w3.heap.size w2.heap.size w1.heap.size x.v wr is vr vi) (fun _ wr=>remOf wr w2.heap.size)
 case atStart=>exact⟨_,_,_,I0.out⟩
 case round=>
  obtain⟨is,vr,vi,hI⟩:=hrel
  obtain⟨wo,rfl⟩:∃wo,wo=wr:=⟨_,rfl⟩
  have IS:=hid hI
  obtain⟨ra,rc,hg,hs,hn⟩:=hI.rdr.at'
  obtain⟨rn,hrn⟩:∃rn,rn=vr.length:=⟨_,rfl⟩
  rw [← hrn] at hg
  have c0:wo.cell? ⟨w2.heap.size,0,none⟩=some (.slice ra rn rc):=gen_cell (j:=0) (row_range hg) rfl
  have RN:=hid hrn
  clear hI hs hn hg hrn
  by_cases hv:0<rn
  case neg=>
   have u1:decide (0<(rn:Int))=false:=decide_eq_false (by omega)
   have u2:decide (0<rn)=false:=decide_eq_false (by omega)
   obtain rfl:vr=[]:=List.eq_nil_of_length_eq_zero (by have:=RN.out;omega)
   have IE:=hid (show insR x.v=(is,0) by rw [IS.out.eq,insR_nil,joinI_ok])
   have KO:=IS.out.keep
   have l67:=L6.out
   have l77:=L7.out
   have l01:=N1.out
   have HT2o:=hid (KO.heap H17.out (by omega))
   have Yo:=KO.cell Y7.out (by have:=LB.out;show ¬ (lb=_∨lb=_);omega)
   have Yo':wo.cell? ⟨lb,lo+3,none⟩=some (.slice y.a yn y.c):=Yo
   have GYo:=hid (show y.good wo from⟨GY7.out.1,Rd.kept GY7.out.2.1 KO (fun ad ha e=>by have:=LY.out ad ha;omega),GY7.out.2.2⟩)
   have BWo:=hid (show Below w.heap.size w wo from B7.out.trans (KO.below (B:=w.heap.size) (fun i e=>by omega) B7.out.size))
   have RIo:=hid IS.out.row
   have OIo:=hid IS.out.own
   have IOK:=hid IS.out.ok
   have L3o:=hid (show w3.heap.size≤wo.heap.size from KO.size)
   clear l67 l77 l01 KO hv
   go_upto_region 18 with(fail)
   go_upto_region 19 with(fail)
   have b8:=(Below.refl wo.heap.size wo).alloc (Nat.le_refl _) (.cells #[.slice y.a yn y.c,.bool false] 116)
   have H8:=hid (heap_alloc_new wo (.cells #[.slice y.a yn y.c,.bool false] 116))
   have HT8:=hid (heap_keep HT2o.out b8)
   have RI8:=hid (heap_keep RIo.out b8)
   have OI8:=hid (ownKB OIo.out b8)
   have GY8:=hid (GYo.out.below b8)
   have B8:=hid (BWo.out.trans (b8.mono BWo.out.size))
   have L8:=hid (show wo.heap.size<(wo.alloc (.cells #[.slice y.a yn y.c,.bool false] 116)).heap.size from(Array.getElem?_eq_some_iff.1 H8.out).1)
   clear b8 Yo Yo' u1 u2 c0
   generalize wo.alloc (.cells #[.slice y.a yn y.c,.bool false] 116)=w8 at *
   have O0:=hid (show OutS w8 w8.heap.size wo.heap.size w1.heap.size vi y.v w8 [] y.v (.slice none 0 0) from
    ⟨RI8.out,⟨by simp,.inl ⟨rfl,rfl⟩⟩,by simp,by simp,(joinI_nil (outsR y.v) (outsR_bad _ _)).symm,⟨GY8.out.2.2.1,by have:=XLE.out;omega,y.a,y.c,by rw [← XN.out.2];exact H8.out,GY8.out.2.1,fun ad ha=>⟨by have:=LY.out ad ha;have:=L6.out;have:=L7.out;have:=L3o.out;omega,LY.out ad ha⟩⟩,Keep.refl _ _,by simp⟩)
   go_loopw [12] (fun _ wr=>∃os vr vo,OutS w8 w8.heap.size wo.heap.size w1.heap.size vi y.v wr os vr vo) (fun _ wr=>remOf wr wo.heap.size)
   case atStart=>exact⟨_,_,_,O0.out⟩
   case round=>
    obtain⟨os,vr,vo,hO⟩:=hrel
    obtain⟨wp,rfl⟩:∃wp,wp=wr:=⟨_,rfl⟩
    have OS:=hid hO
    obtain⟨ra2,rc2,hg2,_,_⟩:=hO.rdr.at'
    obtain⟨rn2,hrn2⟩:∃rn2,rn2=vr.length:=⟨_,rfl⟩
    rw [← hrn2] at hg2
    have c0:wp.cell? ⟨wo.heap.size,0,none⟩=some (.slice ra2 rn2 rc2):=gen_cell (j:=0) (row_range hg2) rfl
    have RN2:=hid hrn2
    have LL:=hid (show w.heap.size<w1.heap.size∧w1.heap.size<w2.heap.size∧w2.heap.size<w3.heap.size∧w3.heap.size≤wo.heap.size∧wo.heap.size<w8.heap.size∧w8.heap.size≤wp.heap.size from⟨N1.out,L6.out,L7.out,L3o.out,L8.out,hO.keep.size⟩)
    have HTp:=hid (hO.keep.heap HT8.out (by have:=LL.out;omega))
    have BWp:=hid (show Below w.heap.size w wp from B8.out.trans (hO.keep.below (B:=w.heap.size) (fun i e=>by have:=LL.out;omega) B8.out.size))
    have OIp:=hid (hO.keep.own OI8.out (fun g' hg' e=>by have h1:=OIo.out.lt _ hg';have:=LL.out;omega))
    clear hO hg2 hrn2
    by_cases hv2:0<rn2
    case neg=>
     have u1:decide (0<(rn2:Int))=false:=decide_eq_false (by omega)
     have u2:decide (0<rn2)=false:=decide_eq_false (by omega)
     obtain rfl:vr=[]:=List.eq_nil_of_length_eq_zero (by have:=RN2.out;omega)
     have OE:=hid (show outsR y.v=(os.map OutD.bare,0) by rw [OS.out.eq,outsR_nil,joinI_ok])
     clear hv2
     go_upto_region 29 with(fail)
     obtain⟨ia,ic,hvi,rdi⟩:=Rd.of_owns OIp.out
     obtain⟨oa,oc,hvo,rdo⟩:=Rd.of_owns OS.out.own
     obtain⟨t,ht⟩:∃t,t=TxD.mk ia ic is oa oc os:=⟨_,rfl⟩
     have TC:=hid (show [vi,vo]=t.cells from by rw [hvi,hvo,ht];rfl)
     have TG:=hid (show t.good wp from by rw [ht];exact⟨rdi,IOK.out,rdo,OS.out.ok⟩)
     obtain⟨tc,htc⟩:∃tc,tc=[vi,vo]:=⟨_,rfl⟩
     have TL:=hid (show tc.length=2 by rw [htc];rfl)
     have hT:wp.heap[w1.heap.size]? = some (.cells tc.toArray 25 (0,0)):=by rw [htc];exact OS.out.row
     have HTC:=hid (show tc=t.cells from htc.trans TC.out)
     have rT:=row_range hT
     have HT:=hid hT
     have hiT:=hid (show(Tryz.prog.info? 25).map (·.size)=some tc.length by rw [TL.out];kernel_rfl)
     have hiTa:=hid (show(Tryz.prog.info? 25).map (·.size)=some tc.toArray.size by rw [List.size_toArray];exact hiT.out)
     have hoT:=hid (show zTx.size=tc.toArray.size by rw [show tc.toArray.size=2 by rw [List.size_toArray];exact TL.out];rfl)
     have h1T:=hid (show(tc.toArray.all fun x=>x.oneCell')=true by rw [HTC.out];exact all_oneCell_toArray (fun u hu=>by simp only [TxD.cells,List.mem_cons,List.not_mem_nil,or_false] at hu;rcases hu with rfl|rfl <;> rfl))
     have TCE:=hid htc
     have CK:=hid (show Calls Tryz.prog 9 #[.agg tc.toArray] wp _ from by rw [HTC.out];exact tcheck_walk t wp TG.out)
     have CP:=hid (show codeP (insR x.v).1 (outsR y.v).1=t.code by rw [IE.out,OE.out];show codeP is (os.map OutD.bare)=_;rw [codeP_bare,ht];rfl)
     have TI:=hid (show t.ins=is∧t.outs=os by rw [ht];exact⟨rfl,rfl⟩)
     have DT2:=hid (show decT bs=if t.code≠0 then (([],[]),t.code) else ((is,os.map OutD.bare),0) from by
      have d:=DT.out
      rw [show x.pr.2=x.v from rfl,show y.pr.2=y.v from rfl,CP.out,IE.out,OE.out] at d
      rw [d,if_neg (by simp),if_neg (by simp)])
     clear hvi hvo ht htc rdi rdo hT
     go_wp2_with (with_reducible refine wpList_load_mid rfl _ _ rfl w1.heap.size 0 rfl tc _ rT Tryz.underlying25 rfl hiT.out ?_)
     refine CK.out.mono ?_
     rintro e wc ⟨rfl,bc⟩
     obtain⟨cd,hcd⟩:∃cd,cd=t.code:=⟨_,rfl⟩
     rw [← hcd]
     rw [← hcd] at DT2
     have HTc:=hid (heap_keep HTp.out bc)
     have HT9:=hid (heap_keep HT.out bc)
     have BWc:=hid (show Below w.heap.size w wc from BWp.out.trans (bc.mono BWp.out.size))
     have OIc:=hid (ownKB OIp.out bc)
     have OOc:=hid (ownKB OS.out.own bc)
     have OOK:=hid (fun o ho=>(OS.out.ok o ho).below bc)
     clear bc rT hcd CK
     by_cases hz:cd=0
     case neg=>
      have v1:((cd:Int) != 0)=true:=by rw [bne_iff_ne];omega
      have E:=hid (show decT bs=(([],[]),cd) by rw [DT2.out,if_pos hz])
      clear hz
      go_upto_region 31 with(fail)
      go_wp2_with (first|with_reducible refine wpList_mk0 BZ.out ?_|with_reducible refine wpList_store_row rfl _ _ _ rfl w.heap.size zTx rfl rfl _ _ HTc.out hiZ.out rfl h1Z.out ?_)
      refine bodyPost_ret (results_cell_tmp rfl _ _ w.heap.size _ zTx _ _ _ rfl rfl (setRow_heap _ _ _ _ _ _ HTc.out) Tryz.underlying25 rfl hiZ.out) rfl ?_
      exact CDecR.bad E.out rfl (below_setRow BWc.out (Nat.le_refl _) _)
     have v1:((cd:Int) != 0)=false:=by rw [bne_eq_false_iff_eq];omega
     have E:=hid (show decT bs=((is,os.map OutD.bare),0) by rw [DT2.out,if_neg (by omega)])
     have rT9:=row_range HT9.out
     clear hz
     go_upto_region 32 with(fail)
     go_wp2_with (first|with_reducible refine wpList_load_mid rfl _ _ rfl w1.heap.size 0 rfl tc _ rT9 Tryz.underlying25 rfl hiT.out ?_|with_reducible refine wpList_store_row rfl _ _ _ rfl w.heap.size tc.toArray rfl rfl _ _ HTc.out hiTa.out hoT.out h1T.out ?_)
     refine bodyPost_ret (results_cell_tmp rfl _ _ w.heap.size _ tc.toArray _ _ _ rfl rfl (setRow_heap _ _ _ _ _ _ HTc.out) Tryz.underlying25 rfl hiTa.out) rfl ?_
     have KF:=Keep.far' (far_row wc w.heap.size tc.toArray)
     have ll:=LL.out
     obtain⟨ia',ic',hvi,rdi⟩:=Rd.of_owns (KF.own OIc.out (fun g' hg' e=>by have:=(OIc.out.lt _ hg').1;omega))
     obtain⟨oa',oc',hvo,rdo⟩:=Rd.of_owns (KF.own OOc.out (fun g' hg' e=>by have:=(OOc.out.lt _ hg').1;omega))
     refine⟨⟨ia',ic',is,oa',oc',os⟩,by rw [E.out,TCE.out,hvi,hvo];rfl,⟨rdi,IOK.out,rdo,fun o ho=>OutD.good.kept (OOK.out o ho) KF (fun ad ha e=>by have:=(OS.out.at' o ho ad ha).1;omega)⟩,by rw [E.out],by rw [E.out],below_setRow BWc.out (Nat.le_refl _) _⟩
    have u1:decide (0<(rn2:Int))=true:=decide_eq_true (by omega)
    have u2:decide (0<rn2)=true:=decide_eq_true (by omega)
    go_upto_region 20 with(fail)
    clear u1 u2 c0
    have VB:=hid OS.out.rdr.bd
    obtain⟨cn,hcn⟩:∃cn,cn=beVal (tkY 8 vr):=⟨_,rfl⟩
    obtain⟨an,han⟩:∃an,an=tkY 32 (tkL 8 vr):=⟨_,rfl⟩
    obtain⟨n2,hn2⟩:∃n2,n2=beVal (tkY 1 (tkL 32 (tkL 8 vr))):=⟨_,rfl⟩
    have CN:=hid hcn
    have AN:=hid han
    have N2:=hid hn2
    have ANO:=hid (show H32b an by rw [han];exact tkY_ok (tkL_lt VB.out))
    have CNL:=hid (show cn<18446744073709551616 by have:=beVal_tk (n:=8) VB.out;rw [← hcn] at this;simpa using this)
    have N2L:=hid (show n2<256 by have:=beVal_tk (n:=1) (tkL_lt (n:=32) (tkL_lt (n:=8) VB.out));rw [← hn2] at this;simpa using this)
    have NU:=hid (show Calls Tryz.prog 46 #[.pointer (some ⟨wo.heap.size,0,none⟩),.int .i64 8] wp _ from tnum_walk wo.heap.size w1.heap.size 8 vr false (by decide) (by decide) wp OS.out.rdr)
    have rA:=fun(ad:Option Addr) (c:Nat) (wx:World)=>run_arr32 wx ad c
    clear hcn han hn2
    go_wp2_with (fail)
    refine NU.out.mono ?_
    rintro e w9 ⟨rfl,r9,k9⟩
    rw [← CN.out]
    have K9:=hid k9
    have TK:=hid (show Calls Tryz.prog 45 #[.pointer (some ⟨wo.heap.size,0,none⟩),.int .i64 32] w9 _ from take_walk wo.heap.size w1.heap.size 32 _ _ (by decide) (by decide) w9 r9)
    clear k9 NU r9
    go_wp2_with (fail)
    refine TK.out.mono ?_
    rintro e w10 ⟨a10,c10,rfl,s10,_,r10,k10⟩
    rw [← AN.out] at s10
    have R10:=hid r10
    have K10:=hid k10
    have ST:=hid (show ∃b o,a10=some ⟨b,o,none⟩∧w10.rangeAt b o (nums .u8 an) from by obtain⟨b,o,h1,_⟩:=s10.opened;exact⟨b,o,h1 (by decide),by have:=h1 (by decide);subst this;exact sl_range s10 (by decide)⟩)
    obtain⟨b10,o10,rfl,sr10⟩:=ST.out
    have L10a:=hid (show wp.heap.size≤w10.heap.size from Nat.le_trans K9.out.size K10.out.size)
    have hiA:=hid (show(Tryz.prog.info? 43).map (·.size)=some (nums .u8 an).length from by rw [nums_length,ANO.out.1];kernel_rfl)
    obtain⟨oc0,hoc0⟩:∃oc0,oc0=Value.int .u64 (cn:Int)::Value.slice none 0 0::nums .u8 an:=⟨_,rfl⟩
    have BO:=hid (bOtt an cn ANO.out.1)
    rw [← hoc0] at BO
    have OC0:=hid hoc0
    have OL0:=hid (show oc0.length=34 by rw [hoc0,List.length_cons,List.length_cons,nums_length,ANO.out.1])
    have hiOa:=hid (show(Tryz.prog.info? 66).map (·.size)=some oc0.toArray.size by rw [List.size_toArray,OL0.out];kernel_rfl)
    have hoO:=hid (show 34=oc0.toArray.size by rw [List.size_toArray,OL0.out])
    have h1O:=hid (show(oc0.toArray.all fun x=>x.oneCell')=true by rw [hoc0];exact all_oneCell_toArray (fun u hu=>by rcases List.mem_cons.1 hu with rfl|hu;rfl;rcases List.mem_cons.1 hu with rfl|hu;rfl;exact nums_oneCell _ _ u hu))
    clear s10 k10 r10 TK ST hoc0
    go_upto_region 21 with(first|with_reducible refine wpList_load_mid rfl _ _ rfl b10 o10 rfl (nums .u8 an) _ sr10 Tryz.underlying43 rfl hiA.out ?_|refine wpList_build2o rfl _ _ _ rfl BO.out rfl rfl ?_|(refine wpList_store_row rfl _ _ _ rfl w10.heap.size oc0.toArray rfl rfl _ _ (heap_alloc_new _ _) hiOa.out hoO.out h1O.out ?_;refine laidW (F:=fun w11=>wpList _ _ _ _ _ w11) ?_;intro w11 h11 b11))
    have H11:=hid h11.out
    have R11:=hid (R10.out.keep b11.out)
    have K11:=hid (K9.out.trans (K10.out.trans (Keep.of b11.out)))
    have NU:=hid (show Calls Tryz.prog 46 #[.pointer (some ⟨wo.heap.size,0,none⟩),.int .i64 1] w11 _ from tnum_walk wo.heap.size w1.heap.size 1 _ _ (by decide) (by decide) w11 R11.out)
    clear sr10 h11 b11 R10 K9 K10 R11
    have r4:IntKind.i64.wrap (n2:Int)=(n2:Int):=by have:=N2L.out;rw [IntKind.wrap_i64];omega
    go_wp2_with (fail)
    refine NU.out.mono ?_
    rintro e w12 ⟨rfl,r12,k12⟩
    rw [← N2.out]
    have R12:=hid (show Rdr w12 wo.heap.size w1.heap.size (outHL vr) (outHS vr false) from r12)
    have K12:=hid (K11.out.trans k12)
    have L10:=hid (show wp.heap.size≤w10.heap.size∧w8.heap.size≤w10.heap.size∧w10.heap.size<w12.heap.size from⟨L10a.out,by have:=L10a.out;have:=LL.out;omega,by have:=(Array.getElem?_eq_some_iff.1 H11.out).1;have:=k12.size;omega⟩)
    have H12:=hid (k12.heap H11.out (by have:=L10.out;have:=LL.out;omega))
    clear NU r12 k12 K11 H11
    go_upto_region 23 with(fail)
    clear r4 rA
    have VNE:=hid (show vr≠[] from by rintro rfl;have:=RN2.out;simp at this;omega)
    have P0:=hid (show PthS w12 wo.heap.size w1.heap.size w10.heap.size cn an vr n2 0 w12 (outHL vr) (outHS vr false) from by
     refine⟨R12.out,Keep.refl _ _,fun e=>?_,fun e=>?_⟩
     ·refine outsR_short VNE.out (.inl ?_)
      refine Classical.byContradiction fun hh=>?_
      rw [(out_long (sh:=false) (by omega)).1] at e;cases e
     ·have h41:41≤vr.length:=Classical.byContradiction fun hh=>by rw [outHS_short hh] at e;cases e
      obtain⟨_,e2,e3,e4,e5⟩:=out_long (sh:=false) h41
      refine⟨Nat.zero_le _,by rw [e2];simp,by omega,by rw [N2.out,e5],by rw [CN.out,e3],by rw [AN.out,e4],_,by have:=H12.out;rw [OC0.out] at this;exact this,⟨by simp [pathsD],.inl ⟨rfl,rfl⟩⟩,by simp [pathsD]⟩)
    go_loopw [14] (fun x14 wr=>∃(j:Nat) (vq:List Nat) (sh:Bool),x14 = .int .i64 (j:Int)∧PthS w12 wo.heap.size w1.heap.size w10.heap.size cn an vr n2 j wr vq sh) (fun x14 _=>n2 - (intOf x14).toNat)
    case atStart=>exact⟨0,_,_,rfl,P0.out⟩
    case round=>
     obtain⟨j,vq,sh,rfl,hP⟩:=hrel
     obtain⟨wq,rfl⟩:∃wq,wq=wr:=⟨_,rfl⟩
     have PS:=hid hP
     obtain⟨ra3,rc3,hg3,_,_⟩:=hP.rdr.at'
     have c1:wq.cell? ⟨wo.heap.size,1,none⟩=some (.bool sh):=gen_cell (j:=1) (row_range hg3) rfl
     have QL:=hid (show w12.heap.size≤wq.heap.size from hP.keep.size)
     have HTq:=hid (hP.keep.heap (K12.out.heap HTp.out (by have:=LL.out;omega)) (by have:=LL.out;have:=L10.out;omega))
     have BWq:=hid (show Below w.heap.size w wq from BWp.out.trans ((K12.out.below (B:=w.heap.size) (fun i e=>by have:=LL.out;omega) BWp.out.size).trans (hP.keep.below (B:=w.heap.size) (fun i e=>by have:=LL.out;have:=L10.out;omega) (by have:=BWp.out.size;have:=K12.out.size;omega))))
     clear hP hg3
     cases sh with
     | true=>
      have E:=hid (show decT bs=(([],[]),20) from by
       have e0:(outsR y.v).2=20:=by rw [OS.out.eq];exact joinI_bad (by rw [PS.out.bad rfl]) (by decide)
       rw [DT.out,show x.pr.2=x.v from rfl,show y.pr.2=y.v from rfl,IE.out,if_neg (by simp),e0,if_pos (by decide)])
      rcases Nat.lt_or_ge j n2 with hj|hj
      ·have u1:decide (j<n2)=true:=decide_eq_true hj
       have u2:decide ((j:Int)<(n2:Int))=true:=decide_eq_true (by omega)
       clear hj
       go_upto_region 27 with(fail)
       go_wp2_with (first|with_reducible refine wpList_mk0 BZ.out ?_|with_reducible refine wpList_store_row rfl _ _ _ rfl w.heap.size zTx rfl rfl _ _ HTq.out hiZ.out rfl h1Z.out ?_)
       refine bodyPost_ret (results_cell_tmp rfl _ _ w.heap.size _ zTx _ _ _ rfl rfl (setRow_heap _ _ _ _ _ _ HTq.out) Tryz.underlying25 rfl hiZ.out) rfl ?_
       exact CDecR.bad E.out rfl (below_setRow BWq.out (Nat.le_refl _) _)
      ·have u1:decide (j<n2)=false:=decide_eq_false (by omega)
       have u2:decide ((j:Int)<(n2:Int))=false:=decide_eq_false (by omega)
       clear hj
       go_upto_region 27 with(fail)
       go_wp2_with (first|with_reducible refine wpList_mk0 BZ.out ?_|with_reducible refine wpList_store_row rfl _ _ _ rfl w.heap.size zTx rfl rfl _ _ HTq.out hiZ.out rfl h1Z.out ?_)
       refine bodyPost_ret (results_cell_tmp rfl _ _ w.heap.size _ zTx _ _ _ rfl rfl (setRow_heap _ _ _ _ _ _ HTq.out) Tryz.underlying25 rfl hiZ.out) rfl ?_
       exact CDecR.bad E.out rfl (below_setRow BWq.out (Nat.le_refl _) _)
     | false=>
      obtain⟨g0,g1,g2,g3,g4,g5,vp,g6,g7,g8⟩:=PS.out.good rfl
      obtain⟨pa,pc,rfl,_⟩:=Rd.of_owns g7
      have GE:=hid (And.intro g0 (And.intro g1 (And.intro g2 (And.intro g3 (And.intro g4 g5)))))
      have HOX:=hid g6
      have OVP:=hid g7
      have POK:=hid g8
      have OVL:=hid (show ∀i,(Value.slice pa j pc).ownBlock=some i→w12.heap.size≤i∧i<wq.heap.size from fun i e=>g7.lt _ e)
      have NOG:=hid (show ¬ w10.heap.size=wo.heap.size from by have:=LL.out;have:=L10.out;omega)
      have JL:=hid g0
      clear g0 g1 g2 g3 g4 g5 g6 g7 g8
      by_cases hj:j<n2
      case neg=>
       have u1:decide (j<n2)=false:=decide_eq_false hj
       have u2:decide ((j:Int)<(n2:Int))=false:=decide_eq_false (by omega)
       obtain rfl:j=n2:=by have:=JL.out;omega
       clear hj
       go_upto_region 28 with(fail)
       clear u1 u2 c1
       have ll:=LL.out
       have l10:=L10.out
       have ql:=QL.out
       have KPQ:=hid (show Keep (fun i=>i=wo.heap.size) wp wq from K12.out.then PS.out.keep (fun i hi e=>by rcases e with e|e;exact e;omega))
       obtain⟨psn,hpsn⟩:∃psn,psn=pathsD j (vr.drop 41):=⟨_,rfl⟩
       have PSL:=hid (show psn.length=j by rw [hpsn];exact pathsD_len _ _)
       obtain⟨o,ho⟩:∃o,o=OutD.mk cn pa pc psn an:=⟨_,rfl⟩
       have HOE:=hid ho
       have OC:=hid (show Value.int .u64 (cn:Int)::Value.slice pa j pc::nums .u8 an=o.cells by rw [ho];unfold OutD.cells;simp only [PSL.out])
       obtain⟨oc,hoc⟩:∃oc,oc=o.cells:=⟨_,rfl⟩
       have OLn:=hid (show oc.length=34 by rw [hoc,← OC.out,List.length_cons,List.length_cons,nums_length,ANO.out.1])
       have hO:=HOX.out
       rw [OC.out,← hoc] at hO
       have RT:=hid (KPQ.out.heap OS.out.row (by omega))
       have OVq:=hid (KPQ.out.own OS.out.own (fun g' hg' e=>by have:=(OS.out.own.lt _ hg').1;omega))
       have OVo:=hid (show ∀i,vo.ownBlock=some i→w8.heap.size≤i∧i<wp.heap.size from fun i e=>OS.out.own.lt _ e)
       have c0:wq.cell? ⟨w1.heap.size,1,none⟩=some vo:=gen_cell (j:=1) (row_range RT.out) rfl
       have rO:=row_range hO
       have hiOl:=hid (show(Tryz.prog.info? 66).map (·.size)=some oc.length from by rw [OLn.out];kernel_rfl)
       have hPi:=hid (show(Tryz.prog.info? 66).map (·.size)=some 34 by kernel_rfl)
       have hPz:=hid (show((Tryz.prog.info? 66).bind (·.zero)).isSome=true by kernel_rfl)
       have PL:=hid (show oc.toArray.size=34 by rw [List.size_toArray,OLn.out])
       have ONE:=hid (show oc.toArray.toList.all Value.oneCell'=true from by rw [hoc];exact List.all_eq_true.2 (OutD.one _))
       have OSL:=hid (show os.length<4294967296 from by have:=OS.out.cnt;have:=XLE.out;omega)
       have OCE:=hid hoc
       have HPS:=hid hpsn
       have L8q:=hid (show w8.heap.size≤wq.heap.size by omega)
       clear ho hoc hpsn ll l10 ql hO
       go_wp2_with (first|with_reducible refine wpList_load_mid rfl _ _ rfl w10.heap.size 0 rfl oc _ rO Tryz.underlying66 rfl hiOl.out ?_|with_reducible refine wpList_lit1 rfl _ _ _ rfl rfl Tryz.underlying23 hPi.out hPz.out PL.out (by decide) (by decide) ?_|(at_builtin;refine wpList_pushK rfl _ _ 23 rfl tyOut w8.heap.size OVq.out rfl rfl PL.out ONE.out OSL.out (by decide) L8q.out ?_;intro v7 w7 own7 k7 nb7;obtain⟨a7,q7,rfl,_⟩:=Rd.of_owns own7;have O7:=hid own7;have K7:=hid k7;have NB7:=hid nb7;have T7:=hid (k7.heap RT.out (fun e=>by have:=OVo.out _ e;have:=LL.out;omega));have c7:=gen_cell (j:=1) (row_range T7.out) rfl;have z7:w7.frozen? ⟨w1.heap.size,1,none⟩=false:=frozen_of_row _ _ _ _ _ T7.out;clear own7 k7 nb7))
       go_roundw
       case rel=>
        have FT:Far w1.heap.size w7 (w7.setCell ⟨w1.heap.size,1,none⟩ (.slice a7 (os.length+1) q7)):=Far.set _
        have ll:=LL.out
        have l10:=L10.out
        have ql:=QL.out
        obtain⟨q0,q1,q2,q3,q4,q5⟩:=GE.out
        have own7:=(Keep.far' FT).own O7.out (fun g' hg' e=>by have:=(O7.out.lt _ hg').1;omega)
        have rdr7:=(PS.out.rdr.kept K7.out (fun e=>by have:=OVo.out _ e;omega) (fun i hi e=>by have:=OVo.out _ e;omega)).kept (Keep.far' FT) (fun e=>by omega) (fun i hi e=>by omega)
        have pog:o.good wq:=by
         obtain⟨pa',pc',e',rd⟩:=Rd.of_owns OVP.out
         simp only [Value.slice.injEq] at e'
         obtain⟨rfl,_,rfl⟩:=e'
         rw [HOE.out]
         refine⟨CNL.out,ANO.out,?_,?_⟩
         ·show Rd wq 98 pa psn.length pc (psn.flatMap PathD.cells)
          rw [PSL.out,HPS.out];exact rd
         ·show ∀p∈psn,p.ok
          rw [HPS.out];exact POK.out
        have vz:vq=vr.drop (41+104*j):=by rw [q1,List.drop_drop]
        have hsz:=K7.out.size
        have hsz2:=FT.size
        refine⟨os++[o],vq,.slice a7 (os.length+1) q7,heap_set (i:=1) _ T7.out,?_,?_,?_,?_,rdr7,?_,?_⟩
        ·have e:(os++[o]).flatMap OutD.cells=os.flatMap OutD.cells++oc.toArray.toList:=by rw [OCE.out];simp
         rw [e,List.length_append]
         exact own7
        ·intro x hx
         rcases List.mem_append.1 hx with hx|hx
         ·have at1:=OS.out.at' x hx
          have g1:=OutD.good.kept (OS.out.ok x hx) KPQ.out (fun ad ha e=>by have:=at1 ad ha;omega)
          have g2:=OutD.good.kept g1 K7.out (fun ad ha e=>(at1 ad ha).2.2 e)
          exact OutD.good.kept g2 (Keep.far' FT) (fun ad ha e=>by have:=at1 ad ha;omega)
         ·rw [List.mem_singleton.1 hx]
          have at2:∀ad,o.pa=some ad→w12.heap.size≤ad.block∧ad.block<wq.heap.size:=fun ad ha=>OVL.out _ (by rw [HOE.out] at ha;have ha':pa=some ad:=ha;rw [ha'];rfl)
          have g2:=OutD.good.kept pog K7.out (fun ad ha e=>by have:=OVo.out _ e;have:=at2 ad ha;omega)
          exact OutD.good.kept g2 (Keep.far' FT) (fun ad ha e=>by have:=at2 ad ha;omega)
        ·intro x hx ad ha
         rcases List.mem_append.1 hx with hx|hx
         ·have at1:=OS.out.at' x hx ad ha
          refine⟨at1.1,by omega,fun e=>?_⟩
          rcases NB7.out with h|h
          ·exact at1.2.2 (h ▸ e)
          ·rw [h] at e;have:=Option.some.inj e;omega
         ·rw [List.mem_singleton.1 hx,HOE.out] at ha
          have ha':pa=some ad:=ha
          have at2:=OVL.out ad.block (by rw [ha'];rfl)
          refine⟨by omega,by omega,fun e=>?_⟩
          rcases NB7.out with h|h
          ·rw [h] at e;have:=OVo.out _ e;omega
          ·rw [h] at e;have:=Option.some.inj e;omega
        ·have er:rdOut vr=o.bare:=by rw [HOE.out];unfold rdOut OutD.bare;simp only [HPS.out];rw [← q3,← q4,← q5]
         rw [OS.out.eq,outsR_step (by rw [← q3];omega),joinI_join,er,← q3,← vz,List.map_append]
         rfl
        ·exact((OS.out.keep.then KPQ.out (fun i hi e=>.inl e)).then K7.out (fun i hi e=>by have:=OVo.out _ e;omega)).then (Keep.far' FT) (fun i hi e=>.inr e)
        ·have:=OS.out.cnt
         have h1:([o]:List OutD).length=1:=rfl
         rw [List.length_append,vz,List.length_drop]
         omega
       case measure=>
        have FT:Far w1.heap.size w7 (w7.setCell ⟨w1.heap.size,1,none⟩ (.slice a7 (os.length+1) q7)):=Far.set _
        have ll:=LL.out
        have l10:=L10.out
        have ql:=QL.out
        obtain⟨q0,q1,q2,q3,q4,q5⟩:=GE.out
        have rdr7:=(PS.out.rdr.kept K7.out (fun e=>by have:=OVo.out _ e;omega) (fun i hi e=>by have:=OVo.out _ e;omega)).kept (Keep.far' FT) (fun e=>by omega) (fun i hi e=>by omega)
        have e1:=rdr7.rem
        have e2:=OS.out.rdr.rem
        have vz:vq=vr.drop (41+104*j):=by rw [q1,List.drop_drop]
        rw [e1,e2,vz,List.length_drop]
        omega
      have u1:decide (j<n2)=true:=decide_eq_true hj
      have u2:decide ((j:Int)<(n2:Int))=true:=decide_eq_true (by omega)
      have HJ:=hid hj
      clear hj
      go_upto_region 25 with(fail)
      clear u1 u2 c1
      have VQB:=hid PS.out.rdr.bd
      obtain⟨s4,hs4⟩:∃s,s=beVal (tkY 4 (tkL 32 (tkL 32 (tkL 32 vq)))):=⟨_,rfl⟩
      obtain⟨s5,hs5⟩:∃s,s=beVal (tkY 4 (tkL 4 (tkL 32 (tkL 32 (tkL 32 vq))))):=⟨_,rfl⟩
      obtain⟨y1,hy1⟩:∃y,y=tkY 32 vq:=⟨_,rfl⟩
      obtain⟨y2,hy2⟩:∃y,y=tkY 32 (tkL 32 vq):=⟨_,rfl⟩
      obtain⟨y3,hy3⟩:∃y,y=tkY 32 (tkL 32 (tkL 32 vq)):=⟨_,rfl⟩
      obtain⟨xs,hxs⟩:∃xs,xs=(pthY vq).cells:=⟨_,rfl⟩
      have S4:=hid hs4
      have S5:=hid hs5
      have Y1:=hid hy1
      have Y2:=hid hy2
      have Y3:=hid hy3
      have YL:=hid (show y1.length=32∧y2.length=32∧y3.length=32 from⟨by rw [hy1,tkY_len],by rw [hy2,tkY_len],by rw [hy3,tkY_len]⟩)
      have hiY1:=hid (show(Tryz.prog.info? 43).map (·.size)=some (nums .u8 y1).length from by rw [nums_length,YL.out.1];kernel_rfl)
      have hiY2:=hid (show(Tryz.prog.info? 43).map (·.size)=some (nums .u8 y2).length from by rw [nums_length,YL.out.2.1];kernel_rfl)
      have hiY3:=hid (show(Tryz.prog.info? 43).map (·.size)=some (nums .u8 y3).length from by rw [nums_length,YL.out.2.2];kernel_rfl)
      have BX:=hid (show Tryz.prog.built 121 [(0,.agg (nums .u8 y1).toArray),(1,.agg (nums .u8 y2).toArray),(2,.agg (nums .u8 y3).toArray),(3,.int .i64 (s4:Int)),(4,.int .i64 (s5:Int))]=some xs.toArray from by
       rw [bPth y1 y2 y3 s4 s5 YL.out.1 YL.out.2.1 YL.out.2.2,hxs,hs4,hs5,hy1,hy2,hy3];rfl)
      have XOK:=hid (pthY_ok VQB.out)
      have XSE:=hid hxs
      have XSL:=hid (show xs.length=98 by rw [hxs];exact PathD.len XOK.out)
      have XS1:=hid (show ∀u∈xs,u.oneCell'=true by rw [hxs];exact PathD.one _)
      have PL:=hid (show xs.toArray.size=98 by rw [List.size_toArray,XSL.out])
      have hPi:=hid (show(Tryz.prog.info? 121).map (·.size)=some 98 by kernel_rfl)
      have hPz:=hid (show((Tryz.prog.info? 121).bind (·.zero)).isSome=true by kernel_rfl)
      have r3:IntKind.i64.wrap (s4:Int)=(s4:Int):=by have:=beVal_tk (n:=4) (tkL_lt (n:=32) (tkL_lt (n:=32) (tkL_lt (n:=32) VQB.out)));rw [← hs4] at this;rw [IntKind.wrap_i64];omega
      have r5:IntKind.i64.wrap (s5:Int)=(s5:Int):=by have:=beVal_tk (n:=4) (tkL_lt (n:=4) (tkL_lt (n:=32) (tkL_lt (n:=32) (tkL_lt (n:=32) VQB.out))));rw [← hs5] at this;rw [IntKind.wrap_i64];omega
      have CO1:=hid (show wq.cell? ⟨w10.heap.size,1,none⟩=some (.slice pa j pc) from gen_cell (j:=1) (row_range HOX.out) rfl)
      have NO1:=hid (show ¬ (w10.heap.size=wo.heap.size∨(Value.slice pa j pc).ownBlock=some w10.heap.size) from by rintro(e|e);exact NOG.out e;(have n8:=OVL.out _ e;have l9:=L10.out;omega))
      have rA:=fun(ad:Option Addr) (c:Nat) (wx:World)=>run_arr32 wx ad c
      have RC:=hid (PS.out.rdr.keep (Below.refl _ _).drew)
      have OVP:=hid (ownKB OVP.out (Below.refl _ _).drew)
      have HOX:=hid (heap_keep HOX.out (Below.refl _ _).drew)
      obtain⟨j1,hj1⟩:∃j1,j1=j+1:=⟨_,rfl⟩
      have r4:IntKind.i64.wrap ((j:Int)+1)=(j1:Int):=by have:=N2L.out;have:=JL.out;rw [IntKind.wrap_i64];omega
      have J1:=hid hj1
      clear hs4 hs5 hy1 hy2 hy3 hxs hj1
      refine wp_region_X (l:=24) (S:=fun b w'=>Keep (fun i=>i=wo.heap.size∨i=w10.heap.size∨(Value.slice pa j pc).ownBlock=some i) wq w'∧(b=false→Keep (fun i=>i=wo.heap.size∨(Value.slice pa j pc).ownBlock=some i) wq w')) (by kernel_rfl) (⟨Keep.of (Below.refl _ _).drew,fun _=>Keep.of (Below.refl _ _).drew⟩) (fun hHeld=>?_)
      try simp only [List.size_toArray,List.length_cons,List.length_nil,Nat.reduceAdd,Array.replicate_succ,Array.replicate_zero,List.push_toArray,List.nil_append,List.cons_append]
      refine tkE (i:=0) (oi:=⟨_,.fieldAddr 66 (.tmp 12) 1,_,_,_,_⟩) (v:=?v1001) rfl (yi ?y1001) hHeld ?_
      case y1001=>(intro w _;go_simp;(try with_reducible rfl))
      (try simp only [Act.put,s0,s1,s2])
      refine tkE (i:=1) (oi:=⟨_,.load 64 (.tmp 132),_,_,_,_⟩) (v:=(.slice pa j pc)) rfl (Or.inl ⟨by rfl,fun w h=>by have c9:=Keep.cell (h.2 rfl) CO1.out NO1.out;go_simp⟩) hHeld ?_
      (try simp only [Act.put,s0,s1,s2])
      refine tkE (i:=2) (oi:=⟨_,.move (.tmp 11),_,_,_,_⟩) (v:=?v1002) rfl (yi ?y1002) hHeld ?_
      case y1002=>(intro w _;go_simp;(try with_reducible rfl))
      (try simp only [Act.put,s0,s1,s2])
      refine tkE (i:=6) (oi:=⟨_,.move (.tmp 11),_,_,_,_⟩) (v:=?v1003) rfl (yi ?y1003) hHeld ?_
      case y1003=>(intro w _;go_simp;(try with_reducible rfl))
      (try simp only [Act.put,s0,s1,s2])
      refine tkE (i:=10) (oi:=⟨_,.move (.tmp 11),_,_,_,_⟩) (v:=?v1004) rfl (yi ?y1004) hHeld ?_
      case y1004=>(intro w _;go_simp;(try with_reducible rfl))
      (try simp only [Act.put,s0,s1,s2])
      refine tkE (i:=14) (oi:=⟨_,.move (.tmp 11),_,_,_,_⟩) (v:=?v1005) rfl (yi ?y1005) hHeld ?_
      case y1005=>(intro w _;go_simp;(try with_reducible rfl))
      (try simp only [Act.put,s0,s1,s2])
      refine tkE (i:=17) (oi:=⟨_,.move (.tmp 11),_,_,_,_⟩) (v:=?v1006) rfl (yi ?y1006) hHeld ?_
      case y1006=>(intro w _;go_simp;(try with_reducible rfl))
      (try simp only [Act.put,s0,s1,s2])
      refine wpAnyX_ready (rs:=[3]) (by kernel_rfl) (by simp) ?_
      refine AllReadyX.cons (o:=⟨_,.call ⟨.value (.func 45),#[.tmp 134,.const (.int .i64 32)],#[114,3]⟩,_,_,_,_⟩) rfl (b:=false) (by kernel_rfl) (fun K hK=>?_) ?_
      go_simp;refine(take_walk wo.heap.size w1.heap.size 32 _ _ (by decide) (by decide) _ RC.out).mono ?_;rintro e wt3 ⟨at3,ct3,rfl,st3,nt3,rt3,kt3⟩;have RC:=hid rt3;have KT:=hid kt3;rw [← Y1.out] at st3;have ST3:=hid (show ∃b o,at3=some ⟨b,o,none⟩∧wt3.rangeAt b o (nums .u8 y1) from by obtain⟨b,o,h1,_⟩:=st3.opened;exact⟨b,o,h1 (by decide),by have:=h1 (by decide);subst this;exact sl_range st3 (by decide)⟩);obtain⟨bt3,ot3,rfl,sr3⟩:=ST3.out;have SR3:=hid sr3;have NT3:=hid (show ¬ (bt3=wo.heap.size∨(Value.slice pa j pc).ownBlock=some bt3) from by(have n9:=nt3 _ rfl);(have h9:=hHeld.1.size);rintro(e|e);exact n9.1 e;(have n8:=OVL.out _ e);(have l8:=LL.out);(have l9:=L10.out);dsimp only at n9;omega);have OVP:=hid (KT.out.own OVP.out (fun g' hg' e=>by have n8:=OVL.out _ hg';have l8:=LL.out;have l9:=L10.out;omega));have HOX:=hid (KT.out.heap HOX.out NOG.out);clear st3 nt3 rt3 kt3 sr3 ST3
      refine hK.out _ _ (⟨hHeld.1.trans (KT.out.mono (fun i h=>Or.inl h)),fun e=>(hHeld.2 e).trans (KT.out.mono (fun i h=>Or.inl h))⟩) (fun hHeld=>?_)
      clear hK K
      (try simp only [s0,s1,s2])
      refine wpAnyX_strong (T:=fun b w'=>Keep (fun i=>i=wo.heap.size∨i=w10.heap.size∨(Value.slice pa j pc).ownBlock=some i) wq w'∧(b=false→Keep (fun i=>i=wo.heap.size∨(Value.slice pa j pc).ownBlock=some i) wt3 w')) (fun b w' h=>⟨h.1,fun e=>(hHeld.2 rfl).trans (h.2 e)⟩) _ _ _ _ ?_
      replace hHeld:Keep (fun i=>i=wo.heap.size∨i=w10.heap.size∨(Value.slice pa j pc).ownBlock=some i) wq wt3∧(false=false→Keep (fun i=>i=wo.heap.size∨(Value.slice pa j pc).ownBlock=some i) wt3 wt3):=⟨hHeld.1,fun _=>Keep.refl _ _⟩
      refine tkE (i:=4) (oi:=⟨_,.sliceToArrayPointer 43 (.tmp 135),_,_,_,_⟩) (v:=?v1007) rfl (yi ?y1007) hHeld ?_
      case y1007=>(intro w _;go_simp;(try with_reducible rfl))
      (try simp only [Act.put,s0,s1,s2])
      refine' tkE (i:=5) (oi:=⟨_,.load 43 (.tmp 136),_,_,_,_⟩) (v:=_) rfl (yieldsIf_load_mid (by rfl) _ _ rfl bt3 ot3 rfl (nums .u8 y1) _ (fun _ h=>Keep.range (h.2 rfl) SR3.out NT3.out) Tryz.underlying43 rfl hiY1.out) hHeld ?_
      (try simp only [Act.put,s0,s1,s2])
      refine wpAnyX_ready (rs:=[7]) (by kernel_rfl) (by simp) ?_
      refine AllReadyX.cons (o:=⟨_,.call ⟨.value (.func 45),#[.tmp 138,.const (.int .i64 32)],#[114,3]⟩,_,_,_,_⟩) rfl (b:=false) (by kernel_rfl) (fun K hK=>?_) ?_
      go_simp;refine(take_walk wo.heap.size w1.heap.size 32 _ _ (by decide) (by decide) _ RC.out).mono ?_;rintro e wt7 ⟨at7,ct7,rfl,st7,nt7,rt7,kt7⟩;have RC:=hid rt7;have KT:=hid kt7;rw [← Y2.out] at st7;have ST7:=hid (show ∃b o,at7=some ⟨b,o,none⟩∧wt7.rangeAt b o (nums .u8 y2) from by obtain⟨b,o,h1,_⟩:=st7.opened;exact⟨b,o,h1 (by decide),by have:=h1 (by decide);subst this;exact sl_range st7 (by decide)⟩);obtain⟨bt7,ot7,rfl,sr7⟩:=ST7.out;have SR7:=hid sr7;have NT7:=hid (show ¬ (bt7=wo.heap.size∨(Value.slice pa j pc).ownBlock=some bt7) from by(have n9:=nt7 _ rfl);(have h9:=hHeld.1.size);rintro(e|e);exact n9.1 e;(have n8:=OVL.out _ e);(have l8:=LL.out);(have l9:=L10.out);dsimp only at n9;omega);have OVP:=hid (KT.out.own OVP.out (fun g' hg' e=>by have n8:=OVL.out _ hg';have l8:=LL.out;have l9:=L10.out;omega));have HOX:=hid (KT.out.heap HOX.out NOG.out);clear st7 nt7 rt7 kt7 sr7 ST7
      refine hK.out _ _ (⟨hHeld.1.trans (KT.out.mono (fun i h=>Or.inl h)),fun e=>(hHeld.2 e).trans (KT.out.mono (fun i h=>Or.inl h))⟩) (fun hHeld=>?_)
      clear hK K
      (try simp only [s0,s1,s2])
      refine wpAnyX_strong (T:=fun b w'=>Keep (fun i=>i=wo.heap.size∨i=w10.heap.size∨(Value.slice pa j pc).ownBlock=some i) wq w'∧(b=false→Keep (fun i=>i=wo.heap.size∨(Value.slice pa j pc).ownBlock=some i) wt7 w')) (fun b w' h=>⟨h.1,fun e=>(hHeld.2 rfl).trans (h.2 e)⟩) _ _ _ _ ?_
      replace hHeld:Keep (fun i=>i=wo.heap.size∨i=w10.heap.size∨(Value.slice pa j pc).ownBlock=some i) wq wt7∧(false=false→Keep (fun i=>i=wo.heap.size∨(Value.slice pa j pc).ownBlock=some i) wt7 wt7):=⟨hHeld.1,fun _=>Keep.refl _ _⟩
      refine tkE (i:=8) (oi:=⟨_,.sliceToArrayPointer 43 (.tmp 139),_,_,_,_⟩) (v:=?v1008) rfl (yi ?y1008) hHeld ?_
      case y1008=>(intro w _;go_simp;(try with_reducible rfl))
      (try simp only [Act.put,s0,s1,s2])
      refine' tkE (i:=9) (oi:=⟨_,.load 43 (.tmp 140),_,_,_,_⟩) (v:=_) rfl (yieldsIf_load_mid (by rfl) _ _ rfl bt7 ot7 rfl (nums .u8 y2) _ (fun _ h=>Keep.range (h.2 rfl) SR7.out NT7.out) Tryz.underlying43 rfl hiY2.out) hHeld ?_
      (try simp only [Act.put,s0,s1,s2])
      refine wpAnyX_ready (rs:=[11]) (by kernel_rfl) (by simp) ?_
      refine AllReadyX.cons (o:=⟨_,.call ⟨.value (.func 45),#[.tmp 142,.const (.int .i64 32)],#[114,3]⟩,_,_,_,_⟩) rfl (b:=false) (by kernel_rfl) (fun K hK=>?_) ?_
      go_simp;refine(take_walk wo.heap.size w1.heap.size 32 _ _ (by decide) (by decide) _ RC.out).mono ?_;rintro e wt11 ⟨at11,ct11,rfl,st11,nt11,rt11,kt11⟩;have RC:=hid rt11;have KT:=hid kt11;rw [← Y3.out] at st11;have ST11:=hid (show ∃b o,at11=some ⟨b,o,none⟩∧wt11.rangeAt b o (nums .u8 y3) from by obtain⟨b,o,h1,_⟩:=st11.opened;exact⟨b,o,h1 (by decide),by have:=h1 (by decide);subst this;exact sl_range st11 (by decide)⟩);obtain⟨bt11,ot11,rfl,sr11⟩:=ST11.out;have SR11:=hid sr11;have NT11:=hid (show ¬ (bt11=wo.heap.size∨(Value.slice pa j pc).ownBlock=some bt11) from by(have n9:=nt11 _ rfl);(have h9:=hHeld.1.size);rintro(e|e);exact n9.1 e;(have n8:=OVL.out _ e);(have l8:=LL.out);(have l9:=L10.out);dsimp only at n9;omega);have OVP:=hid (KT.out.own OVP.out (fun g' hg' e=>by have n8:=OVL.out _ hg';have l8:=LL.out;have l9:=L10.out;omega));have HOX:=hid (KT.out.heap HOX.out NOG.out);clear st11 nt11 rt11 kt11 sr11 ST11
      refine hK.out _ _ (⟨hHeld.1.trans (KT.out.mono (fun i h=>Or.inl h)),fun e=>(hHeld.2 e).trans (KT.out.mono (fun i h=>Or.inl h))⟩) (fun hHeld=>?_)
      clear hK K
      (try simp only [s0,s1,s2])
      refine wpAnyX_strong (T:=fun b w'=>Keep (fun i=>i=wo.heap.size∨i=w10.heap.size∨(Value.slice pa j pc).ownBlock=some i) wq w'∧(b=false→Keep (fun i=>i=wo.heap.size∨(Value.slice pa j pc).ownBlock=some i) wt11 w')) (fun b w' h=>⟨h.1,fun e=>(hHeld.2 rfl).trans (h.2 e)⟩) _ _ _ _ ?_
      replace hHeld:Keep (fun i=>i=wo.heap.size∨i=w10.heap.size∨(Value.slice pa j pc).ownBlock=some i) wq wt11∧(false=false→Keep (fun i=>i=wo.heap.size∨(Value.slice pa j pc).ownBlock=some i) wt11 wt11):=⟨hHeld.1,fun _=>Keep.refl _ _⟩
      refine tkE (i:=12) (oi:=⟨_,.sliceToArrayPointer 43 (.tmp 143),_,_,_,_⟩) (v:=?v1009) rfl (yi ?y1009) hHeld ?_
      case y1009=>(intro w _;go_simp;(try with_reducible rfl))
      (try simp only [Act.put,s0,s1,s2])
      refine' tkE (i:=13) (oi:=⟨_,.load 43 (.tmp 144),_,_,_,_⟩) (v:=_) rfl (yieldsIf_load_mid (by rfl) _ _ rfl bt11 ot11 rfl (nums .u8 y3) _ (fun _ h=>Keep.range (h.2 rfl) SR11.out NT11.out) Tryz.underlying43 rfl hiY3.out) hHeld ?_
      (try simp only [Act.put,s0,s1,s2])
      refine wpAnyX_ready (rs:=[15]) (by kernel_rfl) (by simp) ?_
      refine AllReadyX.cons (o:=⟨_,.call ⟨.value (.func 46),#[.tmp 146,.const (.int .i64 4)],#[114,3]⟩,_,_,_,_⟩) rfl (b:=false) (by kernel_rfl) (fun K hK=>?_) ?_
      go_simp;refine(tnum_walk wo.heap.size w1.heap.size 4 _ _ (by decide) (by decide) _ RC.out).mono ?_;rintro e wt15 ⟨rfl,rt15,kt15⟩;have RC:=hid rt15;have KT:=hid kt15;rw [← S4.out];have OVP:=hid (KT.out.own OVP.out (fun g' hg' e=>by have n8:=OVL.out _ hg';have l8:=LL.out;have l9:=L10.out;omega));have HOX:=hid (KT.out.heap HOX.out NOG.out);clear rt15 kt15
      refine hK.out _ _ (⟨hHeld.1.trans (KT.out.mono (fun i h=>Or.inl h)),fun e=>(hHeld.2 e).trans (KT.out.mono (fun i h=>Or.inl h))⟩) (fun hHeld=>?_)
      clear hK K
      (try simp only [s0,s1,s2])
      refine wpAnyX_strong (T:=fun b w'=>Keep (fun i=>i=wo.heap.size∨i=w10.heap.size∨(Value.slice pa j pc).ownBlock=some i) wq w'∧(b=false→Keep (fun i=>i=wo.heap.size∨(Value.slice pa j pc).ownBlock=some i) wt15 w')) (fun b w' h=>⟨h.1,fun e=>(hHeld.2 rfl).trans (h.2 e)⟩) _ _ _ _ ?_
      replace hHeld:Keep (fun i=>i=wo.heap.size∨i=w10.heap.size∨(Value.slice pa j pc).ownBlock=some i) wq wt15∧(false=false→Keep (fun i=>i=wo.heap.size∨(Value.slice pa j pc).ownBlock=some i) wt15 wt15):=⟨hHeld.1,fun _=>Keep.refl _ _⟩
      refine tkE (i:=16) (oi:=⟨_,.convert 63 3 (.tmp 147),_,_,_,_⟩) (v:=?v1010) rfl (yi ?y1010) hHeld ?_
      case y1010=>(intro w _;go_simp;(try with_reducible rfl))
      (try simp only [Act.put,s0,s1,s2])
      refine wpAnyX_ready (rs:=[18]) (by kernel_rfl) (by simp) ?_
      refine AllReadyX.cons (o:=⟨_,.call ⟨.value (.func 46),#[.tmp 149,.const (.int .i64 4)],#[114,3]⟩,_,_,_,_⟩) rfl (b:=false) (by kernel_rfl) (fun K hK=>?_) ?_
      go_simp;refine(tnum_walk wo.heap.size w1.heap.size 4 _ _ (by decide) (by decide) _ RC.out).mono ?_;rintro e wt18 ⟨rfl,rt18,kt18⟩;have RC:=hid rt18;have KT:=hid kt18;rw [← S5.out];have OVP:=hid (KT.out.own OVP.out (fun g' hg' e=>by have n8:=OVL.out _ hg';have l8:=LL.out;have l9:=L10.out;omega));have HOX:=hid (KT.out.heap HOX.out NOG.out);clear rt18 kt18
      refine hK.out _ _ (⟨hHeld.1.trans (KT.out.mono (fun i h=>Or.inl h)),fun e=>(hHeld.2 e).trans (KT.out.mono (fun i h=>Or.inl h))⟩) (fun hHeld=>?_)
      clear hK K
      (try simp only [s0,s1,s2])
      refine wpAnyX_strong (T:=fun b w'=>Keep (fun i=>i=wo.heap.size∨i=w10.heap.size∨(Value.slice pa j pc).ownBlock=some i) wq w'∧(b=false→Keep (fun i=>i=wo.heap.size∨(Value.slice pa j pc).ownBlock=some i) wt18 w')) (fun b w' h=>⟨h.1,fun e=>(hHeld.2 rfl).trans (h.2 e)⟩) _ _ _ _ ?_
      replace hHeld:Keep (fun i=>i=wo.heap.size∨i=w10.heap.size∨(Value.slice pa j pc).ownBlock=some i) wq wt18∧(false=false→Keep (fun i=>i=wo.heap.size∨(Value.slice pa j pc).ownBlock=some i) wt18 wt18):=⟨hHeld.1,fun _=>Keep.refl _ _⟩
      refine tkE (i:=19) (oi:=⟨_,.convert 63 3 (.tmp 150),_,_,_,_⟩) (v:=?v1011) rfl (yi ?y1011) hHeld ?_
      case y1011=>(intro w _;go_simp;(try with_reducible rfl))
      (try simp only [Act.put,s0,s1,s2])
      refine tkE (i:=20) (oi:=⟨_,.build 121 #[(0,.tmp 137),(1,.tmp 141),(2,.tmp 145),(3,.tmp 148),(4,.tmp 151)],_,_,_,_⟩) (v:=(.agg xs.toArray)) rfl (Or.inl ⟨by rfl,fun w _=>run_build5 rfl rfl rfl rfl rfl rfl BX.out⟩) hHeld ?_
      (try simp only [Act.put,s0,s1,s2])
      refine wpAnyX_ready (rs:=[21]) (by kernel_rfl) (by simp) ?_
      refine AllReadyX.cons (o:=⟨_,.buildSlice 64 1 #[(0,.tmp 152)],_,_,_,_⟩) rfl (b:=false) (by kernel_rfl) (fun K hK=>?_) ?_
      rw [if_pos (by rfl)];refine wp_lit1 _ _ _ rfl rfl Tryz.underlying64 hPi.out hPz.out PL.out (by decide) (by decide) ?_;refine newZ ?_;intro wl HL BL;have RC:=hid (RC.out.keep BL.out);have OVP:=hid (ownKB OVP.out BL.out);have HOX:=hid (heap_keep HOX.out BL.out);have LWL:=hid (hHeld.1.size)
      refine hK.out _ _ (⟨hHeld.1.trans (Keep.of BL.out),fun e=>(hHeld.2 e).trans (Keep.of BL.out)⟩) (fun hHeld=>?_)
      clear hK K
      (try simp only [s0,s1,s2])
      refine wpAnyX_ready (rs:=[22]) (by kernel_rfl) (by simp) ?_
      refine AllReadyX.cons (o:=⟨_,.call ⟨.builtin .append,#[.tmp 133,.tmp 153],#[64,64]⟩,_,_,_,_⟩) rfl (b:=false) (by kernel_rfl) (fun K hK=>?_) ?_
      rw [if_pos (by rfl)];refine wp_pushK _ _ 64 rfl tyPath w12.heap.size OVP.out rfl rfl HL.out XSL.out XS1.out (by have:=JL.out;have:=N2L.out;omega) (by decide) (by have:=hHeld.1.size;have:=QL.out;omega) ?_;intro v7 w7 own7 k7 nb7;obtain⟨pa7,pc7,rfl,_⟩:=Rd.of_owns own7;have O7:=hid own7;have K7:=hid k7;have NB7:=hid nb7;have RC:=hid (RC.out.kept K7.out (fun e=>by have n8:=OVL.out _ e;have l8:=LL.out;have l9:=L10.out;omega) (fun i hi e=>by have n8:=OVL.out _ e;have l8:=LL.out;have l9:=L10.out;omega));have HOX:=hid (K7.out.heap HOX.out (fun e=>by have n8:=OVL.out _ e;have l8:=LL.out;have l9:=L10.out;omega));clear own7 k7 nb7
      refine hK.out _ _ (⟨hHeld.1.trans (K7.out.mono (fun i h=>Or.inr (Or.inr h))),fun e=>(hHeld.2 e).trans (K7.out.mono (fun i h=>Or.inr h))⟩) (fun hHeld=>?_)
      clear hK K
      (try simp only [s0,s1,s2])
      refine tkE (i:=23) (oi:=⟨_,.fieldAddr 66 (.tmp 12) 1,_,_,_,_⟩) (v:=?v1012) rfl (yi ?y1012) hHeld ?_
      case y1012=>(intro w _;go_simp;(try with_reducible rfl))
      (try simp only [Act.put,s0,s1,s2])
      refine wpAnyX_ready (rs:=[24]) (by kernel_rfl) (by simp) ?_
      refine AllReadyX.cons (o:=⟨_,.store 64 (.tmp 155) (.tmp 154),_,_,_,_⟩) rfl (b:=true) (by kernel_rfl) (fun K hK=>?_) ?_
      have c9:=gen_cell (j:=1) (row_range HOX.out) rfl;have z9:w7.frozen? ⟨w10.heap.size,1,none⟩=false:=frozen_of_row _ _ _ _ _ HOX.out;go_simp;refine setW HOX.out ?_;intro wz HZ FZ;clear c9 z9
      refine hK.out _ _ (⟨hHeld.1.trans (Keep.far FZ.out (Or.inr (Or.inl rfl))),nofun⟩) (fun hHeld=>?_)
      clear hK K
      (try simp only [s0,s1,s2])
      refine wpAnyX_done (by kernel_rfl) ?_ _
      rotate_left
      exact AllReadyX.nil
      exact AllReadyX.nil
      exact AllReadyX.nil
      exact AllReadyX.nil
      exact AllReadyX.nil
      exact AllReadyX.nil
      exact AllReadyX.nil
      exact AllReadyX.nil
      have KZ:=hid hHeld.1
      clear hHeld
      go_wp2_with (fail)
      go_roundw
      case rel=>
       have ll:=LL.out
       have l10:=L10.out
       have ql:=QL.out
       have rz:=RC.out.kept (Keep.far' FZ.out) (fun e=>by omega) (fun i hi e=>by omega)
       have kz:=PS.out.keep.then KZ.out (fun i hi e=>by rcases e with e|e|e;exact .inl e;exact .inr e;(have:=OVL.out _ e;omega))
       obtain⟨q0,q1,q2,q3,q4,q5⟩:=GE.out
       have hlq:vq.length=vr.length - (41+104*j):=by rw [q1,List.length_drop,List.length_drop];omega
       refine⟨j1,pthL vq,pthS vq false,rfl,rz,kz,fun e=>?_,fun e=>?_⟩
       ·refine outsR_short VNE.out (.inr ?_)
        have hh:¬ 104≤vq.length:=fun hh=>by rw [(pth_long (sh:=false) hh).1] at e;cases e
        have h1:=HJ.out
        rw [← q3]
        omega
       ·have h104:104≤vq.length:=Classical.byContradiction fun hh=>by rw [pthS_short hh] at e;cases e
        obtain⟨_,e2,e3⟩:=pth_long (sh:=false) h104
        have h1:=HJ.out
        have j1e:=J1.out
        have ps:pathsD j1 (vr.drop 41)=pathsD j (vr.drop 41)++[pthY vq]:=by rw [j1e,pathsD_snoc,e3,q1]
        refine⟨by omega,by rw [e2,q1,List.drop_drop,j1e];rfl,by omega,q3,q4,q5,_,HZ.out,?_,?_⟩
        ·rw [ps,List.flatMap_append,j1e]
         have o:=(Keep.far' FZ.out).own O7.out (fun g' hg' e=>by
          rcases NB7.out with h|h
          ·rw [h] at hg';have:=OVL.out _ hg';omega
          ·have:=LWL.out;rw [h] at hg';cases hg';have:=BL.out.size;omega)
         rw [show [pthY vq].flatMap PathD.cells=xs by rw [XSE.out];simp]
         exact o
        ·intro p hp
         rw [ps] at hp
         rcases List.mem_append.1 hp with hp|hp
         ·exact POK.out p hp
         ·rw [List.mem_singleton.1 hp];exact XOK.out
      case measure=>simp [intOf];have:=J1.out;have:=HJ.out;omega
  have u1:decide (0<(rn:Int))=true:=decide_eq_true (by omega)
  have u2:decide (0<rn)=true:=decide_eq_true (by omega)
  go_upto_region 9 with(fail)
  have TK:=hid (show Calls Tryz.prog 45 #[.pointer (some ⟨w2.heap.size,0,none⟩),.int .i64 36] wo _ from take_walk w2.heap.size w1.heap.size 36 vr false (by decide) (by decide) wo IS.out.rdr)
  clear u1 u2 c0
  go_wp2_with (fail)
  refine TK.out.mono ?_
  rintro e w4 ⟨a4,c4,rfl,s4,_,r4,k4⟩
  have R4:=hid r4
  have K4:=hid k4
  have GP:=hid (get_walk a4 36 c4 (tkY 36 vr) (tkY_lt IS.out.rdr.bd) w4 s4)
  clear TK r4 k4 s4
  go_wp2_with (fail)
  refine GP.out.mono ?_
  rintro e w5 ⟨rfl,b5⟩
  obtain⟨tx,htx⟩:∃tx,tx=(getP (tkY 36 vr)).1:=⟨_,rfl⟩
  obtain⟨po,hpo⟩:∃po,po=(getP (tkY 36 vr)).2.1:=⟨_,rfl⟩
  obtain⟨pk,hpk⟩:∃pk,pk=(getP (tkY 36 vr)).2.2:=⟨_,rfl⟩
  rw [← htx,← hpo,← hpk]
  obtain⟨pt,hpt⟩:∃pt,pt=nums .u8 tx++[Value.int .i64 (po:Int)]:=⟨_,rfl⟩
  rw [show ptv tx po=pt.toArray from by rw [hpt];rfl]
  have GPE:=hid (And.intro htx (And.intro hpo hpk))
  have GPK:=hid (show tx.length=32∧(∀d∈tx,d<256)∧po<256 from by rw [htx,hpo];exact getP_fine (tkY_lt IS.out.rdr.bd))
  have PTE:=hid hpt
  have PTL:=hid (show pt.length=33 by rw [hpt,List.length_append,nums_length,GPK.out.1];rfl)
  have hiPl:=hid (show(Tryz.prog.info? 60).map (·.size)=some pt.length from by rw [PTL.out];kernel_rfl)
  have hiPa:=hid (show(Tryz.prog.info? 60).map (·.size)=some pt.toArray.size from by rw [List.size_toArray];exact hiPl.out)
  have hoP:=hid (show 33=pt.toArray.size by rw [List.size_toArray,PTL.out])
  have h1P:=hid (show(pt.toArray.all fun x=>x.oneCell')=true by rw [hpt];exact ptv_one tx po)
  have B5:=hid b5
  clear b5 GP htx hpo hpk hpt
  go_upto_region 10 with(refine wpList_store_row rfl _ _ _ rfl w5.heap.size pt.toArray rfl rfl _ _ (heap_alloc_new _ _) hiPa.out hoP.out h1P.out ?_;refine laidW (F:=fun w6=>wpList _ _ _ _ _ w6) ?_;intro w6 h6 b6)
  have R6:=hid ((R4.out.keep B5.out).keep b6.out)
  have K6:=hid (IS.out.keep.trans ((K4.out.mono (fun i e=>Or.inl e)).trans ((Keep.of B5.out).trans (Keep.of b6.out))))
  have RP:=hid (row_range h6.out)
  have NP:=hid (show ¬ w5.heap.size=w2.heap.size from by have:=IS.out.rdr.lt;have:=K4.out.size;have:=B5.out.size;omega)
  have T6r:=hid ((Keep.of (S:=fun i=>i=w2.heap.size) b6.out).heap ((Keep.of (S:=fun i=>i=w2.heap.size) B5.out).heap (K4.out.heap IS.out.row (by have:=L6.out;omega)) (by have:=L6.out;omega)) (by have:=L6.out;omega))
  have HT2:=hid (K6.out.heap H17.out (by have:=N1.out;have:=L6.out;omega))
  have BW6:=hid (show Below w.heap.size w w6 from B7.out.trans (K6.out.below (B:=w.heap.size) (fun i e=>by have:=N1.out;have:=L6.out;omega) B7.out.size))
  have OW6:=hid (ownKB (ownKB (K4.out.own IS.out.own (fun g' hg' e=>by have:=(IS.out.own.lt _ hg').1;have:=L7.out;omega)) B5.out) b6.out)
  by_cases h36:vr.length<36
  case pos=>
   obtain⟨fl,hfl⟩:∃fl,fl=tkS 36 vr false:=⟨_,rfl⟩
   have hft:fl=true:=by rw [hfl];exact tkS_gt (by omega)
   obtain⟨ra6,rc6,hg6,_⟩:=R6.out.at'
   rw [← hfl,hft] at hg6
   have c1:w6.cell? ⟨w2.heap.size,1,none⟩=some (.bool true):=gen_cell (j:=1) (row_range hg6) rfl
   have E:=hid (show decT bs=(([],[]),20) from by
    have e0:(insR x.v).2=20:=by rw [IS.out.eq];exact joinI_bad (by rw [insR_short (by rintro rfl;have:=RN.out;simp at this;omega) h36]) (by decide)
    rw [DT.out,if_pos (by rw [show(insR x.pr.2).2=20 from e0];decide),show(insR x.pr.2).2=20 from e0])
   clear hg6 hfl hft h36
   go_upto_region 11 with(fail)
   go_wp2_with (first|with_reducible refine wpList_mk0 BZ.out ?_|with_reducible refine wpList_store_row rfl _ _ _ rfl w.heap.size zTx rfl rfl _ _ HT2.out hiZ.out rfl h1Z.out ?_)
   refine bodyPost_ret (results_cell_tmp rfl _ _ w.heap.size _ zTx _ _ _ rfl rfl (setRow_heap _ _ _ _ _ _ HT2.out) Tryz.underlying25 rfl hiZ.out) rfl ?_
   exact CDecR.bad E.out rfl (below_setRow BW6.out (Nat.le_refl _) _)
  have e36:tkS 36 vr false=false:=tkS_le (by omega)
  have l36:tkL 36 vr=vr.drop 36:=tkL_le (by omega)
  have y36:tkY 36 vr=vr.take 36:=tkY_le (by omega)
  rw [e36,l36] at R6
  rw [y36] at GPE
  obtain⟨ra6,rc6,hg6,_⟩:=R6.out.at'
  have c1:w6.cell? ⟨w2.heap.size,1,none⟩=some (.bool false):=gen_cell (j:=1) (row_range hg6) rfl
  have V36:=hid h36
  clear hg6 e36 l36 y36 R4
  go_upto_region 12 with(fail)
  clear c1
  by_cases hpk:pk=0
  case neg=>
   have u3:((pk:Int) != 0)=true:=by rw [bne_iff_ne];omega
   have E:=hid (show decT bs=(([],[]),pk) from by
    have e0:(insR x.v).2=pk:=by rw [IS.out.eq];exact joinI_bad (by rw [insR_pt h36 (by rw [← GPE.out.2.2];exact hpk),GPE.out.2.2]) hpk
    rw [DT.out,if_pos (by rw [show(insR x.pr.2).2=pk from e0];exact hpk),show(insR x.pr.2).2=pk from e0])
   clear hpk h36
   go_upto_region 13 with(fail)
   go_wp2_with (first|with_reducible refine wpList_mk0 BZ.out ?_|with_reducible refine wpList_store_row rfl _ _ _ rfl w.heap.size zTx rfl rfl _ _ HT2.out hiZ.out rfl h1Z.out ?_)
   refine bodyPost_ret (results_cell_tmp rfl _ _ w.heap.size _ zTx _ _ _ rfl rfl (setRow_heap _ _ _ _ _ _ HT2.out) Tryz.underlying25 rfl hiZ.out) rfl ?_
   exact CDecR.bad E.out rfl (below_setRow BW6.out (Nat.le_refl _) _)
  have u3:((pk:Int) != 0)=false:=by rw [bne_eq_false_iff_eq];omega
  have PK0:=hid (show(getP (vr.take 36)).2.2=0 by rw [← GPE.out.2.2];exact hpk)
  obtain⟨v1,hv1⟩:∃v1,v1=vr.drop 36:=⟨_,rfl⟩
  rw [← hv1] at R6
  have V1:=hid hv1
  have VB:=hid (show ∀d∈v1,d<256 from by rw [hv1];exact fun d hd=>IS.out.rdr.bd d (List.mem_of_mem_drop hd))
  obtain⟨pv,hpv⟩:∃pv,pv=beVal (tkY 1 v1):=⟨_,rfl⟩
  obtain⟨y1,hy1⟩:∃y,y=tkY 32 (tkL 1 v1):=⟨_,rfl⟩
  obtain⟨y2,hy2⟩:∃y,y=tkY 32 (tkL 32 (tkL 1 v1)):=⟨_,rfl⟩
  obtain⟨y3,hy3⟩:∃y,y=tkY 32 (tkL 32 (tkL 32 (tkL 1 v1))):=⟨_,rfl⟩
  obtain⟨xs,hxs⟩:∃xs,xs=(inY tx po v1).cells:=⟨_,rfl⟩
  have PV:=hid hpv
  have Y1:=hid hy1
  have Y2:=hid hy2
  have Y3:=hid hy3
  have YL:=hid (show y1.length=32∧y2.length=32∧y3.length=32 from⟨by rw [hy1,tkY_len],by rw [hy2,tkY_len],by rw [hy3,tkY_len]⟩)
  have hiY1:=hid (show(Tryz.prog.info? 43).map (·.size)=some (nums .u8 y1).length from by rw [nums_length,YL.out.1];kernel_rfl)
  have hiY2:=hid (show(Tryz.prog.info? 43).map (·.size)=some (nums .u8 y2).length from by rw [nums_length,YL.out.2.1];kernel_rfl)
  have hiY3:=hid (show(Tryz.prog.info? 43).map (·.size)=some (nums .u8 y3).length from by rw [nums_length,YL.out.2.2];kernel_rfl)
  have BX:=hid (show Tryz.prog.built 69 [(0,.agg pt.toArray),(1,.int .i64 (pv:Int)),(2,.agg (nums .u8 y1).toArray),(3,.agg (nums .u8 y2).toArray),(4,.agg (nums .u8 y3).toArray)]=some xs.toArray from by
   rw [PTE.out,bInC tx y1 y2 y3 po pv GPK.out.1 YL.out.1 YL.out.2.1 YL.out.2.2,hxs,hpv,hy1,hy2,hy3];rfl)
  have XOK:=hid (inY_ok (tx:=tx) (o:=po) (v:=v1) ⟨GPK.out.1,GPK.out.2.1⟩ GPK.out.2.2 VB.out)
  have XSE:=hid hxs
  have XSL:=hid (show xs.length=130 by rw [hxs];exact InD.len XOK.out)
  obtain⟨zi,hzi⟩:∃zi:Array Value,zi=zIn:=⟨_,rfl⟩
  have ZI:∀w:World,(zeroValue 69).run Tryz.prog w = .ok (.agg zi) w:=by rw [hzi];exact zv_of (by kernel_rfl)
  have zil:=hid (show zi.size=130 by rw [hzi];kernel_rfl)
  have hiX:=hid (show(Tryz.prog.info? 69).map (·.size)=some xs.toArray.size from by rw [List.size_toArray,XSL.out];kernel_rfl)
  have hoX:=hid (show zi.size=xs.toArray.size by rw [zil.out,List.size_toArray,XSL.out])
  have h1X:=hid (show(xs.toArray.all fun x=>x.oneCell')=true by rw [hxs];exact all_oneCell_toArray (InD.one _))
  have RC:=hid (R6.out.keep (Below.refl _ _).drew)
  have r3:IntKind.i64.wrap (pv:Int)=(pv:Int):=by have:=beVal_tk (n:=1) VB.out;rw [← hpv] at this;rw [IntKind.wrap_i64];omega
  have rA:=fun(ad:Option Addr) (c:Nat) (wx:World)=>run_arr32 wx ad c
  clear hpk hv1 hpv hy1 hy2 hy3 hxs hzi h36
  go_upto_region 14 with(fail)
  clear u3
  rename_i K aK
  have MID:∀(bk:Nat) (v70 v71 v72 v73 v74 v75 v76 v77 v78 v79 v80 v81 v82 v83 v84 v85 v86:Value) (wy:World),w6.heap.size≤bk→bk≠w2.heap.size→wy.heap[bk]? = some (.cells xs.toArray 69 (0,0))→Keep (fun i=>i=w2.heap.size∨w6.heap.size≤i) w6 wy→Rdr wy w2.heap.size w1.heap.size (inL v1) (inS v1 false)→K ⟨List.toArray (Value.slice a n cap::undef::Value.pointer (some ⟨w.heap.size,0,none⟩)::u3::Value.slice (some ⟨lb,lo,none⟩) 2 lc::Value.int IntKind.i64 (ec:Int)::Value.pointer (some ⟨w1.heap.size,0,none⟩)::Value.pointer (some ⟨w2.heap.size,0,none⟩)::Value.pointer (some ⟨w5.heap.size,0,none⟩)::Value.int IntKind.i64 (pk:Int)::Value.pointer (some ⟨bk,0,none⟩)::undef::undef::undef::undef::undef::Value.tuple #[Value.slice (some ⟨lb,lo,none⟩) 2 lc,Value.int IntKind.i64 (ec:Int)]::Value.slice a n cap::Value.tuple #[Value.slice (some ⟨lb,lo,none⟩) 2 lc,Value.int IntKind.i64 (ec:Int)]::Value.slice (some ⟨lb,lo,none⟩) 2 lc::Value.int IntKind.i64 (ec:Int)::Value.int IntKind.i64 (ec:Int)::Value.bool false::undef::undef::Value.slice (some ⟨lb,lo,none⟩) 2 lc::Value.int IntKind.i64 2::Value.bool false::Value.bool false::Value.slice (some ⟨lb,lo,none⟩) 2 lc::Value.pointer (some ⟨lb,lo,none⟩)::Value.pointer (some ⟨lb,lo,none⟩)::Value.int IntKind.u64 (xt:Int)::Value.bool false::Value.bool false::Value.bool false::Value.slice (some ⟨lb,lo,none⟩) 2 lc::Value.pointer (some ⟨lb,lo+2,none⟩)::Value.pointer (some ⟨lb,lo+2,none⟩)::Value.int IntKind.u64 (yt:Int)::Value.bool false::Value.bool false::undef::Value.slice (some ⟨lb,lo,none⟩) 2 lc::Value.pointer (some ⟨lb,lo,none⟩)::Value.pointer (some ⟨lb,lo+1,none⟩)::Value.slice x.a xn x.c::Value.agg #[Value.slice x.a xn x.c,Value.bool false]::Value.pointer (some ⟨w2.heap.size,0,none⟩)::Value.pointer (some ⟨w2.heap.size,0,none⟩)::Value.pointer (some ⟨w2.heap.size,0,none⟩)::Value.pointer (some ⟨w2.heap.size,0,none⟩)::Value.slice ra rn rc::Value.int IntKind.i64 (rn:Int)::Value.bool true::Value.tuple #[Value.agg pt.toArray,Value.int IntKind.i64 (pk:Int)]::Value.pointer (some ⟨w2.heap.size,0,none⟩)::Value.slice a4 36 c4::Value.tuple #[Value.agg pt.toArray,Value.int IntKind.i64 (pk:Int)]::Value.agg pt.toArray::Value.int IntKind.i64 (pk:Int)::Value.pointer (some ⟨w2.heap.size,0,none⟩)::Value.pointer (some ⟨w2.heap.size,0,none⟩)::Value.pointer (some ⟨w2.heap.size,1,none⟩)::Value.bool false::u65::Value.int IntKind.i64 (pk:Int)::Value.bool false::u68::u69::v70::v71::v72::v73::v74::v75::v76::v77::v78::v79::v80::v81::v82::v83::v84::v85::v86::u87::u88::u89::u90::u91::u92::u93::u94::u95::u96::u97::undef::undef::undef::undef::undef::undef::undef::undef::undef::undef::undef::undef::undef::undef::undef::undef::undef::undef::undef::undef::undef::undef::undef::undef::undef::undef::undef::undef::undef::undef::undef::undef::undef::undef::undef::undef::undef::undef::undef::undef::undef::undef::undef::undef::undef::undef::undef::undef::undef::undef::undef::undef::undef::undef::undef::undef::undef::undef::undef::undef::undef::undef::undef::undef::undef::undef::undef::undef::undef::undef::undef::undef::undef::undef::undef::undef::[]),[]⟩ wy:=by
   intro bk v70 v71 v72 v73 v74 v75 v76 v77 v78 v79 v80 v81 v82 v83 v84 v85 v86 wy hb1 hb2 hx hk hr
   refine aK _ _ ?_
   have KY:=hid hk
   have RY:=hid hr
   have HXR:=hid hx
   clear hb1 hb2 hk hr hx r3 rA
   have L36:=hid (show w3.heap.size≤w6.heap.size from K6.out.size)
   have T6y:=hid (KY.out.heap T6r.out (by rintro(e|e) <;> (have:=L6.out;have:=L7.out;have:=L36.out;omega)))
   have OWy:=hid (KY.out.own OW6.out (fun g' hg' e=>by have h1:=OW6.out.lt _ hg';have:=L7.out;omega))
   have HT2y:=hid (KY.out.heap HT2.out (by rintro(e|e) <;> (have:=N1.out;have:=L6.out;have:=L7.out;have:=L36.out;omega)))
   have BWy:=hid (show Below w.heap.size w wy from BW6.out.trans (KY.out.below (B:=w.heap.size) (fun i e=>by have:=N1.out;have:=L6.out;have:=BW6.out.size;omega) BW6.out.size))
   by_cases h133:vr.length<133
   case pos=>
    obtain⟨fl,hfl⟩:∃fl,fl=inS v1 false:=⟨_,rfl⟩
    have hft:fl=true:=by rw [hfl];exact inS_short (by rw [V1.out,List.length_drop];have:=V36.out;omega)
    obtain⟨ra7,rc7,hg7,_⟩:=RY.out.at'
    rw [← hfl,hft] at hg7
    have c1:wy.cell? ⟨w2.heap.size,1,none⟩=some (.bool true):=gen_cell (j:=1) (row_range hg7) rfl
    have E:=hid (show decT bs=(([],[]),20) from by
     have e0:(insR x.v).2=20:=by rw [IS.out.eq];exact joinI_bad (by rw [insR_short2 V36.out PK0.out h133]) (by decide)
     rw [DT.out,if_pos (by rw [show(insR x.pr.2).2=20 from e0];decide),show(insR x.pr.2).2=20 from e0])
    clear hg7 hfl hft h133
    go_upto_region 16 with(fail)
    go_wp2_with (first|with_reducible refine wpList_mk0 BZ.out ?_|with_reducible refine wpList_store_row rfl _ _ _ rfl w.heap.size zTx rfl rfl _ _ HT2y.out hiZ.out rfl h1Z.out ?_)
    refine bodyPost_ret (results_cell_tmp rfl _ _ w.heap.size _ zTx _ _ _ rfl rfl (setRow_heap _ _ _ _ _ _ HT2y.out) Tryz.underlying25 rfl hiZ.out) rfl ?_
    exact CDecR.bad E.out rfl (below_setRow BWy.out (Nat.le_refl _) _)
   have RD:=hid (inY_rd h133 PK0.out)
   have H133:=hid h133
   have RZ:=hid (show Rdr wy w2.heap.size w1.heap.size (vr.drop 133) false from by have:=RY.out;rw [V1.out,RD.out.2.1,RD.out.2.2] at this;exact this)
   obtain⟨ra7,rc7,hg7,_⟩:=RZ.out.at'
   have c1:wy.cell? ⟨w2.heap.size,1,none⟩=some (.bool false):=gen_cell (j:=1) (row_range hg7) rfl
   have c0:wy.cell? ⟨w1.heap.size,0,none⟩=some vi:=gen_cell (j:=0) (row_range T6y.out) rfl
   have rX:=row_range HXR.out
   have hiXl:=hid (show(Tryz.prog.info? 69).map (·.size)=some xs.length from by rw [XSL.out];kernel_rfl)
   have hPi:=hid (show(Tryz.prog.info? 69).map (·.size)=some 130 by kernel_rfl)
   have hPz:=hid (show((Tryz.prog.info? 69).bind (·.zero)).isSome=true by kernel_rfl)
   have PL:=hid (show xs.toArray.size=130 by rw [List.size_toArray,XSL.out])
   have ONE:=hid (show xs.toArray.toList.all Value.oneCell'=true from by rw [XSE.out];exact List.all_eq_true.2 (InD.one _))
   have ISL:=hid (show is.length<4294967296 from by have:=IS.out.cnt;have:=XLE.out;omega)
   clear hg7 RY h133
   go_upto_region 17 with(fail)
   go_wp2_with (first|with_reducible refine wpList_load_mid rfl _ _ rfl bk 0 rfl xs _ rX Tryz.underlying69 rfl hiXl.out ?_|with_reducible refine wpList_lit1 rfl _ _ _ rfl rfl Tryz.underlying22 hPi.out hPz.out PL.out (by decide) (by decide) ?_|(at_builtin;refine wpList_pushK rfl _ _ 22 rfl tyIn w3.heap.size OWy.out rfl rfl PL.out ONE.out ISL.out (by decide) (Nat.le_trans L36.out KY.out.size) ?_;intro v7 w7 own7 k7 nb7;obtain⟨a7,q7,rfl,_⟩:=Rd.of_owns own7;have O7:=hid own7;have K7:=hid k7;have T7:=hid (k7.heap T6y.out (fun e=>by have:=(OWy.out.lt _ e).1;have:=L6.out;have:=L7.out;omega));have c7:=gen_cell (j:=0) (row_range T7.out) rfl;have z7:w7.frozen? ⟨w1.heap.size,0,none⟩=false:=frozen_of_row _ _ _ _ _ T7.out;clear own7 k7 nb7))
   go_roundw
   case rel=>
    have FT:Far w1.heap.size w7 (w7.setCell ⟨w1.heap.size,0,none⟩ (.slice a7 (is.length+1) q7)):=Far.set _
    have h67:=L6.out
    have h77:=L7.out
    have own7:=(Keep.far' FT).own O7.out (fun g' hg' e=>by have:=(O7.out.lt _ hg').1;omega)
    have rdr7:=(RZ.out.kept K7.out (fun e=>by have:=(OWy.out.lt _ e).1;omega) (fun i hi e=>by have:=(OWy.out.lt _ e).1;omega)).kept (Keep.far' FT) (fun e=>by omega) (fun i hi e=>by omega)
    refine⟨is++[inY tx po v1],vr.drop 133,.slice a7 (is.length+1) q7,heap_set (i:=0) _ T7.out,?_,?_,?_,rdr7,?_,?_⟩
    ·have e:(is++[inY tx po v1]).flatMap InD.cells=is.flatMap InD.cells++xs.toArray.toList:=by rw [XSE.out];simp
     rw [e,List.length_append]
     exact own7
    ·intro i hi
     rcases List.mem_append.1 hi with hi|hi
     ·exact IS.out.ok i hi
     ·rw [List.mem_singleton.1 hi];exact XOK.out
    ·have ex:inY tx po v1=rdIn vr:=by have:=RD.out.1;rw [← GPE.out.1,← GPE.out.2.1,← V1.out] at this;exact this
     rw [IS.out.eq,insR_step PK0.out H133.out,joinI_join,ex]
    ·have k1:=K6.out.then KY.out (fun i hi e=>by rcases e with e|e;exact .inl e;(have:=L36.out;omega))
     have k2:=k1.then K7.out (fun i hi e=>by have:=(OWy.out.lt _ e).1;omega)
     exact k2.then (Keep.far' FT) (fun i hi e=>.inr e)
    ·have:=IS.out.cnt
     rw [List.length_append,List.length_drop]
     have h1:([inY tx po v1]:List InD).length=1:=rfl
     have:=H133.out
     omega
   case measure=>
    have FT:Far w1.heap.size w7 (w7.setCell ⟨w1.heap.size,0,none⟩ (.slice a7 (is.length+1) q7)):=Far.set _
    have h67:=L6.out
    have h77:=L7.out
    have rdr7:=(RZ.out.kept K7.out (fun e=>by have:=(OWy.out.lt _ e).1;omega) (fun i hi e=>by have:=(OWy.out.lt _ e).1;omega)).kept (Keep.far' FT) (fun e=>by omega) (fun i hi e=>by omega)
    have e1:=rdr7.rem
    have e2:=IS.out.rdr.rem
    rw [e1,e2,List.length_drop]
    have:=H133.out
    omega
  have MID:=hid MID
  clear aK
  refine wp_region_X (l:=18) (S:=fun b w'=>Keep (fun i=>i=w2.heap.size∨w6.heap.size≤i) w6 w'∧(b=false→Keep (fun i=>i=w2.heap.size) w6 w')) (by kernel_rfl) (⟨Keep.of (Below.refl _ _).drew,fun _=>Keep.of (Below.refl _ _).drew⟩) (fun hHeld=>?_)
  try simp only [List.size_toArray,List.length_cons,List.length_nil,Nat.reduceAdd,Array.replicate_succ,Array.replicate_zero,List.push_toArray,List.nil_append,List.cons_append]
  refine' tkE (i:=0) (oi:=⟨_,.load 60 (.tmp 8),_,_,_,_⟩) (v:=_) rfl (yieldsIf_load_mid (by rfl) _ _ rfl w5.heap.size 0 rfl pt _ (fun _ h=>Keep.range (h.2 rfl) RP.out NP.out) Tryz.underlying60 rfl hiPl.out) hHeld ?_
  (try simp only [Act.put,s0,s1,s2])
  refine tkE (i:=1) (oi:=⟨_,.move (.tmp 7),_,_,_,_⟩) (v:=?v2001) rfl (yi ?y2001) hHeld ?_
  case y2001=>(intro w _;go_simp;(try with_reducible rfl))
  (try simp only [Act.put,s0,s1,s2])
  refine tkE (i:=4) (oi:=⟨_,.move (.tmp 7),_,_,_,_⟩) (v:=?v2002) rfl (yi ?y2002) hHeld ?_
  case y2002=>(intro w _;go_simp;(try with_reducible rfl))
  (try simp only [Act.put,s0,s1,s2])
  refine tkE (i:=8) (oi:=⟨_,.move (.tmp 7),_,_,_,_⟩) (v:=?v2003) rfl (yi ?y2003) hHeld ?_
  case y2003=>(intro w _;go_simp;(try with_reducible rfl))
  (try simp only [Act.put,s0,s1,s2])
  refine tkE (i:=12) (oi:=⟨_,.move (.tmp 7),_,_,_,_⟩) (v:=?v2004) rfl (yi ?y2004) hHeld ?_
  case y2004=>(intro w _;go_simp;(try with_reducible rfl))
  (try simp only [Act.put,s0,s1,s2])
  refine wpAnyX_ready (rs:=[2,17]) (by kernel_rfl) (by simp) ?_
  refine AllReadyX.cons (o:=⟨_,.call ⟨.value (.func 46),#[.tmp 71,.const (.int .i64 1)],#[114,3]⟩,_,_,_,_⟩) rfl (b:=false) (by kernel_rfl) (fun K hK=>?_) ?_
  go_simp;refine(tnum_walk w2.heap.size w1.heap.size 1 _ _ (by decide) (by decide) _ RC.out).mono ?_;rintro e wt2 ⟨rfl,rt2,kt2⟩;have RC:=hid rt2;have KT:=hid kt2;have KS2:=hid kt2;rw [← PV.out];clear rt2 kt2
  refine hK.out _ _ (⟨hHeld.1.trans (KT.out.mono (fun i h=>Or.inl h)),fun e=>(hHeld.2 e).trans KT.out⟩) (fun hHeld=>?_)
  clear hK K
  (try simp only [s0,s1,s2])
  refine wpAnyX_strong (T:=fun b w'=>Keep (fun i=>i=w2.heap.size∨w6.heap.size≤i) w6 w'∧(b=false→Keep (fun i=>i=w2.heap.size) wt2 w')) (fun b w' h=>⟨h.1,fun e=>(hHeld.2 rfl).trans (h.2 e)⟩) _ _ _ _ ?_
  replace hHeld:Keep (fun i=>i=w2.heap.size∨w6.heap.size≤i) w6 wt2∧(false=false→Keep (fun i=>i=w2.heap.size) wt2 wt2):=⟨hHeld.1,fun _=>Keep.refl _ _⟩
  refine tkE (i:=3) (oi:=⟨_,.convert 63 3 (.tmp 72),_,_,_,_⟩) (v:=?v2005) rfl (yi ?y2005) hHeld ?_
  case y2005=>(intro w _;go_simp;(try with_reducible rfl))
  (try simp only [Act.put,s0,s1,s2])
  refine wpAnyX_ready (rs:=[5,17]) (by kernel_rfl) (by simp) ?_
  refine AllReadyX.cons (o:=⟨_,.call ⟨.value (.func 45),#[.tmp 74,.const (.int .i64 32)],#[114,3]⟩,_,_,_,_⟩) rfl (b:=false) (by kernel_rfl) (fun K hK=>?_) ?_
  go_simp;refine(take_walk w2.heap.size w1.heap.size 32 _ _ (by decide) (by decide) _ RC.out).mono ?_;rintro e wt5 ⟨at5,ct5,rfl,st5,nt5,rt5,kt5⟩;have RC:=hid rt5;have KT:=hid kt5;have KS5:=hid kt5;rw [← Y1.out] at st5;have ST5:=hid (show ∃b o,at5=some ⟨b,o,none⟩∧wt5.rangeAt b o (nums .u8 y1) from by obtain⟨b,o,h1,_⟩:=st5.opened;exact⟨b,o,h1 (by decide),by have:=h1 (by decide);subst this;exact sl_range st5 (by decide)⟩);obtain⟨bt5,ot5,rfl,sr5⟩:=ST5.out;have SR5:=hid sr5;have NT5:=hid (nt5 _ rfl).1;clear st5 nt5 rt5 kt5 sr5 ST5
  refine hK.out _ _ (⟨hHeld.1.trans (KT.out.mono (fun i h=>Or.inl h)),fun e=>(hHeld.2 e).trans KT.out⟩) (fun hHeld=>?_)
  clear hK K
  (try simp only [s0,s1,s2])
  refine wpAnyX_strong (T:=fun b w'=>Keep (fun i=>i=w2.heap.size∨w6.heap.size≤i) w6 w'∧(b=false→Keep (fun i=>i=w2.heap.size) wt5 w')) (fun b w' h=>⟨h.1,fun e=>(hHeld.2 rfl).trans (h.2 e)⟩) _ _ _ _ ?_
  replace hHeld:Keep (fun i=>i=w2.heap.size∨w6.heap.size≤i) w6 wt5∧(false=false→Keep (fun i=>i=w2.heap.size) wt5 wt5):=⟨hHeld.1,fun _=>Keep.refl _ _⟩
  refine tkE (i:=6) (oi:=⟨_,.sliceToArrayPointer 43 (.tmp 75),_,_,_,_⟩) (v:=?v2006) rfl (yi ?y2006) hHeld ?_
  case y2006=>(intro w _;go_simp;(try with_reducible rfl))
  (try simp only [Act.put,s0,s1,s2])
  refine' tkE (i:=7) (oi:=⟨_,.load 43 (.tmp 76),_,_,_,_⟩) (v:=_) rfl (yieldsIf_load_mid (by rfl) _ _ rfl bt5 ot5 rfl (nums .u8 y1) _ (fun _ h=>Keep.range (h.2 rfl) SR5.out NT5.out) Tryz.underlying43 rfl hiY1.out) hHeld ?_
  (try simp only [Act.put,s0,s1,s2])
  refine wpAnyX_ready (rs:=[9,17]) (by kernel_rfl) (by simp) ?_
  refine AllReadyX.cons (o:=⟨_,.call ⟨.value (.func 45),#[.tmp 78,.const (.int .i64 32)],#[114,3]⟩,_,_,_,_⟩) rfl (b:=false) (by kernel_rfl) (fun K hK=>?_) ?_
  go_simp;refine(take_walk w2.heap.size w1.heap.size 32 _ _ (by decide) (by decide) _ RC.out).mono ?_;rintro e wt9 ⟨at9,ct9,rfl,st9,nt9,rt9,kt9⟩;have RC:=hid rt9;have KT:=hid kt9;have KS9:=hid kt9;rw [← Y2.out] at st9;have ST9:=hid (show ∃b o,at9=some ⟨b,o,none⟩∧wt9.rangeAt b o (nums .u8 y2) from by obtain⟨b,o,h1,_⟩:=st9.opened;exact⟨b,o,h1 (by decide),by have:=h1 (by decide);subst this;exact sl_range st9 (by decide)⟩);obtain⟨bt9,ot9,rfl,sr9⟩:=ST9.out;have SR9:=hid sr9;have NT9:=hid (nt9 _ rfl).1;clear st9 nt9 rt9 kt9 sr9 ST9
  refine hK.out _ _ (⟨hHeld.1.trans (KT.out.mono (fun i h=>Or.inl h)),fun e=>(hHeld.2 e).trans KT.out⟩) (fun hHeld=>?_)
  clear hK K
  (try simp only [s0,s1,s2])
  refine wpAnyX_strong (T:=fun b w'=>Keep (fun i=>i=w2.heap.size∨w6.heap.size≤i) w6 w'∧(b=false→Keep (fun i=>i=w2.heap.size) wt9 w')) (fun b w' h=>⟨h.1,fun e=>(hHeld.2 rfl).trans (h.2 e)⟩) _ _ _ _ ?_
  replace hHeld:Keep (fun i=>i=w2.heap.size∨w6.heap.size≤i) w6 wt9∧(false=false→Keep (fun i=>i=w2.heap.size) wt9 wt9):=⟨hHeld.1,fun _=>Keep.refl _ _⟩
  refine tkE (i:=10) (oi:=⟨_,.sliceToArrayPointer 43 (.tmp 79),_,_,_,_⟩) (v:=?v2007) rfl (yi ?y2007) hHeld ?_
  case y2007=>(intro w _;go_simp;(try with_reducible rfl))
  (try simp only [Act.put,s0,s1,s2])
  refine' tkE (i:=11) (oi:=⟨_,.load 43 (.tmp 80),_,_,_,_⟩) (v:=_) rfl (yieldsIf_load_mid (by rfl) _ _ rfl bt9 ot9 rfl (nums .u8 y2) _ (fun _ h=>Keep.range (h.2 rfl) SR9.out NT9.out) Tryz.underlying43 rfl hiY2.out) hHeld ?_
  (try simp only [Act.put,s0,s1,s2])
  refine wpAnyX_ready (rs:=[13,17]) (by kernel_rfl) (by simp) ?_
  refine AllReadyX.cons (o:=⟨_,.call ⟨.value (.func 45),#[.tmp 82,.const (.int .i64 32)],#[114,3]⟩,_,_,_,_⟩) rfl (b:=false) (by kernel_rfl) (fun K hK=>?_) ?_
  go_simp;refine(take_walk w2.heap.size w1.heap.size 32 _ _ (by decide) (by decide) _ RC.out).mono ?_;rintro e wt13 ⟨at13,ct13,rfl,st13,nt13,rt13,kt13⟩;have RC:=hid rt13;have KT:=hid kt13;have KS13:=hid kt13;rw [← Y3.out] at st13;have ST13:=hid (show ∃b o,at13=some ⟨b,o,none⟩∧wt13.rangeAt b o (nums .u8 y3) from by obtain⟨b,o,h1,_⟩:=st13.opened;exact⟨b,o,h1 (by decide),by have:=h1 (by decide);subst this;exact sl_range st13 (by decide)⟩);obtain⟨bt13,ot13,rfl,sr13⟩:=ST13.out;have SR13:=hid sr13;have NT13:=hid (nt13 _ rfl).1;clear st13 nt13 rt13 kt13 sr13 ST13
  refine hK.out _ _ (⟨hHeld.1.trans (KT.out.mono (fun i h=>Or.inl h)),fun e=>(hHeld.2 e).trans KT.out⟩) (fun hHeld=>?_)
  clear hK K
  (try simp only [s0,s1,s2])
  refine wpAnyX_strong (T:=fun b w'=>Keep (fun i=>i=w2.heap.size∨w6.heap.size≤i) w6 w'∧(b=false→Keep (fun i=>i=w2.heap.size) wt13 w')) (fun b w' h=>⟨h.1,fun e=>(hHeld.2 rfl).trans (h.2 e)⟩) _ _ _ _ ?_
  replace hHeld:Keep (fun i=>i=w2.heap.size∨w6.heap.size≤i) w6 wt13∧(false=false→Keep (fun i=>i=w2.heap.size) wt13 wt13):=⟨hHeld.1,fun _=>Keep.refl _ _⟩
  refine tkE (i:=14) (oi:=⟨_,.sliceToArrayPointer 43 (.tmp 83),_,_,_,_⟩) (v:=?v2008) rfl (yi ?y2008) hHeld ?_
  case y2008=>(intro w _;go_simp;(try with_reducible rfl))
  (try simp only [Act.put,s0,s1,s2])
  refine' tkE (i:=15) (oi:=⟨_,.load 43 (.tmp 84),_,_,_,_⟩) (v:=_) rfl (yieldsIf_load_mid (by rfl) _ _ rfl bt13 ot13 rfl (nums .u8 y3) _ (fun _ h=>Keep.range (h.2 rfl) SR13.out NT13.out) Tryz.underlying43 rfl hiY3.out) hHeld ?_
  (try simp only [Act.put,s0,s1,s2])
  refine tkE (i:=16) (oi:=⟨_,.build 69 #[(0,.tmp 70),(1,.tmp 73),(2,.tmp 77),(3,.tmp 81),(4,.tmp 85)],_,_,_,_⟩) (v:=(.agg xs.toArray)) rfl (Or.inl ⟨by rfl,fun w _=>run_build5 rfl rfl rfl rfl rfl rfl BX.out⟩) hHeld ?_
  (try simp only [Act.put,s0,s1,s2])
  refine wpAnyX_ready (rs:=[17]) (by kernel_rfl) (by simp) ?_
  refine AllReadyX.cons (o:=⟨_,.alloc 69,_,_,_,_⟩) rfl (b:=false) (by kernel_rfl) (fun K hK=>?_) ?_
  go_simp;have GL:=hid (Nat.ne_of_gt RC.out.lt);have HBK:=hid (hHeld.1.size);(first|refine newZ ?_|refine newZd ?_);intro wz HW BW;obtain⟨bk,hbk⟩:=nameB HW.out;have BKN:=hid (show bk≠w2.heap.size∧w6.heap.size≤bk from⟨by rw [← hbk];exact GL.out,by rw [← hbk];exact HBK.out⟩);simp only [hbk] at HW ⊢;clear hbk;have RC:=hid (by first|exact RC.out.keep BW.out|exact R6.out.keep BW.out)
  refine hK.out _ _ (by first|exact⟨hHeld.1.trans (Keep.of BW.out),fun e=>(hHeld.2 e).trans (Keep.of BW.out)⟩|exact⟨Keep.of BW.out,fun _=>Keep.of BW.out⟩) (fun hHeld=>?_)
  clear hK K
  (try simp only [s0,s1,s2])
  refine wpAnyX_ready (rs:=[18]) (by kernel_rfl) (by simp) ?_
  refine AllReadyX.cons (o:=⟨_,.store 69 (.tmp 10) (.tmp 86),_,_,_,_⟩) rfl (b:=true) (by kernel_rfl) (fun K hK=>?_) ?_
  rw [if_pos (by rfl)];refine wp_store_rowZ _ _ _ rfl bk xs.toArray rfl rfl _ _ (by first|exact HW.out|exact KS13.out.heap HW.out BKN.out.1|exact KS13.out.heap (KS9.out.heap HW.out BKN.out.1) BKN.out.1|exact KS13.out.heap (KS9.out.heap (KS5.out.heap HW.out BKN.out.1) BKN.out.1) BKN.out.1|exact KS13.out.heap (KS9.out.heap (KS5.out.heap (KS2.out.heap HW.out BKN.out.1) BKN.out.1) BKN.out.1) BKN.out.1) hiX.out hoX.out h1X.out ?_;intro wy HXR FX
  refine hK.out _ _ (⟨hHeld.1.trans (Keep.far FX.out (Or.inr BKN.out.2)),nofun⟩) (fun hHeld=>?_)
  clear hK K
  (try simp only [s0,s1,s2])
  refine wpAnyX_done (by kernel_rfl) ?_ _
  rotate_left
  exact AllReadyX.nil
  exact AllReadyX.nil
  refine AllReadyX.cons (o:=⟨_,.alloc 69,_,_,_,_⟩) rfl (b:=false) (by kernel_rfl) (fun K hK=>?_) ?_
  go_simp;have GL:=hid (Nat.ne_of_gt RC.out.lt);have HBK:=hid (hHeld.1.size);(first|refine newZ ?_|refine newZd ?_);intro wz HW BW;obtain⟨bk,hbk⟩:=nameB HW.out;have BKN:=hid (show bk≠w2.heap.size∧w6.heap.size≤bk from⟨by rw [← hbk];exact GL.out,by rw [← hbk];exact HBK.out⟩);simp only [hbk] at HW ⊢;clear hbk;have RC:=hid (by first|exact RC.out.keep BW.out|exact R6.out.keep BW.out)
  refine hK.out _ _ (by first|exact⟨hHeld.1.trans (Keep.of BW.out),fun e=>(hHeld.2 e).trans (Keep.of BW.out)⟩|exact⟨Keep.of BW.out,fun _=>Keep.of BW.out⟩) (fun hHeld=>?_)
  clear hK K
  (try simp only [s0,s1,s2])
  refine wpAnyX_ready (rs:=[13]) (by kernel_rfl) (by simp) ?_
  refine AllReadyX.cons (o:=⟨_,.call ⟨.value (.func 45),#[.tmp 82,.const (.int .i64 32)],#[114,3]⟩,_,_,_,_⟩) rfl (b:=false) (by kernel_rfl) (fun K hK=>?_) ?_
  go_simp;refine(take_walk w2.heap.size w1.heap.size 32 _ _ (by decide) (by decide) _ RC.out).mono ?_;rintro e wt13 ⟨at13,ct13,rfl,st13,nt13,rt13,kt13⟩;have RC:=hid rt13;have KT:=hid kt13;have KS13:=hid kt13;rw [← Y3.out] at st13;have ST13:=hid (show ∃b o,at13=some ⟨b,o,none⟩∧wt13.rangeAt b o (nums .u8 y3) from by obtain⟨b,o,h1,_⟩:=st13.opened;exact⟨b,o,h1 (by decide),by have:=h1 (by decide);subst this;exact sl_range st13 (by decide)⟩);obtain⟨bt13,ot13,rfl,sr13⟩:=ST13.out;have SR13:=hid sr13;have NT13:=hid (nt13 _ rfl).1;clear st13 nt13 rt13 kt13 sr13 ST13
  refine hK.out _ _ (⟨hHeld.1.trans (KT.out.mono (fun i h=>Or.inl h)),fun e=>(hHeld.2 e).trans KT.out⟩) (fun hHeld=>?_)
  clear hK K
  (try simp only [s0,s1,s2])
  refine wpAnyX_strong (T:=fun b w'=>Keep (fun i=>i=w2.heap.size∨w6.heap.size≤i) w6 w'∧(b=false→Keep (fun i=>i=w2.heap.size) wt13 w')) (fun b w' h=>⟨h.1,fun e=>(hHeld.2 rfl).trans (h.2 e)⟩) _ _ _ _ ?_
  replace hHeld:Keep (fun i=>i=w2.heap.size∨w6.heap.size≤i) w6 wt13∧(false=false→Keep (fun i=>i=w2.heap.size) wt13 wt13):=⟨hHeld.1,fun _=>Keep.refl _ _⟩
  refine tkE (i:=14) (oi:=⟨_,.sliceToArrayPointer 43 (.tmp 83),_,_,_,_⟩) (v:=?v2009) rfl (yi ?y2009) hHeld ?_
  case y2009=>(intro w _;go_simp;(try with_reducible rfl))
  (try simp only [Act.put,s0,s1,s2])
  refine' tkE (i:=15) (oi:=⟨_,.load 43 (.tmp 84),_,_,_,_⟩) (v:=_) rfl (yieldsIf_load_mid (by rfl) _ _ rfl bt13 ot13 rfl (nums .u8 y3) _ (fun _ h=>Keep.range (h.2 rfl) SR13.out NT13.out) Tryz.underlying43 rfl hiY3.out) hHeld ?_
  (try simp only [Act.put,s0,s1,s2])
  refine tkE (i:=16) (oi:=⟨_,.build 69 #[(0,.tmp 70),(1,.tmp 73),(2,.tmp 77),(3,.tmp 81),(4,.tmp 85)],_,_,_,_⟩) (v:=(.agg xs.toArray)) rfl (Or.inl ⟨by rfl,fun w _=>run_build5 rfl rfl rfl rfl rfl rfl BX.out⟩) hHeld ?_
  (try simp only [Act.put,s0,s1,s2])
  refine wpAnyX_ready (rs:=[18]) (by kernel_rfl) (by simp) ?_
  refine AllReadyX.cons (o:=⟨_,.store 69 (.tmp 10) (.tmp 86),_,_,_,_⟩) rfl (b:=true) (by kernel_rfl) (fun K hK=>?_) ?_
  rw [if_pos (by rfl)];refine wp_store_rowZ _ _ _ rfl bk xs.toArray rfl rfl _ _ (by first|exact HW.out|exact KS13.out.heap HW.out BKN.out.1|exact KS13.out.heap (KS9.out.heap HW.out BKN.out.1) BKN.out.1|exact KS13.out.heap (KS9.out.heap (KS5.out.heap HW.out BKN.out.1) BKN.out.1) BKN.out.1|exact KS13.out.heap (KS9.out.heap (KS5.out.heap (KS2.out.heap HW.out BKN.out.1) BKN.out.1) BKN.out.1) BKN.out.1) hiX.out hoX.out h1X.out ?_;intro wy HXR FX
  refine hK.out _ _ (⟨hHeld.1.trans (Keep.far FX.out (Or.inr BKN.out.2)),nofun⟩) (fun hHeld=>?_)
  clear hK K
  (try simp only [s0,s1,s2])
  refine wpAnyX_done (by kernel_rfl) ?_ _
  rotate_left
  exact AllReadyX.nil
  exact AllReadyX.nil
  exact AllReadyX.nil
  refine AllReadyX.cons (o:=⟨_,.alloc 69,_,_,_,_⟩) rfl (b:=false) (by kernel_rfl) (fun K hK=>?_) ?_
  go_simp;have GL:=hid (Nat.ne_of_gt RC.out.lt);have HBK:=hid (hHeld.1.size);(first|refine newZ ?_|refine newZd ?_);intro wz HW BW;obtain⟨bk,hbk⟩:=nameB HW.out;have BKN:=hid (show bk≠w2.heap.size∧w6.heap.size≤bk from⟨by rw [← hbk];exact GL.out,by rw [← hbk];exact HBK.out⟩);simp only [hbk] at HW ⊢;clear hbk;have RC:=hid (by first|exact RC.out.keep BW.out|exact R6.out.keep BW.out)
  refine hK.out _ _ (by first|exact⟨hHeld.1.trans (Keep.of BW.out),fun e=>(hHeld.2 e).trans (Keep.of BW.out)⟩|exact⟨Keep.of BW.out,fun _=>Keep.of BW.out⟩) (fun hHeld=>?_)
  clear hK K
  (try simp only [s0,s1,s2])
  refine wpAnyX_ready (rs:=[9]) (by kernel_rfl) (by simp) ?_
  refine AllReadyX.cons (o:=⟨_,.call ⟨.value (.func 45),#[.tmp 78,.const (.int .i64 32)],#[114,3]⟩,_,_,_,_⟩) rfl (b:=false) (by kernel_rfl) (fun K hK=>?_) ?_
  go_simp;refine(take_walk w2.heap.size w1.heap.size 32 _ _ (by decide) (by decide) _ RC.out).mono ?_;rintro e wt9 ⟨at9,ct9,rfl,st9,nt9,rt9,kt9⟩;have RC:=hid rt9;have KT:=hid kt9;have KS9:=hid kt9;rw [← Y2.out] at st9;have ST9:=hid (show ∃b o,at9=some ⟨b,o,none⟩∧wt9.rangeAt b o (nums .u8 y2) from by obtain⟨b,o,h1,_⟩:=st9.opened;exact⟨b,o,h1 (by decide),by have:=h1 (by decide);subst this;exact sl_range st9 (by decide)⟩);obtain⟨bt9,ot9,rfl,sr9⟩:=ST9.out;have SR9:=hid sr9;have NT9:=hid (nt9 _ rfl).1;clear st9 nt9 rt9 kt9 sr9 ST9
  refine hK.out _ _ (⟨hHeld.1.trans (KT.out.mono (fun i h=>Or.inl h)),fun e=>(hHeld.2 e).trans KT.out⟩) (fun hHeld=>?_)
  clear hK K
  (try simp only [s0,s1,s2])
  refine wpAnyX_strong (T:=fun b w'=>Keep (fun i=>i=w2.heap.size∨w6.heap.size≤i) w6 w'∧(b=false→Keep (fun i=>i=w2.heap.size) wt9 w')) (fun b w' h=>⟨h.1,fun e=>(hHeld.2 rfl).trans (h.2 e)⟩) _ _ _ _ ?_
  replace hHeld:Keep (fun i=>i=w2.heap.size∨w6.heap.size≤i) w6 wt9∧(false=false→Keep (fun i=>i=w2.heap.size) wt9 wt9):=⟨hHeld.1,fun _=>Keep.refl _ _⟩
  refine tkE (i:=10) (oi:=⟨_,.sliceToArrayPointer 43 (.tmp 79),_,_,_,_⟩) (v:=?v2010) rfl (yi ?y2010) hHeld ?_
  case y2010=>(intro w _;go_simp;(try with_reducible rfl))
  (try simp only [Act.put,s0,s1,s2])
  refine' tkE (i:=11) (oi:=⟨_,.load 43 (.tmp 80),_,_,_,_⟩) (v:=_) rfl (yieldsIf_load_mid (by rfl) _ _ rfl bt9 ot9 rfl (nums .u8 y2) _ (fun _ h=>Keep.range (h.2 rfl) SR9.out NT9.out) Tryz.underlying43 rfl hiY2.out) hHeld ?_
  (try simp only [Act.put,s0,s1,s2])
  refine wpAnyX_ready (rs:=[13]) (by kernel_rfl) (by simp) ?_
  refine AllReadyX.cons (o:=⟨_,.call ⟨.value (.func 45),#[.tmp 82,.const (.int .i64 32)],#[114,3]⟩,_,_,_,_⟩) rfl (b:=false) (by kernel_rfl) (fun K hK=>?_) ?_
  go_simp;refine(take_walk w2.heap.size w1.heap.size 32 _ _ (by decide) (by decide) _ RC.out).mono ?_;rintro e wt13 ⟨at13,ct13,rfl,st13,nt13,rt13,kt13⟩;have RC:=hid rt13;have KT:=hid kt13;have KS13:=hid kt13;rw [← Y3.out] at st13;have ST13:=hid (show ∃b o,at13=some ⟨b,o,none⟩∧wt13.rangeAt b o (nums .u8 y3) from by obtain⟨b,o,h1,_⟩:=st13.opened;exact⟨b,o,h1 (by decide),by have:=h1 (by decide);subst this;exact sl_range st13 (by decide)⟩);obtain⟨bt13,ot13,rfl,sr13⟩:=ST13.out;have SR13:=hid sr13;have NT13:=hid (nt13 _ rfl).1;clear st13 nt13 rt13 kt13 sr13 ST13
  refine hK.out _ _ (⟨hHeld.1.trans (KT.out.mono (fun i h=>Or.inl h)),fun e=>(hHeld.2 e).trans KT.out⟩) (fun hHeld=>?_)
  clear hK K
  (try simp only [s0,s1,s2])
  refine wpAnyX_strong (T:=fun b w'=>Keep (fun i=>i=w2.heap.size∨w6.heap.size≤i) w6 w'∧(b=false→Keep (fun i=>i=w2.heap.size) wt13 w')) (fun b w' h=>⟨h.1,fun e=>(hHeld.2 rfl).trans (h.2 e)⟩) _ _ _ _ ?_
  replace hHeld:Keep (fun i=>i=w2.heap.size∨w6.heap.size≤i) w6 wt13∧(false=false→Keep (fun i=>i=w2.heap.size) wt13 wt13):=⟨hHeld.1,fun _=>Keep.refl _ _⟩
  refine tkE (i:=14) (oi:=⟨_,.sliceToArrayPointer 43 (.tmp 83),_,_,_,_⟩) (v:=?v2011) rfl (yi ?y2011) hHeld ?_
  case y2011=>(intro w _;go_simp;(try with_reducible rfl))
  (try simp only [Act.put,s0,s1,s2])
  refine' tkE (i:=15) (oi:=⟨_,.load 43 (.tmp 84),_,_,_,_⟩) (v:=_) rfl (yieldsIf_load_mid (by rfl) _ _ rfl bt13 ot13 rfl (nums .u8 y3) _ (fun _ h=>Keep.range (h.2 rfl) SR13.out NT13.out) Tryz.underlying43 rfl hiY3.out) hHeld ?_
  (try simp only [Act.put,s0,s1,s2])
  refine tkE (i:=16) (oi:=⟨_,.build 69 #[(0,.tmp 70),(1,.tmp 73),(2,.tmp 77),(3,.tmp 81),(4,.tmp 85)],_,_,_,_⟩) (v:=(.agg xs.toArray)) rfl (Or.inl ⟨by rfl,fun w _=>run_build5 rfl rfl rfl rfl rfl rfl BX.out⟩) hHeld ?_
  (try simp only [Act.put,s0,s1,s2])
  refine wpAnyX_ready (rs:=[18]) (by kernel_rfl) (by simp) ?_
  refine AllReadyX.cons (o:=⟨_,.store 69 (.tmp 10) (.tmp 86),_,_,_,_⟩) rfl (b:=true) (by kernel_rfl) (fun K hK=>?_) ?_
  rw [if_pos (by rfl)];refine wp_store_rowZ _ _ _ rfl bk xs.toArray rfl rfl _ _ (by first|exact HW.out|exact KS13.out.heap HW.out BKN.out.1|exact KS13.out.heap (KS9.out.heap HW.out BKN.out.1) BKN.out.1|exact KS13.out.heap (KS9.out.heap (KS5.out.heap HW.out BKN.out.1) BKN.out.1) BKN.out.1|exact KS13.out.heap (KS9.out.heap (KS5.out.heap (KS2.out.heap HW.out BKN.out.1) BKN.out.1) BKN.out.1) BKN.out.1) hiX.out hoX.out h1X.out ?_;intro wy HXR FX
  refine hK.out _ _ (⟨hHeld.1.trans (Keep.far FX.out (Or.inr BKN.out.2)),nofun⟩) (fun hHeld=>?_)
  clear hK K
  (try simp only [s0,s1,s2])
  refine wpAnyX_done (by kernel_rfl) ?_ _
  rotate_left
  exact AllReadyX.nil
  exact AllReadyX.nil
  exact AllReadyX.nil
  exact AllReadyX.nil
  refine AllReadyX.cons (o:=⟨_,.alloc 69,_,_,_,_⟩) rfl (b:=false) (by kernel_rfl) (fun K hK=>?_) ?_
  go_simp;have GL:=hid (Nat.ne_of_gt RC.out.lt);have HBK:=hid (hHeld.1.size);(first|refine newZ ?_|refine newZd ?_);intro wz HW BW;obtain⟨bk,hbk⟩:=nameB HW.out;have BKN:=hid (show bk≠w2.heap.size∧w6.heap.size≤bk from⟨by rw [← hbk];exact GL.out,by rw [← hbk];exact HBK.out⟩);simp only [hbk] at HW ⊢;clear hbk;have RC:=hid (by first|exact RC.out.keep BW.out|exact R6.out.keep BW.out)
  refine hK.out _ _ (by first|exact⟨hHeld.1.trans (Keep.of BW.out),fun e=>(hHeld.2 e).trans (Keep.of BW.out)⟩|exact⟨Keep.of BW.out,fun _=>Keep.of BW.out⟩) (fun hHeld=>?_)
  clear hK K
  (try simp only [s0,s1,s2])
  refine wpAnyX_ready (rs:=[5]) (by kernel_rfl) (by simp) ?_
  refine AllReadyX.cons (o:=⟨_,.call ⟨.value (.func 45),#[.tmp 74,.const (.int .i64 32)],#[114,3]⟩,_,_,_,_⟩) rfl (b:=false) (by kernel_rfl) (fun K hK=>?_) ?_
  go_simp;refine(take_walk w2.heap.size w1.heap.size 32 _ _ (by decide) (by decide) _ RC.out).mono ?_;rintro e wt5 ⟨at5,ct5,rfl,st5,nt5,rt5,kt5⟩;have RC:=hid rt5;have KT:=hid kt5;have KS5:=hid kt5;rw [← Y1.out] at st5;have ST5:=hid (show ∃b o,at5=some ⟨b,o,none⟩∧wt5.rangeAt b o (nums .u8 y1) from by obtain⟨b,o,h1,_⟩:=st5.opened;exact⟨b,o,h1 (by decide),by have:=h1 (by decide);subst this;exact sl_range st5 (by decide)⟩);obtain⟨bt5,ot5,rfl,sr5⟩:=ST5.out;have SR5:=hid sr5;have NT5:=hid (nt5 _ rfl).1;clear st5 nt5 rt5 kt5 sr5 ST5
  refine hK.out _ _ (⟨hHeld.1.trans (KT.out.mono (fun i h=>Or.inl h)),fun e=>(hHeld.2 e).trans KT.out⟩) (fun hHeld=>?_)
  clear hK K
  (try simp only [s0,s1,s2])
  refine wpAnyX_strong (T:=fun b w'=>Keep (fun i=>i=w2.heap.size∨w6.heap.size≤i) w6 w'∧(b=false→Keep (fun i=>i=w2.heap.size) wt5 w')) (fun b w' h=>⟨h.1,fun e=>(hHeld.2 rfl).trans (h.2 e)⟩) _ _ _ _ ?_
  replace hHeld:Keep (fun i=>i=w2.heap.size∨w6.heap.size≤i) w6 wt5∧(false=false→Keep (fun i=>i=w2.heap.size) wt5 wt5):=⟨hHeld.1,fun _=>Keep.refl _ _⟩
  refine tkE (i:=6) (oi:=⟨_,.sliceToArrayPointer 43 (.tmp 75),_,_,_,_⟩) (v:=?v2012) rfl (yi ?y2012) hHeld ?_
  case y2012=>(intro w _;go_simp;(try with_reducible rfl))
  (try simp only [Act.put,s0,s1,s2])
  refine' tkE (i:=7) (oi:=⟨_,.load 43 (.tmp 76),_,_,_,_⟩) (v:=_) rfl (yieldsIf_load_mid (by rfl) _ _ rfl bt5 ot5 rfl (nums .u8 y1) _ (fun _ h=>Keep.range (h.2 rfl) SR5.out NT5.out) Tryz.underlying43 rfl hiY1.out) hHeld ?_
  (try simp only [Act.put,s0,s1,s2])
  refine wpAnyX_ready (rs:=[9]) (by kernel_rfl) (by simp) ?_
  refine AllReadyX.cons (o:=⟨_,.call ⟨.value (.func 45),#[.tmp 78,.const (.int .i64 32)],#[114,3]⟩,_,_,_,_⟩) rfl (b:=false) (by kernel_rfl) (fun K hK=>?_) ?_
  go_simp;refine(take_walk w2.heap.size w1.heap.size 32 _ _ (by decide) (by decide) _ RC.out).mono ?_;rintro e wt9 ⟨at9,ct9,rfl,st9,nt9,rt9,kt9⟩;have RC:=hid rt9;have KT:=hid kt9;have KS9:=hid kt9;rw [← Y2.out] at st9;have ST9:=hid (show ∃b o,at9=some ⟨b,o,none⟩∧wt9.rangeAt b o (nums .u8 y2) from by obtain⟨b,o,h1,_⟩:=st9.opened;exact⟨b,o,h1 (by decide),by have:=h1 (by decide);subst this;exact sl_range st9 (by decide)⟩);obtain⟨bt9,ot9,rfl,sr9⟩:=ST9.out;have SR9:=hid sr9;have NT9:=hid (nt9 _ rfl).1;clear st9 nt9 rt9 kt9 sr9 ST9
  refine hK.out _ _ (⟨hHeld.1.trans (KT.out.mono (fun i h=>Or.inl h)),fun e=>(hHeld.2 e).trans KT.out⟩) (fun hHeld=>?_)
  clear hK K
  (try simp only [s0,s1,s2])
  refine wpAnyX_strong (T:=fun b w'=>Keep (fun i=>i=w2.heap.size∨w6.heap.size≤i) w6 w'∧(b=false→Keep (fun i=>i=w2.heap.size) wt9 w')) (fun b w' h=>⟨h.1,fun e=>(hHeld.2 rfl).trans (h.2 e)⟩) _ _ _ _ ?_
  replace hHeld:Keep (fun i=>i=w2.heap.size∨w6.heap.size≤i) w6 wt9∧(false=false→Keep (fun i=>i=w2.heap.size) wt9 wt9):=⟨hHeld.1,fun _=>Keep.refl _ _⟩
  refine tkE (i:=10) (oi:=⟨_,.sliceToArrayPointer 43 (.tmp 79),_,_,_,_⟩) (v:=?v2013) rfl (yi ?y2013) hHeld ?_
  case y2013=>(intro w _;go_simp;(try with_reducible rfl))
  (try simp only [Act.put,s0,s1,s2])
  refine' tkE (i:=11) (oi:=⟨_,.load 43 (.tmp 80),_,_,_,_⟩) (v:=_) rfl (yieldsIf_load_mid (by rfl) _ _ rfl bt9 ot9 rfl (nums .u8 y2) _ (fun _ h=>Keep.range (h.2 rfl) SR9.out NT9.out) Tryz.underlying43 rfl hiY2.out) hHeld ?_
  (try simp only [Act.put,s0,s1,s2])
  refine wpAnyX_ready (rs:=[13]) (by kernel_rfl) (by simp) ?_
  refine AllReadyX.cons (o:=⟨_,.call ⟨.value (.func 45),#[.tmp 82,.const (.int .i64 32)],#[114,3]⟩,_,_,_,_⟩) rfl (b:=false) (by kernel_rfl) (fun K hK=>?_) ?_
  go_simp;refine(take_walk w2.heap.size w1.heap.size 32 _ _ (by decide) (by decide) _ RC.out).mono ?_;rintro e wt13 ⟨at13,ct13,rfl,st13,nt13,rt13,kt13⟩;have RC:=hid rt13;have KT:=hid kt13;have KS13:=hid kt13;rw [← Y3.out] at st13;have ST13:=hid (show ∃b o,at13=some ⟨b,o,none⟩∧wt13.rangeAt b o (nums .u8 y3) from by obtain⟨b,o,h1,_⟩:=st13.opened;exact⟨b,o,h1 (by decide),by have:=h1 (by decide);subst this;exact sl_range st13 (by decide)⟩);obtain⟨bt13,ot13,rfl,sr13⟩:=ST13.out;have SR13:=hid sr13;have NT13:=hid (nt13 _ rfl).1;clear st13 nt13 rt13 kt13 sr13 ST13
  refine hK.out _ _ (⟨hHeld.1.trans (KT.out.mono (fun i h=>Or.inl h)),fun e=>(hHeld.2 e).trans KT.out⟩) (fun hHeld=>?_)
  clear hK K
  (try simp only [s0,s1,s2])
  refine wpAnyX_strong (T:=fun b w'=>Keep (fun i=>i=w2.heap.size∨w6.heap.size≤i) w6 w'∧(b=false→Keep (fun i=>i=w2.heap.size) wt13 w')) (fun b w' h=>⟨h.1,fun e=>(hHeld.2 rfl).trans (h.2 e)⟩) _ _ _ _ ?_
  replace hHeld:Keep (fun i=>i=w2.heap.size∨w6.heap.size≤i) w6 wt13∧(false=false→Keep (fun i=>i=w2.heap.size) wt13 wt13):=⟨hHeld.1,fun _=>Keep.refl _ _⟩
  refine tkE (i:=14) (oi:=⟨_,.sliceToArrayPointer 43 (.tmp 83),_,_,_,_⟩) (v:=?v2014) rfl (yi ?y2014) hHeld ?_
  case y2014=>(intro w _;go_simp;(try with_reducible rfl))
  (try simp only [Act.put,s0,s1,s2])
  refine' tkE (i:=15) (oi:=⟨_,.load 43 (.tmp 84),_,_,_,_⟩) (v:=_) rfl (yieldsIf_load_mid (by rfl) _ _ rfl bt13 ot13 rfl (nums .u8 y3) _ (fun _ h=>Keep.range (h.2 rfl) SR13.out NT13.out) Tryz.underlying43 rfl hiY3.out) hHeld ?_
  (try simp only [Act.put,s0,s1,s2])
  refine tkE (i:=16) (oi:=⟨_,.build 69 #[(0,.tmp 70),(1,.tmp 73),(2,.tmp 77),(3,.tmp 81),(4,.tmp 85)],_,_,_,_⟩) (v:=(.agg xs.toArray)) rfl (Or.inl ⟨by rfl,fun w _=>run_build5 rfl rfl rfl rfl rfl rfl BX.out⟩) hHeld ?_
  (try simp only [Act.put,s0,s1,s2])
  refine wpAnyX_ready (rs:=[18]) (by kernel_rfl) (by simp) ?_
  refine AllReadyX.cons (o:=⟨_,.store 69 (.tmp 10) (.tmp 86),_,_,_,_⟩) rfl (b:=true) (by kernel_rfl) (fun K hK=>?_) ?_
  rw [if_pos (by rfl)];refine wp_store_rowZ _ _ _ rfl bk xs.toArray rfl rfl _ _ (by first|exact HW.out|exact KS13.out.heap HW.out BKN.out.1|exact KS13.out.heap (KS9.out.heap HW.out BKN.out.1) BKN.out.1|exact KS13.out.heap (KS9.out.heap (KS5.out.heap HW.out BKN.out.1) BKN.out.1) BKN.out.1|exact KS13.out.heap (KS9.out.heap (KS5.out.heap (KS2.out.heap HW.out BKN.out.1) BKN.out.1) BKN.out.1) BKN.out.1) hiX.out hoX.out h1X.out ?_;intro wy HXR FX
  refine hK.out _ _ (⟨hHeld.1.trans (Keep.far FX.out (Or.inr BKN.out.2)),nofun⟩) (fun hHeld=>?_)
  clear hK K
  (try simp only [s0,s1,s2])
  refine wpAnyX_done (by kernel_rfl) ?_ _
  rotate_left
  exact AllReadyX.nil
  exact AllReadyX.nil
  exact AllReadyX.nil
  exact AllReadyX.nil
  exact AllReadyX.nil
  refine AllReadyX.cons (o:=⟨_,.alloc 69,_,_,_,_⟩) rfl (b:=false) (by kernel_rfl) (fun K hK=>?_) ?_
  go_simp;have GL:=hid (Nat.ne_of_gt RC.out.lt);have HBK:=hid (hHeld.1.size);(first|refine newZ ?_|refine newZd ?_);intro wz HW BW;obtain⟨bk,hbk⟩:=nameB HW.out;have BKN:=hid (show bk≠w2.heap.size∧w6.heap.size≤bk from⟨by rw [← hbk];exact GL.out,by rw [← hbk];exact HBK.out⟩);simp only [hbk] at HW ⊢;clear hbk;have RC:=hid (by first|exact RC.out.keep BW.out|exact R6.out.keep BW.out)
  refine hK.out _ _ (by first|exact⟨hHeld.1.trans (Keep.of BW.out),fun e=>(hHeld.2 e).trans (Keep.of BW.out)⟩|exact⟨Keep.of BW.out,fun _=>Keep.of BW.out⟩) (fun hHeld=>?_)
  clear hK K
  (try simp only [s0,s1,s2])
  refine wpAnyX_ready (rs:=[2]) (by kernel_rfl) (by simp) ?_
  refine AllReadyX.cons (o:=⟨_,.call ⟨.value (.func 46),#[.tmp 71,.const (.int .i64 1)],#[114,3]⟩,_,_,_,_⟩) rfl (b:=false) (by kernel_rfl) (fun K hK=>?_) ?_
  go_simp;refine(tnum_walk w2.heap.size w1.heap.size 1 _ _ (by decide) (by decide) _ RC.out).mono ?_;rintro e wt2 ⟨rfl,rt2,kt2⟩;have RC:=hid rt2;have KT:=hid kt2;have KS2:=hid kt2;rw [← PV.out];clear rt2 kt2
  refine hK.out _ _ (⟨hHeld.1.trans (KT.out.mono (fun i h=>Or.inl h)),fun e=>(hHeld.2 e).trans KT.out⟩) (fun hHeld=>?_)
  clear hK K
  (try simp only [s0,s1,s2])
  refine wpAnyX_strong (T:=fun b w'=>Keep (fun i=>i=w2.heap.size∨w6.heap.size≤i) w6 w'∧(b=false→Keep (fun i=>i=w2.heap.size) wt2 w')) (fun b w' h=>⟨h.1,fun e=>(hHeld.2 rfl).trans (h.2 e)⟩) _ _ _ _ ?_
  replace hHeld:Keep (fun i=>i=w2.heap.size∨w6.heap.size≤i) w6 wt2∧(false=false→Keep (fun i=>i=w2.heap.size) wt2 wt2):=⟨hHeld.1,fun _=>Keep.refl _ _⟩
  refine tkE (i:=3) (oi:=⟨_,.convert 63 3 (.tmp 72),_,_,_,_⟩) (v:=?v2015) rfl (yi ?y2015) hHeld ?_
  case y2015=>(intro w _;go_simp;(try with_reducible rfl))
  (try simp only [Act.put,s0,s1,s2])
  refine wpAnyX_ready (rs:=[5]) (by kernel_rfl) (by simp) ?_
  refine AllReadyX.cons (o:=⟨_,.call ⟨.value (.func 45),#[.tmp 74,.const (.int .i64 32)],#[114,3]⟩,_,_,_,_⟩) rfl (b:=false) (by kernel_rfl) (fun K hK=>?_) ?_
  go_simp;refine(take_walk w2.heap.size w1.heap.size 32 _ _ (by decide) (by decide) _ RC.out).mono ?_;rintro e wt5 ⟨at5,ct5,rfl,st5,nt5,rt5,kt5⟩;have RC:=hid rt5;have KT:=hid kt5;have KS5:=hid kt5;rw [← Y1.out] at st5;have ST5:=hid (show ∃b o,at5=some ⟨b,o,none⟩∧wt5.rangeAt b o (nums .u8 y1) from by obtain⟨b,o,h1,_⟩:=st5.opened;exact⟨b,o,h1 (by decide),by have:=h1 (by decide);subst this;exact sl_range st5 (by decide)⟩);obtain⟨bt5,ot5,rfl,sr5⟩:=ST5.out;have SR5:=hid sr5;have NT5:=hid (nt5 _ rfl).1;clear st5 nt5 rt5 kt5 sr5 ST5
  refine hK.out _ _ (⟨hHeld.1.trans (KT.out.mono (fun i h=>Or.inl h)),fun e=>(hHeld.2 e).trans KT.out⟩) (fun hHeld=>?_)
  clear hK K
  (try simp only [s0,s1,s2])
  refine wpAnyX_strong (T:=fun b w'=>Keep (fun i=>i=w2.heap.size∨w6.heap.size≤i) w6 w'∧(b=false→Keep (fun i=>i=w2.heap.size) wt5 w')) (fun b w' h=>⟨h.1,fun e=>(hHeld.2 rfl).trans (h.2 e)⟩) _ _ _ _ ?_
  replace hHeld:Keep (fun i=>i=w2.heap.size∨w6.heap.size≤i) w6 wt5∧(false=false→Keep (fun i=>i=w2.heap.size) wt5 wt5):=⟨hHeld.1,fun _=>Keep.refl _ _⟩
  refine tkE (i:=6) (oi:=⟨_,.sliceToArrayPointer 43 (.tmp 75),_,_,_,_⟩) (v:=?v2016) rfl (yi ?y2016) hHeld ?_
  case y2016=>(intro w _;go_simp;(try with_reducible rfl))
  (try simp only [Act.put,s0,s1,s2])
  refine' tkE (i:=7) (oi:=⟨_,.load 43 (.tmp 76),_,_,_,_⟩) (v:=_) rfl (yieldsIf_load_mid (by rfl) _ _ rfl bt5 ot5 rfl (nums .u8 y1) _ (fun _ h=>Keep.range (h.2 rfl) SR5.out NT5.out) Tryz.underlying43 rfl hiY1.out) hHeld ?_
  (try simp only [Act.put,s0,s1,s2])
  refine wpAnyX_ready (rs:=[9]) (by kernel_rfl) (by simp) ?_
  refine AllReadyX.cons (o:=⟨_,.call ⟨.value (.func 45),#[.tmp 78,.const (.int .i64 32)],#[114,3]⟩,_,_,_,_⟩) rfl (b:=false) (by kernel_rfl) (fun K hK=>?_) ?_
  go_simp;refine(take_walk w2.heap.size w1.heap.size 32 _ _ (by decide) (by decide) _ RC.out).mono ?_;rintro e wt9 ⟨at9,ct9,rfl,st9,nt9,rt9,kt9⟩;have RC:=hid rt9;have KT:=hid kt9;have KS9:=hid kt9;rw [← Y2.out] at st9;have ST9:=hid (show ∃b o,at9=some ⟨b,o,none⟩∧wt9.rangeAt b o (nums .u8 y2) from by obtain⟨b,o,h1,_⟩:=st9.opened;exact⟨b,o,h1 (by decide),by have:=h1 (by decide);subst this;exact sl_range st9 (by decide)⟩);obtain⟨bt9,ot9,rfl,sr9⟩:=ST9.out;have SR9:=hid sr9;have NT9:=hid (nt9 _ rfl).1;clear st9 nt9 rt9 kt9 sr9 ST9
  refine hK.out _ _ (⟨hHeld.1.trans (KT.out.mono (fun i h=>Or.inl h)),fun e=>(hHeld.2 e).trans KT.out⟩) (fun hHeld=>?_)
  clear hK K
  (try simp only [s0,s1,s2])
  refine wpAnyX_strong (T:=fun b w'=>Keep (fun i=>i=w2.heap.size∨w6.heap.size≤i) w6 w'∧(b=false→Keep (fun i=>i=w2.heap.size) wt9 w')) (fun b w' h=>⟨h.1,fun e=>(hHeld.2 rfl).trans (h.2 e)⟩) _ _ _ _ ?_
  replace hHeld:Keep (fun i=>i=w2.heap.size∨w6.heap.size≤i) w6 wt9∧(false=false→Keep (fun i=>i=w2.heap.size) wt9 wt9):=⟨hHeld.1,fun _=>Keep.refl _ _⟩
  refine tkE (i:=10) (oi:=⟨_,.sliceToArrayPointer 43 (.tmp 79),_,_,_,_⟩) (v:=?v2017) rfl (yi ?y2017) hHeld ?_
  case y2017=>(intro w _;go_simp;(try with_reducible rfl))
  (try simp only [Act.put,s0,s1,s2])
  refine' tkE (i:=11) (oi:=⟨_,.load 43 (.tmp 80),_,_,_,_⟩) (v:=_) rfl (yieldsIf_load_mid (by rfl) _ _ rfl bt9 ot9 rfl (nums .u8 y2) _ (fun _ h=>Keep.range (h.2 rfl) SR9.out NT9.out) Tryz.underlying43 rfl hiY2.out) hHeld ?_
  (try simp only [Act.put,s0,s1,s2])
  refine wpAnyX_ready (rs:=[13]) (by kernel_rfl) (by simp) ?_
  refine AllReadyX.cons (o:=⟨_,.call ⟨.value (.func 45),#[.tmp 82,.const (.int .i64 32)],#[114,3]⟩,_,_,_,_⟩) rfl (b:=false) (by kernel_rfl) (fun K hK=>?_) ?_
  go_simp;refine(take_walk w2.heap.size w1.heap.size 32 _ _ (by decide) (by decide) _ RC.out).mono ?_;rintro e wt13 ⟨at13,ct13,rfl,st13,nt13,rt13,kt13⟩;have RC:=hid rt13;have KT:=hid kt13;have KS13:=hid kt13;rw [← Y3.out] at st13;have ST13:=hid (show ∃b o,at13=some ⟨b,o,none⟩∧wt13.rangeAt b o (nums .u8 y3) from by obtain⟨b,o,h1,_⟩:=st13.opened;exact⟨b,o,h1 (by decide),by have:=h1 (by decide);subst this;exact sl_range st13 (by decide)⟩);obtain⟨bt13,ot13,rfl,sr13⟩:=ST13.out;have SR13:=hid sr13;have NT13:=hid (nt13 _ rfl).1;clear st13 nt13 rt13 kt13 sr13 ST13
  refine hK.out _ _ (⟨hHeld.1.trans (KT.out.mono (fun i h=>Or.inl h)),fun e=>(hHeld.2 e).trans KT.out⟩) (fun hHeld=>?_)
  clear hK K
  (try simp only [s0,s1,s2])
  refine wpAnyX_strong (T:=fun b w'=>Keep (fun i=>i=w2.heap.size∨w6.heap.size≤i) w6 w'∧(b=false→Keep (fun i=>i=w2.heap.size) wt13 w')) (fun b w' h=>⟨h.1,fun e=>(hHeld.2 rfl).trans (h.2 e)⟩) _ _ _ _ ?_
  replace hHeld:Keep (fun i=>i=w2.heap.size∨w6.heap.size≤i) w6 wt13∧(false=false→Keep (fun i=>i=w2.heap.size) wt13 wt13):=⟨hHeld.1,fun _=>Keep.refl _ _⟩
  refine tkE (i:=14) (oi:=⟨_,.sliceToArrayPointer 43 (.tmp 83),_,_,_,_⟩) (v:=?v2018) rfl (yi ?y2018) hHeld ?_
  case y2018=>(intro w _;go_simp;(try with_reducible rfl))
  (try simp only [Act.put,s0,s1,s2])
  refine' tkE (i:=15) (oi:=⟨_,.load 43 (.tmp 84),_,_,_,_⟩) (v:=_) rfl (yieldsIf_load_mid (by rfl) _ _ rfl bt13 ot13 rfl (nums .u8 y3) _ (fun _ h=>Keep.range (h.2 rfl) SR13.out NT13.out) Tryz.underlying43 rfl hiY3.out) hHeld ?_
  (try simp only [Act.put,s0,s1,s2])
  refine tkE (i:=16) (oi:=⟨_,.build 69 #[(0,.tmp 70),(1,.tmp 73),(2,.tmp 77),(3,.tmp 81),(4,.tmp 85)],_,_,_,_⟩) (v:=(.agg xs.toArray)) rfl (Or.inl ⟨by rfl,fun w _=>run_build5 rfl rfl rfl rfl rfl rfl BX.out⟩) hHeld ?_
  (try simp only [Act.put,s0,s1,s2])
  refine wpAnyX_ready (rs:=[18]) (by kernel_rfl) (by simp) ?_
  refine AllReadyX.cons (o:=⟨_,.store 69 (.tmp 10) (.tmp 86),_,_,_,_⟩) rfl (b:=true) (by kernel_rfl) (fun K hK=>?_) ?_
  rw [if_pos (by rfl)];refine wp_store_rowZ _ _ _ rfl bk xs.toArray rfl rfl _ _ (by first|exact HW.out|exact KS13.out.heap HW.out BKN.out.1|exact KS13.out.heap (KS9.out.heap HW.out BKN.out.1) BKN.out.1|exact KS13.out.heap (KS9.out.heap (KS5.out.heap HW.out BKN.out.1) BKN.out.1) BKN.out.1|exact KS13.out.heap (KS9.out.heap (KS5.out.heap (KS2.out.heap HW.out BKN.out.1) BKN.out.1) BKN.out.1) BKN.out.1) hiX.out hoX.out h1X.out ?_;intro wy HXR FX
  refine hK.out _ _ (⟨hHeld.1.trans (Keep.far FX.out (Or.inr BKN.out.2)),nofun⟩) (fun hHeld=>?_)
  clear hK K
  (try simp only [s0,s1,s2])
  refine wpAnyX_done (by kernel_rfl) ?_ _
  rotate_left
  exact AllReadyX.nil
  exact AllReadyX.nil
  exact AllReadyX.nil
  exact AllReadyX.nil
  exact AllReadyX.nil
  exact AllReadyX.nil
  all_goals (refine MID.out bk _ _ _ _ _ _ _ _ _ _ _ _ _ _ _ _ _ wy BKN.out.2 BKN.out.1 HXR.out hHeld.1 ?_;exact RC.out.kept (Keep.far' FX.out) (fun e=>BKN.out.1 e.symm) (fun i hi e=>by have:=BKN.out.2;have:=K6.out.size;have:=L6.out;have:=L7.out;omega))
end Go.Proofs.YtnbmpgballopeaaGreatDoor

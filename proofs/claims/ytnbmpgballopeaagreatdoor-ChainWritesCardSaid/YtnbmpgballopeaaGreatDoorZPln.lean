/- The law's plain: a transaction as the reference has it. -/
import Derived.Test.YtnbmpgballopeaaGreatDoorZStr
import Derived.Test.YtnbmpgballopeaaGreatDoorZPlo
import Derived.Test.YtnbmpgballopeaaGreatDoorZCen
namespace Go.Proofs.YtnbmpgballopeaaGreatDoor
open Go.RowKit
def PlnR(w:World)(t:TxD)(e:Ending)(w':World):Prop:=∃u:TxD,e = .returned (.agg u.cells.toArray)∧u.good w'∧u.ins=t.ins∧u.outs.map OutD.bare=t.outs.map OutD.bare∧Below w.heap.size w w'
theorem InD.tx32{i:InD}(h:i.ok):(i.cells.drop 0).take 32=nums .u8 i.tx:=by
 unfold InD.cells
 rw [List.drop_zero,List.take_left' (by simp [h.tx.1])]
structure PlnS (w0:World) (B T:Nat) (vi:Value) (ts:List OutD) (k:Nat) (wr:World) (os:List OutD) (vo:Value):Prop where
 row:wr.heap[T]? = some (.cells [vi,vo].toArray 37 (0,0))
 len:os.length=k
 own:wr.ownsRow B 96 34 vo k (os.flatMap OutD.cells)
 ok:∀o∈os,o.good wr
 at':∀o∈os,∀ad,o.pa=some ad→B≤ad.block∧ad.block<wr.heap.size∧vo.ownBlock≠some ad.block
 eq:os.map OutD.bare=(ts.take k).map OutD.bare
 keep:Keep (fun i=>i=T) w0 wr
set_option maxRecDepth 100000 in
set_option maxHeartbeats 8000000 in
theorem pln_walk(t:TxD)(w:World)(h:t.good w)(hn:t.ins.length≤4096∧t.outs.length≤4096)(hp:∀o∈t.outs,o.paths.length≤4096):Calls Tryz.prog 8 #[.agg t.cells.toArray] w (PlnR w t):=by
 have G:=hid h
 have HN:=hid hn
 have HP4:=hid hp
 obtain⟨N,hN⟩:∃N,N=t.ins.length:=⟨_,rfl⟩
 obtain⟨M,hM⟩:∃M,M=t.outs.length:=⟨_,rfl⟩
 obtain⟨ia,hia⟩:∃ia,ia=t.ia:=⟨_,rfl⟩
 obtain⟨ic,hic⟩:∃ic,ic=t.ic:=⟨_,rfl⟩
 obtain⟨oa,hoa⟩:∃oa,oa=t.oa:=⟨_,rfl⟩
 obtain⟨oc,hoc⟩:∃oc,oc=t.oc:=⟨_,rfl⟩
 obtain⟨tc,htc⟩:∃tc,tc=t.cells:=⟨_,rfl⟩
 have NN:=hid (And.intro hN hM)
 have PI:=hid (show Rd w 130 ia N ic (t.ins.flatMap InD.cells) by rw [hia,hic,hN];exact h.ins)
 have PO:=hid (show Rd w 34 oa M oc (t.outs.flatMap OutD.cells) by rw [hoa,hoc,hM];exact h.outs)
 have TCE:=hid (show tc=[.slice ia N ic,.slice oa M oc] by rw [htc];unfold TxD.cells;rw [hia,hic,hN,hoa,hoc,hM])
 have BZ:=hid (show Tryz.prog.built 37 []=some zTx from by kernel_rfl)
 have hiZ:=hid (show(Tryz.prog.info? 37).map (·.size)=some zTx.size from by kernel_rfl)
 have h1Z:=hid (show(zTx.all fun x=>x.oneCell')=true from by kernel_rfl)
 have ZT:∀w:World,(zeroValue 37).run Tryz.prog w = .ok (.agg zTx) w:=zv_of (by kernel_rfl)
 have A2:=alloc2p w (.cells tc.toArray 25) (.cells zTx 37)
 have HA:=hid A2.1
 have HR:=hid A2.2.1
 have B1:=hid A2.2.2.2
 rw [← htc]
 clear h hn hp hN hM hia hic hoa hoc htc A2
 go_enter Tryz.func8,Tryz.ntmps8
 go_upto_region 1 with(fail)
 generalize (w.alloc (.cells tc.toArray 25)).alloc (.cells zTx 37)=w1 at *
 go_upto_region 2 with(first|with_reducible refine wpList_mk0 BZ.out ?_|(refine wpList_store_row rfl _ _ _ rfl w1.heap.size zTx rfl rfl _ _ (heap_alloc_new _ _) hiZ.out rfl h1Z.out ?_;refine laidW (F:=fun w2=>wpList _ _ _ _ _ w2) ?_;intro w2 h2 b2))
 have HA2:=hid (heap_keep HA.out b2.out)
 have HR2:=hid (heap_keep HR.out b2.out)
 have H2:=hid (show w2.heap[w1.heap.size]? = some (.cells [Value.slice none 0 0,Value.slice none 0 0].toArray 37 (0,0)) from h2.out)
 have B2:=hid (B1.out.trans (b2.out.mono B1.out.size))
 have W1:=hid (show w.heap.size+1<w1.heap.size from(Array.getElem?_eq_some_iff.1 HR.out).1)
 have W2:=hid (show w1.heap.size<w2.heap.size from(Array.getElem?_eq_some_iff.1 h2.out).1)
 have k0:w2.cell? ⟨w.heap.size,0,none⟩=some (.slice ia N ic):=gen_cell (j:=0) (row_range HA2.out) (by rw [TCE.out];rfl)
 have K1:=hid (show w2.cell? ⟨w.heap.size,1,none⟩=some (.slice oa M oc) from gen_cell (j:=1) (row_range HA2.out) (by rw [TCE.out];rfl))
 clear h2 b2 HA HR
 go_upto_region 3 with(fail)
 clear k0
 go_loopw [12] (fun x12 wr=>∃(k:Nat) (vi:Value),k≤N∧x12 = .int .i64 (k:Int)∧wr.heap[w1.heap.size]? = some (.cells [vi,Value.slice none 0 0].toArray 37 (0,0))∧wr.ownsRow w2.heap.size 88 130 vi k ((t.ins.take k).flatMap InD.cells)∧Keep (fun i=>i=w1.heap.size) w2 wr) (fun x12 _=>N - (intOf x12).toNat)
 case atStart=>exact⟨0,_,Nat.zero_le _,rfl,H2.out,⟨by simp,.inl ⟨rfl,rfl⟩⟩,Keep.refl _ _⟩
 case round=>
  obtain⟨k,vi,hk,rfl,hr,ho,hb⟩:=hrel
  obtain⟨wo,rfl⟩:∃wo,wo=wr:=⟨_,rfl⟩
  have RO:=hid hr
  have OW:=hid ho
  have KB:=hid hb
  have BW:=hid (show Below w.heap.size w wo from B2.out.trans (hb.below (B:=w.heap.size) (fun i e=>by have:=W1.out;omega) B2.out.size))
  have WO:=hid (show w2.heap.size≤wo.heap.size from hb.size)
  clear hr ho hb
  by_cases hlk:k<N
  case neg=>
   obtain rfl:k=N:=by omega
   have u1:decide (k<k)=false:=decide_eq_false (by omega)
   have u2:decide ((k:Int)<(k:Int))=false:=decide_eq_false (by omega)
   have c1:=KB.out.cell K1.out (by have:=W1.out;show ¬ (w.heap.size=_);omega)
   have OI:=hid (show wo.ownsRow w2.heap.size 88 130 vi k (t.ins.flatMap InD.cells) from by have:=OW.out;rw [NN.out.1,List.take_length] at this;rw [NN.out.1];exact this)
   have HRo:=hid (KB.out.heap HR2.out (by have:=W1.out;omega))
   have P0:=hid (show PlnS wo wo.heap.size w1.heap.size vi t.outs 0 wo [] (.slice none 0 0) from
    ⟨RO.out,rfl,⟨by simp,.inl ⟨rfl,rfl⟩⟩,by simp,by simp,by simp,Keep.refl _ _⟩)
   clear hk hlk OW
   go_upto_region 8 with(fail)
   clear u1 u2 c1
   go_loopw [41] (fun x41 wr=>∃(k:Nat) (os:List OutD) (vo:Value),k≤M∧x41 = .int .i64 (k:Int)∧PlnS wo wo.heap.size w1.heap.size vi t.outs k wr os vo) (fun x41 _=>M - (intOf x41).toNat)
   case atStart=>exact⟨0,_,_,Nat.zero_le _,rfl,P0.out⟩
   case round=>
    obtain⟨m,os,vo,hm,rfl,hP⟩:=hrel
    obtain⟨wp,rfl⟩:∃wp,wp=wr:=⟨_,rfl⟩
    have PS:=hid hP
    have LL:=hid (show w.heap.size+1<w1.heap.size∧w1.heap.size<w2.heap.size∧w2.heap.size≤wo.heap.size∧wo.heap.size≤wp.heap.size from⟨W1.out,W2.out,WO.out,hP.keep.size⟩)
    have BWp:=hid (show Below w.heap.size w wp from BW.out.trans (hP.keep.below (B:=w.heap.size) (fun i e=>by have:=LL.out;omega) BW.out.size))
    have OIp:=hid (hP.keep.own OI.out (fun g' hg' e=>by have h1:=(OI.out.lt _ hg').1;have:=LL.out;omega))
    have HRp:=hid (hP.keep.heap HRo.out (by have:=LL.out;omega))
    clear hP
    by_cases hlm:m<M
    case neg=>
     obtain rfl:m=M:=by omega
     have u1:decide (m<m)=false:=decide_eq_false (by omega)
     have u2:decide ((m:Int)<(m:Int))=false:=decide_eq_false (by omega)
     obtain⟨xc,hxc⟩:∃xc,xc=[vi,vo]:=⟨_,rfl⟩
     have rX:=row_range PS.out.row
     rw [← hxc] at rX
     have XE:=hid hxc
     have XL:=hid (show xc.length=2 by rw [hxc];rfl)
     obtain⟨ia5,ic5,hvi,_⟩:=Rd.of_owns OIp.out
     obtain⟨oa5,oc5,hvo,_⟩:=Rd.of_owns PS.out.own
     have hiX:=hid (show(Tryz.prog.info? 37).map (·.size)=some xc.length by rw [XL.out];kernel_rfl)
     have hiXa:=hid (show(Tryz.prog.info? 37).map (·.size)=some xc.toArray.size by rw [List.size_toArray];exact hiX.out)
     have hoX:=hid (show zTx.size=xc.toArray.size by rw [show xc.toArray.size=2 by rw [List.size_toArray];exact XL.out];rfl)
     have h1X:=hid (show(xc.toArray.all fun x=>x.oneCell')=true by rw [hxc,hvi,hvo];exact all_oneCell_toArray (fun u hu=>by simp only [List.mem_cons,List.not_mem_nil,or_false] at hu;rcases hu with rfl|rfl <;> rfl))
     clear hm hlm hxc hvi hvo
     go_upto_region 12 with(fail)
     go_wp2_with (first|with_reducible refine wpList_load_mid rfl _ _ rfl w1.heap.size 0 rfl xc _ rX Tryz.underlying37 rfl hiX.out ?_|with_reducible refine wpList_store_row rfl _ _ _ rfl (w.heap.size+1) xc.toArray rfl rfl _ _ HRp.out hiXa.out hoX.out h1X.out ?_)
     refine bodyPost_ret (results_cellH rfl _ _ (w.heap.size+1) _ xc.toArray _ _ rfl (setRow_heap _ _ _ _ _ _ HRp.out) Tryz.underlying37 rfl hiXa.out) rfl ?_
     have KF:=Keep.far' (far_row wp (w.heap.size+1) xc.toArray)
     have ll:=LL.out
     obtain⟨ia',ic',hvi,rdi⟩:=Rd.of_owns (KF.own OIp.out (fun g' hg' e=>by have:=(OIp.out.lt _ hg').1;omega))
     obtain⟨oa',oc',hvo,rdo⟩:=Rd.of_owns (KF.own PS.out.own (fun g' hg' e=>by have:=(PS.out.own.lt _ hg').1;omega))
     refine⟨⟨ia',ic',t.ins,oa',oc',os⟩,by rw [XE.out,hvi,hvo,NN.out.1,← PS.out.len];rfl,⟨by rw [← NN.out.1];exact rdi,G.out.iok,by rw [PS.out.len];exact rdo,fun o ho=>OutD.good.kept (PS.out.ok o ho) KF (fun ad ha e=>by have:=(PS.out.at' o ho ad ha).1;omega)⟩,rfl,?_,below_setRow BWp.out (by omega) _⟩
     show os.map OutD.bare=_
     rw [PS.out.eq,NN.out.2,List.take_length]
    have u1:decide (m<M)=true:=decide_eq_true hlm
    have u2:decide ((m:Int)<(M:Int))=true:=decide_eq_true (by omega)
    have u6:(m:Int)<(M:Int):=by omega
    have u7:¬ ((M:Int)≤(m:Int)):=by omega
    have u8':¬ (M≤m):=by omega
    obtain⟨o,ho⟩:∃o,t.outs[m]? = some o:=⟨_,List.getElem?_eq_getElem (by rw [← NN.out.2];exact hlm)⟩
    have og:=hid (G.out.ook o (List.mem_of_getElem? ho))
    have op4:=hid (HP4.out o (List.mem_of_getElem? ho))
    obtain⟨b,off,e2,rg⟩:=rd_row (fun z hz=>OutD.len (G.out.ook z hz)) PO.out ho hlm
    have rgr:=range_keep BWp.out rg
    obtain⟨ocs,hocs⟩:∃ocs,ocs=o.cells:=⟨_,rfl⟩
    have OL:=hid (show ocs.length=34 by rw [hocs];exact OutD.len og.out)
    rw [← hocs] at rgr
    have hiC:=hid (show(Tryz.prog.info? 66).map (·.size)=some ocs.length by rw [OL.out];kernel_rfl)
    have hiCa:=hid (show(Tryz.prog.info? 66).map (·.size)=some ocs.toArray.size by rw [List.size_toArray,OL.out];kernel_rfl)
    have hoC:=hid (show 34=ocs.toArray.size by rw [List.size_toArray,OL.out])
    have h16:=hid (show(ocs.toArray.all fun x=>x.oneCell')=true by rw [hocs];exact all_oneCell_toArray (OutD.one o))
    obtain⟨m1,hm1⟩:∃m1,m1=m+1:=⟨_,rfl⟩
    have r4:IntKind.i64.wrap ((m:Int)+1)=(m1:Int):=by have:=HN.out.2;have:=NN.out.2;rw [IntKind.wrap_i64];omega
    have M1:=hid (And.intro hm1 hlm)
    have HO:=hid ho
    have HOC:=hid hocs
    subst e2
    clear hm hlm ho rg hocs hm1
    go_upto_region 10 with(first|with_reducible refine wpList_load_mid rfl _ _ rfl b (off+m*34) rfl ocs _ rgr Tryz.underlying66 rfl hiC.out ?_|(refine wpList_store_row rfl _ _ _ rfl wp.heap.size ocs.toArray rfl rfl _ _ (heap_alloc_new _ _) hiCa.out hoC.out h16.out ?_;refine laidW (F:=fun w3=>wpList _ _ _ _ _ w3) ?_;intro w9 h9 b9))
    have RT9:=hid (heap_keep PS.out.row b9.out)
    have c1:=hid (show w9.cell? ⟨w1.heap.size,1,none⟩=some vo from gen_cell (j:=1) (row_range RT9.out) rfl)
    have RO9:=hid (row_range h9.out)
    have B9:=hid (BWp.out.trans (b9.out.mono BWp.out.size))
    have OVo:=hid (show ∀i,vo.ownBlock=some i→wo.heap.size≤i∧i<wp.heap.size from fun i e=>PS.out.own.lt _ e)
    have L9:=hid (show wp.heap.size<w9.heap.size from(Array.getElem?_eq_some_iff.1 h9.out).1)
    have OVP:=hid (ownKB (ownKB PS.out.own b9.out) (Below.refl _ _).drew)
    have T9:=hid (heap_keep RT9.out (Below.refl _ _).drew)
    have PW:=fun(wx:World) (bx:Below w.heap.size w wx)=>hid (show Calls Tryz.prog 32 #[.agg ocs.toArray] wx _ from by rw [HOC.out];exact plo_walk o wx (og.out.below bx) op4.out)
    have NO1:=hid (show vo.ownBlock≠some w1.heap.size from fun e=>by have:=OVo.out _ e;have:=LL.out;omega)
    have hPi:=hid (show(Tryz.prog.info? 96).map (·.size)=some 34 by kernel_rfl)
    have hPz:=hid (show((Tryz.prog.info? 96).bind (·.zero)).isSome=true by kernel_rfl)
    have OSL:=hid (show m<4294967296 from by have:=M1.out;have:=HN.out.2;have:=NN.out.2;omega)
    clear u1 u2 u6 u7 u8' rgr
    refine wp_region_X (l:=7) (S:=fun b w'=>Keep (fun i=>i=w1.heap.size∨vo.ownBlock=some i) w9 w'∧(b=false→Keep (fun i=>vo.ownBlock=some i) w9 w')) (by kernel_rfl) (⟨Keep.of (Below.refl _ _).drew,fun _=>Keep.of (Below.refl _ _).drew⟩) (fun hHeld=>?_)
    try simp only [List.size_toArray,List.length_cons,List.length_nil,Nat.reduceAdd,Array.replicate_succ,Array.replicate_zero,List.push_toArray,List.nil_append,List.cons_append]
    refine tkE (i:=0) (oi:=⟨_,.fieldAddr 37 (.tmp 3) 1,_,_,_,_⟩) (v:=?v1001) rfl (yi ?y1001) hHeld ?_
    case y1001=>(intro w _;go_simp;(try with_reducible rfl))
    (try simp only [Act.put,s0,s1,s2])
    refine tkE (i:=1) (oi:=⟨_,.load 35 (.tmp 45),_,_,_,_⟩) (v:=vo) rfl (Or.inl ⟨by rfl,fun w h=>by have c9:=Keep.cell (h.2 rfl) c1.out NO1.out;go_simp⟩) hHeld ?_
    (try simp only [Act.put,s0,s1,s2])
    refine' tkE (i:=2) (oi:=⟨_,.load 66 (.tmp 7),_,_,_,_⟩) (v:=_) rfl (yieldsIf_load_mid (by rfl) _ _ rfl wp.heap.size 0 rfl ocs _ (fun _ h=>Keep.range (h.2 rfl) RO9.out (fun e=>by have:=OVo.out _ e;omega)) Tryz.underlying66 rfl hiC.out) hHeld ?_
    (try simp only [Act.put,s0,s1,s2])
    refine wpAnyX_ready (rs:=[3]) (by kernel_rfl) (by simp) ?_
    refine AllReadyX.cons (o:=⟨_,.call ⟨.value (.func 32),#[.tmp 47],#[66]⟩,_,_,_,_⟩) rfl (b:=false) (by kernel_rfl) (fun K hK=>?_) ?_
    go_simp;refine(PW _ (B9.out.trans (Below.refl _ _).drew)).out.mono ?_;rintro e w4 ⟨a4,c4,rfl,g4,o4,b4⟩;have G4:=hid g4;have O4:=hid o4;have KB4:=hid b4;have OVP:=hid (ownKB OVP.out b4);have T9:=hid (heap_keep T9.out b4);obtain⟨nc,hnc⟩:∃nc,nc=(o.at' a4 c4).cells:=⟨_,rfl⟩;rw [← hnc];have NC:=hid hnc;have NCL:=hid (show nc.length=34 by rw [hnc];exact OutD.len G4.out);have NCP:=hid (show nc.toArray.size=34 by rw [List.size_toArray,NCL.out]);have NC1:=hid (show ∀u∈nc,u.oneCell'=true by rw [hnc];exact OutD.one _);clear g4 o4 b4 hnc
    refine hK.out _ _ (⟨hHeld.1.trans (Keep.of KB4.out),fun e=>(hHeld.2 e).trans (Keep.of KB4.out)⟩) (fun hHeld=>?_)
    clear hK K
    (try simp only [s0,s1,s2])
    refine wpAnyX_ready (rs:=[4]) (by kernel_rfl) (by simp) ?_
    refine AllReadyX.cons (o:=⟨_,.buildSlice 35 1 #[(0,.tmp 48)],_,_,_,_⟩) rfl (b:=false) (by kernel_rfl) (fun K hK=>?_) ?_
    rw [if_pos (by rfl)];refine wp_lit1 _ _ _ rfl rfl Tryz.underlying35 hPi.out hPz.out NCP.out (by decide) (by decide) ?_;refine newZ ?_;intro wl HL KBl;have OVP:=hid (ownKB OVP.out KBl.out);have T9:=hid (heap_keep T9.out KBl.out);have LWL:=hid (hHeld.1.size)
    refine hK.out _ _ (⟨hHeld.1.trans (Keep.of KBl.out),fun e=>(hHeld.2 e).trans (Keep.of KBl.out)⟩) (fun hHeld=>?_)
    clear hK K
    (try simp only [s0,s1,s2])
    refine wpAnyX_ready (rs:=[5]) (by kernel_rfl) (by simp) ?_
    refine AllReadyX.cons (o:=⟨_,.call ⟨.builtin .append,#[.tmp 46,.tmp 49],#[35,35]⟩,_,_,_,_⟩) rfl (b:=false) (by kernel_rfl) (fun K hK=>?_) ?_
    rw [if_pos (by rfl)];refine wp_pushK _ _ 35 rfl tyROut wo.heap.size OVP.out rfl rfl HL.out NCL.out NC1.out OSL.out (by decide) (by have:=hHeld.1.size;have:=L9.out;have:=LL.out;omega) ?_;intro v7 w7 own7 k7 nb7;obtain⟨a7,q7,rfl,_⟩:=Rd.of_owns own7;have O7:=hid own7;have K7:=hid k7;have NB7:=hid nb7;have T7:=hid (k7.heap T9.out NO1.out);clear own7 k7 nb7
    refine hK.out _ _ (⟨hHeld.1.trans (K7.out.mono (fun i h=>Or.inr h)),fun e=>(hHeld.2 e).trans K7.out⟩) (fun hHeld=>?_)
    clear hK K
    (try simp only [s0,s1,s2])
    refine tkE (i:=6) (oi:=⟨_,.fieldAddr 37 (.tmp 3) 1,_,_,_,_⟩) (v:=?v1002) rfl (yi ?y1002) hHeld ?_
    case y1002=>(intro w _;go_simp;(try with_reducible rfl))
    (try simp only [Act.put,s0,s1,s2])
    refine wpAnyX_ready (rs:=[7]) (by kernel_rfl) (by simp) ?_
    refine AllReadyX.cons (o:=⟨_,.store 35 (.tmp 51) (.tmp 50),_,_,_,_⟩) rfl (b:=true) (by kernel_rfl) (fun K hK=>?_) ?_
    have c9:=gen_cell (j:=1) (row_range T7.out) rfl;have z9:w7.frozen? ⟨w1.heap.size,1,none⟩=false:=frozen_of_row _ _ _ _ _ T7.out;go_simp;refine setW T7.out ?_;intro wz HZ FZ;clear c9 z9
    refine hK.out _ _ (⟨hHeld.1.trans (Keep.far FZ.out (Or.inl rfl)),nofun⟩) (fun hHeld=>?_)
    clear hK K
    (try simp only [s0,s1,s2])
    refine wpAnyX_done (by kernel_rfl) ?_ _
    rotate_left
    exact AllReadyX.nil
    exact AllReadyX.nil
    exact AllReadyX.nil
    exact AllReadyX.nil
    have KZ:=hid hHeld.1
    clear hHeld
    go_wp2_with (fail)
    go_roundw
    case rel=>
     have ll:=LL.out
     have l9:=L9.out
     have lwl:=LWL.out
     have ovo:=OVo.out
     have k7s:=K7.out.size
     have fzs:=FZ.out.size
     have kbs:=KBl.out.size
     have k4s:=KB4.out.size
     have own7:=(Keep.far' FZ.out).own O7.out (fun g' hg' e=>by have:=(O7.out.lt _ hg').1;omega)
     have at2:∀ad,a4=some ad→w9.heap.size≤ad.block∧ad.block<w4.heap.size:=fun ad ha=>by
      have h1:=O4.out.lt ad.block (by rw [ha];rfl)
      exact h1
     refine⟨m1,os++[o.at' a4 c4],.slice a7 (m+1) q7,by have:=M1.out;omega,rfl,HZ.out,by rw [List.length_append,PS.out.len,M1.out.1];rfl,?_,?_,?_,?_,?_⟩
     ·rw [M1.out.1,List.flatMap_append,show [o.at' a4 c4].flatMap OutD.cells=nc by rw [NC.out];simp]
      exact own7
     ·intro x hx
      rcases List.mem_append.1 hx with hx|hx
      ·have at1:=PS.out.at' x hx
       have g1:=(PS.out.ok x hx).below b9.out
       exact OutD.good.kept g1 KZ.out (fun ad ha e=>by rcases e with e|e;(have:=at1 ad ha;omega);exact(at1 ad ha).2.2 e)
      ·rw [List.mem_singleton.1 hx]
       have g2:=(G4.out.below KBl.out)
       have g3:=OutD.good.kept g2 K7.out (fun ad ha e=>by have h1:=at2 ad ha;have:=ovo _ e;omega)
       exact OutD.good.kept g3 (Keep.far' FZ.out) (fun ad ha e=>by have h1:=at2 ad ha;omega)
     ·intro x hx ad ha
      rcases List.mem_append.1 hx with hx|hx
      ·have at1:=PS.out.at' x hx ad ha
       have hsz:=KZ.out.size
       refine⟨at1.1,by omega,fun e=>?_⟩
       rcases NB7.out with h|h
       ·exact at1.2.2 (h ▸ e)
       ·rw [h] at e;have:=Option.some.inj e;omega
      ·rw [List.mem_singleton.1 hx] at ha
       have h1:=at2 ad ha
       refine⟨by omega,by omega,fun e=>?_⟩
       rcases NB7.out with h|h
       ·rw [h] at e;have:=ovo _ e;omega
       ·rw [h] at e;have:=Option.some.inj e;omega
     ·rw [M1.out.1,List.take_add_one,HO.out,List.map_append,List.map_append,PS.out.eq];rfl
     ·exact((PS.out.keep.then (Keep.of b9.out (S:=fun _=>False)) (fun i hi e=>e.elim)).then KZ.out (fun i hi e=>by rcases e with e|e;exact e;(have:=ovo _ e;omega)))
    case measure=>simp [intOf];have:=M1.out;omega
  have u1:decide (k<N)=true:=decide_eq_true hlk
  have u2:decide ((k:Int)<(N:Int))=true:=decide_eq_true (by omega)
  have u6:(k:Int)<(N:Int):=by omega
  have u7:¬ ((N:Int)≤(k:Int)):=by omega
  have u8':¬ (N≤k):=by omega
  obtain⟨x,hx⟩:∃x,t.ins[k]? = some x:=⟨_,List.getElem?_eq_getElem (by rw [← NN.out.1];exact hlk)⟩
  have xok:=hid (G.out.iok x (List.mem_of_getElem? hx))
  obtain⟨b,off,e2,rg⟩:=rd_row (fun z hz=>InD.len (G.out.iok z hz)) PI.out hx hlk
  have rgr:=range_keep BW.out rg
  obtain⟨xcs,hxcs⟩:∃xcs,xcs=x.cells:=⟨_,rfl⟩
  have XL:=hid (show xcs.length=130 by rw [hxcs];exact InD.len xok.out)
  rw [← hxcs] at rgr
  have hiC:=hid (show(Tryz.prog.info? 69).map (·.size)=some xcs.length by rw [XL.out];kernel_rfl)
  have hiCa:=hid (show(Tryz.prog.info? 69).map (·.size)=some xcs.toArray.size by rw [List.size_toArray,XL.out];kernel_rfl)
  have hoC:=hid (show 130=xcs.toArray.size by rw [List.size_toArray,XL.out])
  have h16:=hid (show(xcs.toArray.all fun x=>x.oneCell')=true by rw [hxcs];exact all_oneCell_toArray (InD.one x))
  obtain⟨k1,hk1⟩:∃k1,k1=k+1:=⟨_,rfl⟩
  have r4:IntKind.i64.wrap ((k:Int)+1)=(k1:Int):=by have:=HN.out.1;have:=NN.out.1;rw [IntKind.wrap_i64];omega
  have I1:=hid (And.intro hk1 hlk)
  obtain⟨q0,hq0⟩:∃q,q=x.tx:=⟨_,rfl⟩
  obtain⟨q1,hq1⟩:∃q,q=x.token:=⟨_,rfl⟩
  obtain⟨q2,hq2⟩:∃q,q=x.more:=⟨_,rfl⟩
  obtain⟨q3,hq3⟩:∃q,q=x.secret:=⟨_,rfl⟩
  obtain⟨xo,hxo⟩:∃q,q=x.out:=⟨_,rfl⟩
  obtain⟨xp,hxp⟩:∃q,q=x.path:=⟨_,rfl⟩
  have QL:=hid (show q0.length=32∧q1.length=32∧q2.length=32∧q3.length=32 by rw [hq0,hq1,hq2,hq3];exact⟨xok.out.tx.1,xok.out.token.1,xok.out.more.1,xok.out.secret.1⟩)
  have XC:=hid (show(xcs[32]? = some (.int .i64 xo)∧xcs[33]? = some (.int .i64 xp))∧(xcs.drop 0).take 32=nums .u8 q0∧(xcs.drop 34).take 32=nums .u8 q1∧(xcs.drop 66).take 32=nums .u8 q2∧(xcs.drop 98).take 32=nums .u8 q3 from by
   rw [hxcs,hxo,hxp,hq0,hq1,hq2,hq3];exact⟨⟨InD.c32 xok.out,InD.c33 xok.out⟩,InD.tx32 xok.out,InD.tok xok.out,InD.mor xok.out,InD.sec xok.out⟩)
  obtain⟨pt,hpt⟩:∃pt,pt=nums .u8 q0++[Value.int .i64 xo]:=⟨_,rfl⟩
  have BP:=hid (show Tryz.prog.built 86 [(0,.agg (nums .u8 q0).toArray),(1,.int .i64 xo)]=some pt.toArray from by rw [hpt];exact brPt q0 xo QL.out.1)
  have BX:=hid (show Tryz.prog.built 88 [(0,.agg pt.toArray),(1,.int .i64 xp),(2,.agg (nums .u8 q1).toArray),(3,.agg (nums .u8 q2).toArray),(4,.agg (nums .u8 q3).toArray)]=some xcs.toArray from by
   rw [hpt,brIn q0 q1 q2 q3 xo xp QL.out.1 QL.out.2.1 QL.out.2.2.1 QL.out.2.2.2,hxcs,hxo,hxp,hq0,hq1,hq2,hq3])
  have hi0:=hid (show(Tryz.prog.info? 43).map (·.size)=some (nums .u8 q0).length from by rw [nums_length,QL.out.1];kernel_rfl)
  have hi1:=hid (show(Tryz.prog.info? 43).map (·.size)=some (nums .u8 q1).length from by rw [nums_length,QL.out.2.1];kernel_rfl)
  have hi2:=hid (show(Tryz.prog.info? 43).map (·.size)=some (nums .u8 q2).length from by rw [nums_length,QL.out.2.2.1];kernel_rfl)
  have hi3:=hid (show(Tryz.prog.info? 43).map (·.size)=some (nums .u8 q3).length from by rw [nums_length,QL.out.2.2.2];kernel_rfl)
  have PL:=hid (show xcs.toArray.size=130 by rw [List.size_toArray,XL.out])
  have ONE:=hid (show xcs.toArray.toList.all Value.oneCell'=true from by rw [hxcs];exact List.all_eq_true.2 (InD.one _))
  have hPi:=hid (show(Tryz.prog.info? 88).map (·.size)=some 130 by kernel_rfl)
  have hPz:=hid (show((Tryz.prog.info? 88).bind (·.zero)).isSome=true by kernel_rfl)
  have HX:=hid hx
  have XCE:=hid hxcs
  subst e2
  clear hk hlk hx rg hxcs hk1 hq0 hq1 hq2 hq3 hxo hxp hpt
  go_upto_region 5 with(first|with_reducible refine wpList_load_mid rfl _ _ rfl b (off+k*130) rfl xcs _ rgr Tryz.underlying69 rfl hiC.out ?_|(refine wpList_store_row rfl _ _ _ rfl wo.heap.size xcs.toArray rfl rfl _ _ (heap_alloc_new _ _) hiCa.out hoC.out h16.out ?_;refine laidW (F:=fun w3=>wpList _ _ _ _ _ w3) ?_;intro w9 h9 b9))
  have RO9:=hid (heap_keep RO.out b9.out)
  have OW9:=hid (ownKB OW.out b9.out)
  have c0:=gen_cell (j:=0) (row_range RO9.out) (v:=vi) rfl
  have p0:=gen_range (row_range h9.out) 0 32
  have p1:=gen_range (row_range h9.out) 34 32
  have p2:=gen_range (row_range h9.out) 66 32
  have p3:=gen_range (row_range h9.out) 98 32
  rw [XC.out.2.1] at p0
  rw [XC.out.2.2.1] at p1
  rw [XC.out.2.2.2.1] at p2
  rw [XC.out.2.2.2.2] at p3
  have c32:=gen_cell (j:=32) (row_range h9.out) XC.out.1.1
  have c33:=gen_cell (j:=33) (row_range h9.out) XC.out.1.2
  have W9:=hid (show w2.heap.size≤w9.heap.size from Nat.le_trans WO.out b9.out.size)
  have NO:=hid (show ¬ vi.ownBlock=some w1.heap.size from fun e=>by have:=(OW.out.lt _ e).1;have:=W2.out;omega)
  clear u1 u2 u6 u7 u8' rgr
  go_wp2_with (first|with_reducible refine wpList_load_mid rfl _ _ rfl wo.heap.size 0 rfl (nums .u8 q0) _ p0 Tryz.underlying43 rfl hi0.out ?_|with_reducible refine wpList_load_mid rfl _ _ rfl wo.heap.size 34 rfl (nums .u8 q1) _ p1 Tryz.underlying43 rfl hi1.out ?_|with_reducible refine wpList_load_mid rfl _ _ rfl wo.heap.size 66 rfl (nums .u8 q2) _ p2 Tryz.underlying43 rfl hi2.out ?_|with_reducible refine wpList_load_mid rfl _ _ rfl wo.heap.size 98 rfl (nums .u8 q3) _ p3 Tryz.underlying43 rfl hi3.out ?_|refine wpList_build2 rfl _ _ _ rfl BP.out rfl rfl ?_|refine wpList_build5 rfl _ _ _ _ _ _ rfl BX.out rfl rfl rfl rfl rfl ?_|with_reducible refine wpList_lit1 rfl _ _ _ rfl rfl Tryz.underlying34 hPi.out hPz.out PL.out (by decide) (by decide) ?_|(at_builtin;refine wpList_pushK rfl _ _ 34 rfl tyRIn w2.heap.size OW9.out rfl rfl PL.out ONE.out (by have:=I1.out;have:=HN.out.1;have:=NN.out.1;omega) (by decide) W9.out ?_;intro v7 w7 own7 k7 nb7;obtain⟨a7,q7,rfl,_⟩:=Rd.of_owns own7;have O7:=hid own7;have K7:=hid k7;have T7:=hid (k7.heap RO9.out NO.out);have c7:=gen_cell (j:=0) (row_range T7.out) rfl;have z7:w7.frozen? ⟨w1.heap.size,0,none⟩=false:=frozen_of_row _ _ _ _ _ T7.out;clear own7 k7 nb7))
  go_roundw
  case rel=>
   have FT:Far w1.heap.size w7 (w7.setCell ⟨w1.heap.size,0,none⟩ (.slice a7 (k+1) q7)):=Far.set _
   have w2s:=W2.out
   have own7:=(Keep.far' FT).own O7.out (fun g' hg' e=>by have:=(O7.out.lt _ hg').1;omega)
   refine⟨k1,.slice a7 (k+1) q7,by have:=I1.out;omega,rfl,heap_set (i:=0) _ T7.out,?_,?_⟩
   ·rw [I1.out.1,List.take_add_one,HX.out,List.flatMap_append]
    have e:(some x).toList.flatMap InD.cells=xcs.toArray.toList:=by rw [XCE.out];simp
    rw [e]
    exact own7
   ·exact((KB.out.then (Keep.of b9.out (S:=fun _=>False)) (fun i hi e=>e.elim)).then K7.out (fun i hi e=>by have:=(OW.out.lt _ e).1;omega)).then (Keep.far' FT) (fun i hi e=>e)
  case measure=>simp [intOf];have:=I1.out;omega
end Go.Proofs.YtnbmpgballopeaaGreatDoor

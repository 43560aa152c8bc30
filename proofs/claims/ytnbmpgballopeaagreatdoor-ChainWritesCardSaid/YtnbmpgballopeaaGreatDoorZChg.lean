/- The chain's transaction as bytes: PutPoint, body. -/
import Derived.Test.YtnbmpgballopeaaGreatDoorZChv
namespace Go.Proofs.YtnbmpgballopeaaGreatDoor
open Go.RowKit
theorem rd_lit{w:World}{g:Nat}{e:TypeId}{xs:List Nat}{n:Nat}(hn:xs.length=n)(hm:n≤4096)(h:w.heap[g]? = some (.cells (nums .u8 xs).toArray e (0,0))):Rd w 1 (some ⟨g,0,none⟩) n n (nums .u8 xs):=
 ⟨by rw [nums_length,hn,Nat.mul_one],Nat.le_refl _,by unfold maxLen;omega,(fun e=>nomatch e),g,0,fun _=>rfl,fun j u hu=>by have:=gen_cell (j:=j) (row_range h) hu;rw [Nat.zero_add];exact this⟩
theorem grown_nil{w w':World}(h:w.grownBy w' none):Below w.heap.size w w':=(Keep.grown (S:=fun _=>False) h (fun _ e=>nomatch e)).below (fun _ h=>h.elim) (Nat.le_refl _)
set_option maxRecDepth 100000 in
set_option maxHeartbeats 4000000 in
theorem cput_walk(tx:List Nat)(o:Int)(ht:H32b tx)(w:World):Calls Tryz.prog 26 #[.agg (ptI tx o).toArray] w (OutsR w (tx++f4 o)):=by
 have HT:=hid ht
 obtain⟨x0,hx0⟩:∃x0,x0=(o / 16777216 % 256).toNat:=⟨_,rfl⟩
 obtain⟨x1,hx1⟩:∃x1,x1=(o / 65536 % 256).toNat:=⟨_,rfl⟩
 obtain⟨x2,hx2⟩:∃x2,x2=(o / 256 % 256).toNat:=⟨_,rfl⟩
 obtain⟨x3,hx3⟩:∃x3,x3=(o % 256).toNat:=⟨_,rfl⟩
 have e0:o / 16777216 % 256=(x0:Int):=by omega
 have e1:o / 65536 % 256=(x1:Int):=by omega
 have e2:o / 256 % 256=(x2:Int):=by omega
 have e3:o % 256=(x3:Int):=by omega
 have f0:IntKind.u8.wrap (o / 16777216)=(x0:Int):=by rw [IntKind.wrap_u8];omega
 have f1:IntKind.u8.wrap (o / 65536)=(x1:Int):=by rw [IntKind.wrap_u8];omega
 have f2:IntKind.u8.wrap (o / 256)=(x2:Int):=by rw [IntKind.wrap_u8];omega
 have f3:IntKind.u8.wrap o=(x3:Int):=by rw [IntKind.wrap_u8];omega
 have F4:=hid (show f4 o=[x0,x1,x2,x3] by rw [hx0,hx1,hx2,hx3];rfl)
 obtain⟨lp,hlp⟩:∃lp,lp=ptI tx o:=⟨_,rfl⟩
 have L0:=hid (show(lp.drop 0).take 32=nums .u8 tx∧lp[32]? = some (.int .i64 o) from by
  rw [hlp];unfold ptI
  refine⟨by rw [List.drop_zero,List.take_left' (by rw [nums_length,ht.1])],?_⟩
  rw [List.getElem?_append_right (by rw [nums_length,ht.1];exact Nat.le_refl _),nums_length,ht.1];rfl)
 rw [← hlp]
 have b1:=(Below.refl w.heap.size w).alloc (Nat.le_refl _) (.cells lp.toArray 60)
 have hR:=heap_alloc_new w (.cells lp.toArray 60)
 have B1:=hid b1
 clear hx0 hx1 hx2 hx3 ht hlp b1
 go_enter Tryz.func26,Tryz.ntmps26
 go_upto_region 1 with(fail)
 generalize w.alloc (.cells lp.toArray 60)=w1 at *
 have HR:=hid hR
 have SL:=hid (sl_in hR HT.out L0.out.1)
 have c32:=hid (gen_cell (j:=32) (row_range hR) L0.out.2)
 clear hR
 refine wp_region_held_drew (S:=fun w'=>Below w1.heap.size w1 w') (by kernel_rfl) ((Below.refl _ _).drew) (fun hHeld=>?_)
 try simp only [List.size_toArray,List.length_cons,List.length_nil,Nat.reduceAdd,Array.replicate_succ,Array.replicate_zero,List.push_toArray,List.nil_append,List.cons_append]
 refine tkH (i:=0) (oi:=⟨_,.fieldAddr 60 (.tmp 1) 0,_,_,_,_⟩) (v:=?v1001) rfl (yi ?y1001) hHeld ?_
 case y1001=>(intro w _;go_simp;(try with_reducible rfl))
 (try simp only [Act.put,s0,s1,s2])
 refine tkH (i:=1) (oi:=⟨_,.slice 43 (.tmp 3) none none none,_,_,_,_⟩) (v:=?v1002) rfl (yi ?y1002) hHeld ?_
 case y1002=>(intro w _;go_simp;(try with_reducible rfl))
 (try simp only [Act.put,s0,s1,s2])
 refine tkH (i:=3) (oi:=⟨_,.fieldAddr 60 (.tmp 1) 1,_,_,_,_⟩) (v:=?v1003) rfl (yi ?y1003) hHeld ?_
 case y1003=>(intro w _;go_simp;(try with_reducible rfl))
 (try simp only [Act.put,s0,s1,s2])
 refine tkH (i:=4) (oi:=⟨_,.load 3 (.tmp 6),_,_,_,_⟩) (v:=(.int .i64 o)) rfl (Or.inl ⟨by rfl,fun w h=>by have c9:=cell_keep h c32.out;go_simp⟩) hHeld ?_
 (try simp only [Act.put,s0,s1,s2])
 refine tkH (i:=5) (oi:=⟨_,.binOp .shr 3 (.tmp 7) (.const (.int .u64 24)) 149,_,_,_,_⟩) (v:=?v1004) rfl (yi ?y1004) hHeld ?_
 case y1004=>(intro w _;go_simp;(try with_reducible rfl))
 (try simp only [Act.put,s0,s1,s2])
 refine tkH (i:=6) (oi:=⟨_,.convert 3 5 (.tmp 8),_,_,_,_⟩) (v:=?v1005) rfl (yi ?y1005) hHeld ?_
 case y1005=>(intro w _;go_simp;(try with_reducible rfl))
 (try simp only [Act.put,s0,s1,s2])
 refine tkH (i:=7) (oi:=⟨_,.fieldAddr 60 (.tmp 1) 1,_,_,_,_⟩) (v:=?v1006) rfl (yi ?y1006) hHeld ?_
 case y1006=>(intro w _;go_simp;(try with_reducible rfl))
 (try simp only [Act.put,s0,s1,s2])
 refine tkH (i:=8) (oi:=⟨_,.load 3 (.tmp 10),_,_,_,_⟩) (v:=(.int .i64 o)) rfl (Or.inl ⟨by rfl,fun w h=>by have c9:=cell_keep h c32.out;go_simp⟩) hHeld ?_
 (try simp only [Act.put,s0,s1,s2])
 refine tkH (i:=9) (oi:=⟨_,.binOp .shr 3 (.tmp 11) (.const (.int .u64 16)) 149,_,_,_,_⟩) (v:=?v1007) rfl (yi ?y1007) hHeld ?_
 case y1007=>(intro w _;go_simp;(try with_reducible rfl))
 (try simp only [Act.put,s0,s1,s2])
 refine tkH (i:=10) (oi:=⟨_,.convert 3 5 (.tmp 12),_,_,_,_⟩) (v:=?v1008) rfl (yi ?y1008) hHeld ?_
 case y1008=>(intro w _;go_simp;(try with_reducible rfl))
 (try simp only [Act.put,s0,s1,s2])
 refine tkH (i:=11) (oi:=⟨_,.fieldAddr 60 (.tmp 1) 1,_,_,_,_⟩) (v:=?v1009) rfl (yi ?y1009) hHeld ?_
 case y1009=>(intro w _;go_simp;(try with_reducible rfl))
 (try simp only [Act.put,s0,s1,s2])
 refine tkH (i:=12) (oi:=⟨_,.load 3 (.tmp 14),_,_,_,_⟩) (v:=(.int .i64 o)) rfl (Or.inl ⟨by rfl,fun w h=>by have c9:=cell_keep h c32.out;go_simp⟩) hHeld ?_
 (try simp only [Act.put,s0,s1,s2])
 refine tkH (i:=13) (oi:=⟨_,.binOp .shr 3 (.tmp 15) (.const (.int .u64 8)) 149,_,_,_,_⟩) (v:=?v1010) rfl (yi ?y1010) hHeld ?_
 case y1010=>(intro w _;go_simp;(try with_reducible rfl))
 (try simp only [Act.put,s0,s1,s2])
 refine tkH (i:=14) (oi:=⟨_,.convert 3 5 (.tmp 16),_,_,_,_⟩) (v:=?v1011) rfl (yi ?y1011) hHeld ?_
 case y1011=>(intro w _;go_simp;(try with_reducible rfl))
 (try simp only [Act.put,s0,s1,s2])
 refine tkH (i:=15) (oi:=⟨_,.fieldAddr 60 (.tmp 1) 1,_,_,_,_⟩) (v:=?v1012) rfl (yi ?y1012) hHeld ?_
 case y1012=>(intro w _;go_simp;(try with_reducible rfl))
 (try simp only [Act.put,s0,s1,s2])
 refine tkH (i:=16) (oi:=⟨_,.load 3 (.tmp 18),_,_,_,_⟩) (v:=(.int .i64 o)) rfl (Or.inl ⟨by rfl,fun w h=>by have c9:=cell_keep h c32.out;go_simp⟩) hHeld ?_
 (try simp only [Act.put,s0,s1,s2])
 refine tkH (i:=17) (oi:=⟨_,.convert 3 5 (.tmp 19),_,_,_,_⟩) (v:=?v1013) rfl (yi ?y1013) hHeld ?_
 case y1013=>(intro w _;go_simp;(try with_reducible rfl))
 (try simp only [Act.put,s0,s1,s2])
 refine wpAnyH_ready (rs:=[2,18]) (by kernel_rfl) (by simp) ?_
 refine AllReadyH.cons (o:=⟨_,.call ⟨.builtin .append,#[.const (.slice none 0 0),.tmp 4],#[28,28]⟩,_,_,_,_⟩) rfl (fun K hK=>?_) ?_
 have BLo:=hid hHeld.size;rw [if_pos (by rfl)];refine wp_cat _ _ 28 rfl tyBy w1.heap.size (v:=.slice none 0 0) (n:=0) (xs:=[]) ⟨by simp,.inl ⟨rfl,rfl⟩⟩ rfl rfl (SL.out.below hHeld) (nums_oneCell _ _) (by decide) (by decide) hHeld.size ?_;intro v5 w5 own5 g5 nb5;have O5:=hid own5;have B5:=hid (grown_nil g5);clear own5 g5 nb5
 refine hK.out _ _ (by first|exact hHeld.trans (B5.out.mono hHeld.size)|exact B5.out) (fun hHeld=>?_)
 clear hK K
 (try simp only [s0,s1,s2])
 refine wpAnyH_ready (rs:=[18]) (by kernel_rfl) (by simp) ?_
 refine AllReadyH.cons (o:=⟨_,.buildSlice 28 4 #[(0,.tmp 9),(1,.tmp 13),(2,.tmp 17),(3,.tmp 20)],_,_,_,_⟩) rfl (fun K hK=>?_) ?_
 go_simp;(first|refine newZ ?_|refine newZd ?_);intro wl HLt BL
 refine hK.out _ _ (by first|exact hHeld.trans (BL.out.mono hHeld.size)|exact BL.out) (fun hHeld=>?_)
 clear hK K
 (try simp only [s0,s1,s2])
 refine wpAnyH_ready (rs:=[19]) (by kernel_rfl) (by simp) ?_
 refine AllReadyH.cons (o:=⟨_,.call ⟨.builtin .append,#[.tmp 5,.tmp 21],#[28,28]⟩,_,_,_,_⟩) rfl (fun K hK=>?_) ?_
 rw [if_pos (by rfl)];refine wp_cat _ _ 28 rfl tyBy w1.heap.size (by first|exact O5.out|exact ownKB O5.out BL.out) rfl rfl (show Rd _ 1 (some ⟨_,0,none⟩) 4 4 (nums .u8 [x0,x1,x2,x3]) from by first|exact rd_lit rfl (by decide) HLt.out|exact rd_lit rfl (by decide) (heap_keep HLt.out B5.out)) (nums_oneCell _ _) (by decide) (by decide) hHeld.size ?_;intro v6 w6 own6 g6 nb6;have O6:=hid own6;have B6:=hid ((Keep.grown g6 (S:=fun i=>v5.ownBlock=some i) (fun _ e=>e)).below (B:=w1.heap.size) (fun i e=>(O5.out.lt _ e).1) hHeld.size);clear own6 g6 nb6
 refine hK.out _ _ (hHeld.trans B6.out) (fun hHeld=>?_)
 clear hK K
 (try simp only [s0,s1,s2])
 refine tkH (i:=20) (oi:=⟨_,.assign (.tmp 22),_,_,_,_⟩) (v:=?v1014) rfl (yi ?y1014) hHeld ?_
 case y1014=>(intro w _;go_simp;(try with_reducible rfl))
 (try simp only [Act.put,s0,s1,s2])
 refine wpAnyH_done (by kernel_rfl) ?_ _
 rotate_left
 exact AllReadyH.nil
 exact AllReadyH.nil
 refine AllReadyH.cons (o:=⟨_,.buildSlice 28 4 #[(0,.tmp 9),(1,.tmp 13),(2,.tmp 17),(3,.tmp 20)],_,_,_,_⟩) rfl (fun K hK=>?_) ?_
 go_simp;(first|refine newZ ?_|refine newZd ?_);intro wl HLt BL
 refine hK.out _ _ (by first|exact hHeld.trans (BL.out.mono hHeld.size)|exact BL.out) (fun hHeld=>?_)
 clear hK K
 (try simp only [s0,s1,s2])
 refine wpAnyH_ready (rs:=[2]) (by kernel_rfl) (by simp) ?_
 refine AllReadyH.cons (o:=⟨_,.call ⟨.builtin .append,#[.const (.slice none 0 0),.tmp 4],#[28,28]⟩,_,_,_,_⟩) rfl (fun K hK=>?_) ?_
 have BLo:=hid hHeld.size;rw [if_pos (by rfl)];refine wp_cat _ _ 28 rfl tyBy w1.heap.size (v:=.slice none 0 0) (n:=0) (xs:=[]) ⟨by simp,.inl ⟨rfl,rfl⟩⟩ rfl rfl (SL.out.below hHeld) (nums_oneCell _ _) (by decide) (by decide) hHeld.size ?_;intro v5 w5 own5 g5 nb5;have O5:=hid own5;have B5:=hid (grown_nil g5);clear own5 g5 nb5
 refine hK.out _ _ (by first|exact hHeld.trans (B5.out.mono hHeld.size)|exact B5.out) (fun hHeld=>?_)
 clear hK K
 (try simp only [s0,s1,s2])
 refine wpAnyH_ready (rs:=[19]) (by kernel_rfl) (by simp) ?_
 refine AllReadyH.cons (o:=⟨_,.call ⟨.builtin .append,#[.tmp 5,.tmp 21],#[28,28]⟩,_,_,_,_⟩) rfl (fun K hK=>?_) ?_
 rw [if_pos (by rfl)];refine wp_cat _ _ 28 rfl tyBy w1.heap.size (by first|exact O5.out|exact ownKB O5.out BL.out) rfl rfl (show Rd _ 1 (some ⟨_,0,none⟩) 4 4 (nums .u8 [x0,x1,x2,x3]) from by first|exact rd_lit rfl (by decide) HLt.out|exact rd_lit rfl (by decide) (heap_keep HLt.out B5.out)) (nums_oneCell _ _) (by decide) (by decide) hHeld.size ?_;intro v6 w6 own6 g6 nb6;have O6:=hid own6;have B6:=hid ((Keep.grown g6 (S:=fun i=>v5.ownBlock=some i) (fun _ e=>e)).below (B:=w1.heap.size) (fun i e=>(O5.out.lt _ e).1) hHeld.size);clear own6 g6 nb6
 refine hK.out _ _ (hHeld.trans B6.out) (fun hHeld=>?_)
 clear hK K
 (try simp only [s0,s1,s2])
 refine tkH (i:=20) (oi:=⟨_,.assign (.tmp 22),_,_,_,_⟩) (v:=?v1015) rfl (yi ?y1015) hHeld ?_
 case y1015=>(intro w _;go_simp;(try with_reducible rfl))
 (try simp only [Act.put,s0,s1,s2])
 refine wpAnyH_done (by kernel_rfl) ?_ _
 rotate_left
 exact AllReadyH.nil
 exact AllReadyH.nil
 exact AllReadyH.nil
 all_goals
  have BF:=hid (B1.out.trans (hHeld.mono B1.out.size))
  clear hHeld
  go_wp2_with (fail)
  go_ret
  refine⟨v6,rfl,?_,BF.out⟩
  have o6:=own_mono O6.out B1.out.size
  rw [List.nil_append,nums_append] at o6
  rw [F4.out]
  have hl:=o6.1
  rw [nums_length,Nat.mul_one] at hl
  rw [hl]
  exact o6
end Go.Proofs.YtnbmpgballopeaaGreatDoor
/- The chain's transaction as bytes: body. -/
namespace Go.Proofs.YtnbmpgballopeaaGreatDoor
open Go.RowKit
def inB(i:InD):List Nat:=i.tx++f4 i.out
def bodyB(t:TxD):List Nat:=[t.ins.length % 256,t.ins.length / 256 % 256]++(t.ins.flatMap inB++t.outs.flatMap outB)
theorem inB_len{i:InD}(h:i.ok):(inB i).length=36:=by simp [inB,h.tx.1,f4_len]
theorem insB_len:∀ {is:List InD},(∀i∈is,i.ok)→(is.flatMap inB).length=36*is.length
 | [],_=>rfl
 | i::r,h=>by
  rw [List.flatMap_cons,List.length_append,inB_len (h i (by simp)),insB_len (fun q hq=>h q (by simp [hq])),List.length_cons];omega
theorem own_lit2(w:World)(a b:Nat):(w.alloc (.cells #[.int .u8 (a:Int),.int .u8 (b:Int)] 5)).ownsRow w.heap.size 5 1 (.slice (some ⟨w.heap.size,0,none⟩) 2 2) 2 (nums .u8 [a,b]):=
 ⟨rfl,.inr ⟨w.heap.size,2,_,rfl,Nat.le_refl _,heap_alloc_new _ _,Nat.le_refl _,by decide,rfl,rfl⟩⟩
set_option maxRecDepth 100000 in
set_option maxHeartbeats 8000000 in
theorem cbody_walk(t:TxD)(w:World)(h:t.good w)(hN:t.ins.length≤256)(hM:t.outs.length≤256)(h4:∀o∈t.outs,o.paths.length≤4):
  Calls Tryz.prog 39 #[.agg t.cells.toArray] w (OutsR w (bodyB t)):=by
 obtain⟨N,hN'⟩:∃N,N=t.ins.length:=⟨_,rfl⟩
 obtain⟨M,hM'⟩:∃M,M=t.outs.length:=⟨_,rfl⟩
 obtain⟨ia,hia⟩:∃ia,ia=t.ia:=⟨_,rfl⟩
 obtain⟨ic,hic⟩:∃ic,ic=t.ic:=⟨_,rfl⟩
 obtain⟨oa,hoa⟩:∃oa,oa=t.oa:=⟨_,rfl⟩
 obtain⟨oc,hoc⟩:∃oc,oc=t.oc:=⟨_,rfl⟩
 have G:=hid h
 have NN:=hid (And.intro hN' hM')
 have NB:=hid (show N≤256∧M≤256 by rw [hN',hM'];exact⟨hN,hM⟩)
 have H4:=hid h4
 have PI:=hid (show Rd w 130 ia N ic (t.ins.flatMap InD.cells) by rw [hia,hic,hN'];exact h.ins)
 have PO:=hid (show Rd w 34 oa M oc (t.outs.flatMap OutD.cells) by rw [hoa,hoc,hM'];exact h.outs)
 have OLEN:=hid (show(t.outs.flatMap outB).length≤457*256 from by
  have:=outsB_len (os:=t.outs) (fun o ho=>⟨(h.ook o ho).anchor.1,(h.ook o ho).ok,h4 o ho⟩)
  omega)
 have ILEN:=hid (show ∀k,((t.ins.take k).flatMap inB).length≤36*256 from fun k=>by
  rw [insB_len (fun i hi=>h.iok i (List.mem_of_mem_take hi)),List.length_take];omega)
 have e:t.cells=[.slice ia N ic,.slice oa M oc]:=by unfold TxD.cells;rw [hia,hic,hN',hoa,hoc,hM']
 rw [e]
 obtain⟨c0,hc0⟩:∃c0,c0=N % 256:=⟨_,rfl⟩
 obtain⟨c1,hc1⟩:∃c1,c1=N / 256 % 256:=⟨_,rfl⟩
 have r0:IntKind.u8.wrap (N:Int)=(c0:Int):=by rw [IntKind.wrap_u8];omega
 have r0':(N:Int) % 256=(c0:Int):=by omega
 have r1:IntKind.u8.wrap ((N:Int) / 256)=(c1:Int):=by rw [IntKind.wrap_u8];omega
 have r1':(N:Int) / 256 % 256=(c1:Int):=by omega
 have HC:=hid (And.intro hc0 hc1)
 have b1:=(Below.refl w.heap.size w).alloc (Nat.le_refl _) (.cells #[.slice ia N ic,.slice oa M oc] 25)
 have k0:(w.alloc (.cells #[.slice ia N ic,.slice oa M oc] 25)).cell? ⟨w.heap.size,0,none⟩=some (.slice ia N ic):=gen_cell (j:=0) (row_range (L:=[.slice ia N ic,.slice oa M oc]) (heap_alloc_new w _)) rfl
 have k1:(w.alloc (.cells #[.slice ia N ic,.slice oa M oc] 25)).cell? ⟨w.heap.size,1,none⟩=some (.slice oa M oc):=gen_cell (j:=1) (row_range (L:=[.slice ia N ic,.slice oa M oc]) (heap_alloc_new w _)) rfl
 have B1:=hid b1
 clear h hN hM hN' hM' hia hic hoa hoc e b1 h4 hc0 hc1
 go_enter Tryz.func39,Tryz.ntmps39
 go_upto_region 1 with(fail)
 generalize w.alloc (.cells #[.slice ia N ic,.slice oa M oc] 25)=w1 at *
 have K0:=hid k0
 have K1:=hid k1
 have M2:=hid (own_lit2 w1 c0 c1)
 have bl:=hid ((Below.refl w1.heap.size w1).alloc (Nat.le_refl _) (.cells #[.int .u8 (c0:Int),.int .u8 (c1:Int)] 5))
 have k0':=cell_keep bl.out k0
 go_upto_region 3 with(fail)
 clear r0 r0' r1 r1' k0 k1 k0'
 go_loopw [3,19] (fun x3 x19 wr=>∃(k:Nat) (v3:Value),v3=x3∧k≤N∧x19 = .int .i64 (k:Int)∧wr.ownsRow w1.heap.size 5 1 v3 (2+((t.ins.take k).flatMap inB).length) (nums .u8 ([c0,c1]++(t.ins.take k).flatMap inB))∧Below w1.heap.size w1 wr) (fun _ x19 _=>N - (intOf x19).toNat)
 case atStart=>exact⟨0,_,rfl,Nat.zero_le _,rfl,M2.out,bl.out⟩
 case round=>
  obtain⟨k,v3,hv3,hk,rfl,ho,hb⟩:=hrel
  obtain⟨wo,rfl⟩:∃wo,wo=wr:=⟨_,rfl⟩
  subst hv3
  have BR:=hid hb
  have OW:=hid ho
  have BW:=hid (B1.out.trans (hb.mono B1.out.size))
  clear hb ho M2 bl
  by_cases hlk:k<N
  case neg=>
   obtain rfl:k=N:=by omega
   have u1:decide (k<k)=false:=decide_eq_false (by omega)
   have u2:decide ((k:Int)<(k:Int))=false:=decide_eq_false (by omega)
   have k1':=cell_keep BR.out K1.out
   have CO:=hid (couts_walk oa M oc t.outs wo NN.out.2 (PO.out.below BW.out) (fun o ho=>(G.out.ook o ho).below BW.out) H4.out NB.out.2)
   clear hk hlk
   go_wp2_with (fail)
   refine CO.out.mono ?_
   rintro e w5 ⟨v5,rfl,o5,b5⟩
   obtain⟨ol,hol⟩:∃ol,ol=(t.outs.flatMap outB).length:=⟨_,rfl⟩
   have HOL:=hid (show ol≤457*256 by rw [hol];exact OLEN.out)
   rw [← hol] at o5
   obtain⟨a5,c5,rfl,rd5⟩:=Rd.of_owns o5
   have RD5:=hid rd5
   have B5:=hid b5
   have OW5:=hid (ownKB OW.out b5)
   have NL:=hid (ILEN.out k)
   clear o5 b5 rd5 CO k1' hol
   go_wp2_with (at_builtin;refine wpList_when (by rfl) (fun K hK=>wp_cat _ _ 28 rfl tyBy w1.heap.size OW5.out rfl rfl RD5.out (nums_oneCell _ _) (by have:=NL.out;have:=HOL.out;omega) (by have:=NL.out;have:=HOL.out;unfold maxLen;omega) (Nat.le_trans BR.out.size B5.out.size) (fun v6 w6 own6 g6 nb6=>hK _ _ ?_));clear hK K;have O6:=hid own6;have B6:=hid ((Keep.grown g6 (S:=fun i=>v3.ownBlock=some i) (fun _ e=>e)).below (B:=w1.heap.size) (fun i e=>(OW5.out.lt _ e).1) (Nat.le_trans BR.out.size B5.out.size));clear own6 g6 nb6)
   go_ret
   refine⟨v6,rfl,?_,BW.out.trans ((B5.out.mono BW.out.size).trans (B6.out.mono B1.out.size))⟩
   have o6:=own_mono O6.out B1.out.size
   rw [nums_append] at o6
   have hl:=o6.1
   rw [nums_length,Nat.mul_one] at hl
   have e:bodyB t=[c0,c1]++(t.ins.take k).flatMap inB++t.outs.flatMap outB:=by
    unfold bodyB
    rw [HC.out.1,HC.out.2,NN.out.1,List.take_length,List.append_assoc]
   rw [e,hl]
   exact o6
  have u1:decide (k<N)=true:=decide_eq_true hlk
  have u2:decide ((k:Int)<(N:Int))=true:=decide_eq_true (by omega)
  have u6:(k:Int)<(N:Int):=by omega
  have u7:¬ ((N:Int)≤(k:Int)):=by omega
  have u8':¬ (N≤k):=by omega
  obtain⟨x,hx⟩:∃x,t.ins[k]? = some x:=⟨_,List.getElem?_eq_getElem (by rw [← NN.out.1];exact hlk)⟩
  have xok:=hid (G.out.iok x (List.mem_of_getElem? hx))
  obtain⟨b,off,rfl,rg⟩:=rd_row (fun z hz=>InD.len (G.out.iok z hz)) PI.out hx hlk
  have rgr:=range_keep BW.out rg
  obtain⟨xcs,hxcs⟩:∃xcs,xcs=x.cells:=⟨_,rfl⟩
  have XL:=hid (show xcs.length=130 by rw [hxcs];exact InD.len xok.out)
  rw [← hxcs] at rgr
  have hiC:=hid (show(Tryz.prog.info? 69).map (·.size)=some xcs.length by rw [XL.out];kernel_rfl)
  have hiCa:=hid (show(Tryz.prog.info? 69).map (·.size)=some xcs.toArray.size by rw [List.size_toArray,XL.out];kernel_rfl)
  have hoC:=hid (show 130=xcs.toArray.size by rw [List.size_toArray,XL.out])
  have h16:=hid (show(xcs.toArray.all fun x=>x.oneCell')=true by rw [hxcs];exact all_oneCell_toArray (InD.one x))
  obtain⟨k1n,hk1⟩:∃k1n,k1n=k+1:=⟨_,rfl⟩
  have r4:IntKind.i64.wrap ((k:Int)+1)=(k1n:Int):=by have:=NB.out;rw [IntKind.wrap_i64];omega
  have I1:=hid (And.intro hk1 hlk)
  have XC:=hid (show(xcs.drop 0).take 33=ptI x.tx x.out from by rw [hxcs];exact InD.point xok.out)
  have HX:=hid hx
  have NL:=hid (ILEN.out k)
  clear hk hlk hx rg hxcs hk1
  go_upto_region 5 with(first|with_reducible refine wpList_load_mid rfl _ _ rfl b (off+k*130) rfl xcs _ rgr Tryz.underlying69 rfl hiC.out ?_|(refine wpList_store_row rfl _ _ _ rfl wo.heap.size xcs.toArray rfl rfl _ _ (heap_alloc_new _ _) hiCa.out hoC.out h16.out ?_;refine laidW (F:=fun w3=>wpList _ _ _ _ _ w3) ?_;intro w3 h3 b3))
  have px:=gen_range (row_range h3.out) 0 33
  rw [XC.out] at px
  obtain⟨lx,hlx⟩:∃lx,lx=ptI x.tx x.out:=⟨_,rfl⟩
  have hiP:=hid (show(Tryz.prog.info? 60).map (·.size)=some lx.length from by rw [hlx,show(ptI x.tx x.out).length=33 by simp [ptI,xok.out.tx.1]];kernel_rfl)
  have CP:=hid (cput_walk x.tx x.out xok.out.tx w3)
  rw [← hlx] at CP px
  have OW3:=hid (ownKB OW.out b3.out)
  clear u1 u2 u6 u7 u8' rgr hlx
  go_wp2_with (with_reducible refine wpList_load_mid rfl _ _ rfl wo.heap.size 0 rfl lx _ px Tryz.underlying60 rfl hiP.out ?_)
  refine CP.out.mono ?_
  rintro e w5 ⟨v5,rfl,o5,b5⟩
  have l5:(x.tx++f4 x.out).length=36:=inB_len xok.out
  rw [l5] at o5
  obtain⟨a5,c5,rfl,rd5⟩:=Rd.of_owns o5
  have RD5:=hid rd5
  have OW5:=hid (ownKB OW3.out b5)
  have B5:=hid (show Below w1.heap.size w1 w5 from(BR.out.trans (b3.out.mono BR.out.size)).trans (b5.mono (Nat.le_trans BR.out.size b3.out.size)))
  clear o5 b5 rd5 CP px l5
  go_wp2_with (at_builtin;refine wpList_when (by rfl) (fun K hK=>wp_cat _ _ 28 rfl tyBy w1.heap.size OW5.out rfl rfl RD5.out (nums_oneCell _ _) (by have:=NL.out;omega) (by have:=NL.out;unfold maxLen;omega) B5.out.size (fun v6 w6 own6 g6 nb6=>hK _ _ ?_));clear hK K;have O6:=hid own6;have B6:=hid ((Keep.grown g6 (S:=fun i=>v3.ownBlock=some i) (fun _ e=>e)).below (B:=w1.heap.size) (fun i e=>(OW5.out.lt _ e).1) B5.out.size);clear own6 g6 nb6)
  go_roundw
  case rel=>
   refine⟨k1n,v6,rfl,by have:=I1.out;omega,rfl,?_,B5.out.trans B6.out⟩
   have o6:=O6.out
   rw [nums_append] at o6
   have hl:=o6.1
   rw [nums_length,Nat.mul_one] at hl
   have e:[c0,c1]++(t.ins.take k).flatMap inB++(x.tx++f4 x.out)=[c0,c1]++(t.ins.take k1n).flatMap inB:=by
    rw [I1.out.1,List.take_add_one,HX.out,List.flatMap_append]
    simp [inB]
   rw [e] at o6 hl
   rw [← hl] at o6
   rw [show 2+((t.ins.take k1n).flatMap inB).length=([c0,c1]++(t.ins.take k1n).flatMap inB).length from by rw [List.length_append];rfl]
   exact o6
  case measure=>simp [intOf];have:=I1.out;omega
end Go.Proofs.YtnbmpgballopeaaGreatDoor
/- slices.Clone at the chain's paths, inputs, outputs. -/
namespace Go.Proofs.YtnbmpgballopeaaGreatDoor
open Go.RowKit
def zPath:Array Value:=(nums .u8 (List.replicate 96 0)++[Value.int .i64 0,Value.int .i64 0]).toArray
def zIn:Array Value:=(nums .u8 (List.replicate 32 0)++(Value.int .i64 0::Value.int .i64 0::nums .u8 (List.replicate 96 0))).toArray
def zOut:Array Value:=(Value.int .u64 0::Value.slice none 0 0::nums .u8 (List.replicate 32 0)).toArray
def CloC(w:World)(t:TypeId)(size n:Nat)(xs:List Value)(e:Ending)(w':World):Prop:=∃a c,e = .returned (.slice a n c)∧w'.ownsRow w.heap.size t size (.slice a n c) n xs∧Below w.heap.size w w'
set_option maxRecDepth 100000 in
theorem tyPath:SliceTy Tryz.prog 64 121 98 112 (.agg zPath):=.mk' Tryz.underlying64 (by kernel_rfl) (by decide) (by decide)
set_option maxRecDepth 100000 in
set_option maxHeartbeats 4000000 in
theorem cloPath_walk(a:Option Addr)(n c:Nat)(xs:List Value)(w:World)(h:Rd w 98 a n c xs)(h1:∀u∈xs,u.oneCell'=true)(hn:n≤4096):Calls Tryz.prog 74 #[.slice a n c] w (CloC w 121 98 n xs):=by
 have H:=hid h
 have hn0':∀(a:Option Addr) (n c:Nat) (w:World),(binOp .eql 64 (.slice a n c) (.slice none 0 0)).run Tryz.prog w = .ok (.bool a.isNone) w:=fun a n c w=>Go.Lib.run_eql_slice_nil w _ _ a n c 0 0 Tryz.underlying64
 cases a with
 | none=>
  have hc:c=0:=h.2.2.2.1 rfl
  have hn0:n=0:=by have:=h.2.1;omega
  subst hc
  subst hn0
  have hx:xs=[]:=List.eq_nil_of_length_eq_zero (by have:=h.1;omega)
  subst hx
  clear h h1
  go_enter Tryz.func74,Tryz.ntmps74
  go_wp2
  go_ret
  exact⟨none,0,rfl,⟨rfl,.inl ⟨rfl,rfl⟩⟩,Below.refl _ _⟩
 | some ad=>
  have MD:=hid (World.ownsRow_made w #[] 0 (base:=w.heap.size) (e:=121) (size:=98) (Nat.le_refl _) (by simp) (by simp))
  have mb0:=(Below.refl w.heap.size w).alloc (Nat.le_refl _) (.cells #[] 121)
  have RD:=hid (show Rd _ 98 (some ad) n c xs from h.below mb0)
  have M0:=hid mb0
  have ONE:=hid h1
  have HN:=hid hn
  clear mb0 h h1
  go_enter Tryz.func74,Tryz.ntmps74
  go_wp2_with (at_builtin;refine wpList_cat rfl _ _ 64 rfl tyPath w.heap.size MD.out rfl rfl RD.out ONE.out (by have:=HN.out;omega) (by have:=HN.out;unfold maxLen;omega) (by simp) ?_;intro v5 w5 own5 b5 hs5 _;have O5:=hid own5;have B5:=hid b5;clear own5 b5 hs5)
  go_ret
  have o:=O5.out
  simp only [List.nil_append,Nat.zero_add] at o
  obtain⟨a5,c5,e5,_⟩:=Rd.of_owns o
  exact⟨a5,c5,congrArg Ending.returned e5,by rw [← e5];exact o,M0.out.trans B5.out⟩
set_option maxRecDepth 100000 in
theorem tyIn:SliceTy Tryz.prog 22 69 130 144 (.agg zIn):=.mk' Tryz.underlying22 (by kernel_rfl) (by decide) (by decide)
set_option maxRecDepth 100000 in
set_option maxHeartbeats 4000000 in
theorem cloIn_walk(a:Option Addr)(n c:Nat)(xs:List Value)(w:World)(h:Rd w 130 a n c xs)(h1:∀u∈xs,u.oneCell'=true)(hn:n≤4096):Calls Tryz.prog 53 #[.slice a n c] w (CloC w 69 130 n xs):=by
 have H:=hid h
 have hn0':∀(a:Option Addr) (n c:Nat) (w:World),(binOp .eql 22 (.slice a n c) (.slice none 0 0)).run Tryz.prog w = .ok (.bool a.isNone) w:=fun a n c w=>Go.Lib.run_eql_slice_nil w _ _ a n c 0 0 Tryz.underlying22
 cases a with
 | none=>
  have hc:c=0:=h.2.2.2.1 rfl
  have hn0:n=0:=by have:=h.2.1;omega
  subst hc
  subst hn0
  have hx:xs=[]:=List.eq_nil_of_length_eq_zero (by have:=h.1;omega)
  subst hx
  clear h h1
  go_enter Tryz.func53,Tryz.ntmps53
  go_wp2
  go_ret
  exact⟨none,0,rfl,⟨rfl,.inl ⟨rfl,rfl⟩⟩,Below.refl _ _⟩
 | some ad=>
  have MD:=hid (World.ownsRow_made w #[] 0 (base:=w.heap.size) (e:=69) (size:=130) (Nat.le_refl _) (by simp) (by simp))
  have mb0:=(Below.refl w.heap.size w).alloc (Nat.le_refl _) (.cells #[] 69)
  have RD:=hid (show Rd _ 130 (some ad) n c xs from h.below mb0)
  have M0:=hid mb0
  have ONE:=hid h1
  have HN:=hid hn
  clear mb0 h h1
  go_enter Tryz.func53,Tryz.ntmps53
  go_wp2_with (at_builtin;refine wpList_cat rfl _ _ 22 rfl tyIn w.heap.size MD.out rfl rfl RD.out ONE.out (by have:=HN.out;omega) (by have:=HN.out;unfold maxLen;omega) (by simp) ?_;intro v5 w5 own5 b5 hs5 _;have O5:=hid own5;have B5:=hid b5;clear own5 b5 hs5)
  go_ret
  have o:=O5.out
  simp only [List.nil_append,Nat.zero_add] at o
  obtain⟨a5,c5,e5,_⟩:=Rd.of_owns o
  exact⟨a5,c5,congrArg Ending.returned e5,by rw [← e5];exact o,M0.out.trans B5.out⟩
set_option maxRecDepth 100000 in
theorem tyOut:SliceTy Tryz.prog 23 66 34 64 (.agg zOut):=.mk' Tryz.underlying23 (by kernel_rfl) (by decide) (by decide)
set_option maxRecDepth 100000 in
set_option maxHeartbeats 4000000 in
theorem cloOut_walk(a:Option Addr)(n c:Nat)(xs:List Value)(w:World)(h:Rd w 34 a n c xs)(h1:∀u∈xs,u.oneCell'=true)(hn:n≤4096):Calls Tryz.prog 54 #[.slice a n c] w (CloC w 66 34 n xs):=by
 have H:=hid h
 have hn0':∀(a:Option Addr) (n c:Nat) (w:World),(binOp .eql 23 (.slice a n c) (.slice none 0 0)).run Tryz.prog w = .ok (.bool a.isNone) w:=fun a n c w=>Go.Lib.run_eql_slice_nil w _ _ a n c 0 0 Tryz.underlying23
 cases a with
 | none=>
  have hc:c=0:=h.2.2.2.1 rfl
  have hn0:n=0:=by have:=h.2.1;omega
  subst hc
  subst hn0
  have hx:xs=[]:=List.eq_nil_of_length_eq_zero (by have:=h.1;omega)
  subst hx
  clear h h1
  go_enter Tryz.func54,Tryz.ntmps54
  go_wp2
  go_ret
  exact⟨none,0,rfl,⟨rfl,.inl ⟨rfl,rfl⟩⟩,Below.refl _ _⟩
 | some ad=>
  have MD:=hid (World.ownsRow_made w #[] 0 (base:=w.heap.size) (e:=66) (size:=34) (Nat.le_refl _) (by simp) (by simp))
  have mb0:=(Below.refl w.heap.size w).alloc (Nat.le_refl _) (.cells #[] 66)
  have RD:=hid (show Rd _ 34 (some ad) n c xs from h.below mb0)
  have M0:=hid mb0
  have ONE:=hid h1
  have HN:=hid hn
  clear mb0 h h1
  go_enter Tryz.func54,Tryz.ntmps54
  go_wp2_with (at_builtin;refine wpList_cat rfl _ _ 23 rfl tyOut w.heap.size MD.out rfl rfl RD.out ONE.out (by have:=HN.out;omega) (by have:=HN.out;unfold maxLen;omega) (by simp) ?_;intro v5 w5 own5 b5 hs5 _;have O5:=hid own5;have B5:=hid b5;clear own5 b5 hs5)
  go_ret
  have o:=O5.out
  simp only [List.nil_append,Nat.zero_add] at o
  obtain⟨a5,c5,e5,_⟩:=Rd.of_owns o
  exact⟨a5,c5,congrArg Ending.returned e5,by rw [← e5];exact o,M0.out.trans B5.out⟩
end Go.Proofs.YtnbmpgballopeaaGreatDoor
/- The law's bigTx and small. -/
namespace Go.Proofs.YtnbmpgballopeaaGreatDoor
open Go.RowKit
def bigT(t:TxD):Bool:=decide (260<t.ins.length) || (decide (260<t.outs.length) || t.outs.any (fun o=>decide (20<o.paths.length)))
theorem OutD.c1(o:OutD):o.cells[1]? = some (.slice o.pa o.paths.length o.pc):=rfl
set_option maxRecDepth 100000 in
set_option maxHeartbeats 4000000 in
theorem cbig_walk(t:TxD)(w:World)(h:t.good w):Calls Tryz.prog 5 #[.agg t.cells.toArray] w fun e w'=>e = .returned (.bool (bigT t))∧Below w.heap.size w w':=by
 obtain⟨N,hN⟩:∃N,N=t.ins.length:=⟨_,rfl⟩
 obtain⟨M,hM⟩:∃M,M=t.outs.length:=⟨_,rfl⟩
 obtain⟨ia,hia⟩:∃ia,ia=t.ia:=⟨_,rfl⟩
 obtain⟨ic,hic⟩:∃ic,ic=t.ic:=⟨_,rfl⟩
 obtain⟨oa,hoa⟩:∃oa,oa=t.oa:=⟨_,rfl⟩
 obtain⟨oc,hoc⟩:∃oc,oc=t.oc:=⟨_,rfl⟩
 have G:=hid h
 have NN:=hid (And.intro hN hM)
 have PO:=hid (show Rd w 34 oa M oc (t.outs.flatMap OutD.cells) by rw [hoa,hoc,hM];exact h.outs)
 have e:t.cells=[.slice ia N ic,.slice oa M oc]:=by unfold TxD.cells;rw [hia,hic,hN,hoa,hoc,hM]
 rw [e]
 have b1:=(Below.refl w.heap.size w).alloc (Nat.le_refl _) (.cells #[.slice ia N ic,.slice oa M oc] 25)
 have k0:(w.alloc (.cells #[.slice ia N ic,.slice oa M oc] 25)).cell? ⟨w.heap.size,0,none⟩=some (.slice ia N ic):=gen_cell (j:=0) (row_range (L:=[.slice ia N ic,.slice oa M oc]) (heap_alloc_new w _)) rfl
 have k1:(w.alloc (.cells #[.slice ia N ic,.slice oa M oc] 25)).cell? ⟨w.heap.size,1,none⟩=some (.slice oa M oc):=gen_cell (j:=1) (row_range (L:=[.slice ia N ic,.slice oa M oc]) (heap_alloc_new w _)) rfl
 have B1:=hid b1
 clear h hN hM hia hic hoa hoc e b1
 go_enter Tryz.func5,Tryz.ntmps5
 go_upto_region 1 with(fail)
 generalize w.alloc (.cells #[.slice ia N ic,.slice oa M oc] 25)=w1 at *
 by_cases a1:260<N
 ·have t1:decide ((260:Int)<(N:Int))=true:=decide_eq_true (by omega)
  have t2:decide (260<N)=true:=decide_eq_true a1
  have H:=hid a1
  clear a1
  go_wp2_with (fail)
  go_ret
  refine⟨?_,B1.out⟩
  unfold bigT
  rw [← NN.out.1,decide_eq_true H.out]
  rfl
 have t1:decide ((260:Int)<(N:Int))=false:=decide_eq_false (by omega)
 have t2:decide (260<N)=false:=decide_eq_false a1
 by_cases a2:260<M
 ·have t3:decide ((260:Int)<(M:Int))=true:=decide_eq_true (by omega)
  have t4:decide (260<M)=true:=decide_eq_true a2
  have H:=hid (And.intro a1 a2)
  clear a1 a2
  go_wp2_with (fail)
  go_ret
  refine⟨?_,B1.out⟩
  unfold bigT
  rw [← NN.out.1,← NN.out.2,decide_eq_false H.out.1,decide_eq_true H.out.2]
  rfl
 have t3:decide ((260:Int)<(M:Int))=false:=decide_eq_false (by omega)
 have t4:decide (260<M)=false:=decide_eq_false a2
 have HH:=hid (And.intro a1 a2)
 clear a1 a2
 go_upto_region 4 with(fail)
 clear t1 t2 t3 t4 k0 k1
 go_loopw [18] (fun x18 wr=>∃k:Nat,k≤M∧x18 = .int .i64 (k:Int)∧(t.outs.take k).any (fun o=>decide (20<o.paths.length))=false∧Below w.heap.size w wr) (fun x18 _=>M - (intOf x18).toNat)
 case atStart=>exact⟨0,Nat.zero_le _,rfl,by simp,B1.out⟩
 case round=>
  obtain⟨k,hk,rfl,hq,hb⟩:=hrel
  have BR:=hid hb
  have AQ:=hid hq
  clear hb hq
  by_cases hlk:k<M
  case neg=>
   obtain rfl:k=M:=by omega
   have u1:decide (k<k)=false:=decide_eq_false (by omega)
   have u2:decide ((k:Int)<(k:Int))=false:=decide_eq_false (by omega)
   clear hk hlk
   go_wp2_with (fail)
   go_ret
   refine⟨?_,BR.out⟩
   have aq:=AQ.out
   rw [NN.out.2,List.take_length] at aq
   unfold bigT
   rw [← NN.out.1,← NN.out.2,decide_eq_false HH.out.1,decide_eq_false HH.out.2,aq]
   rfl
  have u1:decide (k<M)=true:=decide_eq_true hlk
  have u2:decide ((k:Int)<(M:Int))=true:=decide_eq_true (by omega)
  have u6:(k:Int)<(M:Int):=by omega
  have u7:¬ ((M:Int)≤(k:Int)):=by omega
  have u8':¬ (M≤k):=by omega
  obtain⟨o,ho⟩:∃o,t.outs[k]? = some o:=⟨_,List.getElem?_eq_getElem (by rw [← NN.out.2];exact hlk)⟩
  have og:=G.out.ook o (List.mem_of_getElem? ho)
  obtain⟨b,off,rfl,rg⟩:=rd_row (fun z hz=>OutD.len (G.out.ook z hz)) PO.out ho hlk
  have rgr:=range_keep BR.out rg
  obtain⟨ocs,hocs⟩:∃ocs,ocs=o.cells:=⟨_,rfl⟩
  obtain⟨P,hP⟩:∃P,P=o.paths.length:=⟨_,rfl⟩
  obtain⟨pa,hpa⟩:∃pa,pa=o.pa:=⟨_,rfl⟩
  obtain⟨pc,hpc⟩:∃pc,pc=o.pc:=⟨_,rfl⟩
  have OL:=hid (show ocs.length=34 by rw [hocs];exact OutD.len og)
  have OC1:=hid (show ocs[1]? = some (.slice pa P pc) by rw [hocs,hpa,hP,hpc];rfl)
  rw [← hocs] at rgr
  have hiC:=hid (show(Tryz.prog.info? 66).map (·.size)=some ocs.length by rw [OL.out];kernel_rfl)
  have hiCa:=hid (show(Tryz.prog.info? 66).map (·.size)=some ocs.toArray.size by rw [List.size_toArray,OL.out];kernel_rfl)
  have hoC:=hid (show 34=ocs.toArray.size by rw [List.size_toArray,OL.out])
  have h16:=hid (show(ocs.toArray.all fun x=>x.oneCell')=true by rw [hocs];exact all_oneCell_toArray (OutD.one o))
  obtain⟨k1n,hk1⟩:∃k1n,k1n=k+1:=⟨_,rfl⟩
  have r4:IntKind.i64.wrap ((k:Int)+1)=(k1n:Int):=by have:=HH.out.2;rw [IntKind.wrap_i64];omega
  have I1:=hid (And.intro hk1 hlk)
  have HO:=hid ho
  have HPP:=hid hP
  clear hk hlk ho og rg hk1 hocs hP hpa hpc
  go_upto_region 6 with(first|with_reducible refine wpList_load_mid rfl _ _ rfl b (off+k*34) rfl ocs _ rgr Tryz.underlying66 rfl hiC.out ?_|(refine wpList_store_row rfl _ _ _ rfl wr.heap.size ocs.toArray rfl rfl _ _ (heap_alloc_new _ _) hiCa.out hoC.out h16.out ?_;refine laidW (F:=fun w3=>wpList _ _ _ _ _ w3) ?_;intro w3 h3 b3))
  have c1:=gen_cell (j:=1) (row_range h3.out) OC1.out
  have B3:=hid (BR.out.trans (b3.out.mono BR.out.size))
  clear u1 u2 u6 u7 u8' rgr
  by_cases h20:20<P
  ·have v1:decide ((20:Int)<(P:Int))=true:=decide_eq_true (by omega)
   have v2:decide (20<P)=true:=decide_eq_true h20
   have H:=hid h20
   clear h20
   go_wp2_with (fail)
   go_ret
   refine⟨?_,B3.out⟩
   have:t.outs.any (fun o=>decide (20<o.paths.length))=true:=List.any_eq_true.2 ⟨o,List.mem_of_getElem? HO.out,decide_eq_true (by rw [← HPP.out];exact H.out)⟩
   unfold bigT
   rw [← NN.out.1,← NN.out.2,decide_eq_false HH.out.1,decide_eq_false HH.out.2,this]
   rfl
  ·have v1:decide ((20:Int)<(P:Int))=false:=decide_eq_false (by omega)
   have v2:decide (20<P)=false:=decide_eq_false h20
   have H:=hid (show(t.outs.take k1n).any (fun o=>decide (20<o.paths.length))=false from by
    rw [I1.out.1,List.take_add_one,HO.out,List.any_append,AQ.out]
    simp only [Option.toList_some,List.any_cons,List.any_nil,Bool.or_false,Bool.false_or]
    exact decide_eq_false (by rw [← HPP.out];exact h20))
   clear h20
   go_wp2_with (fail)
   go_roundw
   case rel=>exact⟨k1n,by have:=I1.out;omega,rfl,H.out,B3.out⟩
   case measure=>simp [intOf];have:=I1.out;omega
end Go.Proofs.YtnbmpgballopeaaGreatDoor

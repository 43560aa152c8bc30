/- The chapter's example. -/
import Derived.Test.YtnbmpgballopeaaGreatDoorZChl
namespace Go.Proofs.YtnbmpgballopeaaGreatDoor
open Go.RowKit
set_option maxRecDepth 100000 in
set_option maxHeartbeats 16000000 in
theorem chead_walk(w:World)(ht:Tabs w):Calls Tryz.prog 4 #[] w (fun e w'=>e = .returned (.bool true)∧Below w.heap.size w w'):=by
 have HT:=hid ht
 clear ht
 go_enter Tryz.func4,Tryz.ntmps4
 go_upto_region 1 with(fail)
 go_wp2_with (fail)
 refine(onew_walk w).mono ?_
 rintro e w1 ⟨ob,mb,rfl,off,lo,lm,b1⟩
 have OFF:=hid off
 have LO:=hid lo
 have LM:=hid lm
 have B1:=hid b1
 clear off lo lm b1
 go_wp2_with (fail)
 refine(cnew_walk ob w1).mono ?_
 rintro e w2 ⟨cb,hm,dm,wm,sm,rfl,hc,m1,m2,m3,m4,ord,b2⟩
 have L2:=hid (led_new HT.out OFF.out LO.out LM.out B1.out hc m1 m2 m3 m4 ord b2)
 have B2:=hid (show Below w.heap.size w w2 from B1.out.trans (b2.mono B1.out.size))
 clear hc m1 m2 m3 m4 ord b2 OFF LO LM B1
 have OD:=hid L2.out.ord
 have BH1:=hid bh1
 have BH2:=hid bh2
 obtain⟨s1,hs1⟩:∃s1,s1=h1x:=⟨_,rfl⟩
 obtain⟨s2,hs2⟩:∃s2,s2=h2x:=⟨_,rfl⟩
 have S1:=hid (show H32b s1 by rw [hs1];exact h1_ok)
 have S2:=hid (show H32b s2 by rw [hs2];exact h2_ok)
 rw [← hs1] at BH1
 rw [← hs2] at BH2
 clear hs1 hs2
 go_upto_region 5 with(fail)
 go_wp2_with (with_reducible refine wpList_build1 rfl _ _ rfl BH1.out rfl ?_)
 refine(cmine_walk 100 (by decide) s1 S1.out w2 (HT.out.below B2.out)).mono ?_
 rintro e w3 ⟨g1,rfl,lg1,gd1,b3⟩
 have G1:=hid lg1
 have GD1:=hid gd1
 have B3:=hid b3
 obtain⟨o1,ho1⟩:∃o1,o1=mineO 100 g1 (ownD s1):=⟨_,rfl⟩
 rw [← ho1] at GD1
 have O1:=hid ho1
 have GV:=hid (cgive_walk (L2.out.below b3) (by decide) (by decide) o1 GD1.out (by rw [ho1];intro ad ha;cases ha;have:=OD.out;have:=L2.out.le;show g1≠cb;omega))
 rw [← ho1]
 clear lg1 gd1 b3 ho1
 go_wp2_with (fail)
 refine GV.out.mono ?_
 rintro e w4 hgv
 rcases hgv with⟨hn,_⟩|⟨hz,rfl,⟨a1,k1,of1,l4⟩,k4⟩
 ·exact absurd (by rw [O1.out];exact mineO_code _ _ _) hn
 have L4:=hid l4
 have OF1:=hid of1
 have B4:=hid (show Below w.heap.size w w4 from(B2.out.trans (B3.out.mono B2.out.size)).trans (k4.below (fun i h=>by have:=OD.out;omega) (B2.out.trans (B3.out.mono B2.out.size)).size))
 have Z1:=hid hz
 clear hz l4 of1 k4 GV
 obtain⟨gd,hgd⟩:∃gd,gd=giftD (0+1):=⟨_,rfl⟩
 have GD:=hid (show H32b gd from by rw [hgd];exact⟨sha_len _,sha_lt _⟩)
 rw [← hgd] at L4 ⊢
 clear hgd
 obtain⟨pp,hpp⟩:∃pp,pp=ptI gd 0:=⟨_,rfl⟩
 rw [← hpp]
 have PPL:=hid (show pp.length=33 from by rw [hpp];simp [ptI,GD.out.1])
 have hiPP:=hid (show(Tryz.prog.info? 60).map (·.size)=some pp.length by rw [PPL.out];kernel_rfl)
 have hiPA:=hid (show(Tryz.prog.info? 60).map (·.size)=some pp.toArray.size by rw [List.size_toArray,PPL.out];kernel_rfl)
 have hoPA:=hid (show 33=pp.toArray.size by rw [List.size_toArray,PPL.out])
 have h1PA:=hid (show(pp.toArray.all fun x=>x.oneCell')=true by rw [hpp];exact all_oneCell_toArray (ptI_one gd 0))
 have BIN:=hid (show Tryz.prog.built 69 [(0,.agg pp.toArray)]=some (oneX gd zh).cells.toArray from by rw [hpp];exact bIn gd GD.out.1)
 clear hpp
 go_upto_region 6 with(refine wpList_store_row rfl _ _ _ rfl w4.heap.size pp.toArray rfl rfl _ _ (heap_alloc_new _ _) hiPA.out hoPA.out h1PA.out ?_;refine laidW (F:=fun w4=>wpList _ _ _ _ _ w4) ?_;intro w5 h5 b5)
 have HP5:=hid h5.out
 have B5:=hid (show Below w.heap.size w w5 from B4.out.trans (b5.out.mono B4.out.size))
 have L5:=hid (L4.out.below b5.out)
 have PB:=hid (show w4.heap.size<w5.heap.size from(Array.getElem?_eq_some_iff.1 h5.out).1)
 have PB2:=hid (show w2.heap.size≤w4.heap.size from L4.out.le)
 clear h5 b5
 generalize w4.heap.size=pb at *
 have GP1:=hid (show o1.paths=[ownP (ownD s1)]∧o1.coins=100 from by rw [O1.out];exact⟨rfl,rfl⟩)
 have OS1:=hid (show H32b (ownD s1) from⟨(ownD_ok s1).1,(ownD_ok s1).2⟩)
 have OS2:=hid (show H32b (ownD s2) from⟨(ownD_ok s2).1,(ownD_ok s2).2⟩)
 rename_i K aK
 have MID:∀(ib g2 o2 tb:Nat) (u21 u22 u23 u24 u25 u26 u27:Value) (wz:World),w5.heap.size≤ib→w5.heap.size≤g2→w5.heap.size≤o2→w5.heap.size≤tb→ib≠g2→ib≠o2→ib≠tb→TxRow wz ib o2 tb gd zh (mineO 90 g2 (ownD s2))→Below w5.heap.size w5 wz→K ⟨List.toArray (Value.bool false::Value.pointer (some ⟨ob,0,none⟩)::Value.pointer (some ⟨cb,0,none⟩)::Value.pointer (some ⟨pb,0,none⟩)::Value.int IntKind.i64 0::Value.pointer (some ⟨tb,0,none⟩)::undef::undef::undef::Value.pointer (some ⟨ob,0,none⟩)::Value.pointer (some ⟨ob,0,none⟩)::Value.pointer (some ⟨cb,0,none⟩)::Value.pointer (some ⟨cb,0,none⟩)::Value.bool false::Value.tuple #[Value.agg pp.toArray,Value.int IntKind.i64 0]::Value.pointer (some ⟨cb,0,none⟩)::Value.agg (nums IntKind.u8 s1).toArray::Value.agg o1.cells.toArray::Value.tuple #[Value.agg pp.toArray,Value.int IntKind.i64 0]::Value.agg pp.toArray::Value.int IntKind.i64 0::u21::u22::u23::u24::u25::u26::u27::undef::undef::undef::undef::undef::undef::undef::undef::undef::undef::undef::undef::undef::undef::undef::undef::undef::undef::undef::undef::undef::undef::undef::undef::undef::undef::undef::undef::undef::undef::undef::undef::undef::undef::undef::undef::undef::undef::undef::undef::undef::undef::undef::undef::undef::undef::undef::undef::undef::[]),[]⟩ wz:=by
  intro ib g2 o2 tb u21 u22 u23 u24 u25 u26 u27 wz l1 l2 l3 l4 n1 n2 n3 hrow bz
  refine aK _ _ ?_
  have RW:=hid hrow
  have BZ:=hid bz
  have LZ:=hid (L5.out.below bz)
  have N:=hid (show w5.heap.size≤ib∧w5.heap.size≤g2∧w5.heap.size≤o2∧w5.heap.size≤tb∧ib≠g2∧ib≠o2∧ib≠tb from⟨l1,l2,l3,l4,n1,n2,n3⟩)
  have OM:=hid (show ob<w2.heap.size∧mb<w2.heap.size∧w2.heap.size≤w5.heap.size from by have:=OD.out;have:=PB.out;have:=PB2.out;omega)
  clear hrow bz l1 l2 l3 l4 n1 n2 n3
  go_upto_region 7 with(fail)
  obtain⟨o,ho⟩:∃o,o=mineO 90 g2 (ownD s2):=⟨_,rfl⟩
  have OE:=hid ho
  rw [← ho] at RW
  have ZO:=hid (show o.code=0 from by rw [ho];exact mineO_code _ _ _)
  have CO:=hid (show o.coins=90 from by rw [ho];rfl)
  have PO4:=hid (show o.paths.length=1 from by rw [ho];rfl)
  clear ho
  obtain⟨id,hid'⟩:∃id,id=oneId gd o:=⟨_,rfl⟩
  have IDE:=hid hid'
  have IDO:=hid (show H32b id from by rw [hid'];exact⟨sha_len _,sha_lt _⟩)
  clear hid'
  have TG:=hid (RW.out.good GD.out zh32)
  have CI:=fun(wx:World) (bx:Below wz.heap.size wz wx)=>hid (show Calls Tryz.prog 12 #[.agg (#[.slice (some ⟨ib,0,none⟩) 1 1,.slice (some ⟨o2,0,none⟩) 1 1]:Array Value)] wx (fun e w'=>e = .returned (.agg (nums .u8 id).toArray)∧Below wx.heap.size wx w') from by have:=cid_walk (rowT ib o2 gd zh o) wx (TG.out.below bx) (LZ.out.tabs.below bx);rw [show idB (rowT ib o2 gd zh o)=id from by rw [IDE.out];exact oneT_id' ZO.out (by rw [CO.out];decide)] at this;exact this)
  have k0:=hid (show wz.cell? ⟨tb,0,none⟩=some (.slice (some ⟨ib,0,none⟩) 1 1) from gen_cell (j:=0) (row_range RW.out.r3) rfl)
  have rT:=hid (row_range RW.out.r3)
  have hiT:=hid (show(Tryz.prog.info? 25).map (·.size)=some ([.slice (some ⟨ib,0,none⟩) 1 1,.slice (some ⟨o2,0,none⟩) 1 1]:List Value).length by kernel_rfl)
  obtain⟨no,nole,mo⟩:=LZ.out.off
  have MO:=hid mo
  have NO0:=hid nole
  obtain⟨tk,htk⟩:∃tk,tk=tokD s1 id:=⟨_,rfl⟩
  have TKE:=hid htk
  have TKO:=hid (show H32b tk from by rw [htk];exact⟨(tokD_ok s1 id).1,(tokD_ok s1 id).2⟩)
  have hiK:=hid (show(Tryz.prog.info? 43).map (·.size)=some (nums .u8 tk).toArray.size by rw [List.size_toArray,nums_length,TKO.out.1];kernel_rfl)
  have h1K:=hid (all_oneCell_toArray (nums_oneCell .u8 tk))
  clear mo nole htk
  refine wp_region_X (l:=6) (S:=fun b w'=>Keep (fun i=>i=ob∨i=mb∨i=ib) wz w'∧(b=false→Below wz.heap.size wz w')) (by kernel_rfl) (⟨Keep.of (Below.refl _ _).drew,fun _=>(Below.refl _ _).drew⟩) (fun hHeld=>?_)
  try simp only [List.size_toArray,List.length_cons,List.length_nil,Nat.reduceAdd,Array.replicate_succ,Array.replicate_zero,List.push_toArray,List.nil_append,List.cons_append]
  refine tkA (i:=0) (oi:=⟨_,.fieldAddr 25 (.tmp 5) 0,_,_,_,_⟩) (v:=?v1001) (b:=false) rfl (yi ?y1001) hHeld ?_
  case y1001=>(intro w _;go_simp;(try with_reducible rfl))
  (try simp only [Act.put,s0,s1,s2])
  refine tkA (i:=1) (oi:=⟨_,.load 22 (.tmp 28),_,_,_,_⟩) (v:=(.slice (some ⟨ib,0,none⟩) 1 1)) (b:=false) rfl (Or.inl ⟨by rfl,fun w h=>by have c9:=h.1.cell k0.out (fun e=>by have:=N.out;have:=OM.out;dsimp only at e;omega);go_simp⟩) hHeld ?_
  (try simp only [Act.put,s0,s1,s2])
  refine tkE (i:=2) (oi:=⟨_,.move (.tmp 1),_,_,_,_⟩) (v:=?v1002) rfl (yi ?y1002) hHeld ?_
  case y1002=>(intro w _;go_simp;(try with_reducible rfl))
  (try simp only [Act.put,s0,s1,s2])
  refine tkE (i:=3) (oi:=⟨_,.build 43 #[(0,.const (.int .u8 1))],_,_,_,_⟩) (v:=(.agg (nums .u8 s1).toArray)) rfl (Or.inl ⟨by rfl,fun w _=>run_build1' rfl rfl BH1.out⟩) hHeld ?_
  (try simp only [Act.put,s0,s1,s2])
  refine' tkA (i:=4) (oi:=⟨_,.load 25 (.tmp 5),_,_,_,_⟩) (v:=_) (b:=false) rfl (yieldsIf_load_mid (by rfl) _ _ rfl tb 0 rfl [.slice (some ⟨ib,0,none⟩) 1 1,.slice (some ⟨o2,0,none⟩) 1 1] _ (fun _ h=>h.1.range rT.out (fun e=>by have:=N.out;have:=OM.out;omega)) Tryz.underlying25 rfl hiT.out) hHeld ?_
  (try simp only [Act.put,s0,s1,s2])
  refine wpAnyX_ready (rs:=[5]) (by kernel_rfl) (by simp) ?_
  refine AllReadyX.cons (o:=⟨_,.call ⟨.value (.func 12),#[.tmp 32],#[25]⟩,_,_,_,_⟩) rfl (b:=false) (by kernel_rfl) (fun K hK=>?_) ?_
  go_simp;refine(CI _ (hHeld.2 rfl)).out.mono ?_;rintro e wi ⟨rfl,bi⟩;have BI:=hid bi;clear bi
  refine hK.out _ _ (⟨hHeld.1.trans (Keep.of BI.out),fun e=>(hHeld.2 e).trans (BI.out.mono (hHeld.2 e).size)⟩) (fun hHeld=>?_)
  clear hK K
  (try simp only [s0,s1,s2])
  refine wpAnyX_ready (rs:=[6]) (by kernel_rfl) (by simp) ?_
  refine AllReadyX.cons (o:=⟨_,.call ⟨.value (.func 21),#[.tmp 30,.tmp 31,.tmp 33],#[55,43,43]⟩,_,_,_,_⟩) rfl (b:=true) (by kernel_rfl) (fun K hK=>?_) ?_
  have BB:=hid (hHeld.2 rfl);go_simp;refine(allow_walk s1 id S1.out IDO.out ob mb no (fun _=>none) _ (MO.out.below BB.out) (by have:=NO0.out;omega) (LZ.out.tabs.below BB.out)).mono ?_;rintro e wa ⟨rfl,oa,fa⟩;have OA:=hid oa;have FA:=hid (show Keep (fun i=>i=ob∨i=mb) wz wa from(Keep.of BB.out).trans ⟨fa.os,fa.tape,fa.output,fa.size,fun i hi hn=>fa.block i hi (fun e=>hn (.inl e)) (fun e=>hn (.inr e))⟩);clear oa fa;rw [← TKE.out,show hv tk = .agg (nums .u8 tk).toArray from rfl]
  refine hK.out _ _ (⟨FA.out.mono (fun i h=>by omega),nofun⟩) (fun hHeld=>?_)
  clear hK K
  (try simp only [s0,s1,s2])
  refine tkA (i:=7) (oi:=⟨_,.indexAddr 22 (.tmp 29) (.const (.int .i64 0)),_,_,_,_⟩) (v:=(.pointer (some ⟨ib,0,none⟩))) (b:=true) rfl (Or.inl ⟨by rfl,fun w _=>by go_simp⟩) hHeld ?_
  (try simp only [Act.put,s0,s1,s2])
  refine tkA (i:=8) (oi:=⟨_,.fieldAddr 69 (.tmp 35) 2,_,_,_,_⟩) (v:=(.pointer (some ⟨ib,34,none⟩))) (b:=true) rfl (Or.inl ⟨by rfl,fun w _=>by go_simp⟩) hHeld ?_
  (try simp only [Act.put,s0,s1,s2])
  refine wpAnyX_ready (rs:=[9]) (by kernel_rfl) (by simp) ?_
  refine AllReadyX.cons (o:=⟨_,.store 43 (.tmp 36) (.tmp 34),_,_,_,_⟩) rfl (b:=true) (by kernel_rfl) (fun K hK=>?_) ?_
  have rIb:=FA.out.heap RW.out.r1 (fun e=>by have:=N.out;have:=OM.out;omega);rw [if_pos (by rfl)];refine wp_store_mid _ _ _ rfl ib 34 (nums .u8 tk).toArray rfl rfl (tag_there rIb (by rw [List.size_toArray,List.size_toArray,nums_length,TKO.out.1,InD.len (oneX_ok GD.out zh32)];decide)) hiK.out h1K.out ?_
  refine hK.out _ _ (⟨(FA.out.mono (fun i h=>by omega)).trans (Keep.far (far_setCells _ _ _) (.inr (.inr rfl))),nofun⟩) (fun hHeld=>?_)
  clear hK K
  (try simp only [s0,s1,s2])
  refine wpAnyX_done (by kernel_rfl) ?_ _
  rotate_left
  exact AllReadyX.nil
  exact AllReadyX.nil
  exact AllReadyX.nil
  have K7:=hid hHeld.1
  clear hHeld
  have R1:=hid (show(wa.setCells ib 34 (nums .u8 tk).toArray.toList).heap[ib]? = some (.cells (oneX gd tk).cells.toArray 69 (0,0)) from by have:=heap_putL (nums .u8 tk) 34 wa _ rIb;rw [oneX_tok GD.out.1 TKO.out.1] at this;exact this)
  have F7:=hid (show Far ib wa (wa.setCells ib 34 (nums .u8 tk).toArray.toList) from far_setCells _ _ _)
  have OA7:=hid (OA.out.far F7.out (by have:=N.out;have:=OM.out;omega) (by have:=N.out;have:=OM.out;omega))
  clear rIb
  generalize wa.setCells ib 34 (nums .u8 tk).toArray.toList=w7 at *
  have K57:=hid (show Keep (fun i=>i=ob∨i=mb) w5 w7 from((Keep.of BZ.out).trans FA.out).then (Keep.far' F7.out) (fun i hi e=>by have:=N.out;omega))
  have n1le:allN (fun _=>none) no s1 id≤no+1:=by unfold allN;split <;> omega
  have L7:=hid (L5.out.office K57.out OA7.out (by have:=NO0.out;omega) (by decide))
  have RW7:=hid (show TxRow w7 ib o2 tb gd tk o from⟨R1.out,K7.out.heap RW.out.r2 (by have:=N.out;have:=OM.out;show ¬ (o2=ob∨o2=mb∨o2=ib);omega),K7.out.heap RW.out.r3 (by have:=N.out;have:=OM.out;show ¬ (tb=ob∨tb=mb∨tb=ib);omega),RW.out.og.keepN' K7.out (fun ad ha=>by rw [OE.out] at ha;cases ha;have:=N.out;have:=OM.out;show ¬ (g2=ob∨g2=mb∨g2=ib);omega)⟩)
  obtain⟨tx,htx⟩:∃tx,tx=rowT ib o2 gd tk o:=⟨_,rfl⟩
  have TXE:=hid htx
  have TG7:=hid (show tx.good w7 from by rw [htx];exact RW7.out.good GD.out TKO.out)
  have CLT:=hid (show o.coins<18446744073709551616 from by rw [CO.out];decide)
  have IDT:=hid (show idB tx=id from by rw [htx,IDE.out];exact oneT_id' ZO.out CLT.out)
  have HD:=hid (show(upd (fun _=>none) (gd,0) (some ⟨o1.at' a1 k1,0⟩):HM') (gd,0)=some ⟨o1.at' a1 k1,0⟩ from by unfold upd;rw [if_pos rfl])
  have TRY0:=hid (show tryC (upd (fun _=>none) (gd,0) (some ⟨o1.at' a1 k1,0⟩)) (fun _=>none) (allM (fun _=>none) s1 id) 0 tx=0 from by
   rw [htx]
   have:=one_try (SM:=fun _=>none) (M:=allM (fun _=>none) s1 id) (ht:=0) (ia:=some ⟨ib,0,none⟩) (ic:=1) (oa:=some ⟨o2,0,none⟩) (oc:=1) (tok:=tk) ZO.out CLT.out HD.out (q:=ownP (ownD s1)) (by show o1.paths=_;exact GP1.out.1) (by show o1.coins<_;rw [GP1.out.2];decide) (by show o.coins≤o1.coins;rw [GP1.out.2,CO.out];decide) (by rw [← IDE.out,TKE.out];exact allow_aldB s1 id)
   unfold rowT
   rw [this]
   rfl)
  have EASY:=hid (show ∀x∈tx.ins,easyIn (upd (fun _=>none) (gd,0) (some ⟨o1.at' a1 k1,0⟩)) (allM (fun _=>none) s1 id) (idB tx) x from by
   rw [htx]
   intro x hx
   have hx':x∈[oneX gd tk]:=hx
   rw [List.mem_singleton] at hx'
   rw [hx']
   exact one_easy HD.out (q:=ownP (ownD s1)) (by show o1.paths=_;exact GP1.out.1) rfl rfl)
  have SND:=hid (csend_ok L7.out tx TG7.out EASY.out (oneX gd tk) o (by rw [htx];rfl) (by rw [htx];rfl) (by rw [PO4.out];decide) (.inl TRY0.out))
  have TXC:=hid (show tx.cells=([.slice (some ⟨ib,0,none⟩) 1 1,.slice (some ⟨o2,0,none⟩) 1 1]:List Value) from by rw [htx];rfl)
  rw [TXC.out] at SND
  clear htx
  have rT7:=row_range RW7.out.r3
  go_upto_region 8 with(fail)
  go_wp2_with (with_reducible refine wpList_load_midG rfl _ _ rfl tb 0 rfl [.slice (some ⟨ib,0,none⟩) 1 1,.slice (some ⟨o2,0,none⟩) 1 1] _ rT7 Tryz.underlying25 rfl hiT.out ?_)
  refine SND.out.mono ?_
  rintro e w8 ⟨rfl,ia,ic,oa,oc,a2,k2,P,hpool,l8,k8⟩
  have e01:(0:Int)+1=1:=rfl
  have L8:=hid l8
  have PL8:=hid (hpool.weak L7.out.le)
  have K8:=hid k8
  have NB:=hid (show hm<w2.heap.size∧dm<w2.heap.size∧wm<w2.heap.size∧sm<w2.heap.size∧cb<w2.heap.size from by have:=OD.out;omega)
  have RW8:=hid (RW7.out.keep k8 (by have:=N.out;have:=OM.out;have:=NB.out;omega) (by have:=N.out;have:=OM.out;have:=NB.out;omega) (by have:=N.out;have:=OM.out;have:=NB.out;omega) (fun ad ha=>by rw [OE.out] at ha;cases ha;have:=N.out;have:=OM.out;have:=NB.out;show ¬ g2=cb;omega))
  obtain⟨t8,ht8⟩:∃t8,t8=oneT ia ic oa oc gd tk (o.at' a2 k2):=⟨_,rfl⟩
  have T8:=hid ht8
  have PL8':=hid (show PoolAt w8 w2.heap.size P t8 from by rw [ht8];exact PL8.out)
  have ZO8:=hid (show(o.at' a2 k2).code=0 from ZO.out)
  have CL8:=hid (show(o.at' a2 k2).coins<18446744073709551616 from CLT.out)
  have ID8:=hid (show idB t8=id from by rw [ht8,IDE.out];exact oneT_id ZO.out CLT.out a2 k2)
  have TRY8:=hid (show tryC (upd (fun _=>none) (gd,0) (some ⟨o1.at' a1 k1,0⟩)) (fun _=>none) (allM (fun _=>none) s1 id) 0 t8=0 from by
   rw [ht8]
   have:=one_try (SM:=fun _=>none) (M:=allM (fun _=>none) s1 id) (ht:=0) (ia:=ia) (ic:=ic) (oa:=oa) (oc:=oc) (tok:=tk) ZO8.out CL8.out HD.out (q:=ownP (ownD s1)) (by show o1.paths=_;exact GP1.out.1) (by show o1.coins<_;rw [GP1.out.2];decide) (by show o.coins≤o1.coins;rw [GP1.out.2,CO.out];decide) (by rw [show oneId gd (o.at' a2 k2)=oneId gd o from rfl,← IDE.out,TKE.out];exact allow_aldB s1 id)
   rw [this]
   rfl)
  have EASY8:=hid (show ∀x∈t8.ins,easyIn (upd (fun _=>none) (gd,0) (some ⟨o1.at' a1 k1,0⟩)) (allM (fun _=>none) s1 id) (idB t8) x from by
   rw [ht8]
   intro x hx
   have hx':x∈[oneX gd tk]:=hx
   rw [List.mem_singleton] at hx'
   rw [hx']
   exact one_easy HD.out (q:=ownP (ownD s1)) (by show o1.paths=_;exact GP1.out.1) rfl rfl)
  have MIN:=hid (cmineA_walk L8.out (by decide) (by decide) t8 PL8'.out (oneX gd tk) (o.at' a2 k2) (by rw [ht8];rfl) (by rw [ht8];rfl) (by show o.paths.length≤4;rw [PO4.out];decide) EASY8.out TRY8.out)
  rw [ID8.out] at MIN
  clear hpool l8 k8 rT7 ht8
  go_upto_region 10 with(fail)
  go_wp2_with (fail)
  refine MIN.out.mono ?_
  rintro e w9 ⟨⟨g9,q9,rfl⟩,⟨a3,k3,l9⟩,k9⟩
  have L9:=hid l9
  have K9:=hid k9
  have RW9:=hid (RW8.out.keep k9 (by have:=N.out;have:=OM.out;have:=NB.out;omega) (by have:=N.out;have:=OM.out;have:=NB.out;omega) (by have:=N.out;have:=OM.out;have:=NB.out;omega) (fun ad ha=>by rw [OE.out] at ha;cases ha;have:=N.out;have:=OM.out;have:=NB.out;show ¬ (g2=cb∨g2=hm∨g2=sm∨g2=dm∨g2=wm);omega))
  obtain⟨o9,ho9⟩:∃o9,o9=(o.at' a2 k2).at' a3 k3:=⟨_,rfl⟩
  have O9C:=hid (show o9.coins=90 from by rw [ho9];exact CO.out)
  obtain⟨H9,hH9⟩:∃H9:HM',H9=cnfM (upd (fun _=>none) (gd,0) (some ⟨o1.at' a1 k1,0⟩)) (oneX gd tk) id ((o.at' a2 k2).at' a3 k3) 0:=⟨_,rfl⟩
  have HV9:=hid (show H9 (id,0)=some ⟨o9,1⟩ from by rw [hH9,ho9];unfold cnfM upd;rw [if_pos rfl];rfl)
  have CH9:=hid (show ChAt w9 cb ob 1 hm dm wm sm (.slice none 0 0) (0+1) from l9.ch)
  obtain⟨nh,_,mh⟩:=l9.held
  rw [← hH9] at mh
  have MH9:=hid mh
  have HK9:=hid (show ∀p x,H9 p=some x→x.out.good w9∧x.out.paths.length≤4096 from fun p x hx=>by rw [hH9] at hx;have:=l9.hk p x hx;exact⟨this.1,by omega⟩)
  have TB9:=hid l9.tabs
  have CI9:=fun(wx:World) (bx:Below w9.heap.size w9 wx)=>hid (show Calls Tryz.prog 12 #[.agg ([.slice (some ⟨ib,0,none⟩) 1 1,.slice (some ⟨o2,0,none⟩) 1 1]:List Value).toArray] wx (fun e w'=>e = .returned (.agg (nums .u8 id).toArray)∧Below wx.heap.size wx w') from by have:=cid_walk tx wx ((show tx.good w9 from by rw [TXE.out];exact RW9.out.good GD.out TKO.out).below bx) (TB9.out.below bx);rw [IDT.out,TXC.out] at this;exact this)
  clear l9 k9 mh ho9 hH9 MIN
  have rT9:=row_range RW9.out.r3
  go_upto_region 11 with(fail)
  go_wp2_with (with_reducible refine wpList_load_mid rfl _ _ rfl tb 0 rfl [.slice (some ⟨ib,0,none⟩) 1 1,.slice (some ⟨o2,0,none⟩) 1 1] _ rT9 Tryz.underlying25 rfl hiT.out ?_)
  refine(CI9 w9 (Below.refl _ _)).out.mono ?_
  rintro e w10 ⟨rfl,b10⟩
  have B10:=hid b10
  have BPT:=hid (bPoint id IDO.out.1)
  have GET:=hid (cget_walk (CH9.out.below b10) H9 (MH9.out.below b10) (fun p x hx=>⟨(HK9.out p x hx).1.below b10,(HK9.out p x hx).2⟩) id 0 IDO.out i64z)
  rw [HV9.out] at GET
  clear b10 rT9
  go_wp2_with (with_reducible refine wpList_build1 rfl _ _ rfl BPT.out rfl ?_)
  refine GET.out.mono ?_
  rintro e w11 ⟨a4,k4,rfl,gd4,b11⟩
  have B11:=hid (show Below w9.heap.size w9 w11 from B10.out.trans (b11.mono B10.out.size))
  obtain⟨hc,hhc⟩:∃hc,hc=(HeldD.mk (o9.at' a4 k4) 1).cells:=⟨_,rfl⟩
  have HL:=hid (show hc.length=35 from by rw [hhc];exact HeldD.len (h:=⟨o9.at' a4 k4,1⟩) gd4)
  have hiH:=hid (show(Tryz.prog.info? 75).map (·.size)=some hc.toArray.size by rw [List.size_toArray,HL.out];kernel_rfl)
  have hoH:=hid (show 35=hc.toArray.size by rw [List.size_toArray,HL.out])
  have h1H:=hid (show(hc.toArray.all fun x=>x.oneCell')=true by rw [hhc];exact all_oneCell_toArray (HeldD.one _))
  have H0:=hid (show hc[0]? = some (.int .u64 90) from by rw [hhc];show some (Value.int .u64 (o9.coins:Int))=_;rw [O9C.out];rfl)
  have H34:=hid (show hc[34]? = some (.int .i64 1) from by rw [hhc];exact HeldD.c34 (h:=⟨o9.at' a4 k4,1⟩) gd4)
  have EHC:(HeldD.mk (o9.at' a4 k4) 1).cells=hc:=hhc.symm
  rw [show(((some (HeldD.mk o9 1)).getD zHeld).out.at' a4 k4)=o9.at' a4 k4 from rfl,show((some (HeldD.mk o9 1)).getD zHeld).height=1 from rfl,EHC]
  clear gd4 b11 hhc EHC GET
  go_upto_region 12 with(refine wpList_store_row rfl _ _ _ rfl w11.heap.size hc.toArray rfl rfl _ _ (heap_alloc_new _ _) hiH.out hoH.out h1H.out ?_;refine laidW (F:=fun w4=>wpList _ _ _ _ _ w4) ?_;intro w12 h12 b12)
  have c0:=gen_cell (j:=0) (row_range h12.out) H0.out
  have c34:=gen_cell (j:=34) (row_range h12.out) H34.out
  have B12:=hid (show Below w9.heap.size w9 w12 from B11.out.trans (b12.out.mono B11.out.size))
  have HEI:=hid (cheight_walk (CH9.out.below B12.out))
  clear h12 b12
  have v1:((1:Int) == 1)=true:=by decide
  have v2:((90:Int) == 90)=true:=by decide
  go_wp2_with (fail)
  refine HEI.out.mono ?_
  rintro e w13 ⟨rfl,rfl⟩
  go_wp2_with (fail)
  go_ret
  have b5:=B5.out
  have k58:Keep (fun i=>w.heap.size≤i) w w9:=(((Keep.of b5).trans (K57.out.mono fun i h=>by have:=OD.out;show w.heap.size≤i;omega)).trans (K8.out.mono fun i h=>by have:=OD.out;show w.heap.size≤i;omega)).trans (K9.out.mono fun i h=>by have:=OD.out;show w.heap.size≤i;omega)
  have b1:=k58.below (B:=w.heap.size) (fun i h=>h) (Nat.le_refl _)
  exact⟨rfl,b1.trans (B12.out.mono b1.size)⟩
 have MID:=hid MID
 have rP:=hid (row_range HP5.out)
 have hIi:=hid (show(Tryz.prog.info? 69).map (·.size)=some 130 by kernel_rfl)
 have hIz:=hid (show((Tryz.prog.info? 69).bind (·.zero)).isSome=true by kernel_rfl)
 have hIl:=hid (show(oneX gd zh).cells.toArray.size=130 by rw [List.size_toArray];exact InD.len (oneX_ok GD.out zh32))
 have hOi:=hid (show(Tryz.prog.info? 66).map (·.size)=some 34 by kernel_rfl)
 have hOz:=hid (show((Tryz.prog.info? 66).bind (·.zero)).isSome=true by kernel_rfl)
 have hOl:=hid (show ∀g,(mineO 90 g (ownD s2)).cells.toArray.size=34 from fun g=>rfl)
 have BTX:=fun(a:Option Addr) (n c:Nat) (a':Option Addr) (n' c':Nat)=>bTx (.slice a n c) (.slice a' n' c') ⟨_,_,_,rfl⟩ ⟨_,_,_,rfl⟩
 have hT1:=hid (fun(a:Option Addr) (n c:Nat) (a':Option Addr) (n' c':Nat)=>show(#[Value.slice a n c,.slice a' n' c']:Array Value).all (·.oneCell')=true from by simp [Value.oneCell'])
 have hTa:=hid (show ∀a b:Value,(Tryz.prog.info? 25).map (·.size)=some (#[a,b]:Array Value).size from fun a b=>by kernel_rfl)
 refine wp_region_held_drew (S:=fun w'=>Below w5.heap.size w5 w') (by kernel_rfl) ((Below.refl _ _).drew) (fun hHeld=>?_)
 try simp only [List.size_toArray,List.length_cons,List.length_nil,Nat.reduceAdd,Array.replicate_succ,Array.replicate_zero,List.push_toArray,List.nil_append,List.cons_append]
 refine' tkH (i:=0) (oi:=⟨_,.load 60 (.tmp 3),_,_,_,_⟩) (v:=_) rfl (yieldsIf_load_mid (by rfl) _ _ rfl pb 0 rfl pp _ (fun _ h=>range_keep h rP.out) Tryz.underlying60 rfl hiPP.out) hHeld ?_
 (try simp only [Act.put,s0,s1,s2])
 refine tkH (i:=1) (oi:=⟨_,.build 69 #[(0,.tmp 21)],_,_,_,_⟩) (v:=(.agg (oneX gd zh).cells.toArray)) rfl (Or.inl ⟨by rfl,fun w _=>run_build1' rfl rfl BIN.out⟩) hHeld ?_
 (try simp only [Act.put,s0,s1,s2])
 refine tkH (i:=3) (oi:=⟨_,.build 43 #[(0,.const (.int .u8 2))],_,_,_,_⟩) (v:=(.agg (nums .u8 s2).toArray)) rfl (Or.inl ⟨by rfl,fun w _=>run_build1' rfl rfl BH2.out⟩) hHeld ?_
 (try simp only [Act.put,s0,s1,s2])
 refine wpAnyH_ready (rs:=[2,4,7]) (by kernel_rfl) (by simp) ?_
 refine AllReadyH.cons (o:=⟨_,.buildSlice 22 1 #[(0,.tmp 22)],_,_,_,_⟩) rfl (fun K hK=>?_) ?_
 have zi:=hHeld.size;rw [if_pos (by rfl)];refine wp_lit1 _ _ _ rfl rfl Tryz.underlying22 hIi.out hIz.out hIl.out (by decide) (by decide) ?_;(first|refine newZ ?_|refine newZd ?_);intro wi hi bi;obtain⟨ib,hib⟩:=named hi;have HI:=hid hi;have BI:=hid bi;have xi:=(Array.getElem?_eq_some_iff.1 hi).1;clear hi bi
 refine hK.out _ _ (by first|exact hHeld.trans (BI.out.mono hHeld.size)|exact BI.out) (fun hHeld=>?_)
 clear hK K
 (try simp only [s0,s1,s2])
 refine wpAnyH_ready (rs:=[4,7]) (by kernel_rfl) (by simp) ?_
 refine AllReadyH.cons (o:=⟨_,.call ⟨.value (.func 20),#[.const (.int .u64 90),.tmp 24],#[63,43]⟩,_,_,_,_⟩) rfl (fun K hK=>?_) ?_
 have zm:=hHeld.size;go_simp;refine(cmine_walk 90 (by decide) s2 S2.out _ (L5.out.tabs.below hHeld)).mono ?_;rintro e wq ⟨g2,rfl,lg2,gd2,bm⟩;have GD2:=hid gd2;have BM:=hid bm;have xm:=mineO_lt gd2 OS2.out.1;have ym:=bm.size;clear gd2 bm
 refine hK.out _ _ (hHeld.trans (BM.out.mono hHeld.size)) (fun hHeld=>?_)
 clear hK K
 (try simp only [s0,s1,s2])
 refine wpAnyH_ready (rs:=[5,7]) (by kernel_rfl) (by simp) ?_
 refine AllReadyH.cons (o:=⟨_,.buildSlice 23 1 #[(0,.tmp 25)],_,_,_,_⟩) rfl (fun K hK=>?_) ?_
 have zo:=hHeld.size;rw [if_pos (by rfl)];refine wp_lit1 _ _ _ rfl rfl Tryz.underlying23 hOi.out hOz.out (hOl.out _) (by decide) (by decide) ?_;(first|refine newZ ?_|refine newZd ?_);intro wo ho bo;obtain⟨o2,ho2⟩:=named ho;have HO:=hid ho;have BO:=hid bo;have xo:=(Array.getElem?_eq_some_iff.1 ho).1;clear ho bo
 refine hK.out _ _ (by first|exact hHeld.trans (BO.out.mono hHeld.size)|exact BO.out) (fun hHeld=>?_)
 clear hK K
 (try simp only [s0,s1,s2])
 refine tkH (i:=6) (oi:=⟨_,.build 25 #[(0,.tmp 23),(1,.tmp 26)],_,_,_,_⟩) (v:=?v2001) rfl (yi ?y2001) hHeld ?_
 case y2001=>(intro w _;go_simp;(try with_reducible rfl))
 (try simp only [Act.put,s0,s1,s2])
 refine wpAnyH_ready (rs:=[7]) (by kernel_rfl) (by simp) ?_
 refine AllReadyH.cons (o:=⟨_,.alloc 25,_,_,_,_⟩) rfl (fun K hK=>?_) ?_
 have za:=hHeld.size;go_simp;(first|refine newZ ?_|refine newZd ?_);intro wa ha ba;have HA:=hid ha;have BA:=hid ba;have xa:=(Array.getElem?_eq_some_iff.1 ha).1;clear ha ba
 refine hK.out _ _ (by first|exact hHeld.trans (BA.out.mono hHeld.size)|exact BA.out) (fun hHeld=>?_)
 clear hK K
 (try simp only [s0,s1,s2])
 refine wpAnyH_ready (rs:=[8]) (by kernel_rfl) (by simp) ?_
 refine AllReadyH.cons (o:=⟨_,.store 25 (.tmp 5) (.tmp 27),_,_,_,_⟩) rfl (fun K hK=>?_) ?_
 rw [if_pos (by rfl)];refine wp_store_row _ _ _ rfl _ _ rfl rfl _ _ (by(repeat(first|exact HI.out|exact HO.out|exact HA.out|refine heap_keep ?_ BM.out|refine heap_keep ?_ BO.out|refine heap_keep ?_ BA.out|refine heap_keep ?_ BI.out))) (hTa.out _ _) (by rfl) (hT1.out _ _ _ _ _ _) ?_
 refine hK.out _ _ (below_setRow hHeld (by omega) _) (fun hHeld=>?_)
 clear hK K
 (try simp only [s0,s1,s2])
 refine wpAnyH_done (by kernel_rfl) ?_ _
 rotate_left
 exact AllReadyH.nil
 exact AllReadyH.nil
 refine AllReadyH.cons (o:=⟨_,.alloc 25,_,_,_,_⟩) rfl (fun K hK=>?_) ?_
 have za:=hHeld.size;go_simp;(first|refine newZ ?_|refine newZd ?_);intro wa ha ba;have HA:=hid ha;have BA:=hid ba;have xa:=(Array.getElem?_eq_some_iff.1 ha).1;clear ha ba
 refine hK.out _ _ (by first|exact hHeld.trans (BA.out.mono hHeld.size)|exact BA.out) (fun hHeld=>?_)
 clear hK K
 (try simp only [s0,s1,s2])
 refine wpAnyH_ready (rs:=[5]) (by kernel_rfl) (by simp) ?_
 refine AllReadyH.cons (o:=⟨_,.buildSlice 23 1 #[(0,.tmp 25)],_,_,_,_⟩) rfl (fun K hK=>?_) ?_
 have zo:=hHeld.size;rw [if_pos (by rfl)];refine wp_lit1 _ _ _ rfl rfl Tryz.underlying23 hOi.out hOz.out (hOl.out _) (by decide) (by decide) ?_;(first|refine newZ ?_|refine newZd ?_);intro wo ho bo;obtain⟨o2,ho2⟩:=named ho;have HO:=hid ho;have BO:=hid bo;have xo:=(Array.getElem?_eq_some_iff.1 ho).1;clear ho bo
 refine hK.out _ _ (by first|exact hHeld.trans (BO.out.mono hHeld.size)|exact BO.out) (fun hHeld=>?_)
 clear hK K
 (try simp only [s0,s1,s2])
 refine tkH (i:=6) (oi:=⟨_,.build 25 #[(0,.tmp 23),(1,.tmp 26)],_,_,_,_⟩) (v:=?v2002) rfl (yi ?y2002) hHeld ?_
 case y2002=>(intro w _;go_simp;(try with_reducible rfl))
 (try simp only [Act.put,s0,s1,s2])
 refine wpAnyH_ready (rs:=[8]) (by kernel_rfl) (by simp) ?_
 refine AllReadyH.cons (o:=⟨_,.store 25 (.tmp 5) (.tmp 27),_,_,_,_⟩) rfl (fun K hK=>?_) ?_
 rw [if_pos (by rfl)];refine wp_store_row _ _ _ rfl _ _ rfl rfl _ _ (by(repeat(first|exact HI.out|exact HO.out|exact HA.out|refine heap_keep ?_ BM.out|refine heap_keep ?_ BO.out|refine heap_keep ?_ BA.out|refine heap_keep ?_ BI.out))) (hTa.out _ _) (by rfl) (hT1.out _ _ _ _ _ _) ?_
 refine hK.out _ _ (below_setRow hHeld (by omega) _) (fun hHeld=>?_)
 clear hK K
 (try simp only [s0,s1,s2])
 refine wpAnyH_done (by kernel_rfl) ?_ _
 rotate_left
 exact AllReadyH.nil
 exact AllReadyH.nil
 exact AllReadyH.nil
 refine AllReadyH.cons (o:=⟨_,.alloc 25,_,_,_,_⟩) rfl (fun K hK=>?_) ?_
 have za:=hHeld.size;go_simp;(first|refine newZ ?_|refine newZd ?_);intro wa ha ba;have HA:=hid ha;have BA:=hid ba;have xa:=(Array.getElem?_eq_some_iff.1 ha).1;clear ha ba
 refine hK.out _ _ (by first|exact hHeld.trans (BA.out.mono hHeld.size)|exact BA.out) (fun hHeld=>?_)
 clear hK K
 (try simp only [s0,s1,s2])
 refine wpAnyH_ready (rs:=[4]) (by kernel_rfl) (by simp) ?_
 refine AllReadyH.cons (o:=⟨_,.call ⟨.value (.func 20),#[.const (.int .u64 90),.tmp 24],#[63,43]⟩,_,_,_,_⟩) rfl (fun K hK=>?_) ?_
 have zm:=hHeld.size;go_simp;refine(cmine_walk 90 (by decide) s2 S2.out _ (L5.out.tabs.below hHeld)).mono ?_;rintro e wq ⟨g2,rfl,lg2,gd2,bm⟩;have GD2:=hid gd2;have BM:=hid bm;have xm:=mineO_lt gd2 OS2.out.1;have ym:=bm.size;clear gd2 bm
 refine hK.out _ _ (hHeld.trans (BM.out.mono hHeld.size)) (fun hHeld=>?_)
 clear hK K
 (try simp only [s0,s1,s2])
 refine wpAnyH_ready (rs:=[5]) (by kernel_rfl) (by simp) ?_
 refine AllReadyH.cons (o:=⟨_,.buildSlice 23 1 #[(0,.tmp 25)],_,_,_,_⟩) rfl (fun K hK=>?_) ?_
 have zo:=hHeld.size;rw [if_pos (by rfl)];refine wp_lit1 _ _ _ rfl rfl Tryz.underlying23 hOi.out hOz.out (hOl.out _) (by decide) (by decide) ?_;(first|refine newZ ?_|refine newZd ?_);intro wo ho bo;obtain⟨o2,ho2⟩:=named ho;have HO:=hid ho;have BO:=hid bo;have xo:=(Array.getElem?_eq_some_iff.1 ho).1;clear ho bo
 refine hK.out _ _ (by first|exact hHeld.trans (BO.out.mono hHeld.size)|exact BO.out) (fun hHeld=>?_)
 clear hK K
 (try simp only [s0,s1,s2])
 refine tkH (i:=6) (oi:=⟨_,.build 25 #[(0,.tmp 23),(1,.tmp 26)],_,_,_,_⟩) (v:=?v2003) rfl (yi ?y2003) hHeld ?_
 case y2003=>(intro w _;go_simp;(try with_reducible rfl))
 (try simp only [Act.put,s0,s1,s2])
 refine wpAnyH_ready (rs:=[8]) (by kernel_rfl) (by simp) ?_
 refine AllReadyH.cons (o:=⟨_,.store 25 (.tmp 5) (.tmp 27),_,_,_,_⟩) rfl (fun K hK=>?_) ?_
 rw [if_pos (by rfl)];refine wp_store_row _ _ _ rfl _ _ rfl rfl _ _ (by(repeat(first|exact HI.out|exact HO.out|exact HA.out|refine heap_keep ?_ BM.out|refine heap_keep ?_ BO.out|refine heap_keep ?_ BA.out|refine heap_keep ?_ BI.out))) (hTa.out _ _) (by rfl) (hT1.out _ _ _ _ _ _) ?_
 refine hK.out _ _ (below_setRow hHeld (by omega) _) (fun hHeld=>?_)
 clear hK K
 (try simp only [s0,s1,s2])
 refine wpAnyH_done (by kernel_rfl) ?_ _
 rotate_left
 exact AllReadyH.nil
 exact AllReadyH.nil
 exact AllReadyH.nil
 exact AllReadyH.nil
 refine AllReadyH.cons (o:=⟨_,.call ⟨.value (.func 20),#[.const (.int .u64 90),.tmp 24],#[63,43]⟩,_,_,_,_⟩) rfl (fun K hK=>?_) ?_
 have zm:=hHeld.size;go_simp;refine(cmine_walk 90 (by decide) s2 S2.out _ (L5.out.tabs.below hHeld)).mono ?_;rintro e wq ⟨g2,rfl,lg2,gd2,bm⟩;have GD2:=hid gd2;have BM:=hid bm;have xm:=mineO_lt gd2 OS2.out.1;have ym:=bm.size;clear gd2 bm
 refine hK.out _ _ (hHeld.trans (BM.out.mono hHeld.size)) (fun hHeld=>?_)
 clear hK K
 (try simp only [s0,s1,s2])
 refine wpAnyH_ready (rs:=[2,5,7]) (by kernel_rfl) (by simp) ?_
 refine AllReadyH.cons (o:=⟨_,.buildSlice 22 1 #[(0,.tmp 22)],_,_,_,_⟩) rfl (fun K hK=>?_) ?_
 have zi:=hHeld.size;rw [if_pos (by rfl)];refine wp_lit1 _ _ _ rfl rfl Tryz.underlying22 hIi.out hIz.out hIl.out (by decide) (by decide) ?_;(first|refine newZ ?_|refine newZd ?_);intro wi hi bi;obtain⟨ib,hib⟩:=named hi;have HI:=hid hi;have BI:=hid bi;have xi:=(Array.getElem?_eq_some_iff.1 hi).1;clear hi bi
 refine hK.out _ _ (by first|exact hHeld.trans (BI.out.mono hHeld.size)|exact BI.out) (fun hHeld=>?_)
 clear hK K
 (try simp only [s0,s1,s2])
 refine wpAnyH_ready (rs:=[5,7]) (by kernel_rfl) (by simp) ?_
 refine AllReadyH.cons (o:=⟨_,.buildSlice 23 1 #[(0,.tmp 25)],_,_,_,_⟩) rfl (fun K hK=>?_) ?_
 have zo:=hHeld.size;rw [if_pos (by rfl)];refine wp_lit1 _ _ _ rfl rfl Tryz.underlying23 hOi.out hOz.out (hOl.out _) (by decide) (by decide) ?_;(first|refine newZ ?_|refine newZd ?_);intro wo ho bo;obtain⟨o2,ho2⟩:=named ho;have HO:=hid ho;have BO:=hid bo;have xo:=(Array.getElem?_eq_some_iff.1 ho).1;clear ho bo
 refine hK.out _ _ (by first|exact hHeld.trans (BO.out.mono hHeld.size)|exact BO.out) (fun hHeld=>?_)
 clear hK K
 (try simp only [s0,s1,s2])
 refine tkH (i:=6) (oi:=⟨_,.build 25 #[(0,.tmp 23),(1,.tmp 26)],_,_,_,_⟩) (v:=?v2004) rfl (yi ?y2004) hHeld ?_
 case y2004=>(intro w _;go_simp;(try with_reducible rfl))
 (try simp only [Act.put,s0,s1,s2])
 refine wpAnyH_ready (rs:=[7]) (by kernel_rfl) (by simp) ?_
 refine AllReadyH.cons (o:=⟨_,.alloc 25,_,_,_,_⟩) rfl (fun K hK=>?_) ?_
 have za:=hHeld.size;go_simp;(first|refine newZ ?_|refine newZd ?_);intro wa ha ba;have HA:=hid ha;have BA:=hid ba;have xa:=(Array.getElem?_eq_some_iff.1 ha).1;clear ha ba
 refine hK.out _ _ (by first|exact hHeld.trans (BA.out.mono hHeld.size)|exact BA.out) (fun hHeld=>?_)
 clear hK K
 (try simp only [s0,s1,s2])
 refine wpAnyH_ready (rs:=[8]) (by kernel_rfl) (by simp) ?_
 refine AllReadyH.cons (o:=⟨_,.store 25 (.tmp 5) (.tmp 27),_,_,_,_⟩) rfl (fun K hK=>?_) ?_
 rw [if_pos (by rfl)];refine wp_store_row _ _ _ rfl _ _ rfl rfl _ _ (by(repeat(first|exact HI.out|exact HO.out|exact HA.out|refine heap_keep ?_ BM.out|refine heap_keep ?_ BO.out|refine heap_keep ?_ BA.out|refine heap_keep ?_ BI.out))) (hTa.out _ _) (by rfl) (hT1.out _ _ _ _ _ _) ?_
 refine hK.out _ _ (below_setRow hHeld (by omega) _) (fun hHeld=>?_)
 clear hK K
 (try simp only [s0,s1,s2])
 refine wpAnyH_done (by kernel_rfl) ?_ _
 rotate_left
 exact AllReadyH.nil
 exact AllReadyH.nil
 refine AllReadyH.cons (o:=⟨_,.alloc 25,_,_,_,_⟩) rfl (fun K hK=>?_) ?_
 have za:=hHeld.size;go_simp;(first|refine newZ ?_|refine newZd ?_);intro wa ha ba;have HA:=hid ha;have BA:=hid ba;have xa:=(Array.getElem?_eq_some_iff.1 ha).1;clear ha ba
 refine hK.out _ _ (by first|exact hHeld.trans (BA.out.mono hHeld.size)|exact BA.out) (fun hHeld=>?_)
 clear hK K
 (try simp only [s0,s1,s2])
 refine wpAnyH_ready (rs:=[5]) (by kernel_rfl) (by simp) ?_
 refine AllReadyH.cons (o:=⟨_,.buildSlice 23 1 #[(0,.tmp 25)],_,_,_,_⟩) rfl (fun K hK=>?_) ?_
 have zo:=hHeld.size;rw [if_pos (by rfl)];refine wp_lit1 _ _ _ rfl rfl Tryz.underlying23 hOi.out hOz.out (hOl.out _) (by decide) (by decide) ?_;(first|refine newZ ?_|refine newZd ?_);intro wo ho bo;obtain⟨o2,ho2⟩:=named ho;have HO:=hid ho;have BO:=hid bo;have xo:=(Array.getElem?_eq_some_iff.1 ho).1;clear ho bo
 refine hK.out _ _ (by first|exact hHeld.trans (BO.out.mono hHeld.size)|exact BO.out) (fun hHeld=>?_)
 clear hK K
 (try simp only [s0,s1,s2])
 refine tkH (i:=6) (oi:=⟨_,.build 25 #[(0,.tmp 23),(1,.tmp 26)],_,_,_,_⟩) (v:=?v2005) rfl (yi ?y2005) hHeld ?_
 case y2005=>(intro w _;go_simp;(try with_reducible rfl))
 (try simp only [Act.put,s0,s1,s2])
 refine wpAnyH_ready (rs:=[8]) (by kernel_rfl) (by simp) ?_
 refine AllReadyH.cons (o:=⟨_,.store 25 (.tmp 5) (.tmp 27),_,_,_,_⟩) rfl (fun K hK=>?_) ?_
 rw [if_pos (by rfl)];refine wp_store_row _ _ _ rfl _ _ rfl rfl _ _ (by(repeat(first|exact HI.out|exact HO.out|exact HA.out|refine heap_keep ?_ BM.out|refine heap_keep ?_ BO.out|refine heap_keep ?_ BA.out|refine heap_keep ?_ BI.out))) (hTa.out _ _) (by rfl) (hT1.out _ _ _ _ _ _) ?_
 refine hK.out _ _ (below_setRow hHeld (by omega) _) (fun hHeld=>?_)
 clear hK K
 (try simp only [s0,s1,s2])
 refine wpAnyH_done (by kernel_rfl) ?_ _
 rotate_left
 exact AllReadyH.nil
 exact AllReadyH.nil
 exact AllReadyH.nil
 refine AllReadyH.cons (o:=⟨_,.buildSlice 23 1 #[(0,.tmp 25)],_,_,_,_⟩) rfl (fun K hK=>?_) ?_
 have zo:=hHeld.size;rw [if_pos (by rfl)];refine wp_lit1 _ _ _ rfl rfl Tryz.underlying23 hOi.out hOz.out (hOl.out _) (by decide) (by decide) ?_;(first|refine newZ ?_|refine newZd ?_);intro wo ho bo;obtain⟨o2,ho2⟩:=named ho;have HO:=hid ho;have BO:=hid bo;have xo:=(Array.getElem?_eq_some_iff.1 ho).1;clear ho bo
 refine hK.out _ _ (by first|exact hHeld.trans (BO.out.mono hHeld.size)|exact BO.out) (fun hHeld=>?_)
 clear hK K
 (try simp only [s0,s1,s2])
 refine wpAnyH_ready (rs:=[2,7]) (by kernel_rfl) (by simp) ?_
 refine AllReadyH.cons (o:=⟨_,.buildSlice 22 1 #[(0,.tmp 22)],_,_,_,_⟩) rfl (fun K hK=>?_) ?_
 have zi:=hHeld.size;rw [if_pos (by rfl)];refine wp_lit1 _ _ _ rfl rfl Tryz.underlying22 hIi.out hIz.out hIl.out (by decide) (by decide) ?_;(first|refine newZ ?_|refine newZd ?_);intro wi hi bi;obtain⟨ib,hib⟩:=named hi;have HI:=hid hi;have BI:=hid bi;have xi:=(Array.getElem?_eq_some_iff.1 hi).1;clear hi bi
 refine hK.out _ _ (by first|exact hHeld.trans (BI.out.mono hHeld.size)|exact BI.out) (fun hHeld=>?_)
 clear hK K
 (try simp only [s0,s1,s2])
 refine tkH (i:=6) (oi:=⟨_,.build 25 #[(0,.tmp 23),(1,.tmp 26)],_,_,_,_⟩) (v:=?v2006) rfl (yi ?y2006) hHeld ?_
 case y2006=>(intro w _;go_simp;(try with_reducible rfl))
 (try simp only [Act.put,s0,s1,s2])
 refine wpAnyH_ready (rs:=[7]) (by kernel_rfl) (by simp) ?_
 refine AllReadyH.cons (o:=⟨_,.alloc 25,_,_,_,_⟩) rfl (fun K hK=>?_) ?_
 have za:=hHeld.size;go_simp;(first|refine newZ ?_|refine newZd ?_);intro wa ha ba;have HA:=hid ha;have BA:=hid ba;have xa:=(Array.getElem?_eq_some_iff.1 ha).1;clear ha ba
 refine hK.out _ _ (by first|exact hHeld.trans (BA.out.mono hHeld.size)|exact BA.out) (fun hHeld=>?_)
 clear hK K
 (try simp only [s0,s1,s2])
 refine wpAnyH_ready (rs:=[8]) (by kernel_rfl) (by simp) ?_
 refine AllReadyH.cons (o:=⟨_,.store 25 (.tmp 5) (.tmp 27),_,_,_,_⟩) rfl (fun K hK=>?_) ?_
 rw [if_pos (by rfl)];refine wp_store_row _ _ _ rfl _ _ rfl rfl _ _ (by(repeat(first|exact HI.out|exact HO.out|exact HA.out|refine heap_keep ?_ BM.out|refine heap_keep ?_ BO.out|refine heap_keep ?_ BA.out|refine heap_keep ?_ BI.out))) (hTa.out _ _) (by rfl) (hT1.out _ _ _ _ _ _) ?_
 refine hK.out _ _ (below_setRow hHeld (by omega) _) (fun hHeld=>?_)
 clear hK K
 (try simp only [s0,s1,s2])
 refine wpAnyH_done (by kernel_rfl) ?_ _
 rotate_left
 exact AllReadyH.nil
 exact AllReadyH.nil
 refine AllReadyH.cons (o:=⟨_,.alloc 25,_,_,_,_⟩) rfl (fun K hK=>?_) ?_
 have za:=hHeld.size;go_simp;(first|refine newZ ?_|refine newZd ?_);intro wa ha ba;have HA:=hid ha;have BA:=hid ba;have xa:=(Array.getElem?_eq_some_iff.1 ha).1;clear ha ba
 refine hK.out _ _ (by first|exact hHeld.trans (BA.out.mono hHeld.size)|exact BA.out) (fun hHeld=>?_)
 clear hK K
 (try simp only [s0,s1,s2])
 refine wpAnyH_ready (rs:=[2]) (by kernel_rfl) (by simp) ?_
 refine AllReadyH.cons (o:=⟨_,.buildSlice 22 1 #[(0,.tmp 22)],_,_,_,_⟩) rfl (fun K hK=>?_) ?_
 have zi:=hHeld.size;rw [if_pos (by rfl)];refine wp_lit1 _ _ _ rfl rfl Tryz.underlying22 hIi.out hIz.out hIl.out (by decide) (by decide) ?_;(first|refine newZ ?_|refine newZd ?_);intro wi hi bi;obtain⟨ib,hib⟩:=named hi;have HI:=hid hi;have BI:=hid bi;have xi:=(Array.getElem?_eq_some_iff.1 hi).1;clear hi bi
 refine hK.out _ _ (by first|exact hHeld.trans (BI.out.mono hHeld.size)|exact BI.out) (fun hHeld=>?_)
 clear hK K
 (try simp only [s0,s1,s2])
 refine tkH (i:=6) (oi:=⟨_,.build 25 #[(0,.tmp 23),(1,.tmp 26)],_,_,_,_⟩) (v:=?v2007) rfl (yi ?y2007) hHeld ?_
 case y2007=>(intro w _;go_simp;(try with_reducible rfl))
 (try simp only [Act.put,s0,s1,s2])
 refine wpAnyH_ready (rs:=[8]) (by kernel_rfl) (by simp) ?_
 refine AllReadyH.cons (o:=⟨_,.store 25 (.tmp 5) (.tmp 27),_,_,_,_⟩) rfl (fun K hK=>?_) ?_
 rw [if_pos (by rfl)];refine wp_store_row _ _ _ rfl _ _ rfl rfl _ _ (by(repeat(first|exact HI.out|exact HO.out|exact HA.out|refine heap_keep ?_ BM.out|refine heap_keep ?_ BO.out|refine heap_keep ?_ BA.out|refine heap_keep ?_ BI.out))) (hTa.out _ _) (by rfl) (hT1.out _ _ _ _ _ _) ?_
 refine hK.out _ _ (below_setRow hHeld (by omega) _) (fun hHeld=>?_)
 clear hK K
 (try simp only [s0,s1,s2])
 refine wpAnyH_done (by kernel_rfl) ?_ _
 rotate_left
 exact AllReadyH.nil
 exact AllReadyH.nil
 exact AllReadyH.nil
 refine AllReadyH.cons (o:=⟨_,.alloc 25,_,_,_,_⟩) rfl (fun K hK=>?_) ?_
 have za:=hHeld.size;go_simp;(first|refine newZ ?_|refine newZd ?_);intro wa ha ba;have HA:=hid ha;have BA:=hid ba;have xa:=(Array.getElem?_eq_some_iff.1 ha).1;clear ha ba
 refine hK.out _ _ (by first|exact hHeld.trans (BA.out.mono hHeld.size)|exact BA.out) (fun hHeld=>?_)
 clear hK K
 (try simp only [s0,s1,s2])
 refine wpAnyH_ready (rs:=[2,5]) (by kernel_rfl) (by simp) ?_
 refine AllReadyH.cons (o:=⟨_,.buildSlice 22 1 #[(0,.tmp 22)],_,_,_,_⟩) rfl (fun K hK=>?_) ?_
 have zi:=hHeld.size;rw [if_pos (by rfl)];refine wp_lit1 _ _ _ rfl rfl Tryz.underlying22 hIi.out hIz.out hIl.out (by decide) (by decide) ?_;(first|refine newZ ?_|refine newZd ?_);intro wi hi bi;obtain⟨ib,hib⟩:=named hi;have HI:=hid hi;have BI:=hid bi;have xi:=(Array.getElem?_eq_some_iff.1 hi).1;clear hi bi
 refine hK.out _ _ (by first|exact hHeld.trans (BI.out.mono hHeld.size)|exact BI.out) (fun hHeld=>?_)
 clear hK K
 (try simp only [s0,s1,s2])
 refine wpAnyH_ready (rs:=[5]) (by kernel_rfl) (by simp) ?_
 refine AllReadyH.cons (o:=⟨_,.buildSlice 23 1 #[(0,.tmp 25)],_,_,_,_⟩) rfl (fun K hK=>?_) ?_
 have zo:=hHeld.size;rw [if_pos (by rfl)];refine wp_lit1 _ _ _ rfl rfl Tryz.underlying23 hOi.out hOz.out (hOl.out _) (by decide) (by decide) ?_;(first|refine newZ ?_|refine newZd ?_);intro wo ho bo;obtain⟨o2,ho2⟩:=named ho;have HO:=hid ho;have BO:=hid bo;have xo:=(Array.getElem?_eq_some_iff.1 ho).1;clear ho bo
 refine hK.out _ _ (by first|exact hHeld.trans (BO.out.mono hHeld.size)|exact BO.out) (fun hHeld=>?_)
 clear hK K
 (try simp only [s0,s1,s2])
 refine tkH (i:=6) (oi:=⟨_,.build 25 #[(0,.tmp 23),(1,.tmp 26)],_,_,_,_⟩) (v:=?v2008) rfl (yi ?y2008) hHeld ?_
 case y2008=>(intro w _;go_simp;(try with_reducible rfl))
 (try simp only [Act.put,s0,s1,s2])
 refine wpAnyH_ready (rs:=[8]) (by kernel_rfl) (by simp) ?_
 refine AllReadyH.cons (o:=⟨_,.store 25 (.tmp 5) (.tmp 27),_,_,_,_⟩) rfl (fun K hK=>?_) ?_
 rw [if_pos (by rfl)];refine wp_store_row _ _ _ rfl _ _ rfl rfl _ _ (by(repeat(first|exact HI.out|exact HO.out|exact HA.out|refine heap_keep ?_ BM.out|refine heap_keep ?_ BO.out|refine heap_keep ?_ BA.out|refine heap_keep ?_ BI.out))) (hTa.out _ _) (by rfl) (hT1.out _ _ _ _ _ _) ?_
 refine hK.out _ _ (below_setRow hHeld (by omega) _) (fun hHeld=>?_)
 clear hK K
 (try simp only [s0,s1,s2])
 refine wpAnyH_done (by kernel_rfl) ?_ _
 rotate_left
 exact AllReadyH.nil
 exact AllReadyH.nil
 refine AllReadyH.cons (o:=⟨_,.buildSlice 23 1 #[(0,.tmp 25)],_,_,_,_⟩) rfl (fun K hK=>?_) ?_
 have zo:=hHeld.size;rw [if_pos (by rfl)];refine wp_lit1 _ _ _ rfl rfl Tryz.underlying23 hOi.out hOz.out (hOl.out _) (by decide) (by decide) ?_;(first|refine newZ ?_|refine newZd ?_);intro wo ho bo;obtain⟨o2,ho2⟩:=named ho;have HO:=hid ho;have BO:=hid bo;have xo:=(Array.getElem?_eq_some_iff.1 ho).1;clear ho bo
 refine hK.out _ _ (by first|exact hHeld.trans (BO.out.mono hHeld.size)|exact BO.out) (fun hHeld=>?_)
 clear hK K
 (try simp only [s0,s1,s2])
 refine wpAnyH_ready (rs:=[2]) (by kernel_rfl) (by simp) ?_
 refine AllReadyH.cons (o:=⟨_,.buildSlice 22 1 #[(0,.tmp 22)],_,_,_,_⟩) rfl (fun K hK=>?_) ?_
 have zi:=hHeld.size;rw [if_pos (by rfl)];refine wp_lit1 _ _ _ rfl rfl Tryz.underlying22 hIi.out hIz.out hIl.out (by decide) (by decide) ?_;(first|refine newZ ?_|refine newZd ?_);intro wi hi bi;obtain⟨ib,hib⟩:=named hi;have HI:=hid hi;have BI:=hid bi;have xi:=(Array.getElem?_eq_some_iff.1 hi).1;clear hi bi
 refine hK.out _ _ (by first|exact hHeld.trans (BI.out.mono hHeld.size)|exact BI.out) (fun hHeld=>?_)
 clear hK K
 (try simp only [s0,s1,s2])
 refine tkH (i:=6) (oi:=⟨_,.build 25 #[(0,.tmp 23),(1,.tmp 26)],_,_,_,_⟩) (v:=?v2009) rfl (yi ?y2009) hHeld ?_
 case y2009=>(intro w _;go_simp;(try with_reducible rfl))
 (try simp only [Act.put,s0,s1,s2])
 refine wpAnyH_ready (rs:=[8]) (by kernel_rfl) (by simp) ?_
 refine AllReadyH.cons (o:=⟨_,.store 25 (.tmp 5) (.tmp 27),_,_,_,_⟩) rfl (fun K hK=>?_) ?_
 rw [if_pos (by rfl)];refine wp_store_row _ _ _ rfl _ _ rfl rfl _ _ (by(repeat(first|exact HI.out|exact HO.out|exact HA.out|refine heap_keep ?_ BM.out|refine heap_keep ?_ BO.out|refine heap_keep ?_ BA.out|refine heap_keep ?_ BI.out))) (hTa.out _ _) (by rfl) (hT1.out _ _ _ _ _ _) ?_
 refine hK.out _ _ (below_setRow hHeld (by omega) _) (fun hHeld=>?_)
 clear hK K
 (try simp only [s0,s1,s2])
 refine wpAnyH_done (by kernel_rfl) ?_ _
 rotate_left
 exact AllReadyH.nil
 exact AllReadyH.nil
 exact AllReadyH.nil
 exact AllReadyH.nil
 refine AllReadyH.cons (o:=⟨_,.alloc 25,_,_,_,_⟩) rfl (fun K hK=>?_) ?_
 have za:=hHeld.size;go_simp;(first|refine newZ ?_|refine newZd ?_);intro wa ha ba;have HA:=hid ha;have BA:=hid ba;have xa:=(Array.getElem?_eq_some_iff.1 ha).1;clear ha ba
 refine hK.out _ _ (by first|exact hHeld.trans (BA.out.mono hHeld.size)|exact BA.out) (fun hHeld=>?_)
 clear hK K
 (try simp only [s0,s1,s2])
 refine wpAnyH_ready (rs:=[2,4]) (by kernel_rfl) (by simp) ?_
 refine AllReadyH.cons (o:=⟨_,.buildSlice 22 1 #[(0,.tmp 22)],_,_,_,_⟩) rfl (fun K hK=>?_) ?_
 have zi:=hHeld.size;rw [if_pos (by rfl)];refine wp_lit1 _ _ _ rfl rfl Tryz.underlying22 hIi.out hIz.out hIl.out (by decide) (by decide) ?_;(first|refine newZ ?_|refine newZd ?_);intro wi hi bi;obtain⟨ib,hib⟩:=named hi;have HI:=hid hi;have BI:=hid bi;have xi:=(Array.getElem?_eq_some_iff.1 hi).1;clear hi bi
 refine hK.out _ _ (by first|exact hHeld.trans (BI.out.mono hHeld.size)|exact BI.out) (fun hHeld=>?_)
 clear hK K
 (try simp only [s0,s1,s2])
 refine wpAnyH_ready (rs:=[4]) (by kernel_rfl) (by simp) ?_
 refine AllReadyH.cons (o:=⟨_,.call ⟨.value (.func 20),#[.const (.int .u64 90),.tmp 24],#[63,43]⟩,_,_,_,_⟩) rfl (fun K hK=>?_) ?_
 have zm:=hHeld.size;go_simp;refine(cmine_walk 90 (by decide) s2 S2.out _ (L5.out.tabs.below hHeld)).mono ?_;rintro e wq ⟨g2,rfl,lg2,gd2,bm⟩;have GD2:=hid gd2;have BM:=hid bm;have xm:=mineO_lt gd2 OS2.out.1;have ym:=bm.size;clear gd2 bm
 refine hK.out _ _ (hHeld.trans (BM.out.mono hHeld.size)) (fun hHeld=>?_)
 clear hK K
 (try simp only [s0,s1,s2])
 refine wpAnyH_ready (rs:=[5]) (by kernel_rfl) (by simp) ?_
 refine AllReadyH.cons (o:=⟨_,.buildSlice 23 1 #[(0,.tmp 25)],_,_,_,_⟩) rfl (fun K hK=>?_) ?_
 have zo:=hHeld.size;rw [if_pos (by rfl)];refine wp_lit1 _ _ _ rfl rfl Tryz.underlying23 hOi.out hOz.out (hOl.out _) (by decide) (by decide) ?_;(first|refine newZ ?_|refine newZd ?_);intro wo ho bo;obtain⟨o2,ho2⟩:=named ho;have HO:=hid ho;have BO:=hid bo;have xo:=(Array.getElem?_eq_some_iff.1 ho).1;clear ho bo
 refine hK.out _ _ (by first|exact hHeld.trans (BO.out.mono hHeld.size)|exact BO.out) (fun hHeld=>?_)
 clear hK K
 (try simp only [s0,s1,s2])
 refine tkH (i:=6) (oi:=⟨_,.build 25 #[(0,.tmp 23),(1,.tmp 26)],_,_,_,_⟩) (v:=?v2010) rfl (yi ?y2010) hHeld ?_
 case y2010=>(intro w _;go_simp;(try with_reducible rfl))
 (try simp only [Act.put,s0,s1,s2])
 refine wpAnyH_ready (rs:=[8]) (by kernel_rfl) (by simp) ?_
 refine AllReadyH.cons (o:=⟨_,.store 25 (.tmp 5) (.tmp 27),_,_,_,_⟩) rfl (fun K hK=>?_) ?_
 rw [if_pos (by rfl)];refine wp_store_row _ _ _ rfl _ _ rfl rfl _ _ (by(repeat(first|exact HI.out|exact HO.out|exact HA.out|refine heap_keep ?_ BM.out|refine heap_keep ?_ BO.out|refine heap_keep ?_ BA.out|refine heap_keep ?_ BI.out))) (hTa.out _ _) (by rfl) (hT1.out _ _ _ _ _ _) ?_
 refine hK.out _ _ (below_setRow hHeld (by omega) _) (fun hHeld=>?_)
 clear hK K
 (try simp only [s0,s1,s2])
 refine wpAnyH_done (by kernel_rfl) ?_ _
 rotate_left
 exact AllReadyH.nil
 exact AllReadyH.nil
 exact AllReadyH.nil
 refine AllReadyH.cons (o:=⟨_,.call ⟨.value (.func 20),#[.const (.int .u64 90),.tmp 24],#[63,43]⟩,_,_,_,_⟩) rfl (fun K hK=>?_) ?_
 have zm:=hHeld.size;go_simp;refine(cmine_walk 90 (by decide) s2 S2.out _ (L5.out.tabs.below hHeld)).mono ?_;rintro e wq ⟨g2,rfl,lg2,gd2,bm⟩;have GD2:=hid gd2;have BM:=hid bm;have xm:=mineO_lt gd2 OS2.out.1;have ym:=bm.size;clear gd2 bm
 refine hK.out _ _ (hHeld.trans (BM.out.mono hHeld.size)) (fun hHeld=>?_)
 clear hK K
 (try simp only [s0,s1,s2])
 refine wpAnyH_ready (rs:=[2,5]) (by kernel_rfl) (by simp) ?_
 refine AllReadyH.cons (o:=⟨_,.buildSlice 22 1 #[(0,.tmp 22)],_,_,_,_⟩) rfl (fun K hK=>?_) ?_
 have zi:=hHeld.size;rw [if_pos (by rfl)];refine wp_lit1 _ _ _ rfl rfl Tryz.underlying22 hIi.out hIz.out hIl.out (by decide) (by decide) ?_;(first|refine newZ ?_|refine newZd ?_);intro wi hi bi;obtain⟨ib,hib⟩:=named hi;have HI:=hid hi;have BI:=hid bi;have xi:=(Array.getElem?_eq_some_iff.1 hi).1;clear hi bi
 refine hK.out _ _ (by first|exact hHeld.trans (BI.out.mono hHeld.size)|exact BI.out) (fun hHeld=>?_)
 clear hK K
 (try simp only [s0,s1,s2])
 refine wpAnyH_ready (rs:=[5]) (by kernel_rfl) (by simp) ?_
 refine AllReadyH.cons (o:=⟨_,.buildSlice 23 1 #[(0,.tmp 25)],_,_,_,_⟩) rfl (fun K hK=>?_) ?_
 have zo:=hHeld.size;rw [if_pos (by rfl)];refine wp_lit1 _ _ _ rfl rfl Tryz.underlying23 hOi.out hOz.out (hOl.out _) (by decide) (by decide) ?_;(first|refine newZ ?_|refine newZd ?_);intro wo ho bo;obtain⟨o2,ho2⟩:=named ho;have HO:=hid ho;have BO:=hid bo;have xo:=(Array.getElem?_eq_some_iff.1 ho).1;clear ho bo
 refine hK.out _ _ (by first|exact hHeld.trans (BO.out.mono hHeld.size)|exact BO.out) (fun hHeld=>?_)
 clear hK K
 (try simp only [s0,s1,s2])
 refine tkH (i:=6) (oi:=⟨_,.build 25 #[(0,.tmp 23),(1,.tmp 26)],_,_,_,_⟩) (v:=?v2011) rfl (yi ?y2011) hHeld ?_
 case y2011=>(intro w _;go_simp;(try with_reducible rfl))
 (try simp only [Act.put,s0,s1,s2])
 refine wpAnyH_ready (rs:=[8]) (by kernel_rfl) (by simp) ?_
 refine AllReadyH.cons (o:=⟨_,.store 25 (.tmp 5) (.tmp 27),_,_,_,_⟩) rfl (fun K hK=>?_) ?_
 rw [if_pos (by rfl)];refine wp_store_row _ _ _ rfl _ _ rfl rfl _ _ (by(repeat(first|exact HI.out|exact HO.out|exact HA.out|refine heap_keep ?_ BM.out|refine heap_keep ?_ BO.out|refine heap_keep ?_ BA.out|refine heap_keep ?_ BI.out))) (hTa.out _ _) (by rfl) (hT1.out _ _ _ _ _ _) ?_
 refine hK.out _ _ (below_setRow hHeld (by omega) _) (fun hHeld=>?_)
 clear hK K
 (try simp only [s0,s1,s2])
 refine wpAnyH_done (by kernel_rfl) ?_ _
 rotate_left
 exact AllReadyH.nil
 exact AllReadyH.nil
 refine AllReadyH.cons (o:=⟨_,.buildSlice 23 1 #[(0,.tmp 25)],_,_,_,_⟩) rfl (fun K hK=>?_) ?_
 have zo:=hHeld.size;rw [if_pos (by rfl)];refine wp_lit1 _ _ _ rfl rfl Tryz.underlying23 hOi.out hOz.out (hOl.out _) (by decide) (by decide) ?_;(first|refine newZ ?_|refine newZd ?_);intro wo ho bo;obtain⟨o2,ho2⟩:=named ho;have HO:=hid ho;have BO:=hid bo;have xo:=(Array.getElem?_eq_some_iff.1 ho).1;clear ho bo
 refine hK.out _ _ (by first|exact hHeld.trans (BO.out.mono hHeld.size)|exact BO.out) (fun hHeld=>?_)
 clear hK K
 (try simp only [s0,s1,s2])
 refine wpAnyH_ready (rs:=[2]) (by kernel_rfl) (by simp) ?_
 refine AllReadyH.cons (o:=⟨_,.buildSlice 22 1 #[(0,.tmp 22)],_,_,_,_⟩) rfl (fun K hK=>?_) ?_
 have zi:=hHeld.size;rw [if_pos (by rfl)];refine wp_lit1 _ _ _ rfl rfl Tryz.underlying22 hIi.out hIz.out hIl.out (by decide) (by decide) ?_;(first|refine newZ ?_|refine newZd ?_);intro wi hi bi;obtain⟨ib,hib⟩:=named hi;have HI:=hid hi;have BI:=hid bi;have xi:=(Array.getElem?_eq_some_iff.1 hi).1;clear hi bi
 refine hK.out _ _ (by first|exact hHeld.trans (BI.out.mono hHeld.size)|exact BI.out) (fun hHeld=>?_)
 clear hK K
 (try simp only [s0,s1,s2])
 refine tkH (i:=6) (oi:=⟨_,.build 25 #[(0,.tmp 23),(1,.tmp 26)],_,_,_,_⟩) (v:=?v2012) rfl (yi ?y2012) hHeld ?_
 case y2012=>(intro w _;go_simp;(try with_reducible rfl))
 (try simp only [Act.put,s0,s1,s2])
 refine wpAnyH_ready (rs:=[8]) (by kernel_rfl) (by simp) ?_
 refine AllReadyH.cons (o:=⟨_,.store 25 (.tmp 5) (.tmp 27),_,_,_,_⟩) rfl (fun K hK=>?_) ?_
 rw [if_pos (by rfl)];refine wp_store_row _ _ _ rfl _ _ rfl rfl _ _ (by(repeat(first|exact HI.out|exact HO.out|exact HA.out|refine heap_keep ?_ BM.out|refine heap_keep ?_ BO.out|refine heap_keep ?_ BA.out|refine heap_keep ?_ BI.out))) (hTa.out _ _) (by rfl) (hT1.out _ _ _ _ _ _) ?_
 refine hK.out _ _ (below_setRow hHeld (by omega) _) (fun hHeld=>?_)
 clear hK K
 (try simp only [s0,s1,s2])
 refine wpAnyH_done (by kernel_rfl) ?_ _
 rotate_left
 exact AllReadyH.nil
 exact AllReadyH.nil
 exact AllReadyH.nil
 exact AllReadyH.nil
 exact AllReadyH.nil
 all_goals
  have dr:w5.drew.heap.size=w5.heap.size:=rfl
  refine MID.out ib g2 o2 _ _ _ _ _ _ _ _ _ (by omega) (by omega) (by omega) (by omega) (by omega) (by omega) (by omega) ⟨?_,?_,?_,?_⟩ hHeld
  ·rw [setRow_other _ _ _ _ (by omega),hib]
   (repeat(first|exact HI.out|exact HO.out|exact HA.out|refine heap_keep ?_ BM.out|refine heap_keep ?_ BO.out|refine heap_keep ?_ BA.out|refine heap_keep ?_ BI.out))
  ·rw [setRow_other _ _ _ _ (by omega),ho2]
   (repeat(first|exact HI.out|exact HO.out|exact HA.out|refine heap_keep ?_ BM.out|refine heap_keep ?_ BO.out|refine heap_keep ?_ BA.out|refine heap_keep ?_ BI.out))
  ·rw [hib,ho2]
   exact setRow_heap _ _ _ _ _ _ (by(repeat(first|exact HI.out|exact HO.out|exact HA.out|refine heap_keep ?_ BM.out|refine heap_keep ?_ BO.out|refine heap_keep ?_ BA.out|refine heap_keep ?_ BI.out)))
  ·refine OutD.good.keepN' (S:=fun i=>i=_) ?_ (Keep.far' (far_row _ _ _)) (fun ad ha=>by cases ha;show g2≠_;omega)
   (repeat(first|exact GD2.out|refine OutD.good.below ?_ BM.out|refine OutD.good.below ?_ BO.out|refine OutD.good.below ?_ BA.out|refine OutD.good.below ?_ BI.out))
end Go.Proofs.YtnbmpgballopeaaGreatDoor

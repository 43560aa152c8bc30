/- Any transaction's bytes and name, or why it has none (the statement ChainWrites). -/
import Derived.Test.YtnbmpgballopeaaGreatDoorZOpenT
import Derived.Test.YtnbmpgballopeaaGreatDoorZOpx
import Derived.Test.YtnbmpgballopeaaGreatDoorZCda
import Derived.Test.YtnbmpgballopeaaGreatDoorZRid
import Derived.Test.YtnbmpgballopeaaGreatDoorZSmt
import Derived.Test.YtnbmpgballopeaaGreatDoorZChe
namespace Go.Proofs.YtnbmpgballopeaaGreatDoor
open Go.RowKit
theorem recsT_bareW(is:List InD)(os:List OutD):recsT is (os.map OutD.bare)=recsT is os:=by
 have e:(os.map OutD.bare).flatMap outB=os.flatMap outB:=by rw [List.flatMap_map];rfl
 unfold recsT
 rw [e]
theorem same_tx{t u:TxD}(hi:u.ins=t.ins)(ho:u.outs.map OutD.bare=t.outs.map OutD.bare):u.code=t.code∧encC u=encC t∧encB u=encB t∧idB u=idB t:=by
 have hc:u.code=t.code:=by rw [← codeP_tx,← codeP_tx,← codeP_bare u.ins,← codeP_bare t.ins,hi,ho]
 have hr:recsT u.ins u.outs=recsT t.ins t.outs:=by rw [← recsT_bareW u.ins,← recsT_bareW t.ins,hi,ho]
 have hC:encC u=encC t:=by unfold encC;rw [hc,hr]
 have hb:bodyB u=bodyB t:=by
  have e1:u.outs.flatMap outB=t.outs.flatMap outB:=by
   have h1:(u.outs.map OutD.bare).flatMap outB=(t.outs.map OutD.bare).flatMap outB:=by rw [ho]
   rw [List.flatMap_map,List.flatMap_map] at h1
   exact h1
  unfold bodyB
  rw [hi,e1]
 exact⟨hc,hC,by unfold encB;rw [hC,hr],by unfold idB;rw [hc,hb]⟩
theorem encB_lt{w:World}{t:TxD}(hg:t.good w):∀d∈encB t,d<256:=by
 intro d hd
 unfold encB at hd
 split at hd
 ·rename_i h0
  have hz:t.code=0:=by
   unfold encC at h0
   split at h0
   ·omega
   ·rename_i h1;simpa using h1
  refine encAll_lt (rs:=recsT t.ins t.outs) (fun r hr d hd=>?_) d hd
  unfold recsT at hr
  simp only [List.mem_cons,List.not_mem_nil,or_false] at hr
  rcases hr with rfl|rfl
  ·obtain⟨i,hi,hd⟩:=List.mem_flatMap.1 hd
   exact inQ_lt (hg.iok i hi) d hd
  ·obtain⟨o,ho,hd⟩:=List.mem_flatMap.1 hd
   exact outB_lt (hg.ook o ho).anchor (hg.ook o ho).ok ((code_zero hz).2.2 o ho) d hd
 ·simp at hd
theorem big_not{t:TxD}(h:bigT t=false):t.ins.length≤260∧t.outs.length≤260 ∧ ∀o∈t.outs,o.paths.length≤20:=by
 unfold bigT at h
 simp only [Bool.or_eq_false_iff,decide_eq_false_iff_not,List.any_eq_false,decide_eq_true_eq] at h
 exact⟨by omega,by omega,fun o ho=>by have:=h.2.2 o ho;omega⟩
theorem encB_dec{w:World}{t:TxD}(hg:t.good w)(h:encC t=0):decT (encB t)=((t.ins,t.outs.map OutD.bare),0)∧(encB t).length≤131108∧t.code=0:=by
 have hz:t.code=0:=by
  unfold encC at h
  split at h
  ·omega
  ·rename_i h1;simpa using h1
 have he:encE (recsT t.ins t.outs)=0:=by
  unfold encC at h
  rwa [if_neg (by omega)] at h
 have e:encB t=encAll (recsT t.ins t.outs):=by unfold encB;rw [if_pos h]
 refine⟨by rw [e];exact decT_enc hg hz he,?_,hz⟩
 rw [e]
 have h2:encErr none (recsT t.ins t.outs)=0:=by
  unfold encE at he
  rwa [if_neg (by show ¬ (256<2);decide)] at he
 have:=encAll_len _ none h2
 have l2:(recsT t.ins t.outs).length=2:=rfl
 omega
set_option maxRecDepth 100000 in
set_option maxHeartbeats 16000000 in
theorem lawWrites(t:TxD)(w:World)(h:t.good w)(ht:Tabs w):
  Calls Tryz.prog 3 #[.agg t.cells.toArray] w (fun e w'=>e = .returned (.bool true)∧Below w.heap.size w w'):=by
 have G:=hid h
 have HT:=hid ht
 obtain⟨tc,htc⟩:∃tc,tc=t.cells:=⟨_,rfl⟩
 have TC:=hid htc
 have TL:=hid (show tc.length=2 by rw [htc];rfl)
 have hiT:=hid (show(Tryz.prog.info? 25).map (·.size)=some tc.length by rw [TL.out];kernel_rfl)
 have HA:=hid (heap_alloc_new w (.cells tc.toArray 25))
 have B1:=hid ((Below.refl w.heap.size w).alloc (Nat.le_refl _) (.cells tc.toArray 25))
 have HD:=hid (chead_walk _ (ht.below B1.out))
 rw [← htc]
 clear h ht htc
 go_enter Tryz.func3,Tryz.ntmps3
 go_upto_region 1 with(fail)
 generalize w.alloc (.cells tc.toArray 25)=w0 at *
 go_wp2_with (fail)
 refine HD.out.mono ?_
 rintro e w1 ⟨rfl,b1⟩
 have H1:=hid (heap_keep HA.out b1)
 have BW1:=hid (B1.out.trans (b1.mono B1.out.size))
 have BG:=fun(wx:World) (gx:t.good wx)=>hid (show Calls Tryz.prog 5 #[.agg tc.toArray] wx _ from by rw [TC.out];exact cbig_walk t wx gx)
 clear b1 HD
 go_upto_region 3 with(fail)
 have r1:=row_range H1.out
 go_wp2_with (with_reducible refine wpList_load_mid rfl _ _ rfl w.heap.size 0 rfl tc _ r1 Tryz.underlying25 rfl hiT.out ?_)
 refine(BG _ (G.out.below BW1.out)).out.mono ?_
 rintro e w2 ⟨rfl,b2⟩
 have H2:=hid (heap_keep H1.out b2)
 have BW2:=hid (BW1.out.trans (b2.mono BW1.out.size))
 clear b2 r1 BG
 cases hb:bigT t with
 | true=>
  clear hb
  go_wp2_with (fail)
  go_ret
  exact⟨rfl,BW2.out⟩
 | false=>
  have SZ:=hid (big_not hb)
  clear hb
  have EN:=fun(wx:World) (gx:t.good wx)=>hid (show Calls Tryz.prog 6 #[.agg tc.toArray] wx _ from by rw [TC.out];exact cenc_walk t wx gx)
  have PW:=fun(wx:World) (gx:t.good wx)=>hid (show Calls Tryz.prog 8 #[.agg tc.toArray] wx _ from by rw [TC.out];exact pln_walk t wx gx ⟨by have:=SZ.out.1;omega,by have:=SZ.out.2.1;omega⟩ (fun o ho=>by have:=SZ.out.2.2 o ho;omega))
  have CK:=fun(wx:World) (gx:t.good wx)=>hid (show Calls Tryz.prog 9 #[.agg tc.toArray] wx _ from by rw [TC.out];exact tcheck_walk t wx gx)
  have CI:=fun(wx:World) (gx:t.good wx) (tx:Tabs wx)=>hid (show Calls Tryz.prog 12 #[.agg tc.toArray] wx _ from by rw [TC.out];exact cid_walk t wx gx tx)
  go_upto_region 5 with(fail)
  have r2:=row_range H2.out
  go_wp2_with (with_reducible refine wpList_load_mid rfl _ _ rfl w.heap.size 0 rfl tc _ r2 Tryz.underlying25 rfl hiT.out ?_)
  refine(EN _ (G.out.below BW2.out)).out.mono ?_
  rintro e w3 ⟨v3,rfl,s3,b3⟩
  obtain⟨eb,heb⟩:∃eb,eb=encB t:=⟨_,rfl⟩
  obtain⟨ec,hec⟩:∃ec,ec=encC t:=⟨_,rfl⟩
  rw [← heb] at s3
  rw [← hec]
  have EB:=hid heb
  have EC:=hid hec
  have EBL:=hid (show ∀d∈eb,d<256 by rw [heb];exact encB_lt G.out)
  obtain⟨a3,c3,rfl,sl3⟩:=s3
  obtain⟨n3,hn3⟩:∃n3,n3=eb.length:=⟨_,rfl⟩
  rw [← hn3] at sl3 ⊢
  have N3:=hid hn3
  have SL3:=hid sl3
  have H3:=hid (heap_keep H2.out b3)
  have BW3:=hid (BW2.out.trans (b3.mono BW2.out.size))
  clear b3 sl3 r2 EN heb hec hn3
  go_upto_region 6 with(fail)
  have r3:=row_range H3.out
  go_wp2_with (with_reducible refine wpList_load_mid rfl _ _ rfl w.heap.size 0 rfl tc _ r3 Tryz.underlying25 rfl hiT.out ?_)
  refine(PW _ (G.out.below BW3.out)).out.mono ?_
  rintro e w4 ⟨u,rfl,ug,ui,uo,b4⟩
  have ST:=hid (same_tx ui uo)
  have BW4:=hid (BW3.out.trans (b4.mono BW3.out.size))
  have RE:=hid (rcenc_walk u w4 ug)
  have H4:=hid (heap_keep H3.out b4)
  have SL4:=hid (SL3.out.below b4)
  clear b4 r3 ug ui uo
  go_wp2_with (fail)
  refine RE.out.mono ?_
  rintro e w5 ⟨v5,rfl,s5,b5⟩
  rw [ST.out.2.2.1,← EB.out] at s5
  rw [ST.out.2.1,← EC.out]
  obtain⟨a5,c5,rfl,sl5⟩:=s5
  rw [← N3.out] at sl5 ⊢
  have SL5:=hid sl5
  have BW5:=hid (BW4.out.trans (b5.mono BW4.out.size))
  have R5:=hid (row_range (heap_keep H4.out b5))
  have SB5:=hid (SL4.out.below b5)
  clear b5 sl5 RE H1 H2 H3 H4 HA
  have v1:((ec:Int) != (ec:Int))=false:=by simp
  obtain⟨cd,hcd⟩:∃cd,cd=t.code:=⟨_,rfl⟩
  have CD:=hid hcd
  have v2:((cd:Int) != (cd:Int))=false:=by simp
  obtain⟨iv,hiv⟩:∃iv,iv=idB t:=⟨_,rfl⟩
  have IV:=hid hiv
  have IVO:=hid (show H32b iv by rw [hiv];exact idB_ok t)
  have nq:=keyHash.neq (kv_hash IVO.out.1 IVO.out.2) (kv_hash IVO.out.1 IVO.out.2) (p:=True) (by simp)
  have gq:=keyHash.guarded (nums .u8 iv).toArray (nums .u8 iv).toArray
  clear hcd hiv
  go_upto_region 7 with(fail)
  refine wp_region_held_drew (S:=fun w'=>Below w5.heap.size w5 w') (by kernel_rfl) ((Below.refl _ _).drew) (fun hHeld=>?_)
  try simp only [List.size_toArray,List.length_cons,List.length_nil,Nat.reduceAdd,Array.replicate_succ,Array.replicate_zero,List.push_toArray,List.nil_append,List.cons_append]
  refine tkH (i:=0) (oi:=⟨_,.move (.tmp 4),_,_,_,_⟩) (v:=?v1001) rfl (yi ?y1001) hHeld ?_
  case y1001=>(intro w _;go_simp;(try with_reducible rfl))
  (try simp only [Act.put,s0,s1,s2])
  refine tkH (i:=1) (oi:=⟨_,.move (.tmp 6),_,_,_,_⟩) (v:=?v1002) rfl (yi ?y1002) hHeld ?_
  case y1002=>(intro w _;go_simp;(try with_reducible rfl))
  (try simp only [Act.put,s0,s1,s2])
  refine tkH (i:=2) (oi:=⟨_,.binOp .neq 3 (.tmp 24) (.tmp 25) 3,_,_,_,_⟩) (v:=?v1003) rfl (yi ?y1003) hHeld ?_
  case y1003=>(intro w _;go_simp;(try with_reducible rfl))
  (try simp only [Act.put,s0,s1,s2])
  refine tkH (i:=3) (oi:=⟨_,.move (.tmp 26),_,_,_,_⟩) (v:=?v1004) rfl (yi ?y1004) hHeld ?_
  case y1004=>(intro w _;go_simp;(try with_reducible rfl))
  (try simp only [Act.put,s0,s1,s2])
  refine' tkH (i:=4) (oi:=⟨_,.load 25 (.tmp 1),_,_,_,_⟩) (v:=_) rfl (yieldsIf_load_mid (by rfl) _ _ rfl w.heap.size 0 rfl tc _ (fun _ h=>range_keep h R5.out) Tryz.underlying25 rfl hiT.out) hHeld ?_
  (try simp only [Act.put,s0,s1,s2])
  refine' tkH (i:=6) (oi:=⟨_,.load 25 (.tmp 1),_,_,_,_⟩) (v:=_) rfl (yieldsIf_load_mid (by rfl) _ _ rfl w.heap.size 0 rfl tc _ (fun _ h=>range_keep h R5.out) Tryz.underlying25 rfl hiT.out) hHeld ?_
  (try simp only [Act.put,s0,s1,s2])
  refine wpAnyH_ready (rs:=[5]) (by kernel_rfl) (by simp) ?_
  refine AllReadyH.cons (o:=⟨_,.call ⟨.value (.func 9),#[.tmp 28],#[25]⟩,_,_,_,_⟩) rfl (fun K hK=>?_) ?_
  rw [if_pos (by rfl)];go_simp;refine(CK _ (G.out.below (BW5.out.trans (hHeld.mono BW5.out.size)))).out.mono ?_;rintro e w6 ⟨rfl,b6⟩;have B6:=hid b6;clear b6;rw [← CD.out]
  refine hK.out _ _ (hHeld.trans (B6.out.mono hHeld.size)) (fun hHeld=>?_)
  clear hK K
  (try simp only [s0,s1,s2])
  refine wpAnyH_ready (rs:=[7]) (by kernel_rfl) (by simp) ?_
  refine AllReadyH.cons (o:=⟨_,.call ⟨.value (.func 8),#[.tmp 30],#[25]⟩,_,_,_,_⟩) rfl (fun K hK=>?_) ?_
  rw [if_pos (by rfl)];go_simp;refine(PW _ (G.out.below (BW5.out.trans (hHeld.mono BW5.out.size)))).out.mono ?_;rintro e w7 ⟨u2,rfl,ug2,ui2,uo2,b7⟩;have B7:=hid b7;have UG2:=hid ug2;have ST2:=hid (same_tx ui2 uo2);obtain⟨uc2,huc2⟩:∃uc,uc=u2.cells:=⟨_,rfl⟩;rw [← huc2];have UC2:=hid huc2;clear b7 ug2 ui2 uo2 huc2
  refine hK.out _ _ (hHeld.trans (B7.out.mono hHeld.size)) (fun hHeld=>?_)
  clear hK K
  (try simp only [s0,s1,s2])
  refine wpAnyH_ready (rs:=[8]) (by kernel_rfl) (by simp) ?_
  refine AllReadyH.cons (o:=⟨_,.call ⟨.value (.func 10),#[.tmp 31],#[37]⟩,_,_,_,_⟩) rfl (fun K hK=>?_) ?_
  rw [if_pos (by rfl)];go_simp;rw [UC2.out];refine(rtcheck_walk u2 _ UG2.out).mono ?_;rintro e w8 ⟨rfl,b8⟩;have B8:=hid b8;clear b8;rw [ST2.out.1,← CD.out]
  refine hK.out _ _ (hHeld.trans (B8.out.mono hHeld.size)) (fun hHeld=>?_)
  clear hK K
  (try simp only [s0,s1,s2])
  refine tkH (i:=9) (oi:=⟨_,.binOp .neq 3 (.tmp 29) (.tmp 32) 3,_,_,_,_⟩) (v:=?v1005) rfl (yi ?y1005) hHeld ?_
  case y1005=>(intro w _;go_simp;(try with_reducible rfl))
  (try simp only [Act.put,s0,s1,s2])
  refine tkH (i:=10) (oi:=⟨_,.pick (.tmp 27) (.const (.bool true)) (.tmp 33),_,_,_,_⟩) (v:=?v1006) rfl (yi ?y1006) hHeld ?_
  case y1006=>(intro w _;go_simp;(try with_reducible rfl))
  (try simp only [Act.put,s0,s1,s2])
  refine tkH (i:=11) (oi:=⟨_,.move (.tmp 34),_,_,_,_⟩) (v:=?v1007) rfl (yi ?y1007) hHeld ?_
  case y1007=>(intro w _;go_simp;(try with_reducible rfl))
  (try simp only [Act.put,s0,s1,s2])
  refine tkH (i:=12) (oi:=⟨_,.move (.tmp 3),_,_,_,_⟩) (v:=?v1008) rfl (yi ?y1008) hHeld ?_
  case y1008=>(intro w _;go_simp;(try with_reducible rfl))
  (try simp only [Act.put,s0,s1,s2])
  refine tkH (i:=13) (oi:=⟨_,.move (.tmp 5),_,_,_,_⟩) (v:=?v1009) rfl (yi ?y1009) hHeld ?_
  case y1009=>(intro w _;go_simp;(try with_reducible rfl))
  (try simp only [Act.put,s0,s1,s2])
  refine wpAnyH_ready (rs:=[14]) (by kernel_rfl) (by simp) ?_
  refine AllReadyH.cons (o:=⟨_,.call ⟨.value (.func 11),#[.tmp 36,.tmp 37],#[28,28]⟩,_,_,_,_⟩) rfl (fun K hK=>?_) ?_
  rw [if_pos (by rfl)];go_simp;refine(same_self a3 a5 n3 c3 n3 c5 eb EBL.out _ (SB5.out.below hHeld) (SL5.out.below hHeld)).mono ?_;rintro e w9 ⟨rfl,rfl⟩
  refine hK.out _ _ (hHeld) (fun hHeld=>?_)
  clear hK K
  (try simp only [s0,s1,s2])
  refine tkH (i:=15) (oi:=⟨_,.unOp .not 4 (.tmp 38),_,_,_,_⟩) (v:=?v1010) rfl (yi ?y1010) hHeld ?_
  case y1010=>(intro w _;go_simp;(try with_reducible rfl))
  (try simp only [Act.put,s0,s1,s2])
  refine tkH (i:=16) (oi:=⟨_,.pick (.tmp 35) (.const (.bool true)) (.tmp 39),_,_,_,_⟩) (v:=?v1011) rfl (yi ?y1011) hHeld ?_
  case y1011=>(intro w _;go_simp;(try with_reducible rfl))
  (try simp only [Act.put,s0,s1,s2])
  refine tkH (i:=17) (oi:=⟨_,.move (.tmp 40),_,_,_,_⟩) (v:=?v1012) rfl (yi ?y1012) hHeld ?_
  case y1012=>(intro w _;go_simp;(try with_reducible rfl))
  (try simp only [Act.put,s0,s1,s2])
  refine' tkH (i:=18) (oi:=⟨_,.load 25 (.tmp 1),_,_,_,_⟩) (v:=_) rfl (yieldsIf_load_mid (by rfl) _ _ rfl w.heap.size 0 rfl tc _ (fun _ h=>range_keep h R5.out) Tryz.underlying25 rfl hiT.out) hHeld ?_
  (try simp only [Act.put,s0,s1,s2])
  refine' tkH (i:=21) (oi:=⟨_,.load 25 (.tmp 1),_,_,_,_⟩) (v:=_) rfl (yieldsIf_load_mid (by rfl) _ _ rfl w.heap.size 0 rfl tc _ (fun _ h=>range_keep h R5.out) Tryz.underlying25 rfl hiT.out) hHeld ?_
  (try simp only [Act.put,s0,s1,s2])
  refine wpAnyH_ready (rs:=[19]) (by kernel_rfl) (by simp) ?_
  refine AllReadyH.cons (o:=⟨_,.call ⟨.value (.func 12),#[.tmp 42],#[25]⟩,_,_,_,_⟩) rfl (fun K hK=>?_) ?_
  rw [if_pos (by rfl)];go_simp;refine(CI _ (G.out.below (BW5.out.trans (hHeld.mono BW5.out.size))) (HT.out.below (BW5.out.trans (hHeld.mono BW5.out.size)))).out.mono ?_;rintro e w10 ⟨rfl,b10⟩;have B10:=hid b10;clear b10;rw [← IV.out]
  refine hK.out _ _ (hHeld.trans (B10.out.mono hHeld.size)) (fun hHeld=>?_)
  clear hK K
  (try simp only [s0,s1,s2])
  refine wpAnyH_ready (rs:=[20]) (by kernel_rfl) (by simp) ?_
  refine AllReadyH.cons (o:=⟨_,.call ⟨.value (.func 14),#[],#[]⟩,_,_,_,_⟩) rfl (fun K hK=>?_) ?_
  rw [if_pos (by rfl)];go_simp;refine(make_walk _).mono ?_;rintro e w11 ⟨rfl,b11⟩;have B11:=hid b11;clear b11
  refine hK.out _ _ (hHeld.trans (B11.out.mono hHeld.size)) (fun hHeld=>?_)
  clear hK K
  (try simp only [s0,s1,s2])
  refine wpAnyH_ready (rs:=[22]) (by kernel_rfl) (by simp) ?_
  refine AllReadyH.cons (o:=⟨_,.call ⟨.value (.func 8),#[.tmp 45],#[25]⟩,_,_,_,_⟩) rfl (fun K hK=>?_) ?_
  rw [if_pos (by rfl)];go_simp;refine(PW _ (G.out.below (BW5.out.trans (hHeld.mono BW5.out.size)))).out.mono ?_;rintro e w12 ⟨u3,rfl,ug3,ui3,uo3,b12⟩;have B12:=hid b12;have UG3:=hid ug3;have ST3:=hid (same_tx ui3 uo3);obtain⟨uc3,huc3⟩:∃uc,uc=u3.cells:=⟨_,rfl⟩;rw [← huc3];have UC3:=hid huc3;clear b12 ug3 ui3 uo3 huc3
  refine hK.out _ _ (hHeld.trans (B12.out.mono hHeld.size)) (fun hHeld=>?_)
  clear hK K
  (try simp only [s0,s1,s2])
  refine wpAnyH_ready (rs:=[23]) (by kernel_rfl) (by simp) ?_
  refine AllReadyH.cons (o:=⟨_,.call ⟨.value (.func 13),#[.tmp 44,.tmp 46],#[50,37]⟩,_,_,_,_⟩) rfl (fun K hK=>?_) ?_
  rw [if_pos (by rfl)];go_simp;rw [UC3.out];refine(rcid_walk u3 _ UG3.out).mono ?_;rintro e w13 ⟨rfl,b13⟩;have B13:=hid b13;clear b13;rw [ST3.out.2.2.2,← IV.out]
  refine hK.out _ _ (hHeld.trans (B13.out.mono hHeld.size)) (fun hHeld=>?_)
  clear hK K
  (try simp only [s0,s1,s2])
  refine tkH (i:=24) (oi:=⟨_,.binOp .neq 43 (.tmp 43) (.tmp 47) 43,_,_,_,_⟩) (v:=(.bool false)) rfl (Or.inl ⟨by rfl,fun w _=>by have e8:=gq;have e9:=nq;go_simp⟩) hHeld ?_
  (try simp only [Act.put,s0,s1,s2])
  refine tkH (i:=25) (oi:=⟨_,.pick (.tmp 41) (.const (.bool true)) (.tmp 48),_,_,_,_⟩) (v:=?v1013) rfl (yi ?y1013) hHeld ?_
  case y1013=>(intro w _;go_simp;(try with_reducible rfl))
  (try simp only [Act.put,s0,s1,s2])
  refine wpAnyH_done (by kernel_rfl) ?_ _
  rotate_left
  exact AllReadyH.nil
  exact AllReadyH.nil
  exact AllReadyH.nil
  exact AllReadyH.nil
  exact AllReadyH.nil
  exact AllReadyH.nil
  exact AllReadyH.nil
  exact AllReadyH.nil
  have HH:=hid hHeld
  clear hHeld v1 v2 nq gq
  by_cases hk0:ec=0
  case neg=>
   have v3:((ec:Int) != 0)=true:=by rw [bne_iff_ne];omega
   clear hk0
   go_wp2_with (fail)
   go_ret
   exact⟨rfl,BW5.out.trans (HH.out.mono BW5.out.size)⟩
  have v3:((ec:Int) != 0)=false:=by rw [bne_eq_false_iff_eq];omega
  obtain⟨d1,d2,d3⟩:=encB_dec G.out (EC.out.symm.trans hk0)
  rw [← EB.out] at d1 d2
  rw [← N3.out] at d2
  have D1:=hid d1
  have BW6:=hid (BW5.out.trans (HH.out.mono BW5.out.size))
  have DC:=fun(wx:World) (sx:Sl .u8 wx a3 n3 c3 eb)=>hid (cdec_walk a3 n3 c3 eb EBL.out (by omega) wx sx)
  have SLf:=hid (SB5.out.below HH.out)
  clear d1 d2 d3 hk0
  go_upto_region 11 with(fail)
  clear v3
  go_wp2_with (fail)
  refine(DC _ SLf.out).out.mono ?_
  rintro e w20 ⟨x,rfl,xg,xi,xo,b20⟩
  rw [D1.out] at xi xo ⊢
  rw [show(((((t.ins,t.outs.map OutD.bare),(0:Nat)):(List InD × List OutD) × Nat).2:Nat):Int)=0 from rfl]
  have XG:=hid xg
  have XI:=hid (show x.ins=t.ins from xi)
  have XO:=hid (show x.outs.map OutD.bare=t.outs.map OutD.bare from xo)
  have XP:=hid (show ∀o∈x.outs,o.paths.length≤4096 from fun o ho=>by
   have h1:o.bare∈t.outs.map OutD.bare:=by rw [← XO.out];exact List.mem_map_of_mem ho
   obtain⟨o',ho',e'⟩:=List.mem_map.1 h1
   have h2:=SZ.out.2.2 o' ho'
   have h3:=congrArg (fun q:OutD=>q.paths.length) e'
   have h4:o'.paths.length=o.paths.length:=h3
   omega)
  have XL:=hid (show x.outs.length=t.outs.length from by have:=congrArg List.length XO.out;simpa using this)
  obtain⟨xc,hxc⟩:∃xc,xc=x.cells:=⟨_,rfl⟩
  rw [← hxc]
  have XC:=hid hxc
  have XCL:=hid (show xc.length=2 by rw [hxc];rfl)
  have hiX:=hid (show(Tryz.prog.info? 25).map (·.size)=some xc.length by rw [XCL.out];kernel_rfl)
  have hiXa:=hid (show(Tryz.prog.info? 25).map (·.size)=some xc.toArray.size by rw [List.size_toArray];exact hiX.out)
  have hoX:=hid (show 2=xc.toArray.size by rw [List.size_toArray,XCL.out])
  have h1X:=hid (show(xc.toArray.all fun x=>x.oneCell')=true by rw [hxc];exact all_oneCell_toArray (TxD.one x))
  have BW20:=hid (BW6.out.trans (b20.mono BW6.out.size))
  have R20:=hid (range_keep (HH.out.trans (b20.mono HH.out.size)) R5.out)
  clear b20 xg xi xo hxc DC
  go_upto_region 12 with(refine wpList_store_row rfl _ _ _ rfl w20.heap.size xc.toArray rfl rfl _ _ (heap_alloc_new _ _) hiXa.out hoX.out h1X.out ?_;refine laidW (F:=fun w4=>wpList _ _ _ _ _ w4) ?_;intro w21 h21 b21)
  have RX:=hid (row_range h21.out)
  have R21:=hid (range_keep b21.out R20.out)
  have BW21:=hid (BW20.out.trans (b21.out.mono BW20.out.size))
  have XG21:=hid (XG.out.below b21.out)
  have v4:((0:Int) == 0)=true:=rfl
  clear b21 h21
  refine wp_region_held_drew (S:=fun w'=>Below w21.heap.size w21 w') (by kernel_rfl) ((Below.refl _ _).drew) (fun hHeld=>?_)
  try simp only [List.size_toArray,List.length_cons,List.length_nil,Nat.reduceAdd,Array.replicate_succ,Array.replicate_zero,List.push_toArray,List.nil_append,List.cons_append]
  refine tkH (i:=0) (oi:=⟨_,.move (.tmp 8),_,_,_,_⟩) (v:=?v2001) rfl (yi ?y2001) hHeld ?_
  case y2001=>(intro w _;go_simp;(try with_reducible rfl))
  (try simp only [Act.put,s0,s1,s2])
  refine tkH (i:=1) (oi:=⟨_,.binOp .eql 29 (.tmp 57) (.const (.int .i64 0)) 29,_,_,_,_⟩) (v:=?v2002) rfl (yi ?y2002) hHeld ?_
  case y2002=>(intro w _;go_simp;(try with_reducible rfl))
  (try simp only [Act.put,s0,s1,s2])
  refine tkH (i:=2) (oi:=⟨_,.move (.tmp 58),_,_,_,_⟩) (v:=?v2003) rfl (yi ?y2003) hHeld ?_
  case y2003=>(intro w _;go_simp;(try with_reducible rfl))
  (try simp only [Act.put,s0,s1,s2])
  refine' tkH (i:=3) (oi:=⟨_,.load 25 (.tmp 7),_,_,_,_⟩) (v:=_) rfl (yieldsIf_load_mid (by rfl) _ _ rfl w20.heap.size 0 rfl xc _ (fun _ h=>range_keep h RX.out) Tryz.underlying25 rfl hiX.out) hHeld ?_
  (try simp only [Act.put,s0,s1,s2])
  refine' tkH (i:=5) (oi:=⟨_,.load 25 (.tmp 1),_,_,_,_⟩) (v:=_) rfl (yieldsIf_load_mid (by rfl) _ _ rfl w.heap.size 0 rfl tc _ (fun _ h=>range_keep h R21.out) Tryz.underlying25 rfl hiT.out) hHeld ?_
  (try simp only [Act.put,s0,s1,s2])
  refine wpAnyH_ready (rs:=[4]) (by kernel_rfl) (by simp) ?_
  refine AllReadyH.cons (o:=⟨_,.call ⟨.value (.func 8),#[.tmp 60],#[25]⟩,_,_,_,_⟩) rfl (fun K hK=>?_) ?_
  rw [if_pos (by rfl)];go_simp;rw [XC.out];refine(pln_walk x _ (XG21.out.below hHeld) ⟨by rw [XI.out];have:=SZ.out.1;omega,by rw [XL.out];have:=SZ.out.2.1;omega⟩ XP.out).mono ?_;rintro e w22 ⟨u4,rfl,ug4,ui4,uo4,b22⟩;have B22:=hid b22;have UG4:=hid ug4;have UI4:=hid ui4;have UO4:=hid uo4;obtain⟨uc4,huc4⟩:∃uc,uc=u4.cells:=⟨_,rfl⟩;rw [← huc4];have UC4:=hid huc4;clear b22 ug4 ui4 uo4 huc4
  refine hK.out _ _ (hHeld.trans (B22.out.mono hHeld.size)) (fun hHeld=>?_)
  clear hK K
  (try simp only [s0,s1,s2])
  refine wpAnyH_ready (rs:=[6]) (by kernel_rfl) (by simp) ?_
  refine AllReadyH.cons (o:=⟨_,.call ⟨.value (.func 8),#[.tmp 62],#[25]⟩,_,_,_,_⟩) rfl (fun K hK=>?_) ?_
  rw [if_pos (by rfl)];go_simp;refine(PW _ (G.out.below (BW21.out.trans (hHeld.mono BW21.out.size)))).out.mono ?_;rintro e w23 ⟨u5,rfl,ug5,ui5,uo5,b23⟩;have B23:=hid b23;have UG5:=hid ug5;have UI5:=hid ui5;have UO5:=hid uo5;have UG4:=hid (UG4.out.below b23);obtain⟨uc5,huc5⟩:∃uc,uc=u5.cells:=⟨_,rfl⟩;rw [← huc5];have UC5:=hid huc5;clear b23 ug5 ui5 uo5 huc5
  refine hK.out _ _ (hHeld.trans (B23.out.mono hHeld.size)) (fun hHeld=>?_)
  clear hK K
  (try simp only [s0,s1,s2])
  refine wpAnyH_ready (rs:=[7]) (by kernel_rfl) (by simp) ?_
  refine AllReadyH.cons (o:=⟨_,.call ⟨.value (.func 16),#[.tmp 61,.tmp 63],#[37,37]⟩,_,_,_,_⟩) rfl (fun K hK=>?_) ?_
  rw [if_pos (by rfl)];go_simp;rw [UC4.out,UC5.out];refine(rsame_walk u4 u5 (by rw [UI5.out,UI4.out,XI.out]) (by rw [UO5.out,UO4.out,XO.out]) _ UG4.out UG5.out ⟨by rw [UI4.out,XI.out];have:=SZ.out.1;omega,by have h1:=congrArg List.length UO4.out;simp only [List.length_map] at h1;rw [h1,XL.out];have:=SZ.out.2.1;omega⟩ (fun o ho=>by have h1:o.bare∈x.outs.map OutD.bare:=(by rw [← UO4.out];exact List.mem_map_of_mem ho);obtain⟨o',ho',e'⟩:=List.mem_map.1 h1;have h2:=XP.out o' ho';have h3:o'.bare.paths.length=o.bare.paths.length:=(by rw [e']);have h4:o'.paths.length=o.paths.length:=h3;omega)).mono ?_;rintro e w24 ⟨rfl,b24⟩;have B24:=hid b24;clear b24
  refine hK.out _ _ (hHeld.trans (B24.out.mono hHeld.size)) (fun hHeld=>?_)
  clear hK K
  (try simp only [s0,s1,s2])
  refine tkH (i:=8) (oi:=⟨_,.pick (.tmp 59) (.tmp 64) (.const (.bool false)),_,_,_,_⟩) (v:=?v2004) rfl (yi ?y2004) hHeld ?_
  case y2004=>(intro w _;go_simp;(try with_reducible rfl))
  (try simp only [Act.put,s0,s1,s2])
  refine tkH (i:=9) (oi:=⟨_,.assign (.tmp 65),_,_,_,_⟩) (v:=?v2005) rfl (yi ?y2005) hHeld ?_
  case y2005=>(intro w _;go_simp;(try with_reducible rfl))
  (try simp only [Act.put,s0,s1,s2])
  refine wpAnyH_done (by kernel_rfl) ?_ _
  rotate_left
  exact AllReadyH.nil
  exact AllReadyH.nil
  exact AllReadyH.nil
  have HF:=hid hHeld
  clear hHeld
  go_wp2_with (fail)
  go_ret
  exact⟨rfl,BW21.out.trans (HF.out.mono BW21.out.size)⟩
theorem lawWrites'(cs:Array Value)(x:TxD)(w:World)(e:Value.agg cs = .agg x.cells.toArray)(s:x.good w)(ht:Tabs w):
  Calls Tryz.prog 3 #[.agg cs] w (fun e w'=>e = .returned (.bool true)∧Below w.heap.size w w'):=by
 rw [e]
 exact lawWrites x w s ht
end Go.Proofs.YtnbmpgballopeaaGreatDoor

/- The chain's Mine, with no pick, where nothing or one transaction waits. -/
import Derived.Test.YtnbmpgballopeaaGreatDoorZSnd
import Derived.Test.YtnbmpgballopeaaGreatDoorZCnf
namespace Go.Proofs.YtnbmpgballopeaaGreatDoor
open Go.RowKit
theorem nil_eqIn{P:Program}(w:World)(d:Nat)(t:TypeId){ps rs:Array TypeId}{vd:Bool}(h:P.underlying t=some (.func ps rs vd)):(Op.equalIn (d+1) t .nilFunc .nilFunc).run P w = .ok true w:=by
 simp [Op.equalIn,run_underlying h,Result.andThen]
theorem nil_eql(w:World):(binOp .eql 147 .nilFunc .nilFunc).run Tryz.prog w = .ok (.bool true) w:=by
 simp only [binOp]
 simp [Op.equal,Op.maxDepth,nil_eqIn w 9999 _ Tryz.underlying147]
theorem nil_guard(x y:Operand)(w:World):(eqGuard .eql 147 x y .nilFunc .nilFunc).run Tryz.prog w = .ok () w:=by rfl
set_option maxRecDepth 100000 in
set_option maxHeartbeats 16000000 in
theorem cmine0_walk{w:World}{A B ob mb hm dm wm sm cb c:Nat}{ht gf:Int}{HM:HM'}{SM:SM'}{M:EM}(h:Led w A B ob mb hm dm wm sm cb ht gf (.slice none 0 0) HM SM M c)(hh:ht<1073741824):
  Calls Tryz.prog 23 #[.pointer (some ⟨cb,0,none⟩),.nilFunc] w fun e w'=>e = .returned (.slice none 0 0)∧Led w' A B ob mb hm dm wm sm cb (ht+1) gf (.slice none 0 0) HM SM M c∧Keep (fun i=>i=cb) w w':=by
 have H:=hid h
 have HB:=hid h.hb
 have c1:=h.ch.c1
 have c6:=h.ch.c6
 have t0:decide ((1073741824:Int)≤ht)=false:=decide_eq_false (by omega)
 have z1:=h.ch.fz 1
 obtain⟨h1,hh1⟩:∃h1,h1=ht+1:=⟨_,rfl⟩
 have r1:IntKind.i64.wrap (ht+1)=h1:=by have:=HB.out;rw [IntKind.wrap_i64];omega
 have HH:=hid hh1
 have HLT:=hid hh
 have t1:decide ((0:Int)<0)=false:=by decide
 clear h hh hh1
 go_enter Tryz.func23,Tryz.ntmps23
 go_upto_region 6 with(fail)
 go_loopw [5,6,27] (fun x5 x6 x27 wr=>x5 = .slice none 0 0∧x6 = .slice none 0 0∧x27 = .int .i64 0∧wr=w) (fun _ _ _ _=>0)
 case atStart=>exact⟨rfl,rfl,rfl,rfl⟩
 case round=>
  obtain⟨rfl,rfl,rfl,e⟩:=hrel
  obtain⟨wo,rfl⟩:∃wo,wo=wr:=⟨_,rfl⟩
  have EW:=hid e
  have c1':wo.cell? ⟨cb,1,none⟩=some (.int .i64 ht):=by rw [e];exact c1
  have z1':wo.frozen? ⟨cb,1,none⟩=false:=by rw [e];exact z1
  clear e c1 z1 c6
  go_upto_region 15 with(fail)
  have CH2:=hid (show ChAt (wo.setCell ⟨cb,1,none⟩ (.int .i64 h1)) cb ob h1 hm dm wm sm (.slice none 0 0) gf from by rw [EW.out];exact H.out.ch.set1 h1)
  have F2:=hid (show Far cb w (wo.setCell ⟨cb,1,none⟩ (.int .i64 h1)) from by rw [EW.out];exact Far.set _)
  clear c1' z1' r1
  generalize wo.setCell ⟨cb,1,none⟩ (.int .i64 h1)=w2 at *
  have c6:=CH2.out.c6
  have z6:=CH2.out.fz 6
  go_upto_region 16 with(fail)
  have CH3:=hid (CH2.out.set6 (.slice none 0 0))
  have F3:=hid (show Far cb w2 (w2.setCell ⟨cb,6,none⟩ (.slice none 0 0)) from Far.set _)
  clear c6 z6
  generalize w2.setCell ⟨cb,6,none⟩ (.slice none 0 0)=w3 at *
  go_upto_region 17 with(fail)
  go_loopw [70] (fun x70 wr=>x70 = .int .i64 0∧wr=w3) (fun _ _=>0)
  case atStart=>exact⟨rfl,rfl⟩
  case round=>
   obtain⟨rfl,e⟩:=hrel
   have E3:=hid e
   clear e
   go_wp2_with (fail)
   go_ret
   have KF:Keep (fun i=>i=cb) w wr:=by rw [E3.out];exact(Keep.far' F2.out).trans (Keep.far' F3.out)
   rw [← HH.out]
   exact⟨rfl,H.out.struct KF (fun i h=>h) (by rw [E3.out];exact CH3.out) (by have:=HH.out;have:=HLT.out;omega) H.out.gb,KF⟩
def MinA(w:World)(A B ob mb hm dm wm sm cb:Nat)(ht gf:Int)(HM:HM')(SM:SM')(M:EM)(c:Nat)(x:InD)(o:OutD)(id:List Nat)(e:Ending)(w':World):Prop:=
 (∃g k,e = .returned (.slice (some ⟨g,0,none⟩) 1 k))∧(∃a k,Led w' A B ob mb hm dm wm sm cb (ht+1) gf (.slice none 0 0) (cnfM HM x id (o.at' a k) ht) (upd SM (x.tx,x.out) (some id)) M (c+1))∧Keep (fun i=>i=cb∨i=hm∨i=sm∨i=dm∨i=wm) w w'
set_option maxRecDepth 100000 in
set_option maxHeartbeats 16000000 in
theorem cmineA_walk{w:World}{A B ob mb hm dm wm sm cb c:Nat}{ht gf:Int}{P:Value}{HM:HM'}{SM:SM'}{M:EM}(h:Led w A B ob mb hm dm wm sm cb ht gf P HM SM M c)(hh:ht<1073741824)(hc:c<1000000)(t:TxD)(hp:PoolAt w B P t)(x:InD)(o:OutD)(hx:t.ins=[x])(ho:t.outs=[o])(h4:o.paths.length≤4)(hP:∀x∈t.ins,easyIn HM M (idB t) x)(h0:tryC HM SM M ht t=0):
  Calls Tryz.prog 23 #[.pointer (some ⟨cb,0,none⟩),.nilFunc] w (MinA w A B ob mb hm dm wm sm cb ht gf HM SM M c x o (idB t)):=by
 have H:=hid h
 have HB:=hid h.hb
 have PA:=hid hp
 have OD:=hid h.ord
 have LE:=hid h.le
 obtain⟨g,q,hPe,hr,hgB⟩:=hp.ex
 subst hPe
 have RP:=hid hr
 have GB:=hid hgB
 have c1:=h.ch.c1
 have c6:=h.ch.c6
 have t0:decide ((1073741824:Int)≤ht)=false:=decide_eq_false (by omega)
 obtain⟨h1,hh1⟩:∃h1,h1=ht+1:=⟨_,rfl⟩
 have r1:IntKind.i64.wrap (ht+1)=h1:=by have:=HB.out;rw [IntKind.wrap_i64];omega
 have HH:=hid hh1
 have HLT:=hid hh
 have HC:=hid hc
 have TIN:=hid hx
 have TOU:=hid ho
 have H4:=hid h4
 obtain⟨tc,htc⟩:∃tc,tc=t.cells:=⟨_,rfl⟩
 have TCE:=hid htc
 have TL:=hid (show tc.length=2 by rw [htc];rfl)
 have hiT:=hid (show(Tryz.prog.info? 25).map (·.size)=some tc.length by rw [TL.out];kernel_rfl)
 have hiTa:=hid (show(Tryz.prog.info? 25).map (·.size)=some tc.toArray.size by rw [List.size_toArray,TL.out];kernel_rfl)
 have hoT:=hid (show 2=tc.toArray.size by rw [List.size_toArray,TL.out])
 have h1T:=hid (show(tc.toArray.all fun x=>x.oneCell')=true by rw [htc];exact all_oneCell_toArray (TxD.one t))
 have TR:=fun(wx:World) (bx:Below w.heap.size w wx)=>hid (show Calls Tryz.prog 52 #[.pointer (some ⟨cb,0,none⟩),.agg tc.toArray] wx (fun e w'=>e = .returned (.int .i64 0)∧Below wx.heap.size wx w') from by rw [htc];have:=(h.below bx).try_walk t (hp.good.below bx) hP;rw [h0] at this;exact this)
 have CI:=fun(wx:World) (bx:Below w.heap.size w wx)=>hid (show Calls Tryz.prog 12 #[.agg tc.toArray] wx _ from by rw [htc];exact cid_walk t wx (hp.good.below bx) (h.tabs.below bx))
 have rT0:=hid (show w.rangeAt g 0 tc from by
  obtain⟨_,_,_,_,b,off,ha,hcl⟩:=hr
  have:=ha (by decide)
  simp only [Option.some.injEq,Addr.mk.injEq,and_true] at this
  obtain⟨rfl,rfl⟩:=this
  rw [htc];exact hcl)
 have t1:decide ((0:Int)<1)=true:=by decide
 have nq:=nil_eql
 have ng:=nil_guard
 clear h hh hp hr hgB hh1 htc hc hx ho h4 hP h0
 go_enter Tryz.func23,Tryz.ntmps23
 go_upto_region 6 with(fail)
 go_loopw [5,6,27] (fun x5 x6 x27 wr=>(x5 = .slice none 0 0∧x6 = .slice none 0 0∧x27 = .int .i64 0∧wr=w) ∨
  (∃v5,x5=v5∧x6 = .slice none 0 0∧x27 = .int .i64 1∧(∃g k,v5 = .slice (some ⟨g,0,none⟩) 1 k)∧(∃a k,Led wr A B ob mb hm dm wm sm cb ht gf (.slice (some ⟨g,0,none⟩) 1 q) (cnfM HM x (idB t) (o.at' a k) ht) (upd SM (x.tx,x.out) (some (idB t))) M (c+1))∧Keep (fun i=>i=cb∨i=hm∨i=sm∨i=dm∨i=wm) w wr)) (fun _ _ x27 _=>1 - (intOf x27).toNat)
 case atStart=>exact .inl ⟨rfl,rfl,rfl,rfl⟩
 case round=>
  rcases hrel with⟨rfl,rfl,rfl,e⟩|⟨v5,rfl,rfl,rfl,hv,hL,hK⟩
  ·have EW:=hid e
   clear e c1 c6
   have rT:=hid (show wr.rangeAt g 0 tc from by rw [EW.out];exact rT0.out)
   have rTo:=rT.out
   go_upto_region 8 with(first|with_reducible refine wpList_load_mid rfl _ _ rfl g 0 rfl tc _ rTo Tryz.underlying25 rfl hiT.out ?_|(refine wpList_store_row rfl _ _ _ rfl wr.heap.size tc.toArray rfl rfl _ _ (heap_alloc_new _ _) hiTa.out hoT.out h1T.out ?_;refine laidW (F:=fun w3=>wpList _ _ _ _ _ w3) ?_;intro w5 h5 b5))
   have B5:=hid (show Below w.heap.size w w5 from by have:=b5.out;rw [EW.out] at this;exact this)
   have HX5:=hid h5.out
   have HX:=hid (show w.heap.size=wr.heap.size from by rw [EW.out])
   clear h5 b5 rTo
   have rT5:=row_range HX5.out
   go_frame
   go_wp2_with (with_reducible refine wpList_load_mid rfl _ _ rfl wr.heap.size 0 rfl tc _ rT5 Tryz.underlying25 rfl hiT.out ?_)
   refine(CI w5 B5.out).out.mono ?_
   rintro e w6 ⟨rfl,b6⟩
   obtain⟨id,hid'⟩:∃id,id=idB t:=⟨_,rfl⟩
   rw [← hid']
   have IDE:=hid hid'
   have IDL:=hid (show id.length=32 by rw [hid'];exact(idB_ok t).1)
   have B6:=hid (show Below w.heap.size w w6 from B5.out.trans (b6.mono B5.out.size))
   have HX6:=hid (heap_keep HX5.out b6)
   have hiH:=hid (show(Tryz.prog.info? 43).map (·.size)=some (nums .u8 id).toArray.size by rw [List.size_toArray,nums_length,IDL.out];kernel_rfl)
   have hiHl:=hid (show(Tryz.prog.info? 43).map (·.size)=some (nums .u8 id).length by rw [nums_length,IDL.out];kernel_rfl)
   have hoH:=hid (show 32=(nums .u8 id).toArray.size by rw [List.size_toArray,nums_length,IDL.out])
   have h16:=hid (all_oneCell_toArray (nums_oneCell .u8 id))
   clear b6 rT5 hid'
   go_upto_region 9 with(refine wpList_store_row rfl _ _ _ rfl w6.heap.size (nums .u8 id).toArray rfl rfl _ _ (heap_alloc_new _ _) hiH.out hoH.out h16.out ?_;refine laidW (F:=fun w4=>wpList _ _ _ _ _ w4) ?_;intro w7 h7 b7)
   have B7:=hid (show Below w.heap.size w w7 from B6.out.trans (b7.out.mono B6.out.size))
   have HX7:=hid (heap_keep HX6.out b7.out)
   have HI7:=hid h7.out
   have L7:=hid (show w6.heap.size<w7.heap.size from(Array.getElem?_eq_some_iff.1 h7.out).1)
   clear h7 b7
   have LIB:=hid (show w.heap.size≤w6.heap.size from B6.out.size)
   generalize w6.heap.size=IB at *
   go_frame
   have rT7:=row_range HX7.out
   go_wp2_with (with_reducible refine wpList_load_midG rfl _ _ rfl wr.heap.size 0 rfl tc _ rT7 Tryz.underlying25 rfl hiT.out ?_)
   refine(TR w7 B7.out).out.mono ?_
   rintro e w8 ⟨rfl,b8⟩
   have B8:=hid (show Below w.heap.size w w8 from B7.out.trans (b8.mono B7.out.size))
   have HX8:=hid (heap_keep HX7.out b8)
   have HI8:=hid (heap_keep HI7.out b8)
   have v0:((0:Int) == 0)=true:=by decide
   clear b8 rT7
   go_upto_region 10 with(fail)
   have rT8:=row_range HX8.out
   have NO:=hid (show ∀i,B≤i→i≠hm∧i≠sm from fun i hi=>by have:=OD.out;omega)
   have CF:=hid (cconfirm_walk (H.out.below B8.out) HLT.out HC.out t (PA.out.good.below B8.out) x o TIN.out TOU.out (fun ad ha=>NO.out _ (PA.out.oa ad ha)) (fun ad ha=>NO.out _ (PA.out.off o (by rw [TOU.out];simp) ad ha)) H4.out)
   rw [← TCE.out,← IDE.out] at CF
   clear v0
   go_wp2_with (with_reducible refine wpList_load_mid rfl _ _ rfl wr.heap.size 0 rfl tc _ rT8 Tryz.underlying25 rfl hiT.out ?_)
   refine CF.out.mono ?_
   rintro e w9 ⟨rfl,hL9,k9⟩
   have LD9:=hid hL9
   have K9:=hid k9
   have HI9:=hid (k9.heap HI8.out (by have:=OD.out;have:=LE.out;have:=LIB.out;show ¬ (IB=hm∨IB=sm∨IB=dm∨IB=wm);omega))
   clear hL9 k9 rT8
   have rI9:=row_range HI9.out
   have hPi:=hid (show(Tryz.prog.info? 43).map (·.size)=some 32 by kernel_rfl)
   have hPz:=hid (show((Tryz.prog.info? 43).bind (·.zero)).isSome=true by kernel_rfl)
   have PLi:=hid (show(nums .u8 id).toArray.size=32 by rw [List.size_toArray,nums_length,IDL.out])
   have ONEi:=hid (show(nums .u8 id).toArray.toList.all Value.oneCell'=true from List.all_eq_true.2 (nums_oneCell .u8 id))
   have NIL:=hid (show w9.ownsRow w9.heap.size 43 32 (.slice none 0 0) 0 [] from⟨by simp,.inl ⟨rfl,rfl⟩⟩)
   go_upto_region 11 with(fail)
   go_wp2_with (first|with_reducible refine wpList_load_mid rfl _ _ rfl IB 0 rfl (nums .u8 id) _ rI9 Tryz.underlying43 rfl hiHl.out ?_|with_reducible refine wpList_lit1 rfl _ _ _ rfl rfl Tryz.underlying72 hPi.out hPz.out PLi.out (by decide) (by decide) ?_|(at_builtin;refine wpList_pushK rfl _ _ 72 rfl tyHs w9.heap.size NIL.out rfl rfl PLi.out ONEi.out (by decide) (by decide) (Nat.le_refl _) ?_;intro v10 w10 o10 k10 _;have O10:=hid o10;have B10:=hid (k10.below (fun i h=>by cases h) (Nat.le_refl _):Below w9.heap.size w9 w10);clear o10 k10))
   go_roundw
   case rel=>
    obtain⟨g10,k10,rfl,_⟩:∃g10 k10,v10 = .slice (some ⟨g10,0,none⟩) 1 k10∧True:=by
     obtain⟨a',c',e,_⟩:=Rd.of_owns O10.out
     subst e
     obtain⟨g10,rfl,_⟩:=own_base O10.out (by decide)
     exact⟨_,_,rfl,trivial⟩
    obtain⟨a,k,hl⟩:=LD9.out
    refine .inr ⟨_,rfl,rfl,rfl,⟨g10,k10,rfl⟩,⟨a,k,by rw [← IDE.out];exact hl.below B10.out⟩,(((Keep.of B8.out).trans (K9.out.mono fun i h=>.inr h)).trans (Keep.of B10.out))⟩
   case measure=>simp [intOf]
  ·obtain⟨a,k,hl⟩:=hL
   have LL:=hid hl
   have HK:=hid hK
   have HV:=hid hv
   have c1':=hl.ch.c1
   have z1':=hl.ch.fz 1
   have t2:decide ((1:Int)<1)=false:=by decide
   obtain⟨wo,rfl⟩:∃wo,wo=wr:=⟨_,rfl⟩
   clear hl hK hv c1 c6 t0 t1
   go_upto_region 15 with(fail)
   have CH2:=hid (LL.out.ch.set1 h1)
   have F2:=hid (show Far cb wo (wo.setCell ⟨cb,1,none⟩ (.int .i64 h1)) from Far.set _)
   clear c1' z1' r1
   generalize wo.setCell ⟨cb,1,none⟩ (.int .i64 h1)=w2 at *
   have c6:=CH2.out.c6
   have z6:=CH2.out.fz 6
   go_upto_region 16 with(fail)
   have CH3:=hid (CH2.out.set6 (.slice none 0 0))
   have F3:=hid (show Far cb w2 (w2.setCell ⟨cb,6,none⟩ (.slice none 0 0)) from Far.set _)
   clear c6 z6
   generalize w2.setCell ⟨cb,6,none⟩ (.slice none 0 0)=w3 at *
   have t3:decide ((0:Int)<0)=false:=by decide
   go_upto_region 17 with(fail)
   go_loopw [70] (fun x70 wr=>x70 = .int .i64 0∧wr=w3) (fun _ _=>0)
   case atStart=>exact⟨rfl,rfl⟩
   case round=>
    obtain⟨rfl,e⟩:=hrel
    have E3:=hid e
    clear e
    go_wp2_with (fail)
    go_ret
    have k3:Keep (fun i=>i=cb) wo wr:=by rw [E3.out];exact(Keep.far' F2.out).trans (Keep.far' F3.out)
    obtain⟨g5,k5,e5⟩:=HV.out
    refine⟨⟨g5,k5,by rw [← e5];rfl⟩,⟨a,k,?_⟩,HK.out.trans (k3.mono fun i h=>.inl h)⟩
    rw [← HH.out]
    exact LL.out.struct k3 (fun i h=>h) (by rw [E3.out];exact CH3.out) (by have:=HH.out;have:=HLT.out;omega) H.out.gb
end Go.Proofs.YtnbmpgballopeaaGreatDoor
/- A transaction of one input and one output, plain: its name, what it is told. -/
namespace Go.Proofs.YtnbmpgballopeaaGreatDoor
open Go.RowKit
def oneX(gd tok:List Nat):InD:=⟨gd,0,0,tok,zh,zh⟩
def oneT(ia:Option Addr)(ic:Nat)(oa:Option Addr)(oc:Nat)(gd tok:List Nat)(o:OutD):TxD:=⟨ia,ic,[oneX gd tok],oa,oc,[o]⟩
theorem oneT_code{ia:Option Addr}{ic:Nat}{oa:Option Addr}{oc:Nat}{gd tok:List Nat}{o:OutD}(h:o.code=0)(hc:o.coins<18446744073709551616):(oneT ia ic oa oc gd tok o).code=0:=by
 unfold TxD.code oneT
 dsimp only
 have e1:insC [] [oneX gd tok]=0:=by simp [insC,oneX,InD.bad]
 have e2:outsC [o]=0:=by simp [outsC,h]
 rw [e1,e2]
 simp [hc]
def oneId(gd:List Nat)(o:OutD):List Nat:=sha (tagH nmTx++bodyB (oneT none 0 none 0 gd zh o))
theorem oneT_id{ia:Option Addr}{ic:Nat}{oa:Option Addr}{oc:Nat}{gd tok:List Nat}{o:OutD}(h:o.code=0)(hc:o.coins<18446744073709551616)(a:Option Addr)(k:Nat):idB (oneT ia ic oa oc gd tok (o.at' a k))=oneId gd o:=by
 have h':(o.at' a k).code=0:=h
 unfold idB
 rw [if_pos (oneT_code h' hc)]
 rfl
theorem oneT_id'{ia:Option Addr}{ic:Nat}{oa:Option Addr}{oc:Nat}{gd tok:List Nat}{o:OutD}(h:o.code=0)(hc:o.coins<18446744073709551616):idB (oneT ia ic oa oc gd tok o)=oneId gd o:=oneT_id (ia:=ia) (ic:=ic) (oa:=oa) (oc:=oc) (gd:=gd) (tok:=tok) h hc o.pa o.pc
theorem one_try{HM:HM'}{SM:SM'}{M:EM}{ht:Int}{ia:Option Addr}{ic:Nat}{oa:Option Addr}{oc:Nat}{gd tok:List Nat}{o:OutD}{hd:HeldD}{q:PathD}(h:o.code=0)(hc:o.coins<18446744073709551616)(hm:HM (gd,0)=some hd)(hq:hd.out.paths=[q])(hb:hd.out.coins<18446744073709551616)(hl:o.coins≤hd.out.coins)(ha:aldB M q.own (oneId gd o) tok=true):
  tryC HM SM M ht (oneT ia ic oa oc gd tok o)=if ht+1<q.till∨ht+1 - hd.height<q.wait then 33 else 0:=by
 unfold tryC
 rw [oneT_code h hc,oneT_id' h hc]
 have e1:tryIn HM SM M ht (oneId gd o) (oneX gd tok)=if ht+1<q.till∨ht+1 - hd.height<q.wait then 33 else 0:=by
  unfold tryIn
  have:HM ((oneX gd tok).tx,(oneX gd tok).out)=some hd:=hm
  rw [this]
  dsimp only
  rw [hq]
  have e:[q][(oneX gd tok).path.toNat]? = some q:=rfl
  rw [e]
  dsimp only
  rw [show(oneX gd tok).token=tok from rfl,ha]
  simp
 have e2:tryL HM SM M ht (oneId gd o) (oneT ia ic oa oc gd tok o).ins=if ht+1<q.till∨ht+1 - hd.height<q.wait then 33 else 0:=by
  show tryL HM SM M ht (oneId gd o) [oneX gd tok]=_
  unfold tryL
  rw [e1]
  generalize (if ht+1<q.till∨ht+1 - hd.height<q.wait then (33:Nat) else 0)=K
  by_cases h0:K=0
  ·rw [if_pos h0,h0];rfl
  ·rw [if_neg h0]
 have e3:((oneT ia ic oa oc gd tok o).ins.map (coinIn HM)).sum=hd.out.coins:=by
  show([oneX gd tok].map (coinIn HM)).sum=_
  have:coinIn HM (oneX gd tok)=hd.out.coins:=by
   unfold coinIn
   have:HM ((oneX gd tok).tx,(oneX gd tok).out)=some hd:=hm
   rw [this];rfl
  simp [this]
 have e4:((oneT ia ic oa oc gd tok o).outs.map OutD.coins).sum=o.coins:=by
  show([o].map OutD.coins).sum=_
  simp
 rw [e2,e3,e4,if_neg (by decide)]
 generalize (if ht+1<q.till∨ht+1 - hd.height<q.wait then (33:Nat) else 0)=K
 by_cases h0:K=0
 ·rw [if_neg (fun h=>h h0),if_neg (by omega),if_neg (by omega),h0]
 ·rw [if_pos h0]
theorem one_easy{HM:HM'}{M:EM}{id gd tok:List Nat}{hd:HeldD}{q:PathD}(hm:HM (gd,0)=some hd)(hq:hd.out.paths=[q])(h1:q.also=zh)(h2:q.lock=zh):easyIn HM M id (oneX gd tok):=by
 intro h p e1 e2
 have e3:HM ((oneX gd tok).tx,(oneX gd tok).out)=some hd:=hm
 rw [e3] at e1
 obtain rfl:=Option.some.inj e1
 rw [hq] at e2
 have e4:[q][(oneX gd tok).path.toNat]? = some q:=rfl
 rw [e4] at e2
 obtain rfl:=Option.some.inj e2
 exact .inr ⟨h1,h2⟩
theorem allow_aldB(sec id:List Nat):aldB (allM (fun _=>none) sec id) (ownD sec) id (tokD sec id)=true:=by
 unfold aldB allM
 simp [updE]
end Go.Proofs.YtnbmpgballopeaaGreatDoor
/- A new chain over a new office; outputs and inputs as the laws build them. -/
namespace Go.Proofs.YtnbmpgballopeaaGreatDoor
open Go.RowKit
theorem led_new{w w1 w2:World}{ob mb hm dm wm sm cb:Nat}(ht:Tabs w)(off:OffAt w1 ob mb (fun _=>none) 0)(lo:w.heap.size≤ob)(lm:w.heap.size≤mb)(b1:Below w.heap.size w w1)
  (hc:ChAt w2 cb ob 0 hm dm wm sm (.slice none 0 0) 0) (m1:MapIs EP w2 hm (fun _=>none) 0) (m2:MapIs EH w2 dm (fun _=>none) 0) (m3:MapIs EH w2 wm (fun _=>none) 0) (m4:MapIs EP w2 sm (fun _=>none) 0) (ord:w1.heap.size≤hm∧hm<dm∧dm<wm∧wm<sm∧sm<cb) (b2:Below w1.heap.size w1 w2):
  Led w2 w.heap.size w2.heap.size ob mb hm dm wm sm cb 0 0 (.slice none 0 0) (fun _=>none) (fun _=>none) (fun _=>none) 0:=by
 have l1:ob<w1.heap.size:=(Array.getElem?_eq_some_iff.1 off.st).1
 have l2:=off.map.lt
 have hob:=off.ne
 have l3:=hc.lt
 have t0:=World.block_lt_of_cell? w _ (ht.1 0 (by decide))
 have t1:=World.block_lt_of_cell? w _ (ht.2 0 (by decide))
 exact⟨hc,⟨0,Nat.le_refl _,m1⟩,⟨_,0,Nat.le_refl _,m2⟩,⟨_,0,Nat.le_refl _,m3⟩,⟨0,Nat.le_refl _,m4⟩,⟨0,Nat.le_refl _,off.below b2⟩,fun _ _ h=>(by cases h),fun _ _ h=>(by cases h),by omega,Nat.le_refl _,by decide,by decide,by decide,(ht.below b1).below b2,t0,t1⟩
def h1x:List Nat:=[1,0,0,0,0,0,0,0,0,0,0,0,0,0,0,0,0,0,0,0,0,0,0,0,0,0,0,0,0,0,0,0]
def h2x:List Nat:=[2,0,0,0,0,0,0,0,0,0,0,0,0,0,0,0,0,0,0,0,0,0,0,0,0,0,0,0,0,0,0,0]
theorem h1_ok:H32b h1x:=⟨rfl,by decide⟩
theorem h2_ok:H32b h2x:=⟨rfl,by decide⟩
theorem bh1:Tryz.prog.built 43 [(0,.int .u8 1)]=some (nums .u8 h1x).toArray:=by kernel_rfl
theorem bh2:Tryz.prog.built 43 [(0,.int .u8 2)]=some (nums .u8 h2x).toArray:=by kernel_rfl
theorem mineO_code(c g:Nat)(x:List Nat):(mineO c g x).code=0:=by
 unfold OutD.code mineO
 simp [ownP,PathD.bad]
set_option maxRecDepth 100000 in
theorem bIn'(n:Int)(a0 a1 a2 a3 a4 a5 a6 a7 a8 a9 a10 a11 a12 a13 a14 a15 a16 a17 a18 a19 a20 a21 a22 a23 a24 a25 a26 a27 a28 a29 a30 a31:Nat):Tryz.prog.built 69 [(0,.agg (ptI [a0,a1,a2,a3,a4,a5,a6,a7,a8,a9,a10,a11,a12,a13,a14,a15,a16,a17,a18,a19,a20,a21,a22,a23,a24,a25,a26,a27,a28,a29,a30,a31] n).toArray)]=some (InD.cells ⟨[a0,a1,a2,a3,a4,a5,a6,a7,a8,a9,a10,a11,a12,a13,a14,a15,a16,a17,a18,a19,a20,a21,a22,a23,a24,a25,a26,a27,a28,a29,a30,a31],n,0,zh,zh,zh⟩).toArray:=by kernel_rfl
theorem bIn(x:List Nat)(h:x.length=32):Tryz.prog.built 69 [(0,.agg (ptI x 0).toArray)]=some (oneX x zh).cells.toArray:=by
 match x,h with
 | [a0,a1,a2,a3,a4,a5,a6,a7,a8,a9,a10,a11,a12,a13,a14,a15,a16,a17,a18,a19,a20,a21,a22,a23,a24,a25,a26,a27,a28,a29,a30,a31],_=>exact bIn' 0 ..
theorem bTx(a b:Value)(ha:∃x y z,a = .slice x y z)(hb:∃x y z,b = .slice x y z):Tryz.prog.built 25 [(0,a),(1,b)]=some #[a,b]:=by
 obtain⟨x,y,z,rfl⟩:=ha
 obtain⟨x',y',z',rfl⟩:=hb
 kernel_rfl
theorem oneX_ok{gd tok:List Nat}(h1:H32b gd)(h2:H32b tok):(oneX gd tok).ok:=⟨h1,i64z,i64z,h2,zh32,zh32⟩
theorem putL_mid:∀(vs A B C:List Value),B.length=vs.length→putL (A++(B++C)) A.length vs=A++(vs++C)
 | [],A,B,C,h=>by
  have hb:B=[]:=List.eq_nil_of_length_eq_zero (by simpa using h)
  subst hb
  simp [putL]
 | v::r,A,[],C,h=>by simp at h
 | v::r,A,b::B,C,h=>by
  rw [putL]
  have e:(A++(b::B++C)).set A.length v=(A++[v])++(B++C):=by simp
  rw [e,show A.length+1=(A++[v]).length by simp,putL_mid r (A++[v]) B C (by simpa using h)]
  simp
theorem oneX_tok{gd tok:List Nat}(hg:gd.length=32)(ht:tok.length=32):putL (oneX gd zh).cells 34 (nums .u8 tok)=(oneX gd tok).cells:=by
 unfold InD.cells oneX
 dsimp only
 have e:nums .u8 gd++(Value.int .i64 0::Value.int .i64 0::(nums .u8 zh++(nums .u8 zh++nums .u8 zh)))=(nums .u8 gd++[Value.int .i64 0,Value.int .i64 0])++(nums .u8 zh++(nums .u8 zh++nums .u8 zh)):=by simp
 have hA:(nums .u8 gd++[Value.int .i64 0,Value.int .i64 0]).length=34:=by simp [hg]
 rw [e,← hA,putL_mid _ _ _ _ (by simp [ht,zh])]
 simp
structure TxRow (w:World) (ib o2 tb:Nat) (gd tok:List Nat) (o:OutD):Prop where
 r1:w.heap[ib]? = some (.cells (oneX gd tok).cells.toArray 69 (0,0))
 r2:w.heap[o2]? = some (.cells o.cells.toArray 66 (0,0))
 r3:w.heap[tb]? = some (.cells ([.slice (some ⟨ib,0,none⟩) 1 1,.slice (some ⟨o2,0,none⟩) 1 1]:List Value).toArray 25 (0,0))
 og:o.good w
theorem rd_of_row{w:World}{g:Nat}{L:List Value}{t:TypeId}{size:Nat}(h:w.heap[g]? = some (.cells L.toArray t (0,0)))(hl:L.length=size):Rd w size (some ⟨g,0,none⟩) 1 1 L:=
 ⟨by omega,Nat.le_refl _,by decide,(fun e=>nomatch e),g,0,fun _=>rfl,fun j u hu=>row_range h j u hu⟩
theorem named{w:World}{g:Nat}{o:Obj}(_h:w.heap[g]? = some o):∃n,n=g:=⟨g,rfl⟩
theorem heap_putL{g:Nat}{t:TypeId}:∀(vs:List Value) (o:Nat) (w:World) (L:List Value),w.heap[g]? = some (.cells L.toArray t (0,0))→(w.setCells g o vs).heap[g]? = some (.cells (putL L o vs).toArray t (0,0))
 | [],_,_,_,h=>h
 | v::r,o,_,_,h=>heap_putL r (o+1) _ _ (heap_set v h)
theorem Led.office{w w':World}{A B ob mb hm dm wm sm cb c n2:Nat}{ht gf:Int}{P:Value}{HM:HM'}{SM:SM'}{M M2:EM}(h:Led w A B ob mb hm dm wm sm cb ht gf P HM SM M c)(k:Keep (fun i=>i=ob∨i=mb) w w')(ho:OffAt w' ob mb M2 n2)(hn:n2≤c+1)(hc:c<1000000):Led w' A B ob mb hm dm wm sm cb ht gf P HM SM M2 (c+1):=by
 have o:=h.ord
 have q:∀i,i≠ob→i≠mb → ¬ (i=ob∨i=mb):=fun i h1 h2 h=>h.elim h1 h2
 exact h.turn k (fun i hi=>by omega) (h.ch.keep k (q _ (by omega) (by omega))) (h.heldK k (q _ (by omega) (by omega)) (by omega)) (h.doneK k (q _ (by omega) (by omega)) (by omega)) (h.whnK k (q _ (by omega) (by omega)) (by omega)) (h.spentK k (q _ (by omega) (by omega)) (by omega)) ⟨n2,hn,ho⟩ (fun _ _ hx=>.inl hx) h.sk ⟨Int.le_refl _,h.hb.2⟩ h.gb (by omega)
theorem PoolAt.weak{w:World}{B B':Nat}{P:Value}{t:TxD}(h:PoolAt w B P t)(hb:B'≤B):PoolAt w B' P t:=by
 obtain⟨g,c,e,hr,hg⟩:=h.ex
 exact⟨⟨g,c,e,hr,by omega⟩,h.good,fun ad ha=>Nat.le_trans hb (h.ia ad ha),fun ad ha=>Nat.le_trans hb (h.oa ad ha),fun o ho ad ha=>Nat.le_trans hb (h.off o ho ad ha)⟩
theorem mineO_lt{w:World}{c g:Nat}{x:List Nat}(h:(mineO c g x).good w)(hx:x.length=32):g<w.heap.size:=by
 obtain⟨_,_,_,_,b,off,ha,hc⟩:=h.paths
 have e:=ha (show 0<1 from Nat.one_pos)
 have e':some (⟨g,0,none⟩:Addr)=some ⟨b,off,none⟩:=e
 simp only [Option.some.injEq,Addr.mk.injEq,and_true] at e'
 obtain⟨rfl,rfl⟩:=e'
 have:=hc 0 (.int .u8 ((x.getD 0 0:Nat):Int)) (by
  show([ownP x].flatMap PathD.cells)[0]? = _
  rw [List.flatMap_cons]
  rw [List.getElem?_append_left (by rw [show(PathD.cells (ownP x)).length=98 from by simp [PathD.cells,ownP,hx,zh]];decide)]
  unfold PathD.cells
  rw [List.getElem?_append_left (by rw [nums_length];show 0<x.length;omega)]
  exact nums_get .u8 (show 0<x.length by omega))
 exact World.block_lt_of_cell? w _ this
def rowT(ib o2:Nat)(gd tok:List Nat)(o:OutD):TxD:=oneT (some ⟨ib,0,none⟩) 1 (some ⟨o2,0,none⟩) 1 gd tok o
theorem TxRow.good{w:World}{ib o2 tb:Nat}{gd tok:List Nat}{o:OutD}(h:TxRow w ib o2 tb gd tok o)(hg:H32b gd)(ht:H32b tok):(rowT ib o2 gd tok o).good w:=by
 refine⟨?_,fun i hi=>?_,?_,fun q hq=>?_⟩
 ·have:=rd_of_row (size:=130) h.r1 (InD.len (oneX_ok hg ht))
  show Rd w 130 (some ⟨ib,0,none⟩) 1 1 ([oneX gd tok].flatMap InD.cells)
  simpa using this
 ·have hi':i∈[oneX gd tok]:=hi
  rw [List.mem_singleton] at hi'
  rw [hi'];exact oneX_ok hg ht
 ·have:=rd_of_row (size:=34) h.r2 (OutD.len h.og)
  show Rd w 34 (some ⟨o2,0,none⟩) 1 1 ([o].flatMap OutD.cells)
  simpa using this
 ·have hq':q∈[o]:=hq
  rw [List.mem_singleton] at hq'
  rw [hq'];exact h.og
theorem TxRow.below{w w':World}{ib o2 tb:Nat}{gd tok:List Nat}{o:OutD}(h:TxRow w ib o2 tb gd tok o)(b:Below w.heap.size w w'):TxRow w' ib o2 tb gd tok o:=⟨heap_keep h.r1 b,heap_keep h.r2 b,heap_keep h.r3 b,h.og.below b⟩
theorem TxRow.keep{S:Nat→Prop}{w w':World}{ib o2 tb:Nat}{gd tok:List Nat}{o:OutD}(h:TxRow w ib o2 tb gd tok o)(k:Keep S w w')(h1:¬ S ib)(h2:¬ S o2)(h3:¬ S tb)(h4:∀ad,o.pa=some ad → ¬ S ad.block):TxRow w' ib o2 tb gd tok o:=⟨k.heap h.r1 h1,k.heap h.r2 h2,k.heap h.r3 h3,h.og.keepN' k h4⟩
end Go.Proofs.YtnbmpgballopeaaGreatDoor

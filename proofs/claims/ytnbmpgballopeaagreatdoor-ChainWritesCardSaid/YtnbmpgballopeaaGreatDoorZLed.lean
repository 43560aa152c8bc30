/- An office of tokens: what it knows; how many; a new one. -/
import Derived.WideKeyEntry
import Derived.Test.YtnbmpgballopeaaGreatDoorZTokO
import Derived.Test.YtnbmpgballopeaaGreatDoorZTok
namespace Go.Proofs.YtnbmpgballopeaaGreatDoor
open Go.RowKit
theorem keyEnt:KeyT 142 3:=⟨by kernel_rfl,by kernel_rfl,by kernel_rfl,by decide,by kernel_rfl⟩
theorem kl_ent{d:Nat}{x y:List Nat}(hx:EH.ok x)(hy:EH.ok y):KL (d+3) 142 (nums .u8 (x++y)):=by
 refine KL.struct Tryz.underlying142 (by rw [nums_length,List.length_append,hx.1,hy.1];kernel_rfl) (by kernel_rfl) fun f hf=>?_
 have hc:Tryz.prog.cellsOf 43=32:=by kernel_rfl
 have e:nums .u8 (x++y)=nums .u8 x++nums .u8 y:=(nums_append .u8 x y).symm
 simp only [List.mem_cons,List.not_mem_nil,or_false] at hf
 rcases hf with rfl|rfl
 ·rw [e,List.drop_zero,hc,List.take_left' (by rw [nums_length,hx.1])]
  exact KL.bytes (d:=d) Tryz.underlying43 (by kernel_rfl) hx.1 hx.2
 ·rw [e,hc,List.drop_left' (by rw [nums_length,hx.1]),List.take_of_length_le (by rw [nums_length,hy.1];exact Nat.le_refl _)]
  exact KL.bytes (d:=d) Tryz.underlying43 (by kernel_rfl) hy.1 hy.2
theorem kv_ent{x y:List Nat}(hx:EH.ok x)(hy:EH.ok y):KV 142 (.agg (nums .u8 (x++y)).toArray):=
 KV.mk keyEnt.wide (by kernel_rfl) (by rw [nums_length,List.length_append,hx.1,hy.1];kernel_rfl) (fun d=>kl_ent (d:=d+5) hx hy)
theorem ent_inj{x y a b:List Nat}(hx:EH.ok x)(ha:EH.ok a):Value.agg (nums .u8 (x++y)).toArray = .agg (nums .u8 (a++b)).toArray ↔ (x=a∧y=b):=by
 constructor
 ·intro h
  have h1:=congrArg Array.toList (Value.agg.inj h)
  have h2:=nums_inj h1
  exact List.append_inj h2 (by rw [hx.1,ha.1])
 ·rintro⟨rfl,rfl⟩;rfl
def aldB(M:EM)(ow what tk:List Nat):Bool:=decide (M tk=some (ow,what))
def AldRes(b:Bool)(w:World)(e:Ending)(w':World):Prop:=e = .returned (.bool b)∧Below w.heap.size w w'
set_option maxRecDepth 100000 in
set_option maxHeartbeats 8000000 in
theorem allowed_walk(ow what tk:List Nat)(hoo:EH.ok ow)(hwo:EH.ok what)(htk:EH.ok tk)(ob mb n:Nat)(M:EM)(w:World)(h:OffAt w ob mb M n):
  Calls Tryz.prog 76 #[.pointer (some ⟨ob,0,none⟩),hv ow,hv what,hv tk] w (AldRes (aldB M ow what tk) w):=by
 have HO:=hid h
 have A3:=alloc3p w (.cells (nums .u8 ow).toArray 43) (.cells (nums .u8 what).toArray 43) (.cells (nums .u8 tk).toArray 43)
 clear h
 unfold hv
 go_enter Tryz.func76,Tryz.ntmps76
 go_upto_region 3 with(fail)
 obtain⟨gP,gQ,gK,b0⟩:=A3
 generalize World.alloc (World.alloc (World.alloc w _) _) _=wz at *
 have BZ:=hid b0
 have HOz:=hid (HO.out.below b0)
 have hPz:=hid gP
 have hQz:=hid gQ
 have unH:=Tryz.underlying43
 have hiL:=hid (show(Tryz.prog.info? 43).map (·.size)=some (nums .u8 tk).length by rw [nums_length,htk.1];kernel_rfl)
 have hiLs:=hid (show(Tryz.prog.info? 43).map (·.size)=some (nums .u8 ow).length by rw [nums_length,hoo.1];kernel_rfl)
 have hiLw:=hid (show(Tryz.prog.info? 43).map (·.size)=some (nums .u8 what).length by rw [nums_length,hwo.1];kernel_rfl)
 generalize hP:w.heap.size=P at *
 generalize hQ:P+1=Q at *
 generalize hK7:Q+1=K7 at *
 obtain⟨EV,kn,hval,hEV,hkn⟩:∃(EV:Array Value) (kn:Bool),Hid ((if true=true then Value.tuple #[(valE M tk).getD (.agg zE),.bool (valE M tk).isSome] else (valE M tk).getD (.agg zE)) = .tuple #[.agg EV,.bool kn])∧Hid (EV.size=64∧EV.all (·.oneCell')=true)∧Hid ((kn=false∧M tk=none)∨(kn=true ∧ ∃e,M tk=some e∧EV=(nums .u8 (e.1++e.2)).toArray∧EH.ok e.1∧EH.ok e.2)):=by
  rw [if_pos rfl]
  unfold valE
  cases hm:M tk with
  | none=>exact⟨zE,false,hid rfl,hid ⟨rfl,all_oneCell_toArray (nums_oneCell .u8 _)⟩,hid (.inl ⟨rfl,rfl⟩)⟩
  | some e=>
   have:=HOz.out.ok _ e hm
   exact⟨(nums .u8 (e.1++e.2)).toArray,true,hid rfl,hid ⟨by simp [this.1.1,this.2.1],all_oneCell_toArray (nums_oneCell .u8 _)⟩,hid (.inr ⟨rfl,e,rfl,rfl,this⟩)⟩
 have hEi:=hid (show(Tryz.prog.info? 142).map (·.size)=some EV.size by rw [hEV.out.1];kernel_rfl)
 have hEz:=hid (fun(y:Array Value) (hy:y.size=64)=>hy.trans hEV.out.1.symm)
 have hEo:=hid hEV.out.2
 have keepS:∀X Y:World,Below X.heap.size X Y→(X.cell? ⟨ob,0,none⟩=some (.map (some mb))∧X.rangeAt K7 0 (nums .u8 tk)∧MapIs EH X mb (valE M) n)→(Y.cell? ⟨ob,0,none⟩=some (.map (some mb))∧Y.rangeAt K7 0 (nums .u8 tk)∧MapIs EH Y mb (valE M) n):=
  fun X Y hb h=>⟨cell_keep hb h.1,range_keep hb h.2.1,h.2.2.below hb⟩
 have f1:wz.cell? ⟨ob,0,none⟩=some (.map (some mb)):=cellA HOz.out.st rfl
 have f2:=row_range gK
 have f3:=HOz.out.map
 clear b0 gK gP gQ
 refine wp_region_held_drew (S:=fun w'=>w'.cell? ⟨ob,0,none⟩=some (.map (some mb))∧w'.rangeAt K7 0 (nums .u8 tk)∧MapIs EH w' mb (valE M) n) (by kernel_rfl) (⟨f1,f2,f3⟩) (fun hHeld=>?_)
 try simp only [List.size_toArray,List.length_cons,List.length_nil,Nat.reduceAdd,Array.replicate_succ,Array.replicate_zero,List.push_toArray,List.nil_append,List.cons_append]
 refine tkH (i:=0) (oi:=⟨_,.move (.tmp 0),_,_,_,_⟩) (v:=?v8001) rfl (yi ?y8001) hHeld ?_
 case y8001=>(intro w _;go_simp;(try with_reducible rfl))
 (try simp only [Act.put,s0,s1,s2])
 refine tkH (i:=1) (oi:=⟨_,.nilCheck (.tmp 14),_,_,_,_⟩) (v:=?v8002) rfl (yi ?y8002) hHeld ?_
 case y8002=>(intro w _;go_simp;(try with_reducible rfl))
 (try simp only [Act.put,s0,s1,s2])
 refine tkH (i:=2) (oi:=⟨_,.fieldAddr 130 (.tmp 15) 0,_,_,_,_⟩) (v:=?v8003) rfl (yi ?y8003) hHeld ?_
 case y8003=>(intro w _;go_simp;(try with_reducible rfl))
 (try simp only [Act.put,s0,s1,s2])
 refine tkH (i:=3) (oi:=⟨_,.load 123 (.tmp 16),_,_,_,_⟩) (v:=?v8004) rfl (yi ?y8004) hHeld ?_
 case y8004=>(intro w _;go_simp;(try with_reducible rfl))
 (try simp only [Act.put,s0,s1,s2])
 refine' tkH (i:=4) (oi:=⟨_,.load 43 (.tmp 7),_,_,_,_⟩) (v:=_) rfl (yieldsIf_load_mid (by rfl) _ _ rfl K7 0 rfl (nums .u8 tk) _ (fun _ h=>h.2.1) unH rfl hiL.out) hHeld ?_
 (try simp only [Act.put,s0,s1,s2])
 refine tkH (i:=5) (oi:=⟨_,.lookup 123 (.tmp 17) (.tmp 18) true,_,_,_,_⟩) (v:=.tuple #[.agg EV,.bool kn]) rfl (Or.inl ⟨by rfl,fun w h=>by rw [← hval.out];exact run_look _ _ _ true rfl unE (zeroE w) h.2.2 rfl tk htk rfl⟩) hHeld ?_
 (try simp only [Act.put,s0,s1,s2])
 refine tkH (i:=6) (oi:=⟨_,.move (.tmp 19),_,_,_,_⟩) (v:=?v8005) rfl (yi ?y8005) hHeld ?_
 case y8005=>(intro w _;go_simp;(try with_reducible rfl))
 (try simp only [Act.put,s0,s1,s2])
 refine tkH (i:=7) (oi:=⟨_,.extract (.tmp 13) 0,_,_,_,_⟩) (v:=?v8006) rfl (yi ?y8006) hHeld ?_
 case y8006=>(intro w _;go_simp;(try with_reducible rfl))
 (try simp only [Act.put,s0,s1,s2])
 refine tkH (i:=8) (oi:=⟨_,.extract (.tmp 13) 1,_,_,_,_⟩) (v:=?v8007) rfl (yi ?y8007) hHeld ?_
 case y8007=>(intro w _;go_simp;(try with_reducible rfl))
 (try simp only [Act.put,s0,s1,s2])
 refine wpAnyH_ready (rs:=[9]) (by kernel_rfl) (by simp) ?_
 refine AllReadyH.cons (o:=⟨_,.alloc 142,_,_,_,_⟩) rfl (fun K hK=>?_) ?_
 go_simp;(first|refine newZ ?_|refine newZd ?_);intro w5 h5 b5
 refine hK.out _ _ (keepS _ _ b5.out ⟨f1,f2,f3⟩) (fun hHeld=>?_)
 clear hK K
 (try simp only [s0,s1,s2])
 refine wpAnyH_ready (rs:=[10]) (by kernel_rfl) (by simp) ?_
 refine AllReadyH.cons (o:=⟨_,.store 142 (.tmp 9) (.tmp 20),_,_,_,_⟩) rfl (fun K hK=>?_) ?_
 rw [if_pos (by rfl)];refine wp_store_row _ _ _ rfl _ EV rfl rfl _ _ h5.out hEi.out (hEz.out _ rfl) hEo.out ?_
 refine hK.out _ _ (keepS _ _ (below_setRow b5.out (Nat.le_refl _) _) ⟨f1,f2,f3⟩) (fun hHeld=>?_)
 clear hK K
 (try simp only [s0,s1,s2])
 refine tkH (i:=11) (oi:=⟨_,.assign (.tmp 21),_,_,_,_⟩) (v:=?v8008) rfl (yi ?y8008) hHeld ?_
 case y8008=>(intro w _;go_simp;(try with_reducible rfl))
 (try simp only [Act.put,s0,s1,s2])
 refine wpAnyH_done (by kernel_rfl) ?_ _
 rotate_left
 exact AllReadyH.nil
 exact AllReadyH.nil
 have b7:=below_setRow b5.out (Nat.le_refl _) EV
 have hE7:=hid (setRow_heap _ _ _ _ _ _ h5.out:(w5.setRow wz.heap.size EV).heap[wz.heap.size]? = some (.cells EV 142 (0,0)))
 have hP7:=hid (heap_keep hPz.out b7)
 have hQ7:=hid (heap_keep hQz.out b7)
 have B7:=hid (BZ.out.trans (b7.mono (by have:=BZ.out.size;omega)))
 clear hHeld keepS f1 f2 f3 h5 b5 b7
 generalize w5.setRow wz.heap.size EV=w7 at *
 generalize wz.heap.size=KE at *
 have unE2:=Tryz.underlying142
 have HBT:=hid (built_ent ow what hoo.1 hwo.1)
 rcases hkn.out with⟨rfl,hm⟩|⟨rfl,e,hm,hev,he1,he2⟩
 ·have hb:aldB M ow what tk=false:=by unfold aldB;rw [hm];rfl
  have HB:=hid hb
  clear hb
  go_wp2
  go_ret
  exact⟨by rw [HB.out];rfl,hP ▸ B7.out⟩
 ·subst hev
  have hiE:=hid (show(Tryz.prog.info? 142).map (·.size)=some (nums .u8 (e.1++e.2)).length by rw [nums_length,List.length_append,he1.1,he2.1];kernel_rfl)
  have r1:=keyEnt.guarded (nums .u8 (e.1++e.2)).toArray (nums .u8 (ow++what)).toArray
  have r2:=keyEnt.eql (kv_ent he1 he2) (kv_ent hoo hwo) (ent_inj (y:=e.2) (b:=what) he1 hoo)
  have hb:aldB M ow what tk=decide (e.1=ow∧e.2=what):=by
   unfold aldB
   rw [hm,decide_eq_decide]
   obtain⟨e1,e2⟩:=e
   simp
  have HB:=hid hb
  clear hb
  generalize decide (e.1=ow∧e.2=what)=B at *
  have rE:=row_range hE7.out
  have rP:=row_range hP7.out
  have rQ:=row_range hQ7.out
  clear hm hkn hval hEi hEz hEo hEV
  go_wp2_with (first|refine wpList_load_midG rfl _ _ rfl KE 0 rfl (nums .u8 (e.1++e.2)) _ rE unE2 rfl hiE.out ?_|refine wpList_load_midG rfl _ _ rfl P 0 rfl (nums .u8 ow) _ rP unH rfl hiLs.out ?_|refine wpList_load_midG rfl _ _ rfl Q 0 rfl (nums .u8 what) _ rQ unH rfl hiLw.out ?_|refine wpList_build2G rfl _ _ _ rfl HBT.out rfl rfl ?_)
  go_ret
  exact⟨by rw [HB.out];rfl,hP ▸ B7.out⟩
def NewORes(w:World)(e:Ending)(w':World):Prop:=∃ob mb,e = .returned (.pointer (some ⟨ob,0,none⟩))∧OffAt w' ob mb (fun _=>none) 0∧w.heap.size≤ob∧w.heap.size≤mb∧Below w.heap.size w w'
set_option maxHeartbeats 1000000 in
theorem onew_walk(w:World):Calls Tryz.prog 17 #[] w (NewORes w):=by
 have hmm:=@run_makeMap Tryz.prog
 have m1:=MapIs.made (E:=EH) w
 have A2:=alloc2p w (.map #[] 0) (.cells #[.map (some w.heap.size),.int .i64 0] 130)
 have hT:OffAt ((w.alloc (.map #[] 0)).alloc (.cells #[.map (some w.heap.size),.int .i64 0] 130)) (w.heap.size+1) w.heap.size (fun _=>none) 0:=
  ⟨A2.2.1,m1.below ((Below.refl _ _).alloc (Nat.le_refl _) _),fun _ _ h=>(by cases h),by decide,by omega⟩
 have F:=hid (show NewORes w (.returned (.pointer (some ⟨w.heap.size+1,0,none⟩))) _ from⟨_,_,rfl,hT,by omega,Nat.le_refl _,A2.2.2.2⟩)
 clear hT A2 m1
 go_enter Tryz.func17,Tryz.ntmps17
 go_wp2
 go_ret
 exact F.out
end Go.Proofs.YtnbmpgballopeaaGreatDoor
/- The law's mine: an output of one owner. -/
namespace Go.Proofs.YtnbmpgballopeaaGreatDoor
open Go.RowKit
def ownP(x:List Nat):PathD:=⟨x,zh,zh,0,0⟩
set_option maxRecDepth 100000 in
theorem bPath'(a0 a1 a2 a3 a4 a5 a6 a7 a8 a9 a10 a11 a12 a13 a14 a15 a16 a17 a18 a19 a20 a21 a22 a23 a24 a25 a26 a27 a28 a29 a30 a31:Nat):Tryz.prog.built 121 [(0,.agg (nums .u8 [a0,a1,a2,a3,a4,a5,a6,a7,a8,a9,a10,a11,a12,a13,a14,a15,a16,a17,a18,a19,a20,a21,a22,a23,a24,a25,a26,a27,a28,a29,a30,a31]).toArray)]=some (ownP [a0,a1,a2,a3,a4,a5,a6,a7,a8,a9,a10,a11,a12,a13,a14,a15,a16,a17,a18,a19,a20,a21,a22,a23,a24,a25,a26,a27,a28,a29,a30,a31]).cells.toArray:=by kernel_rfl
theorem bPath(x:List Nat)(h:x.length=32):Tryz.prog.built 121 [(0,.agg (nums .u8 x).toArray)]=some (ownP x).cells.toArray:=by
 match x,h with
 | [a0,a1,a2,a3,a4,a5,a6,a7,a8,a9,a10,a11,a12,a13,a14,a15,a16,a17,a18,a19,a20,a21,a22,a23,a24,a25,a26,a27,a28,a29,a30,a31],_=>exact bPath' ..
set_option maxRecDepth 100000 in
theorem bOut(c:Int)(a:Option Addr)(n k:Nat):Tryz.prog.built 66 [(0,.int .u64 c),(1,.slice a n k)]=some (Value.int .u64 c::Value.slice a n k::nums .u8 zh).toArray:=by kernel_rfl
def mineO(coins:Nat)(g:Nat)(x:List Nat):OutD:=⟨coins,some ⟨g,0,none⟩,1,[ownP x],zh⟩
def MineR(w:World)(coins:Nat)(sec:List Nat)(e:Ending)(w':World):Prop:=
 ∃g,e = .returned (.agg (mineO coins g (ownD sec)).cells.toArray)∧w.heap.size≤g∧(mineO coins g (ownD sec)).good w'∧Below w.heap.size w w'
theorem zh32:H32b zh:=⟨rfl,by decide⟩
theorem i64z:i64ok 0:=⟨by decide,by decide⟩
theorem ownP_ok{x:List Nat}(h:H32b x):(ownP x).ok:=⟨h,zh32,zh32,i64z,i64z⟩
set_option maxRecDepth 100000 in
set_option maxHeartbeats 4000000 in
theorem cmine_walk(coins:Nat)(hc:coins<18446744073709551616)(sec:List Nat)(hs:H32b sec)(w:World)(ht:Tabs w):
  Calls Tryz.prog 20 #[.int .u64 (coins:Int),.agg (nums .u8 sec).toArray] w (MineR w coins sec):=by
 have HT:=hid ht
 have HS:=hid hs
 have HC:=hid hc
 obtain⟨zo,hzo⟩:∃zo:Array Value,zo=zOut:=⟨_,rfl⟩
 have ZH:∀w:World,(zeroValue 66).run Tryz.prog w = .ok (.agg zo) w:=by rw [hzo];exact zv_of (by kernel_rfl)
 have zl:=hid (show zo.size=34 by rw [hzo];rfl)
 have A2:=alloc2p w (.cells (nums .u8 sec).toArray 43) (.cells zo 66)
 have HA:=hid A2.1
 have HR:=hid A2.2.1
 have B1:=hid A2.2.2.2
 have hiS:=hid (show(Tryz.prog.info? 43).map (·.size)=some (nums .u8 sec).length by rw [nums_length,hs.1];kernel_rfl)
 clear ht hs hc hzo A2
 go_enter Tryz.func20,Tryz.ntmps20
 go_upto_region 1 with(fail)
 generalize (w.alloc (.cells (nums .u8 sec).toArray 43)).alloc (.cells zo 66)=w1 at *
 have rS:=row_range HA.out
 go_wp2_with (with_reducible refine wpList_load_mid rfl _ _ rfl w.heap.size 0 rfl (nums .u8 sec) _ rS Tryz.underlying43 rfl hiS.out ?_)
 refine(owner_walk sec HS.out.1 HS.out.2 w1 (HT.out.below B1.out)).mono ?_
 rintro e w2 ⟨rfl,b2⟩
 have B2:=hid (show Below w.heap.size w w2 from B1.out.trans (b2.mono B1.out.size))
 have HR2:=hid (heap_keep HR.out b2)
 have W1:=hid (show w.heap.size+1<w1.heap.size from(Array.getElem?_eq_some_iff.1 HR.out).1)
 have b2s:=hid b2.size
 obtain⟨x,hx⟩:∃x,x=ownD sec:=⟨_,rfl⟩
 have XO:=hid (show H32b x from by rw [hx];exact⟨sha_len _,sha_lt _⟩)
 have HX:=hid hx
 rw [← hx]
 clear b2 rS hx
 have BP:=hid (bPath x XO.out.1)
 obtain⟨pcs,hpcs⟩:∃pcs,pcs=(ownP x).cells:=⟨_,rfl⟩
 have HP:=hid hpcs
 have PL:=hid (show pcs.toArray.size=98 by rw [hpcs,List.size_toArray,PathD.len (ownP_ok XO.out)])
 rw [← hpcs] at BP
 have hPi:=hid (show(Tryz.prog.info? 121).map (·.size)=some 98 by kernel_rfl)
 have hPz:=hid (show((Tryz.prog.info? 121).bind (·.zero)).isSome=true by kernel_rfl)
 have BO:=hid (bOut (coins:Int) (some ⟨w2.heap.size,0,none⟩) 1 1)
 obtain⟨ocs,hocs⟩:∃ocs,ocs=(mineO coins w2.heap.size x).cells:=⟨_,rfl⟩
 have HO:=hid hocs
 rw [show(Value.int .u64 (coins:Int)::Value.slice (some ⟨w2.heap.size,0,none⟩) 1 1::nums .u8 zh)=ocs from by rw [hocs];rfl] at BO
 have OLn:=hid (show ocs.length=34 by rw [hocs];rfl)
 have hiO:=hid (show(Tryz.prog.info? 66).map (·.size)=some ocs.toArray.size by rw [List.size_toArray,OLn.out];kernel_rfl)
 have hoO:=hid (show zo.size=ocs.toArray.size by rw [zl.out,List.size_toArray,OLn.out])
 have h16:=hid (show(ocs.toArray.all fun x=>x.oneCell')=true by rw [hocs];exact all_oneCell_toArray (OutD.one _))
 have b3:=(Below.refl w2.heap.size w2).alloc (Nat.le_refl _) (.cells pcs.toArray 121)
 have hR3:=heap_keep HR2.out b3
 have hP3:=heap_alloc_new w2 (.cells pcs.toArray 121)
 clear hpcs hocs
 go_wp2_with (first|with_reducible refine wpList_build1 rfl _ _ rfl BP.out rfl ?_|with_reducible refine wpList_lit1 rfl _ _ _ rfl rfl Tryz.underlying64 hPi.out hPz.out PL.out (by decide) (by decide) ?_|with_reducible refine wpList_build2 rfl _ _ _ rfl BO.out rfl rfl ?_|refine wpList_store_row rfl _ _ _ rfl (w.heap.size+1) ocs.toArray rfl rfl _ _ hR3 hiO.out hoO.out h16.out ?_)
 refine bodyPost_ret (results_cellH rfl _ _ (w.heap.size+1) _ ocs.toArray _ _ rfl (setRow_heap _ _ _ _ _ _ hR3) Tryz.underlying66 rfl hiO.out) rfl ?_
 have hne:w2.heap.size≠w.heap.size+1:=by have:=W1.out;have:=b2s.out;omega
 have hP4:=heap_far hP3 (far_row (w2.alloc (.cells pcs.toArray 121)) (w.heap.size+1) ocs.toArray) hne
 have rP:=row_range hP4
 have pl:pcs.length=98:=by have:=PL.out;simpa using this
 refine⟨w2.heap.size,by rw [HO.out,HX.out],B2.out.size,⟨HC.out,zh32,?_,fun p hp=>?_⟩,below_setRow (B2.out.trans (b3.mono B2.out.size)) (by omega) _⟩
 ·show Rd _ 98 (some ⟨w2.heap.size,0,none⟩) 1 1 ([ownP (ownD sec)].flatMap PathD.cells)
  rw [show [ownP (ownD sec)].flatMap PathD.cells=pcs from by rw [HP.out,HX.out];simp]
  exact⟨by rw [pl],Nat.le_refl _,by decide,(fun e=>nomatch e),w2.heap.size,0,fun _=>rfl,fun j u hu=>rP j u hu⟩
 ·have hp':p∈[ownP (ownD sec)]:=hp
  rw [List.mem_singleton] at hp'
  rw [hp']
  exact ownP_ok (by rw [← HX.out];exact XO.out)
end Go.Proofs.YtnbmpgballopeaaGreatDoor
/- The chain's Waits. -/
namespace Go.Proofs.YtnbmpgballopeaaGreatDoor
open Go.RowKit
theorem tyHs:SliceTy Tryz.prog 72 43 32 32 (.agg (nums .u8 zh).toArray):=.mk' Tryz.underlying72 (by kernel_rfl) (by decide) (by decide)
theorem TxD.one(t:TxD):∀u∈t.cells,u.oneCell'=true:=by
 intro u hu
 simp only [TxD.cells,List.mem_cons,List.not_mem_nil,or_false] at hu
 rcases hu with rfl|rfl <;> rfl
theorem idB_ok(t:TxD):H32b (idB t):=by
 unfold idB
 split
 ·exact⟨sha_len _,sha_lt _⟩
 ·exact zh32
end Go.Proofs.YtnbmpgballopeaaGreatDoor
/- The chain's Get. -/
namespace Go.Proofs.YtnbmpgballopeaaGreatDoor
open Go.RowKit
structure HeldD where
 out:OutD
 height:Int
def HeldD.cells(h:HeldD):List Value:=h.out.cells++[.int .i64 h.height]
def zHeld:HeldD:=⟨⟨0,none,0,[],zh⟩,0⟩
def heldM(HM:List Nat × Int→Option HeldD):List Nat × Int→Option Value:=fun p=>(HM p).map (fun x=>.agg x.cells.toArray)
theorem zHeld_good(w:World):zHeld.out.good w:=⟨by decide,zh32,⟨by simp [zHeld],Nat.le_refl _,Nat.zero_le _,fun _=>rfl,0,0,fun h=>absurd h (by decide),by simp [zHeld]⟩,by simp [zHeld]⟩
theorem HeldD.len{w:World}{h:HeldD}(hg:h.out.good w):h.cells.length=35:=by simp [HeldD.cells,OutD.len hg]
theorem HeldD.one(h:HeldD):∀u∈h.cells,u.oneCell'=true:=by
 intro u hu
 simp only [HeldD.cells,List.mem_append,List.mem_cons,List.not_mem_nil,or_false] at hu
 rcases hu with h1|rfl
 ·exact OutD.one _ u h1
 ·rfl
theorem heap_front{w:World}{b:Nat}{t:TypeId}{xs ys vs:List Value}(h:w.heap[b]? = some (.cells (xs++vs).toArray t (0,0)))(hl:ys.length=xs.length):(w.setCells b 0 ys).heap[b]? = some (.cells (ys++vs).toArray t (0,0)):=by
 rw [heap_setCells ys 0 w _ h]
 congr 2
 apply Array.ext'
 apply List.ext_getElem?
 intro j
 have:=setMs_get ys 0 (xs++vs).toArray j (by simp [hl])
 rw [Array.getElem?_toList,this]
 simp only [Nat.zero_le,true_and,Nat.zero_add,Nat.sub_zero,List.getElem?_toArray]
 split
 ·rename_i hj;rw [List.getElem?_append_left hj]
 ·rename_i hj;rw [List.getElem?_append_right (by omega),List.getElem?_append_right (by omega),hl]
def GetR(w:World)(x:Option HeldD)(e:Ending)(w':World):Prop:=
 ∃a c,e = .returned (.tuple #[.agg (HeldD.mk ((x.getD zHeld).out.at' a c) (x.getD zHeld).height).cells.toArray,.bool x.isSome])∧((x.getD zHeld).out.at' a c).good w'∧Below w.heap.size w w'
set_option maxRecDepth 100000 in
set_option maxHeartbeats 4000000 in
theorem cget_walk{w:World}{cb ob hm dm wm sm n:Nat}{ht gf:Int}{pool:Value}(h:ChAt w cb ob ht hm dm wm sm pool gf)(HM:List Nat × Int→Option HeldD)(hM:MapIs EP w hm (heldM HM) n)(hk:∀p x,HM p=some x→x.out.good w∧x.out.paths.length≤4096)(tx:List Nat)(o:Int)(hx:H32b tx)(ho:i64ok o):
  Calls Tryz.prog 24 #[.pointer (some ⟨cb,0,none⟩),.agg (ptI tx o).toArray] w (GetR w (HM (tx,o))):=by
 have H:=hid h
 have M:=hid hM
 have OK:=hid (show EP.ok (tx,o) from⟨hx,ho⟩)
 obtain⟨zz,hzz⟩:∃zz:List Value,zz=zHeld.cells:=⟨_,rfl⟩
 have ZH:∀w:World,(zeroValue 75).run Tryz.prog w = .ok (.agg zz.toArray) w:=by rw [hzz];exact zv_of (by kernel_rfl)
 have lz:=hid (show zz.length=35 by rw [hzz];rfl)
 obtain⟨lp,hlp⟩:∃lp,lp=ptI tx o:=⟨_,rfl⟩
 have hiP:=hid (show(Tryz.prog.info? 60).map (·.size)=some lp.length from by rw [hlp,show(ptI tx o).length=33 by simp [ptI,hx.1]];kernel_rfl)
 obtain⟨hv',hhv⟩:∃hv',hv'=(HM (tx,o)).getD zHeld:=⟨_,rfl⟩
 obtain⟨kn,hkn⟩:∃kn,kn=(HM (tx,o)).isSome:=⟨_,rfl⟩
 have GO:=hid (show hv'.out.good w∧hv'.out.paths.length≤4096 from by
  rw [hhv]
  cases hs:HM (tx,o) with
  | none=>exact⟨zHeld_good w,by decide⟩
  | some x=>exact hk _ x hs)
 obtain⟨rv,hrv⟩:∃rv,rv=hv'.cells:=⟨_,rfl⟩
 have RV:=hid hrv
 have RL:=hid (show rv.length=35 by rw [hrv];exact HeldD.len GO.out.1)
 have HV:=hid (show(if true=true then Value.tuple #[(heldM HM (tx,o)).getD (.agg zz.toArray),.bool (heldM HM (tx,o)).isSome] else (heldM HM (tx,o)).getD (.agg zz.toArray)) = .tuple #[.agg rv.toArray,.bool kn] from by
  rw [hrv,hkn,hzz,hhv]
  unfold heldM
  cases HM (tx,o) <;> rfl)
 have LPe:=hid (show Value.agg lp.toArray=EP.enc (tx,o) from by rw [hlp];rfl)
 have FIN:=hid (And.intro hhv hkn)
 have A2:=alloc2p w (.cells lp.toArray 60) (.cells zz.toArray 75)
 have HA:=hid A2.1
 have HR:=hid A2.2.1
 have B1:=hid A2.2.2.2
 have hiG:=hid (show ∀L:List Value,L.length=35→(Tryz.prog.info? 75).map (·.size)=some L.length from fun L hL=>by rw [hL];kernel_rfl)
 have hi6:=hid (show(Tryz.prog.info? 75).map (·.size)=some rv.toArray.size by rw [List.size_toArray,RL.out];kernel_rfl)
 have ho6:=hid (show zz.toArray.size=rv.toArray.size by rw [List.size_toArray,List.size_toArray,lz.out,RL.out])
 have h16:=hid (show(rv.toArray.all fun x=>x.oneCell')=true by rw [hrv];exact all_oneCell_toArray (HeldD.one _))
 rw [← hlp]
 clear h hM hk hx ho hzz hlp hhv hkn hrv A2
 go_enter Tryz.func24,Tryz.ntmps24
 go_upto_region 3 with(fail)
 generalize (w.alloc (.cells lp.toArray 60)).alloc (.cells zz.toArray 75)=w1 at *
 have c2:=hid (H.out.below B1.out).c2
 have M1:=hid (M.out.below B1.out)
 have rP:=hid (row_range HA.out)
 have W1:=hid (show w.heap.size+1<w1.heap.size from(Array.getElem?_eq_some_iff.1 HR.out).1)
 refine wp_region_held_drew (S:=fun w'=>Below w1.heap.size w1 w') (by kernel_rfl) ((Below.refl _ _).drew) (fun hHeld=>?_)
 try simp only [List.size_toArray,List.length_cons,List.length_nil,Nat.reduceAdd,Array.replicate_succ,Array.replicate_zero,List.push_toArray,List.nil_append,List.cons_append]
 refine tkH (i:=0) (oi:=⟨_,.move (.tmp 0),_,_,_,_⟩) (v:=?v1001) rfl (yi ?y1001) hHeld ?_
 case y1001=>(intro w _;go_simp;(try with_reducible rfl))
 (try simp only [Act.put,s0,s1,s2])
 refine tkH (i:=1) (oi:=⟨_,.nilCheck (.tmp 12),_,_,_,_⟩) (v:=?v1002) rfl (yi ?y1002) hHeld ?_
 case y1002=>(intro w _;go_simp;(try with_reducible rfl))
 (try simp only [Act.put,s0,s1,s2])
 refine tkH (i:=2) (oi:=⟨_,.fieldAddr 137 (.tmp 13) 2,_,_,_,_⟩) (v:=?v1003) rfl (yi ?y1003) hHeld ?_
 case y1003=>(intro w _;go_simp;(try with_reducible rfl))
 (try simp only [Act.put,s0,s1,s2])
 refine tkH (i:=3) (oi:=⟨_,.load 131 (.tmp 14),_,_,_,_⟩) (v:=(.map (some hm))) rfl (Or.inl ⟨by rfl,fun w h=>by have c9:=cell_keep h c2.out;go_simp⟩) hHeld ?_
 (try simp only [Act.put,s0,s1,s2])
 refine' tkH (i:=4) (oi:=⟨_,.load 60 (.tmp 3),_,_,_,_⟩) (v:=_) rfl (yieldsIf_load_mid (by rfl) _ _ rfl w.heap.size 0 rfl lp _ (fun _ h=>range_keep h rP.out) Tryz.underlying60 rfl hiP.out) hHeld ?_
 (try simp only [Act.put,s0,s1,s2])
 refine tkH (i:=5) (oi:=⟨_,.lookup 131 (.tmp 15) (.tmp 16) true,_,_,_,_⟩) (v:=(.tuple #[.agg rv.toArray,.bool kn])) rfl (Or.inl ⟨by rfl,fun w h=>by rw [← HV.out];exact run_look (.tmp 15) (.tmp 16) _ true rfl Tryz.underlying131 (ZH w) (M1.out.below h) rfl (tx,o) OK.out LPe.out⟩) hHeld ?_
 (try simp only [Act.put,s0,s1,s2])
 refine tkH (i:=6) (oi:=⟨_,.move (.tmp 17),_,_,_,_⟩) (v:=?v1004) rfl (yi ?y1004) hHeld ?_
 case y1004=>(intro w _;go_simp;(try with_reducible rfl))
 (try simp only [Act.put,s0,s1,s2])
 refine tkH (i:=7) (oi:=⟨_,.extract (.tmp 11) 0,_,_,_,_⟩) (v:=?v1005) rfl (yi ?y1005) hHeld ?_
 case y1005=>(intro w _;go_simp;(try with_reducible rfl))
 (try simp only [Act.put,s0,s1,s2])
 refine tkH (i:=8) (oi:=⟨_,.extract (.tmp 11) 1,_,_,_,_⟩) (v:=?v1006) rfl (yi ?y1006) hHeld ?_
 case y1006=>(intro w _;go_simp;(try with_reducible rfl))
 (try simp only [Act.put,s0,s1,s2])
 refine wpAnyH_ready (rs:=[9]) (by kernel_rfl) (by simp) ?_
 refine AllReadyH.cons (o:=⟨_,.alloc 75,_,_,_,_⟩) rfl (fun K hK=>?_) ?_
 have BVL:=hid hHeld.size;go_simp;(first|refine newZ ?_|refine newZd ?_);intro wa HW BW
 refine hK.out _ _ (by first|exact hHeld.trans (BW.out.mono hHeld.size)|exact BW.out) (fun hHeld=>?_)
 clear hK K
 (try simp only [s0,s1,s2])
 refine wpAnyH_ready (rs:=[10]) (by kernel_rfl) (by simp) ?_
 refine AllReadyH.cons (o:=⟨_,.store 75 (.tmp 6) (.tmp 18),_,_,_,_⟩) rfl (fun K hK=>?_) ?_
 rw [if_pos (by rfl)];refine wp_store_row _ _ _ rfl _ rv.toArray rfl rfl _ _ HW.out hi6.out ho6.out h16.out ?_
 refine hK.out _ _ (below_setRow hHeld BVL.out _) (fun hHeld=>?_)
 clear hK K
 (try simp only [s0,s1,s2])
 refine tkH (i:=11) (oi:=⟨_,.assign (.tmp 19),_,_,_,_⟩) (v:=?v1007) rfl (yi ?y1007) hHeld ?_
 case y1007=>(intro w _;go_simp;(try with_reducible rfl))
 (try simp only [Act.put,s0,s1,s2])
 refine wpAnyH_done (by kernel_rfl) ?_ _
 rotate_left
 exact AllReadyH.nil
 exact AllReadyH.nil
 have BE:=hid hHeld
 have hr4:=hid (heap_keep HR.out hHeld)
 have hV:=hid (setRow_heap _ _ _ rv.toArray _ _ HW.out)
 clear hHeld
 generalize wa.setRow w1.heap.size rv.toArray=wz at *
 obtain⟨oc,hoc⟩:∃oc,oc=hv'.out.cells:=⟨_,rfl⟩
 obtain⟨hg,hhg⟩:∃hg,hg=hv'.height:=⟨_,rfl⟩
 have HO:=hid (And.intro hoc hhg)
 have OL:=hid (show oc.length=34 by rw [hoc];exact OutD.len GO.out.1)
 have hVz:=hid (show wz.heap[w1.heap.size]? = some (.cells (oc++[Value.int .i64 hg]).toArray 75 (0,0)) from by have:=hV.out;rw [RV.out] at this;rw [hoc,hhg];exact this)
 have rO:=gen_range (row_range hVz.out) 0 34
 rw [List.drop_zero,List.take_left' OL.out] at rO
 have BWz:=hid (B1.out.trans (BE.out.mono B1.out.size))
 have CC:=hid (show Calls Tryz.prog 49 #[.agg oc.toArray] wz _ from by rw [hoc];exact ccopied_walk hv'.out wz (GO.out.1.below BWz.out) GO.out.2)
 have hiO:=hid (show ∀L:List Value,L.length=34→(Tryz.prog.info? 66).map (·.size)=some L.length from fun L hL=>by rw [hL];kernel_rfl)
 have hiO1:=hiO.out oc OL.out
 clear hoc hhg hV
 go_wp2_with (with_reducible refine wpList_load_mid rfl _ _ rfl w1.heap.size 0 rfl oc _ rO Tryz.underlying66 rfl hiO1 ?_)
 refine CC.out.mono ?_
 rintro e w5 ⟨a,c,rfl,g5,o5,b5⟩
 have O5:=hid o5
 have WZ1:=hid (show w1.heap.size<wz.heap.size from(Array.getElem?_eq_some_iff.1 hVz.out).1)
 obtain⟨nc,hnc⟩:∃nc,nc=(hv'.out.at' a c).cells:=⟨_,rfl⟩
 rw [← hnc]
 have NC:=hid hnc
 have NL:=hid (show nc.length=34 by rw [hnc];exact OutD.len g5)
 have G5:=hid g5
 have hV5:=hid (heap_keep hVz.out b5)
 have hR5:=hid (heap_keep hr4.out b5)
 have BW5:=hid (BWz.out.trans (b5.mono BWz.out.size))
 have hS:=heap_front (ys:=nc) hV5.out (by rw [NL.out,OL.out])
 have FS:=far_setCells (g:=w1.heap.size) nc 0 w5
 have hiN:(Tryz.prog.info? 66).map (·.size)=some nc.toArray.size:=by rw [List.size_toArray];exact hiO.out nc NL.out
 have hN1:(nc.toArray.all fun x=>x.oneCell')=true:=by rw [hnc];exact all_oneCell_toArray (OutD.one _)
 have hth:w5.there w1.heap.size 0 nc.toArray.size:=tag_there hV5.out (by rw [List.size_toArray,List.size_toArray,List.length_append,NL.out,OL.out];simp)
 clear b5 g5 o5 hnc CC rO hiO1
 go_upto_region 5 with(refine wpList_store_mid rfl _ _ _ rfl w1.heap.size 0 nc.toArray rfl rfl hth hiN hN1 ?_)
 have hS':(w5.setCells w1.heap.size 0 nc.toArray.toList).heap[w1.heap.size]? = some (.cells (nc++[Value.int .i64 hg]).toArray 75 (0,0)):=hS
 have FS':Far w1.heap.size w5 (w5.setCells w1.heap.size 0 nc.toArray.toList):=FS
 clear hS FS
 generalize w5.setCells w1.heap.size 0 nc.toArray.toList=w6 at hS' FS' ⊢
 have hS:=hS'
 have FS:=FS'
 clear hS' FS'
 obtain⟨fc,hfc⟩:∃fc,fc=nc++[Value.int .i64 hg]:=⟨_,rfl⟩
 rw [← hfc] at hS
 have FL:=hid (show fc.length=35 by rw [hfc,List.length_append,NL.out];rfl)
 have rF:=row_range hS
 have hR6:=heap_far hR5.out FS (by have:=W1.out;omega)
 have hiF:=hiG.out fc FL.out
 have hiFa:(Tryz.prog.info? 75).map (·.size)=some fc.toArray.size:=by rw [List.size_toArray];exact hiF
 have hoF:zz.toArray.size=fc.toArray.size:=by rw [List.size_toArray,List.size_toArray,lz.out,FL.out]
 have hF1:(fc.toArray.all fun x=>x.oneCell')=true:=by rw [hfc,NC.out];exact all_oneCell_toArray (HeldD.one ⟨hv'.out.at' a c,hg⟩)
 have HFC:=hid hfc
 clear hfc
 go_wp2_with (first|with_reducible refine wpList_load_mid rfl _ _ rfl w1.heap.size 0 rfl fc _ rF Tryz.underlying75 rfl hiF ?_|refine wpList_store_row rfl _ _ _ rfl (w.heap.size+1) fc.toArray rfl rfl _ _ hR6 hiFa hoF hF1 ?_)
 refine bodyPost_ret (results_cell_tmp rfl _ _ (w.heap.size+1) _ fc.toArray _ _ _ rfl rfl (setRow_heap _ _ _ _ _ _ hR6) Tryz.underlying75 rfl hiFa) rfl ?_
 refine⟨a,c,?_,?_,?_⟩
 ·rw [FIN.out.1.symm,FIN.out.2.symm]
  have e:(HeldD.mk (hv'.out.at' a c) hv'.height).cells=fc:=by rw [HFC.out,NC.out,HO.out.2];rfl
  rw [e]
  rfl
 ·rw [FIN.out.1.symm]
  have KF:=((Keep.far' FS).mono (fun i h=>Or.inl h) (R:=fun i=>i=w1.heap.size∨i=w.heap.size+1)).trans ((Keep.far' (far_row w6 (w.heap.size+1) fc.toArray)).mono (fun i h=>Or.inr h))
  have h1:=W1.out
  have h2:=WZ1.out
  have o9:=KF.own O5.out (fun g hg e=>by have:=(O5.out.lt _ hg).1;omega)
  obtain⟨a',c',e',hr⟩:=Rd.of_owns o9
  simp only [Value.slice.injEq] at e'
  obtain⟨rfl,_,rfl⟩:=e'
  exact⟨G5.out.coins,G5.out.anchor,hr,G5.out.ok⟩
 ·exact below_setRow (BW5.out.trans (FS.below (by have:=B1.out.size;omega) BW5.out.size)) (by omega) _
end Go.Proofs.YtnbmpgballopeaaGreatDoor
/- The chain's state as a whole: its struct, its maps, its office; what a call may change. -/
namespace Go.Proofs.YtnbmpgballopeaaGreatDoor
open Go.RowKit Go.Maps
abbrev HM':=List Nat × Int→Option HeldD
abbrev SM':=List Nat × Int→Option (List Nat)
theorem Rd.keep{S:Nat→Prop}{w w':World}{size:Nat}{a:Option Addr}{n cap:Nat}{xs:List Value}(h:Rd w size a n cap xs)(k:Keep S w w')(hs:∀ad,a=some ad → ¬ S ad.block):Rd w' size a n cap xs:=by
 obtain⟨h1,h2,h3,h4,b,off,ha,hc⟩:=h
 refine⟨h1,h2,h3,h4,b,off,ha,fun j u hu=>?_⟩
 refine k.cell (hc j u hu) (hs ⟨b,off,none⟩ (ha ?_))
 rcases Nat.eq_zero_or_pos n with h0|h0
 ·subst h0
  have:xs=[]:=List.eq_nil_of_length_eq_zero (by simpa using h1)
  subst this
  simp at hu
 ·exact h0
def OutD.off(B:Nat)(o:OutD):Prop:=∀ad,o.pa=some ad→B≤ad.block
theorem OutD.good.keep{S:Nat→Prop}{B:Nat}{w w':World}{o:OutD}(h:o.good w)(k:Keep S w w')(ho:o.off B)(hs:∀i,S i→i<B):o.good w':=
 ⟨h.coins,h.anchor,h.paths.keep k (fun ad ha hh=>by have:=hs _ hh;have:=ho ad ha;omega),h.ok⟩
theorem off_own{w:World}{B:Nat}{e:TypeId}{size n c:Nat}{a:Option Addr}{xs:List Value}(h:w.ownsRow B e size (.slice a n c) n xs):∀ad,a=some ad→B≤ad.block:=by
 rintro ad rfl
 exact(h.lt ad.block rfl).1
def upd{α β:Type}[DecidableEq α](f:α→β)(x:α)(v:β):α→β:=fun y=>if y=x then v else f y
theorem held_upd(HM:HM')(x:List Nat × Int)(h:HeldD):(fun y=>if y=x then some (.agg h.cells.toArray) else heldM HM y)=heldM (upd HM x (some h)):=by
 funext y
 unfold heldM upd
 by_cases e:y=x <;> simp [e]
theorem held_del(HM:HM')(x:List Nat × Int):(fun y=>if y=x then none else heldM HM y)=heldM (upd HM x none):=by
 funext y
 unfold heldM upd
 by_cases e:y=x <;> simp [e]
theorem hash_upd(SM:SM')(x:List Nat × Int)(d:List Nat):(fun y=>if y=x then some (.agg (nums .u8 d).toArray) else hashM SM y)=hashM (upd SM x (some d)):=by
 funext y
 unfold hashM upd
 by_cases e:y=x <;> simp [e]
theorem Tabs.keep{S:Nat→Prop}{w w':World}(h:Tabs w)(k:Keep S w w')(h1:¬ S 0)(h2:¬ S 1):Tabs w':=
 ⟨fun i hi=>k.cell (h.1 i hi) h1,fun i hi=>k.cell (h.2 i hi) h2⟩
structure Led (w:World) (A B ob mb hm dm wm sm cb:Nat) (ht gf:Int) (P:Value) (HM:HM') (SM:SM') (M:EM) (c:Nat):Prop where
 ch:ChAt w cb ob ht hm dm wm sm P gf
 held:∃n,n≤c∧MapIs EP w hm (heldM HM) n
 done:∃D n,n≤c∧MapIs EH w dm D n
 whn:∃D n,n≤c∧MapIs EH w wm D n
 spent:∃n,n≤c∧MapIs EP w sm (hashM SM) n
 off:∃n,n≤c∧OffAt w ob mb M n
 hk:∀p x,HM p=some x→x.out.good w∧x.out.off B∧x.out.paths.length≤4∧0≤x.height∧x.height≤ht+1
 sk:∀p x,SM p=some x→H32b x
 ord:A≤ob∧A≤mb∧ob≠mb∧ob<hm∧mb<hm∧hm<dm∧dm<wm∧wm<sm∧sm<cb∧cb<B
 le:B≤w.heap.size
 hb:0≤ht∧ht≤1073741824
 gb:0≤gf∧gf≤1073741824
 cc:c≤1000000
 tabs:Tabs w
 tlt:0<A∧1<A
section
variable {w w':World} {A B ob mb hm dm wm sm cb c:Nat} {ht gf:Int} {P:Value} {HM:HM'} {SM:SM'} {M:EM}
theorem Led.below(h:Led w A B ob mb hm dm wm sm cb ht gf P HM SM M c)(b:Below w.heap.size w w'):Led w' A B ob mb hm dm wm sm cb ht gf P HM SM M c:=
 ⟨h.ch.below b,h.held.imp fun _ x=>⟨x.1,x.2.below b⟩,h.done.imp fun _ x=>x.imp fun _ x=>⟨x.1,x.2.below b⟩,h.whn.imp fun _ x=>x.imp fun _ x=>⟨x.1,x.2.below b⟩,h.spent.imp fun _ x=>⟨x.1,x.2.below b⟩,
  h.off.imp fun _ x=>⟨x.1,x.2.below b⟩,fun p x hx=>⟨(h.hk p x hx).1.below b,(h.hk p x hx).2⟩,h.sk,h.ord,Nat.le_trans h.le b.size,h.hb,h.gb,h.cc,h.tabs.below b,h.tlt⟩
theorem OffAt.keep{S:Nat→Prop}{n:Nat}(h:OffAt w ob mb M n)(k:Keep S w w')(h1:¬ S ob)(h2:¬ S mb):OffAt w' ob mb M n:=⟨k.heap h.st h1,h.map.keep k h2,h.ok,h.small,h.ne⟩
theorem Led.keep{S:Nat→Prop}(h:Led w A B ob mb hm dm wm sm cb ht gf P HM SM M c)(k:Keep S w w')(hS:∀i,S i→B≤i)(hg:∀p x,HM p=some x → ∀ad,x.out.pa=some ad → ¬ S ad.block):Led w' A B ob mb hm dm wm sm cb ht gf P HM SM M c:=by
 have o:=h.ord
 have q:∀i,i<B → ¬ S i:=fun i hi hs=>by have:=hS i hs;omega
 exact⟨h.ch.keep k (q _ (by omega)),h.held.imp fun _ x=>⟨x.1,x.2.keep k (q _ (by omega))⟩,h.done.imp fun _ x=>x.imp fun _ x=>⟨x.1,x.2.keep k (q _ (by omega))⟩,h.whn.imp fun _ x=>x.imp fun _ x=>⟨x.1,x.2.keep k (q _ (by omega))⟩,h.spent.imp fun _ x=>⟨x.1,x.2.keep k (q _ (by omega))⟩,
  h.off.imp fun _ x=>⟨x.1,x.2.keep k (q _ (by omega)) (q _ (by omega))⟩,fun p x hx=>⟨⟨(h.hk p x hx).1.coins,(h.hk p x hx).1.anchor,(h.hk p x hx).1.paths.keep k (hg p x hx),(h.hk p x hx).1.ok⟩,(h.hk p x hx).2⟩,h.sk,h.ord,Nat.le_trans h.le k.size,h.hb,h.gb,h.cc,h.tabs.keep k (q _ (by have:=h.tlt;omega)) (q _ (by have:=h.tlt;omega)),h.tlt⟩
theorem MapIs.same{k:TypeId}{α:Type}{E:KeyE k α}{b n:Nat}{Mp:α→Option Value}(h:MapIs E w b Mp n)(e:w'.heap[b]? = w.heap[b]?):MapIs E w' b Mp n:=by
 obtain⟨D,⟨es,clock,hb1,rest⟩,k2⟩:=h
 exact⟨D,⟨es,clock,e.trans hb1,rest⟩,k2⟩
end
section
variable {w w':World} {A B ob mb hm dm wm sm cb c:Nat} {ht gf:Int} {P:Value} {HM:HM'} {SM:SM'} {M:EM}
theorem Led.turn{S:Nat→Prop}{ht' gf':Int}{P':Value}{HM2:HM'}{SM2:SM'}{M2:EM}{c2:Nat}(h:Led w A B ob mb hm dm wm sm cb ht gf P HM SM M c)(k:Keep S w w')(hS:∀i,S i→A≤i∧i<B)
  (ch:ChAt w' cb ob ht' hm dm wm sm P' gf') (held:∃n,n≤c2∧MapIs EP w' hm (heldM HM2) n) (done:∃D n,n≤c2∧MapIs EH w' dm D n) (whn:∃D n,n≤c2∧MapIs EH w' wm D n) (spent:∃n,n≤c2∧MapIs EP w' sm (hashM SM2) n) (off:∃n,n≤c2∧OffAt w' ob mb M2 n)
  (hk:∀p x,HM2 p=some x→HM p=some x∨(x.out.good w'∧x.out.off B∧x.out.paths.length≤4∧0≤x.height∧x.height≤ht'+1)) (sk:∀p x,SM2 p=some x→H32b x) (hh:ht≤ht'∧ht'≤1073741824) (gb:0≤gf'∧gf'≤1073741824) (cc:c2≤1000000):
  Led w' A B ob mb hm dm wm sm cb ht' gf' P' HM2 SM2 M2 c2:=
 ⟨ch,held,done,whn,spent,off,fun p x hx=>by
  rcases hk p x hx with h1|h1
  ·have h2:=h.hk p x h1
   exact⟨h2.1.keep k h2.2.1 (fun i hi=>(hS i hi).2),h2.2.1,h2.2.2.1,h2.2.2.2.1,by have:=h2.2.2.2.2;have:=hh.1;omega⟩
  ·exact h1,sk,h.ord,Nat.le_trans h.le k.size,⟨Int.le_trans h.hb.1 hh.1,hh.2⟩,gb,cc,h.tabs.keep k (fun hs=>by have:=hS _ hs;have:=h.tlt;omega) (fun hs=>by have:=hS _ hs;have:=h.tlt;omega),h.tlt⟩
theorem Led.heldK{S:Nat→Prop}{c2:Nat}(h:Led w A B ob mb hm dm wm sm cb ht gf P HM SM M c)(k:Keep S w w')(hn:¬ S hm)(hc:c≤c2):∃n,n≤c2∧MapIs EP w' hm (heldM HM) n:=h.held.imp fun _ x=>⟨Nat.le_trans x.1 hc,x.2.keep k hn⟩
theorem Led.doneK{S:Nat→Prop}{c2:Nat}(h:Led w A B ob mb hm dm wm sm cb ht gf P HM SM M c)(k:Keep S w w')(hn:¬ S dm)(hc:c≤c2):∃D n,n≤c2∧MapIs EH w' dm D n:=h.done.imp fun _ x=>x.imp fun _ x=>⟨Nat.le_trans x.1 hc,x.2.keep k hn⟩
theorem Led.whnK{S:Nat→Prop}{c2:Nat}(h:Led w A B ob mb hm dm wm sm cb ht gf P HM SM M c)(k:Keep S w w')(hn:¬ S wm)(hc:c≤c2):∃D n,n≤c2∧MapIs EH w' wm D n:=h.whn.imp fun _ x=>x.imp fun _ x=>⟨Nat.le_trans x.1 hc,x.2.keep k hn⟩
theorem Led.spentK{S:Nat→Prop}{c2:Nat}(h:Led w A B ob mb hm dm wm sm cb ht gf P HM SM M c)(k:Keep S w w')(hn:¬ S sm)(hc:c≤c2):∃n,n≤c2∧MapIs EP w' sm (hashM SM) n:=h.spent.imp fun _ x=>⟨Nat.le_trans x.1 hc,x.2.keep k hn⟩
theorem Led.offK{S:Nat→Prop}{c2:Nat}(h:Led w A B ob mb hm dm wm sm cb ht gf P HM SM M c)(k:Keep S w w')(h1:¬ S ob)(h2:¬ S mb)(hc:c≤c2):∃n,n≤c2∧OffAt w' ob mb M n:=h.off.imp fun _ x=>⟨Nat.le_trans x.1 hc,x.2.keep k h1 h2⟩
theorem Led.struct{S:Nat→Prop}{ht' gf':Int}{P':Value}(h:Led w A B ob mb hm dm wm sm cb ht gf P HM SM M c)(k:Keep S w w')(hS:∀i,S i→i=cb)(ch:ChAt w' cb ob ht' hm dm wm sm P' gf')(hh:ht≤ht'∧ht'≤1073741824)(gb:0≤gf'∧gf'≤1073741824):
  Led w' A B ob mb hm dm wm sm cb ht' gf' P' HM SM M c:=by
 have o:=h.ord
 have q:∀i,i≠cb → ¬ S i:=fun i hi hs=>hi (hS i hs)
 exact h.turn k (fun i hi=>by have:=hS i hi;omega) ch (h.heldK k (q _ (by omega)) (Nat.le_refl _)) (h.doneK k (q _ (by omega)) (Nat.le_refl _)) (h.whnK k (q _ (by omega)) (Nat.le_refl _)) (h.spentK k (q _ (by omega)) (Nat.le_refl _)) (h.offK k (q _ (by omega)) (q _ (by omega)) (Nat.le_refl _)) (fun _ _ hx=>.inl hx) h.sk hh gb h.cc
theorem ChAt.set1{pool:Value}(h:ChAt w cb ob ht hm dm wm sm pool gf)(v:Int):ChAt (w.setCell ⟨cb,1,none⟩ (.int .i64 v)) cb ob v hm dm wm sm pool gf:=⟨heap_set _ h.cell⟩
theorem ChAt.set6{pool:Value}(h:ChAt w cb ob ht hm dm wm sm pool gf)(v:Value):ChAt (w.setCell ⟨cb,6,none⟩ v) cb ob ht hm dm wm sm v gf:=⟨heap_set _ h.cell⟩
theorem ChAt.set7{pool:Value}(h:ChAt w cb ob ht hm dm wm sm pool gf)(v:Int):ChAt (w.setCell ⟨cb,7,none⟩ (.int .i64 v)) cb ob ht hm dm wm sm pool v:=⟨heap_set _ h.cell⟩
end
theorem wpList_build0{P:Program}{ops:Array Oper}{rest:List Oper}{o:Oper}{a:Act}{w:World}{Q:Exit→Act→World→Prop}(hg:o.guard=none)(t:TypeId)(ho:o.op = .build t #[])
  {cells:Array Value} (hb:P.built t []=some cells) (h:wpList P ops Q rest (a.put o.dst (.agg cells)) w):wpList P ops Q (o::rest) a w:=
 wpList_build hg t _ ho (by simp [hb]) (by simpa [hb] using h)
end Go.Proofs.YtnbmpgballopeaaGreatDoor

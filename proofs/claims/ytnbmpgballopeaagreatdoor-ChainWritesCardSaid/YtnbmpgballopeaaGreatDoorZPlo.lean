/- For the walks of both Decodes: what has been read, midway. -/
import Derived.Test.YtnbmpgballopeaaGreatDoorZStr
import Derived.Test.YtnbmpgballopeaaGreatDoorZDec
import Derived.Test.YtnbmpgballopeaaGreatDoorZChg
import Derived.Test.YtnbmpgballopeaaGreatDoorZTokO
import Derived.Test.YtnbmpgballopeaaGreatDoorZRdp
namespace Go.Proofs.YtnbmpgballopeaaGreatDoor
open Go.RowKit
def zTx:Array Value:=#[.slice none 0 0,.slice none 0 0]
def CDecR(w:World)(bs:List Nat)(e:Ending)(w':World):Prop:=
 ∃t:TxD,e = .returned (.tuple #[.agg t.cells.toArray,.int .i64 (((decT bs).2:Nat):Int)])∧t.good w'∧t.ins=(decT bs).1.1∧t.outs.map OutD.bare=(decT bs).1.2∧Below w.heap.size w w'
theorem rd_nil(w:World)(size:Nat):Rd w size none 0 0 []:=⟨by simp,Nat.le_refl _,Nat.zero_le _,fun _=>rfl,0,0,fun h=>absurd h (by decide),by simp⟩
theorem CDecR.bad{w w':World}{bs:List Nat}{k:Nat}{z:Int}(h:decT bs=(([],[]),k))(hz:z=(k:Int))(b:Below w.heap.size w w'):CDecR w bs (.returned (.tuple #[.agg zTx,.int .i64 z])) w':=by
 refine⟨⟨none,0,[],none,0,[]⟩,by rw [h,hz];rfl,⟨rd_nil _ _,by simp,rd_nil _ _,by simp⟩,by rw [h],by rw [h];rfl,b⟩
theorem RB.lt{w:World}{B:Nat}{l:LR}(h:RB w B l):∀ad,l.a=some ad→ad.block<w.heap.size:=by
 intro ad ha
 rcases h.2 with⟨e,_⟩|⟨g,cap,cur,e,_,hg,_⟩
 ·simp only [Value.slice.injEq] at e;rw [e.1] at ha;cases ha
 ·simp only [Value.slice.injEq] at e
  rw [e.1] at ha;cases ha
  exact(Array.getElem?_eq_some_iff.1 hg).1
def remOf(w:World)(g:Nat):Nat:=match w.cell? ⟨g,0,none⟩ with
 | some (.slice _ n _)=>n
 | _=>0
theorem Rdr.lt{w:World}{g B:Nat}{bs:List Nat}{sh:Bool}(h:Rdr w g B bs sh):g<w.heap.size:=by
 obtain⟨a,c,hg,_⟩:=h.at'
 exact(Array.getElem?_eq_some_iff.1 hg).1
theorem Rdr.rem{w:World}{g B:Nat}{bs:List Nat}{sh:Bool}(h:Rdr w g B bs sh):remOf w g=bs.length:=by
 obtain⟨a,c,hg,_⟩:=h.at'
 unfold remOf
 rw [gen_cell (j:=0) (row_range hg) rfl]
theorem Rdr.kept{S:Nat→Prop}{w w':World}{g B:Nat}{bs:List Nat}{sh:Bool}(h:Rdr w g B bs sh)(k:Keep S w w')(hg:¬ S g)(hB:∀i,i<B → ¬ S i):Rdr w' g B bs sh:=by
 obtain⟨h1,h2,a,c,e,hs,hn⟩:=h
 exact⟨h1,h2,a,c,k.heap e hg,Rd.kept hs k (fun ad ha=>hB _ (hn ad ha).2),hn⟩
theorem getP_fine{bs:List Nat}(hbs:∀d∈bs,d<256):(getP bs).1.length=32∧(∀d∈(getP bs).1,d<256)∧(getP bs).2.1<256:=by
 have hz:∀d∈pzero,d<256:=by intro d hd;simp [pzero] at hd;omega
 unfold getP
 split
 ·rename_i hl
  split
  ·exact⟨by simp;omega,fun d hd=>hbs d (List.mem_of_mem_take hd),getDltP hbs 35⟩
  ·exact⟨rfl,hz,by decide⟩
 ·exact⟨rfl,hz,by decide⟩
set_option maxRecDepth 100000 in
set_option maxHeartbeats 4000000 in
theorem joinI_bad{α:Type}{l:List α}{t:List α × Nat}{k:Nat}(h:t.2=k)(h0:k≠0):(joinI l t).2=k:=by unfold joinI;rw [if_pos (by omega)];exact h
theorem joinI_ok{α:Type}{l:List α}:joinI l ([],0)=(l,0):=by unfold joinI;simp
theorem wp_store_rowZ{P:Program}{w:World}{o:Oper}{a:Act}{K:Act→World→Prop}{Q:Exit→Act→World→Prop}(t:TypeId)(x y:Operand)(ho:o.op = .store t x y)
  (g:Nat) (cs:Array Value) (hx:a.eval x = .pointer (some ⟨g,0,none⟩)) (hy:a.eval y = .agg cs) (t0:TypeId) (old:Array Value) (hg:w.heap[g]? = some (.cells old t0 (0,0)))
  (hi:(P.info? t).map (·.size)=some cs.size) (hold:old.size=cs.size) (h1:cs.all (·.oneCell')=true) (h:∀w',Hid (w'.heap[g]? = some (.cells cs t0 (0,0)))→Hid (Far g w w')→K (a.put o.dst undef) w'):o.wp P a w K Q:=
 wp_store_row t x y ho g cs hx hy t0 old hg hi hold h1 (h _ (setRow_heap _ _ _ _ _ _ hg) (far_row _ _ _))
theorem wpList_build2o{P:Program}{ops:Array Oper}{rest:List Oper}{o:Oper}{a:Act}{w:World}{Q:Exit→Act→World→Prop}(hg:o.guard=none)(t:TypeId)(x y:Operand)(ho:o.op = .build t #[(0,x),(2,y)])
  {v0 v1:Value} {cells:Array Value} (hb:P.built t [(0,v0),(2,v1)]=some cells) (hx:a.eval x=v0) (hy:a.eval y=v1)
  (h:wpList P ops Q rest (a.put o.dst (.agg cells)) w):wpList P ops Q (o::rest) a w:=by
 have hv:((#[(0,x),(2,y)]:Array (Nat × Operand)).map fun(i,x)=>(i,a.eval x)).toList=[(0,v0),(2,v1)]:=by simp [hx,hy]
 exact wpList_build hg t _ ho (by rw [hv,hb];rfl) (by rw [hv,hb];exact h)
theorem nameB{w:World}{n:Nat}{x:Option Obj}(_:w.heap[n]? = x):∃k,n=k:=⟨n,rfl⟩
structure InS (w0:World) (B g T:Nat) (v:List Nat) (wr:World) (is:List InD) (vr:List Nat) (vi:Value):Prop where
 row:wr.heap[T]? = some (.cells [vi,Value.slice none 0 0].toArray 25 (0,0))
 own:wr.ownsRow B 69 130 vi is.length (is.flatMap InD.cells)
 ok:∀i∈is,i.ok
 eq:insR v=joinI is (insR vr)
 rdr:Rdr wr g T vr false
 keep:Keep (fun i=>i=g∨i=T) w0 wr
 cnt:is.length+vr.length≤v.length
theorem OutD.good.kept{S:Nat→Prop}{w w':World}{o:OutD}(h:o.good w)(k:Keep S w w')(hs:∀ad,o.pa=some ad → ¬ S ad.block):o.good w':=⟨h.coins,h.anchor,Rd.kept h.paths k hs,h.ok⟩
structure OutS (w0:World) (B g T:Nat) (vi:Value) (v:List Nat) (wr:World) (os:List OutD) (vr:List Nat) (vo:Value):Prop where
 row:wr.heap[T]? = some (.cells [vi,vo].toArray 25 (0,0))
 own:wr.ownsRow B 66 34 vo os.length (os.flatMap OutD.cells)
 ok:∀o∈os,o.good wr
 at':∀o∈os,∀ad,o.pa=some ad→B≤ad.block∧ad.block<wr.heap.size∧vo.ownBlock≠some ad.block
 eq:outsR v=joinI (os.map OutD.bare) (outsR vr)
 rdr:Rdr wr g T vr false
 keep:Keep (fun i=>i=g∨i=T) w0 wr
 cnt:os.length+vr.length≤v.length
structure PthS (w0:World) (g T O:Nat) (cn:Nat) (an v1:List Nat) (n j:Nat) (wr:World) (vr:List Nat) (sh:Bool):Prop where
 rdr:Rdr wr g T vr sh
 keep:Keep (fun i=>i=g∨i=O) w0 wr
 bad:sh=true→outsR v1=([],20)
 good:sh=false→j≤n∧vr=(v1.drop 41).drop (104*j)∧41+104*j≤v1.length∧n=v1.getD 40 0∧cn=beVal (v1.take 8)∧an=(v1.drop 8).take 32 ∧
  ∃vp,wr.heap[O]? = some (.cells (Value.int .u64 (cn:Int)::vp::nums .u8 an).toArray 66 (0,0))∧wr.ownsRow w0.heap.size 121 98 vp j ((pathsD j (v1.drop 41)).flatMap PathD.cells) ∧ ∀p∈pathsD j (v1.drop 41),p.ok
theorem pathsD_snoc:∀(n:Nat) (v:List Nat),pathsD (n+1) v=pathsD n v++[rdPath (v.drop (104*n))]
 | 0,v=>by simp [pathsD]
 | n+1,v=>by
  rw [pathsD,pathsD_snoc n (v.drop 104),pathsD,List.drop_drop,List.cons_append,show 104+104*n=104*(n+1) by omega]
theorem pathsD_len:∀(n:Nat) (v:List Nat),(pathsD n v).length=n
 | 0,_=>rfl
 | n+1,v=>by rw [pathsD,List.length_cons,pathsD_len n]
end Go.Proofs.YtnbmpgballopeaaGreatDoor
/- The law's plainOut: an output as the reference has it. -/
namespace Go.Proofs.YtnbmpgballopeaaGreatDoor
open Go.RowKit
def PlOR(w:World)(o:OutD)(e:Ending)(w':World):Prop:=∃a c,e = .returned (.agg (o.at' a c).cells.toArray)∧(o.at' a c).good w'∧w'.ownsRow w.heap.size 152 98 (.slice a o.paths.length c) o.paths.length (o.paths.flatMap PathD.cells)∧Below w.heap.size w w'
set_option maxRecDepth 100000 in
set_option maxHeartbeats 8000000 in
theorem plo_walk(o:OutD)(w:World)(h:o.good w)(hn:o.paths.length≤4096):Calls Tryz.prog 32 #[.agg o.cells.toArray] w (PlOR w o):=by
 have G:=hid h
 have HN:=hid hn
 obtain⟨oc,hoc⟩:∃oc,oc=o.cells:=⟨_,rfl⟩
 have HOC:=hid hoc
 have OL:=hid (show oc.length=34 by rw [hoc];exact OutD.len h)
 obtain⟨zo,hzo⟩:∃zo:Array Value,zo=zOut:=⟨_,rfl⟩
 have ZH:∀w:World,(zeroValue 96).run Tryz.prog w = .ok (.agg zo) w:=by rw [hzo];exact zv_out (by kernel_rfl)
 have zl:=hid (show zo.size=34 by rw [hzo];rfl)
 have A2:=alloc2p w (.cells oc.toArray 66) (.cells zo 96)
 have HA:=hid A2.1
 have HR:=hid A2.2.1
 have B1:=hid A2.2.2.2
 obtain⟨N,hN⟩:∃N,N=o.paths.length:=⟨_,rfl⟩
 obtain⟨pa,hpa⟩:∃pa,pa=o.pa:=⟨_,rfl⟩
 obtain⟨pc,hpc⟩:∃pc,pc=o.pc:=⟨_,rfl⟩
 obtain⟨cn,hcn⟩:∃cn,cn=o.coins:=⟨_,rfl⟩
 obtain⟨an,han⟩:∃an,an=o.anchor:=⟨_,rfl⟩
 have NN:=hid hN
 have CA:=hid (And.intro hcn han)
 have ANL:=hid (show an.length=32 by rw [han];exact h.anchor.1)
 have PP:=hid (show Rd w 98 pa N pc (o.paths.flatMap PathD.cells) by rw [hpa,hpc,hN];exact h.paths)
 have OCS:=hid (show oc[0]? = some (.int .u64 (cn:Int))∧oc[1]? = some (.slice pa N pc)∧(oc.drop 2).take 32=nums .u8 an from by rw [hoc,hcn,hN,hpa,hpc,han];exact⟨rfl,rfl,OutD.anc h.anchor⟩)
 obtain⟨oc0,hoc0⟩:∃oc0,oc0=Value.int .u64 (cn:Int)::Value.slice none 0 0::nums .u8 an:=⟨_,rfl⟩
 have BO:=hid (brOtt an cn ANL.out)
 rw [← hoc0] at BO
 have OC0:=hid hoc0
 have OL0:=hid (show oc0.length=34 by rw [hoc0,List.length_cons,List.length_cons,nums_length,ANL.out])
 have hiOa:=hid (show(Tryz.prog.info? 96).map (·.size)=some oc0.toArray.size by rw [List.size_toArray,OL0.out];kernel_rfl)
 have hoO:=hid (show zo.size=oc0.toArray.size by rw [zl.out,List.size_toArray,OL0.out])
 have h1O:=hid (show(oc0.toArray.all fun x=>x.oneCell')=true by rw [hoc0];exact all_oneCell_toArray (fun u hu=>by rcases List.mem_cons.1 hu with rfl|hu;rfl;rcases List.mem_cons.1 hu with rfl|hu;rfl;exact nums_oneCell _ _ u hu))
 have hiA:=hid (show(Tryz.prog.info? 43).map (·.size)=some (nums .u8 an).length from by rw [nums_length,ANL.out];kernel_rfl)
 rw [← hoc]
 clear h hn hoc hzo A2 hN hpa hpc hcn han hoc0
 go_enter Tryz.func32,Tryz.ntmps32
 go_upto_region 1 with(fail)
 generalize (w.alloc (.cells oc.toArray 66)).alloc (.cells zo 96)=w1 at *
 have c0:=gen_cell (j:=0) (row_range HA.out) OCS.out.1
 have ra:=gen_range (row_range HA.out) 2 32
 rw [OCS.out.2.2] at ra
 go_upto_region 2 with(first|with_reducible refine wpList_load_mid rfl _ _ rfl w.heap.size 2 rfl (nums .u8 an) _ ra Tryz.underlying43 rfl hiA.out ?_|refine wpList_build2o rfl _ _ _ rfl BO.out rfl rfl ?_|(refine wpList_store_row rfl _ _ _ rfl w1.heap.size oc0.toArray rfl rfl _ _ (heap_alloc_new _ _) hiOa.out hoO.out h1O.out ?_;refine laidW (F:=fun w3=>wpList _ _ _ _ _ w3) ?_;intro w3 h3 b3))
 have HA3:=hid (heap_keep HA.out b3.out)
 have HR3:=hid (heap_keep HR.out b3.out)
 have B3:=hid (B1.out.trans (b3.out.mono B1.out.size))
 have W1:=hid (show w.heap.size+1<w1.heap.size from(Array.getElem?_eq_some_iff.1 HR.out).1)
 have W3:=hid (show w1.heap.size<w3.heap.size from(Array.getElem?_eq_some_iff.1 h3.out).1)
 have c1:=gen_cell (j:=1) (row_range HA3.out) OCS.out.2.1
 have H3:=hid (show w3.heap[w1.heap.size]? = some (.cells (Value.int .u64 (cn:Int)::Value.slice none 0 0::nums .u8 an).toArray 96 (0,0)) from by have:=h3.out;rw [OC0.out] at this;exact this)
 clear c0 ra h3 b3 HA HR
 go_upto_region 3 with(fail)
 clear c1
 go_loopw [14] (fun x14 wr=>∃(k:Nat) (vp:Value),k≤N∧x14 = .int .i64 (k:Int)∧wr.heap[w1.heap.size]? = some (.cells (Value.int .u64 (cn:Int)::vp::nums .u8 an).toArray 96 (0,0))∧wr.ownsRow w3.heap.size 152 98 vp k ((o.paths.take k).flatMap PathD.cells)∧Keep (fun i=>i=w1.heap.size) w3 wr) (fun x14 _=>N - (intOf x14).toNat)
 case atStart=>exact⟨0,_,Nat.zero_le _,rfl,H3.out,⟨by simp,.inl ⟨rfl,rfl⟩⟩,Keep.refl _ _⟩
 case round=>
  obtain⟨k,vp,hk,rfl,hr,ho,hb⟩:=hrel
  obtain⟨wo,rfl⟩:∃wo,wo=wr:=⟨_,rfl⟩
  have RO:=hid hr
  have OW:=hid ho
  have KB:=hid hb
  have BW:=hid (show Below w.heap.size w wo from B3.out.trans (hb.below (B:=w.heap.size) (fun i e=>by have:=W1.out;omega) B3.out.size))
  have WO:=hid (show w3.heap.size≤wo.heap.size from hb.size)
  clear hr ho hb
  by_cases hlk:k<N
  case neg=>
   obtain rfl:k=N:=by omega
   have u1:decide (k<k)=false:=decide_eq_false (by omega)
   have u2:decide ((k:Int)<(k:Int))=false:=decide_eq_false (by omega)
   obtain⟨a5,c5,hvp,_⟩:=Rd.of_owns OW.out
   obtain⟨xc,hxc⟩:∃xc,xc=Value.int .u64 (cn:Int)::vp::nums .u8 an:=⟨_,rfl⟩
   have rX:=row_range RO.out
   rw [← hxc] at rX
   have XE:=hid (show xc=(o.at' a5 c5).cells by rw [hxc,hvp,CA.out.1,CA.out.2,NN.out];rfl)
   have XL:=hid (show xc.length=34 by rw [hxc,List.length_cons,List.length_cons,nums_length,ANL.out])
   have hiX:=hid (show(Tryz.prog.info? 96).map (·.size)=some xc.length by rw [XL.out];kernel_rfl)
   have hiXa:=hid (show(Tryz.prog.info? 96).map (·.size)=some xc.toArray.size by rw [List.size_toArray];exact hiX.out)
   have hoX:=hid (show zo.size=xc.toArray.size by rw [zl.out,List.size_toArray,XL.out])
   have h1X:=hid (show(xc.toArray.all fun x=>x.oneCell')=true by rw [XE.out];exact all_oneCell_toArray (OutD.one _))
   have HR5:=hid (KB.out.heap HR3.out (by have:=W1.out;omega))
   have VP:=hid hvp
   clear hk hlk hxc hvp
   go_upto_region 7 with(fail)
   go_wp2_with (first|with_reducible refine wpList_load_mid rfl _ _ rfl w1.heap.size 0 rfl xc _ rX Tryz.underlying96 rfl hiX.out ?_|with_reducible refine wpList_store_row rfl _ _ _ rfl (w.heap.size+1) xc.toArray rfl rfl _ _ HR5.out hiXa.out hoX.out h1X.out ?_)
   refine bodyPost_ret (results_cellH rfl _ _ (w.heap.size+1) _ xc.toArray _ _ rfl (setRow_heap _ _ _ _ _ _ HR5.out) Tryz.underlying96 rfl hiXa.out) rfl ?_
   have KF:=Keep.far' (far_row wo (w.heap.size+1) xc.toArray)
   have w1s:=W1.out
   have w3s:=W3.out
   have own:=KF.own OW.out (fun g' hg' e=>by have:=(OW.out.lt _ hg').1;omega)
   rw [VP.out,NN.out,List.take_length] at own
   refine⟨a5,c5,by rw [XE.out],⟨G.out.coins,G.out.anchor,?_,G.out.ok⟩,own_mono own (by omega),below_setRow BW.out (by omega) _⟩
   obtain⟨a',c',e',rd⟩:=Rd.of_owns own
   simp only [Value.slice.injEq] at e'
   obtain⟨rfl,_,rfl⟩:=e'
   exact rd
  have u1:decide (k<N)=true:=decide_eq_true hlk
  have u2:decide ((k:Int)<(N:Int))=true:=decide_eq_true (by omega)
  have u6:(k:Int)<(N:Int):=by omega
  have u7:¬ ((N:Int)≤(k:Int)):=by omega
  have u8':¬ (N≤k):=by omega
  obtain⟨p,hp⟩:∃p,o.paths[k]? = some p:=⟨_,List.getElem?_eq_getElem (by rw [← NN.out];exact hlk)⟩
  have pok:=hid (G.out.ok p (List.mem_of_getElem? hp))
  obtain⟨b2,off2,e2,rg2⟩:=rd_row (pathsOne G.out) PP.out hp hlk
  have rgq:=range_keep BW.out rg2
  obtain⟨pcs,hpcs⟩:∃pcs,pcs=p.cells:=⟨_,rfl⟩
  have PCL:=hid (show pcs.length=98 by rw [hpcs];exact PathD.len pok.out)
  rw [← hpcs] at rgq
  have hiP:=hid (show(Tryz.prog.info? 121).map (·.size)=some pcs.length by rw [PCL.out];kernel_rfl)
  have hiPa:=hid (show(Tryz.prog.info? 121).map (·.size)=some pcs.toArray.size by rw [List.size_toArray,PCL.out];kernel_rfl)
  have hoP:=hid (show 98=pcs.toArray.size by rw [List.size_toArray,PCL.out])
  have h17:=hid (show(pcs.toArray.all fun x=>x.oneCell')=true by rw [hpcs];exact all_oneCell_toArray (PathD.one p))
  obtain⟨wt,hwt⟩:∃wt,wt=p.wait:=⟨_,rfl⟩
  obtain⟨tl,htl⟩:∃tl,tl=p.till:=⟨_,rfl⟩
  obtain⟨q1,hq1⟩:∃q,q=p.own:=⟨_,rfl⟩
  obtain⟨q2,hq2⟩:∃q,q=p.also:=⟨_,rfl⟩
  obtain⟨q3,hq3⟩:∃q,q=p.lock:=⟨_,rfl⟩
  have QL:=hid (show q1.length=32∧q2.length=32∧q3.length=32 by rw [hq1,hq2,hq3];exact⟨pok.out.own.1,pok.out.also.1,pok.out.lock.1⟩)
  have PC:=hid (show(pcs[96]? = some (.int .i64 wt)∧pcs[97]? = some (.int .i64 tl))∧(pcs.drop 0).take 32=nums .u8 q1∧(pcs.drop 32).take 32=nums .u8 q2∧(pcs.drop 64).take 32=nums .u8 q3 from by
   rw [hpcs,hwt,htl,hq1,hq2,hq3];exact⟨⟨PathD.c96 pok.out,PathD.c97 pok.out⟩,PathD.p0 pok.out,PathD.p1 pok.out,PathD.p2 pok.out⟩)
  have BP:=hid (show Tryz.prog.built 152 [(0,.agg (nums .u8 q1).toArray),(1,.agg (nums .u8 q2).toArray),(2,.agg (nums .u8 q3).toArray),(3,.int .i64 wt),(4,.int .i64 tl)]=some pcs.toArray from by
   rw [brPth q1 q2 q3 wt tl QL.out.1 QL.out.2.1 QL.out.2.2,hpcs,hwt,htl,hq1,hq2,hq3])
  have hi1:=hid (show(Tryz.prog.info? 43).map (·.size)=some (nums .u8 q1).length from by rw [nums_length,QL.out.1];kernel_rfl)
  have hi2:=hid (show(Tryz.prog.info? 43).map (·.size)=some (nums .u8 q2).length from by rw [nums_length,QL.out.2.1];kernel_rfl)
  have hi3:=hid (show(Tryz.prog.info? 43).map (·.size)=some (nums .u8 q3).length from by rw [nums_length,QL.out.2.2];kernel_rfl)
  have PL:=hid (show pcs.toArray.size=98 by rw [List.size_toArray,PCL.out])
  have ONE:=hid (show pcs.toArray.toList.all Value.oneCell'=true from by rw [hpcs];exact List.all_eq_true.2 (PathD.one _))
  have hPi:=hid (show(Tryz.prog.info? 152).map (·.size)=some 98 by kernel_rfl)
  have hPz:=hid (show((Tryz.prog.info? 152).bind (·.zero)).isSome=true by kernel_rfl)
  obtain⟨k1,hk1⟩:∃k1,k1=k+1:=⟨_,rfl⟩
  have r4:IntKind.i64.wrap ((k:Int)+1)=(k1:Int):=by have:=HN.out;have:=NN.out;rw [IntKind.wrap_i64];omega
  have K1:=hid (And.intro hk1 hlk)
  have HP:=hid hp
  have PCE:=hid hpcs
  subst e2
  clear hk hlk hp rg2 hpcs hwt htl hq1 hq2 hq3 hk1
  go_upto_region 5 with(first|with_reducible refine wpList_load_mid rfl _ _ rfl b2 (off2+k*98) rfl pcs _ rgq Tryz.underlying121 rfl hiP.out ?_|(refine wpList_store_row rfl _ _ _ rfl wo.heap.size pcs.toArray rfl rfl _ _ (heap_alloc_new _ _) hiPa.out hoP.out h17.out ?_;refine laidW (F:=fun w3=>wpList _ _ _ _ _ w3) ?_;intro w9 h9 b9))
  have RO9:=hid (heap_keep RO.out b9.out)
  have OW9:=hid (ownKB OW.out b9.out)
  have c1:=gen_cell (j:=1) (row_range RO9.out) (v:=vp) rfl
  have p0:=gen_range (row_range h9.out) 0 32
  have p1:=gen_range (row_range h9.out) 32 32
  have p2:=gen_range (row_range h9.out) 64 32
  rw [PC.out.2.1] at p0
  rw [PC.out.2.2.1] at p1
  rw [PC.out.2.2.2] at p2
  have c96:=gen_cell (j:=96) (row_range h9.out) PC.out.1.1
  have c97:=gen_cell (j:=97) (row_range h9.out) PC.out.1.2
  have W9:=hid (show w3.heap.size≤w9.heap.size from Nat.le_trans WO.out b9.out.size)
  have NO:=hid (show ¬ vp.ownBlock=some w1.heap.size from fun e=>by have:=(OW.out.lt _ e).1;have:=W3.out;omega)
  clear u1 u2 u6 u7 u8' rgq
  go_wp2_with (first|with_reducible refine wpList_load_mid rfl _ _ rfl wo.heap.size 0 rfl (nums .u8 q1) _ p0 Tryz.underlying43 rfl hi1.out ?_|with_reducible refine wpList_load_mid rfl _ _ rfl wo.heap.size 32 rfl (nums .u8 q2) _ p1 Tryz.underlying43 rfl hi2.out ?_|with_reducible refine wpList_load_mid rfl _ _ rfl wo.heap.size 64 rfl (nums .u8 q3) _ p2 Tryz.underlying43 rfl hi3.out ?_|refine wpList_build5 rfl _ _ _ _ _ _ rfl BP.out rfl rfl rfl rfl rfl ?_|with_reducible refine wpList_lit1 rfl _ _ _ rfl rfl Tryz.underlying94 hPi.out hPz.out PL.out (by decide) (by decide) ?_|(at_builtin;refine wpList_pushK rfl _ _ 94 rfl tyRPath w3.heap.size OW9.out rfl rfl PL.out ONE.out (by have:=K1.out;have:=HN.out;have:=NN.out;omega) (by decide) W9.out ?_;intro v7 w7 own7 k7 nb7;obtain⟨a7,q7,rfl,_⟩:=Rd.of_owns own7;have O7:=hid own7;have K7:=hid k7;have T7:=hid (k7.heap RO9.out NO.out);have c7:=gen_cell (j:=1) (row_range T7.out) rfl;have z7:w7.frozen? ⟨w1.heap.size,1,none⟩=false:=frozen_of_row _ _ _ _ _ T7.out;clear own7 k7 nb7))
  go_roundw
  case rel=>
   have FT:Far w1.heap.size w7 (w7.setCell ⟨w1.heap.size,1,none⟩ (.slice a7 (k+1) q7)):=Far.set _
   have w3s:=W3.out
   have own7:=(Keep.far' FT).own O7.out (fun g' hg' e=>by have:=(O7.out.lt _ hg').1;omega)
   refine⟨k1,.slice a7 (k+1) q7,by have:=K1.out;omega,rfl,heap_set (i:=1) _ T7.out,?_,?_⟩
   ·rw [K1.out.1,List.take_add_one,HP.out,List.flatMap_append]
    have e:(some p).toList.flatMap PathD.cells=pcs.toArray.toList:=by rw [PCE.out];simp
    rw [e]
    exact own7
   ·exact((KB.out.then (Keep.of b9.out (S:=fun _=>False)) (fun i hi e=>e.elim)).then K7.out (fun i hi e=>by have:=(OW.out.lt _ e).1;omega)).then (Keep.far' FT) (fun i hi e=>e)
  case measure=>simp [intOf];have:=K1.out;omega
end Go.Proofs.YtnbmpgballopeaaGreatDoor

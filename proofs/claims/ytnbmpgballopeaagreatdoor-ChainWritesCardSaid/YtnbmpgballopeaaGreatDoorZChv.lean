/- The chain's outs: outputs as bytes. -/
import Derived.Test.YtnbmpgballopeaaGreatDoorZStr
import Derived.Test.YtnbmpgballopeaaGreatDoorZPick
namespace Go.Proofs.YtnbmpgballopeaaGreatDoor
open Go.RowKit
def pathB(p:PathD):List Nat:=p.own++(p.also++(p.lock++(f4 p.wait++f4 p.till)))
def outB(o:OutD):List Nat:=f4 ((o.coins / 4294967296:Nat):Int)++(f4 (IntKind.i64.wrap (o.coins:Int))++(o.anchor++(o.paths.length::o.paths.flatMap pathB)))
theorem pathB_len{p:PathD}(h:p.ok):(pathB p).length=104:=by simp [pathB,h.own.1,h.also.1,h.lock.1,f4_len]
theorem pathsB_len:∀ {ps:List PathD},(∀p∈ps,p.ok)→(ps.flatMap pathB).length=104*ps.length
 | [],_=>rfl
 | p::r,h=>by
  rw [List.flatMap_cons,List.length_append,pathB_len (h p (by simp)),pathsB_len (fun q hq=>h q (by simp [hq])),List.length_cons];omega
theorem outB_len{o:OutD}(ha:o.anchor.length=32)(h:∀p∈o.paths,p.ok):(outB o).length=41+104*o.paths.length:=by
 unfold outB
 simp only [List.length_append,List.length_cons,f4_len,ha,pathsB_len h];omega
theorem outsB_len:∀ {os:List OutD},(∀o∈os,o.anchor.length=32∧(∀p∈o.paths,p.ok)∧o.paths.length≤4)→(os.flatMap outB).length≤457*os.length
 | [],_=>by simp
 | o::r,h=>by
  have h1:=h o (by simp)
  rw [List.flatMap_cons,List.length_append,outB_len h1.1 h1.2.1,List.length_cons]
  have:=outsB_len (os:=r) (fun q hq=>h q (by simp [hq]))
  have:=h1.2.2
  omega
def Grow(w:World)(v:Value)(w':World)(v':Value):Prop:=Keep (fun i=>v.ownBlock=some i) w w'∧(v'.ownBlock=v.ownBlock ∨ ∀g,v'.ownBlock=some g→w.heap.size≤g)
theorem Grow.refl(w:World)(v:Value):Grow w v w v:=⟨Keep.refl _ _,.inl rfl⟩
theorem Grow.step{w w4 w5:World}{v v4 v5:Value}(g:Grow w v w4 v4)(k:Keep (fun i=>v4.ownBlock=some i) w4 w5)(n:v5.ownBlock=v4.ownBlock ∨ ∀g,v5.ownBlock=some g→w4.heap.size≤g):Grow w v w5 v5:=by
 refine⟨g.1.then k (fun i hi e=>?_),?_⟩
 ·rcases g.2 with h|h
  ·rw [← h];exact e
  ·have:=h i e;omega
 ·rcases n with h|h
  ·rcases g.2 with h'|h'
   ·exact .inl (h.trans h')
   ·exact .inr (fun x hx=>h' x (h ▸ hx))
  ·exact .inr (fun x hx=>Nat.le_trans g.1.size (h x hx))
theorem Grow.below{w w4 w5:World}{v v4:Value}(g:Grow w v w4 v4)(b:Below w4.heap.size w4 w5):Grow w v w5 v4:=g.step (Keep.of b) (.inl rfl)
theorem Grow.heap{w w':World}{v v':Value}(g:Grow w v w' v'){V:Nat}{x:Obj}(h:w.heap[V]? = some x)(hn:v.ownBlock≠some V):w'.heap[V]? = some x:=g.1.heap h hn
theorem Grow.low{w w':World}{v v':Value}(g:Grow w v w' v'){B:Nat}(hv:∀i,v.ownBlock=some i→B≤i)(hB:B≤w.heap.size):Below B w w':=g.1.below hv hB
theorem Grow.cat{w w4 w5:World}{v v4 v5:Value}(g:Grow w v w4 v4)(h:w4.grownBy w5 v4.ownBlock)(n:v5.ownBlock=v4.ownBlock∨v5.ownBlock=some w4.heap.size):Grow w v w5 v5:=
 g.step (Keep.grown h (fun _ e=>e)) (n.elim .inl (fun e=>.inr (fun x hx=>by rw [e] at hx;cases hx;exact Nat.le_refl _)))
theorem Grow.push{w w4 w5:World}{v v4 v5:Value}(g:Grow w v w4 v4)(h:Keep (fun i=>v4.ownBlock=some i) w4 w5)(n:v5.ownBlock=v4.ownBlock∨v5.ownBlock=some (w4.heap.size+1)):Grow w v w5 v5:=
 g.step h (n.elim .inl (fun e=>.inr (fun x hx=>by rw [e] at hx;cases hx;omega)))
theorem Grow.trans{w w4 w5:World}{v v4 v5:Value}(g:Grow w v w4 v4)(h:Grow w4 v4 w5 v5):Grow w v w5 v5:=g.step h.1 h.2
theorem sl_in{w:World}{V k:Nat}{t:TypeId}{L:List Value}{xs:List Nat}(h:w.heap[V]? = some (.cells L.toArray t (0,0)))(hx:H32b xs)(he:(L.drop k).take 32=nums .u8 xs):Rd w 1 (some ⟨V,k,none⟩) 32 32 (nums .u8 xs):=
 ⟨by rw [nums_length,hx.1],Nat.le_refl _,(show(32:Nat)≤maxLen by decide),(fun e=>nomatch e),V,k,fun _=>rfl,fun j u hu=>by
  have:=gen_range (row_range h) k 32
  rw [he] at this
  exact this j u hu⟩
theorem OutD.anc{o:OutD}(h:H32b o.anchor):(o.cells.drop 2).take 32=nums .u8 o.anchor:=by
 unfold OutD.cells
 simp only [List.drop_succ_cons,List.drop_zero]
 exact List.take_of_length_le (by rw [nums_length,h.1];exact Nat.le_refl _)
theorem PathD.p0{p:PathD}(h:p.ok):(p.cells.drop 0).take 32=nums .u8 p.own:=by
 unfold PathD.cells
 rw [List.drop_zero,List.take_left' (by rw [nums_length,h.own.1])]
theorem PathD.p1{p:PathD}(h:p.ok):(p.cells.drop 32).take 32=nums .u8 p.also:=by
 unfold PathD.cells
 rw [List.drop_left' (by rw [nums_length,h.own.1]),List.take_left' (by rw [nums_length,h.also.1])]
theorem PathD.p2{p:PathD}(h:p.ok):(p.cells.drop 64).take 32=nums .u8 p.lock:=by
 unfold PathD.cells
 rw [← List.append_assoc,List.drop_left' (by rw [List.length_append,nums_length,nums_length,h.own.1,h.also.1]),List.take_left' (by rw [nums_length,h.lock.1])]
def OutsR(w:World)(bs:List Nat)(e:Ending)(w':World):Prop:=∃v,e = .returned v∧w'.ownsRow w.heap.size 5 1 v bs.length (nums .u8 bs)∧Below w.heap.size w w'
set_option maxRecDepth 100000 in
set_option maxHeartbeats 8000000 in
theorem couts_walk(oa:Option Addr)(M oc:Nat)(os:List OutD)(w:World)(hM:M=os.length)(h:Rd w 34 oa M oc (os.flatMap OutD.cells))(hg:∀o∈os,o.good w)(h4:∀o∈os,o.paths.length≤4)(h256:M≤256):
  Calls Tryz.prog 28 #[.slice oa M oc] w (OutsR w (os.flatMap outB)):=by
 have PO:=hid h
 have HM:=hid hM
 have HG:=hid hg
 have H4:=hid h4
 have NB:=hid h256
 have TOT:=hid (show ∀k,((os.take k).flatMap outB).length≤457*256 from fun k=>by
  have:=outsB_len (os:=os.take k) (fun o ho=>⟨(hg o (List.mem_of_mem_take ho)).anchor.1,(hg o (List.mem_of_mem_take ho)).ok,h4 o (List.mem_of_mem_take ho)⟩)
  rw [List.length_take] at this
  omega)
 clear h hM hg h4 h256
 go_enter Tryz.func28,Tryz.ntmps28
 go_upto_region 3 with(fail)
 go_loopw [3,10] (fun x3 x10 wr=>∃(k:Nat) (v3:Value),v3=x3∧k≤M∧x10 = .int .i64 (k:Int)∧wr.ownsRow w.heap.size 5 1 v3 ((os.take k).flatMap outB).length (nums .u8 ((os.take k).flatMap outB))∧Below w.heap.size w wr) (fun _ x10 _=>M - (intOf x10).toNat)
 case atStart=>exact⟨0,_,rfl,Nat.zero_le _,rfl,⟨by simp,.inl ⟨rfl,rfl⟩⟩,Below.refl _ _⟩
 case round=>
  obtain⟨k,v3,hv3,hk,rfl,ho,hb⟩:=hrel
  obtain⟨wo,rfl⟩:∃wo,wo=wr:=⟨_,rfl⟩
  subst hv3
  have BR:=hid hb
  have OW:=hid ho
  clear hb ho
  by_cases hlk:k<M
  case neg=>
   obtain rfl:k=M:=by omega
   have u1:decide (k<k)=false:=decide_eq_false (by omega)
   have u2:decide ((k:Int)<(k:Int))=false:=decide_eq_false (by omega)
   clear hk hlk
   go_wp2_with (fail)
   go_ret
   have o:=OW.out
   rw [HM.out,List.take_length] at o
   exact⟨_,rfl,o,BR.out⟩
  have u1:decide (k<M)=true:=decide_eq_true hlk
  have u2:decide ((k:Int)<(M:Int))=true:=decide_eq_true (by omega)
  have u6:(k:Int)<(M:Int):=by omega
  have u7:¬ ((M:Int)≤(k:Int)):=by omega
  have u8':¬ (M≤k):=by omega
  obtain⟨o,ho⟩:∃o,os[k]? = some o:=⟨_,List.getElem?_eq_getElem (by rw [← HM.out];exact hlk)⟩
  have og:=HG.out o (List.mem_of_getElem? ho)
  have op4:=hid (H4.out o (List.mem_of_getElem? ho))
  obtain⟨b,off,rfl,rg⟩:=rd_row (fun z hz=>OutD.len (HG.out z hz)) PO.out ho hlk
  have rgr:=range_keep BR.out rg
  obtain⟨ocs,hocs⟩:∃ocs,ocs=o.cells:=⟨_,rfl⟩
  have OL:=hid (show ocs.length=34 by rw [hocs];exact OutD.len og)
  rw [← hocs] at rgr
  have hiC:=hid (show(Tryz.prog.info? 66).map (·.size)=some ocs.length by rw [OL.out];kernel_rfl)
  have hiCa:=hid (show(Tryz.prog.info? 66).map (·.size)=some ocs.toArray.size by rw [List.size_toArray,OL.out];kernel_rfl)
  have hoC:=hid (show 34=ocs.toArray.size by rw [List.size_toArray,OL.out])
  have h16:=hid (show(ocs.toArray.all fun x=>x.oneCell')=true by rw [hocs];exact all_oneCell_toArray (OutD.one o))
  obtain⟨k1n,hk1⟩:∃k1n,k1n=k+1:=⟨_,rfl⟩
  have r4:IntKind.i64.wrap ((k:Int)+1)=(k1n:Int):=by have:=NB.out;rw [IntKind.wrap_i64];omega
  have I1:=hid (And.intro hk1 hlk)
  have HO:=hid ho
  have OG:=hid (og.below BR.out)
  obtain⟨cn,hcn⟩:∃cn,cn=o.coins:=⟨_,rfl⟩
  obtain⟨hi,hhi⟩:∃hi,hi=cn / 4294967296:=⟨_,rfl⟩
  obtain⟨lo,hlo⟩:∃lo,lo=IntKind.i64.wrap (cn:Int):=⟨_,rfl⟩
  obtain⟨pl,hpl⟩:∃pl,pl=o.paths.length:=⟨_,rfl⟩
  obtain⟨pa,hpa⟩:∃pa,pa=o.pa:=⟨_,rfl⟩
  obtain⟨pc,hpc⟩:∃pc,pc=o.pc:=⟨_,rfl⟩
  have OCS:=hid (show ocs[0]? = some (.int .u64 (cn:Int))∧ocs[1]? = some (.slice pa pl pc)∧(ocs.drop 2).take 32=nums .u8 o.anchor from by rw [hocs,hcn,hpl,hpa,hpc];exact⟨rfl,rfl,OutD.anc og.anchor⟩)
  have r1:(cn:Int) / 4294967296=(hi:Int):=by omega
  have r2:IntKind.i64.wrap (hi:Int)=(hi:Int):=by have:=og.coins;rw [IntKind.wrap_i64];omega
  have r3:IntKind.i64.wrap (cn:Int)=lo:=hlo.symm
  have r5:IntKind.u8.wrap (pl:Int)=(pl:Int):=by have:=op4.out;rw [IntKind.wrap_u8];omega
  have OB:=hid (show outB o=f4 (hi:Int)++(f4 lo++(o.anchor++(pl::o.paths.flatMap pathB))) from by unfold outB;rw [hhi,hlo,hpl,hcn])
  have PL:=hid (show pl≤4∧pl=o.paths.length from⟨by rw [hpl];exact op4.out,hpl⟩)
  have PA:=hid hpa
  clear hk hlk ho og rg hk1 hocs hcn hhi hlo hpl op4 hpa hpc
  go_upto_region 5 with(first|with_reducible refine wpList_load_mid rfl _ _ rfl b (off+k*34) rfl ocs _ rgr Tryz.underlying66 rfl hiC.out ?_|(refine wpList_store_row rfl _ _ _ rfl wo.heap.size ocs.toArray rfl rfl _ _ (heap_alloc_new _ _) hiCa.out hoC.out h16.out ?_;refine laidW (F:=fun w3=>wpList _ _ _ _ _ w3) ?_;intro w3 h3 b3))
  have OW3:=hid (ownKB OW.out b3.out)
  have hnV:=hid (show v3.ownBlock≠some wo.heap.size from fun e=>by have:=(OW.out.lt _ e).2;omega)
  have low3:=hid (show ∀i,v3.ownBlock=some i→w.heap.size≤i from fun i e=>(OW.out.lt _ e).1)
  have WL3:=hid (show w.heap.size≤w3.heap.size from Nat.le_trans BR.out.size b3.out.size)
  have B3:=hid (BR.out.trans (b3.out.mono BR.out.size))
  obtain⟨bs0,hbs0⟩:∃bs0,bs0=(os.take k).flatMap outB:=⟨_,rfl⟩
  obtain⟨n0,hn0⟩:∃n0,n0=bs0.length:=⟨_,rfl⟩
  rw [← hbs0,← hn0] at OW3
  have BS0:=hid (And.intro hbs0 hn0)
  have N0:=hid (show n0≤116992 by rw [hn0,hbs0];exact TOT.out k)
  have cc0:=hid (gen_cell (j:=0) (row_range h3.out) OCS.out.1)
  clear u1 u2 u6 u7 u8' rgr hbs0 hn0 OW
  refine wp_region_held_drew (S:=fun w'=>w'.cell? ⟨wo.heap.size,0,none⟩=some (.int .u64 (cn:Int))) (by kernel_rfl) (cc0.out) (fun hHeld=>?_)
  try simp only [List.size_toArray,List.length_cons,List.length_nil,Nat.reduceAdd,Array.replicate_succ,Array.replicate_zero,List.push_toArray,List.nil_append,List.cons_append]
  refine tkH (i:=0) (oi:=⟨_,.move (.tmp 3),_,_,_,_⟩) (v:=?v1001) rfl (yi ?y1001) hHeld ?_
  case y1001=>(intro w _;go_simp;(try with_reducible rfl))
  (try simp only [Act.put,s0,s1,s2])
  refine tkH (i:=1) (oi:=⟨_,.fieldAddr 66 (.tmp 5) 0,_,_,_,_⟩) (v:=?v1002) rfl (yi ?y1002) hHeld ?_
  case y1002=>(intro w _;go_simp;(try with_reducible rfl))
  (try simp only [Act.put,s0,s1,s2])
  refine tkH (i:=2) (oi:=⟨_,.load 63 (.tmp 15),_,_,_,_⟩) (v:=(.int .u64 (cn:Int))) rfl (Or.inl ⟨by rfl,fun w h=>by have c9:=h;go_simp⟩) hHeld ?_
  (try simp only [Act.put,s0,s1,s2])
  refine tkH (i:=3) (oi:=⟨_,.binOp .shr 63 (.tmp 16) (.const (.int .u64 32)) 149,_,_,_,_⟩) (v:=?v1003) rfl (yi ?y1003) hHeld ?_
  case y1003=>(intro w _;go_simp;(try with_reducible rfl))
  (try simp only [Act.put,s0,s1,s2])
  refine tkH (i:=4) (oi:=⟨_,.convert 63 3 (.tmp 17),_,_,_,_⟩) (v:=?v1004) rfl (yi ?y1004) hHeld ?_
  case y1004=>(intro w _;go_simp;(try with_reducible rfl))
  (try simp only [Act.put,s0,s1,s2])
  refine tkH (i:=6) (oi:=⟨_,.fieldAddr 66 (.tmp 5) 0,_,_,_,_⟩) (v:=?v1005) rfl (yi ?y1005) hHeld ?_
  case y1005=>(intro w _;go_simp;(try with_reducible rfl))
  (try simp only [Act.put,s0,s1,s2])
  refine tkH (i:=7) (oi:=⟨_,.load 63 (.tmp 20),_,_,_,_⟩) (v:=(.int .u64 (cn:Int))) rfl (Or.inl ⟨by rfl,fun w h=>by have c9:=h;go_simp⟩) hHeld ?_
  (try simp only [Act.put,s0,s1,s2])
  refine tkH (i:=8) (oi:=⟨_,.convert 63 3 (.tmp 21),_,_,_,_⟩) (v:=?v1006) rfl (yi ?y1006) hHeld ?_
  case y1006=>(intro w _;go_simp;(try with_reducible rfl))
  (try simp only [Act.put,s0,s1,s2])
  refine wpAnyH_ready (rs:=[5]) (by kernel_rfl) (by simp) ?_
  refine AllReadyH.cons (o:=⟨_,.call ⟨.value (.func 48),#[.tmp 14,.tmp 18],#[28,3]⟩,_,_,_,_⟩) rfl (fun K hK=>?_) ?_
  go_simp;refine(cfour_walk w.heap.size v3 n0 bs0 (hi:Int) _ (ownKB OW3.out (Below.refl _ _).drew) WL3.out (by have:=N0.out;omega)).mono ?_;rintro e w4 ⟨v4,rfl,o4,k4,n4⟩;have O4:=hid o4;have G4:=hid (show Grow w3 v3 w4 v4 from((Grow.refl w3 v3).below (Below.refl _ _).drew).step k4 n4);clear o4 k4 n4
  refine hK.out _ _ (G4.out.1.cell cc0.out hnV.out) (fun hHeld=>?_)
  clear hK K
  (try simp only [s0,s1,s2])
  refine wpAnyH_ready (rs:=[9]) (by kernel_rfl) (by simp) ?_
  refine AllReadyH.cons (o:=⟨_,.call ⟨.value (.func 48),#[.tmp 19,.tmp 22],#[28,3]⟩,_,_,_,_⟩) rfl (fun K hK=>?_) ?_
  go_simp;refine(cfour_walk w.heap.size v4 _ _ lo _ O4.out (Nat.le_trans WL3.out G4.out.1.size) (by have:=N0.out;rw [f4_len];omega)).mono ?_;rintro e w5 ⟨v5,rfl,o5,k5,n5⟩;have O5:=hid o5;have G5:=hid (show Grow w3 v3 w5 v5 from G4.out.step k5 n5);clear o5 k5 n5
  refine hK.out _ _ (G5.out.1.cell cc0.out hnV.out) (fun hHeld=>?_)
  clear hK K
  (try simp only [s0,s1,s2])
  refine tkH (i:=10) (oi:=⟨_,.assign (.tmp 23),_,_,_,_⟩) (v:=?v1007) rfl (yi ?y1007) hHeld ?_
  case y1007=>(intro w _;go_simp;(try with_reducible rfl))
  (try simp only [Act.put,s0,s1,s2])
  refine wpAnyH_done (by kernel_rfl) ?_ _
  rotate_left
  exact AllReadyH.nil
  exact AllReadyH.nil
  clear hHeld
  go_upto_region 6 with(fail)
  have H5:=hid (G5.out.heap h3.out hnV.out)
  have SA:=hid (sl_in H5.out OG.out.anchor OCS.out.2.2)
  go_upto_region 7 with(at_builtin;refine wpList_when (by rfl) (fun K hK=>wp_cat _ _ 28 rfl tyBy w.heap.size O5.out rfl rfl SA.out (nums_oneCell _ _) (by have:=N0.out;simp only [f4_len];omega) (by have:=N0.out;simp only [f4_len];unfold maxLen;omega) (Nat.le_trans WL3.out G5.out.1.size) (fun v6 w6 own6 g6 nb6=>hK _ _ ?_));clear hK K;have O6:=hid own6;have G6:=hid (G5.out.cat g6 nb6);clear own6 g6 nb6)
  have H6:=hid (G6.out.heap h3.out hnV.out)
  have c1:=gen_cell (j:=1) (row_range H6.out) OCS.out.2.1
  go_upto_region 8 with(at_builtin;refine wpList_pushK rfl _ _ 28 rfl tyBy w.heap.size O6.out rfl rfl rfl rfl (by have:=N0.out;simp only [f4_len];omega) (by decide) (Nat.le_trans WL3.out G6.out.1.size) ?_;intro v7 w7 own7 k7 nb7;have O7:=hid own7;have G7:=hid (G6.out.push k7 nb7);clear own7 k7 nb7)
  obtain⟨bs1,hbs1⟩:∃bs1,bs1=bs0++(f4 (hi:Int)++(f4 lo++(o.anchor++[pl]))):=⟨_,rfl⟩
  obtain⟨n1,hn1⟩:∃n1,n1=n0+41:=⟨_,rfl⟩
  have O8:=hid (show w7.ownsRow w.heap.size 5 1 v7 n1 (nums .u8 bs1) from by
   have e:n0+(f4 (hi:Int)).length+(f4 lo).length+32+1=n1:=by rw [hn1,f4_len,f4_len]
   have e2:nums .u8 (bs0++f4 (hi:Int)++f4 lo)++nums .u8 o.anchor++(#[Value.int .u8 (pl:Int)]:Array Value).toList=nums .u8 bs1:=by
    rw [hbs1];simp [nums]
   have o7:=O7.out
   rw [e2] at o7
   rw [← e]
   exact o7)
  have B1S:=hid (And.intro hbs1 hn1)
  have H7:=hid (G7.out.heap h3.out hnV.out)
  have c1b:=gen_cell (j:=1) (row_range H7.out) OCS.out.2.1
  clear c1 O4 O5 O6 O7 G4 G5 G6 H5 H6 SA hbs1 hn1 cc0
  go_upto_region 9 with(fail)
  go_loopw [3,38] (fun x3 x38 wr=>∃(j:Nat) (v8:Value),v8=x3∧j≤pl∧x38 = .int .i64 (j:Int)∧wr.ownsRow w.heap.size 5 1 v8 (n1+104*j) (nums .u8 (bs1++(o.paths.take j).flatMap pathB))∧Grow w3 v3 wr v8) (fun _ x38 _=>pl - (intOf x38).toNat)
  case atStart=>exact⟨0,_,rfl,Nat.zero_le _,rfl,by simpa using O8.out,G7.out⟩
  case round=>
   obtain⟨j,v8,hv8,hj,rfl,hq,hgq⟩:=hrel
   subst hv8
   have OQ:=hid hq
   have GQ:=hid hgq
   have BWr:=hid (show Below w.heap.size w wr from B3.out.trans (hgq.low low3.out WL3.out))
   clear hq hgq
   by_cases hlj:j<pl
   case neg=>
    obtain rfl:j=pl:=by omega
    have u1:decide (j<j)=false:=decide_eq_false (by omega)
    have u2:decide ((j:Int)<(j:Int))=false:=decide_eq_false (by omega)
    clear hj hlj
    go_wp2_with (fail)
    go_roundw
    case rel=>
     have e:bs1++(o.paths.take j).flatMap pathB=(os.take k1n).flatMap outB:=by
      rw [I1.out.1,List.take_add_one,HO.out,List.flatMap_append,← BS0.out.1,B1S.out.1,PL.out.2,List.take_length]
      simp [OB.out,PL.out.2]
     have q:=OQ.out
     have hl:=q.1
     rw [nums_length,Nat.mul_one] at hl
     rw [← hl,e] at q
     exact⟨k1n,_,rfl,by have:=I1.out;omega,rfl,q,BWr.out⟩
    case measure=>simp [intOf];have:=I1.out;omega
   have u1:decide (j<pl)=true:=decide_eq_true hlj
   have u2:decide ((j:Int)<(pl:Int))=true:=decide_eq_true (by omega)
   have u6:(j:Int)<(pl:Int):=by omega
   have u7:¬ ((pl:Int)≤(j:Int)):=by omega
   have u8':¬ (pl≤j):=by omega
   obtain⟨p,hp⟩:∃p,o.paths[j]? = some p:=⟨_,List.getElem?_eq_getElem (by rw [← PL.out.2];exact hlj)⟩
   have ogw:=HG.out o (List.mem_of_getElem? HO.out)
   have pok:=hid (ogw.ok p (List.mem_of_getElem? hp))
   obtain⟨b2,off2,e2,rg2⟩:=rd_row (pathsOne ogw) ogw.paths hp (by rw [← PL.out.2];exact hlj)
   have rgq:=range_keep BWr.out rg2
   have e3:=PA.out.trans e2
   obtain⟨pcs,hpcs⟩:∃pcs,pcs=p.cells:=⟨_,rfl⟩
   have PCL:=hid (show pcs.length=98 by rw [hpcs];exact PathD.len pok.out)
   rw [← hpcs] at rgq
   have hiP:=hid (show(Tryz.prog.info? 121).map (·.size)=some pcs.length by rw [PCL.out];kernel_rfl)
   have hiPa:=hid (show(Tryz.prog.info? 121).map (·.size)=some pcs.toArray.size by rw [List.size_toArray,PCL.out];kernel_rfl)
   have hoP:=hid (show 98=pcs.toArray.size by rw [List.size_toArray,PCL.out])
   have h17:=hid (show(pcs.toArray.all fun x=>x.oneCell')=true by rw [hpcs];exact all_oneCell_toArray (PathD.one p))
   obtain⟨wt,hwt⟩:∃wt,wt=p.wait:=⟨_,rfl⟩
   obtain⟨tl,htl⟩:∃tl,tl=p.till:=⟨_,rfl⟩
   have PC:=hid (show(pcs[96]? = some (.int .i64 wt)∧pcs[97]? = some (.int .i64 tl))∧(pcs.drop 0).take 32=nums .u8 p.own∧(pcs.drop 32).take 32=nums .u8 p.also∧(pcs.drop 64).take 32=nums .u8 p.lock from by
    rw [hpcs,hwt,htl];exact⟨⟨PathD.c96 pok.out,PathD.c97 pok.out⟩,PathD.p0 pok.out,PathD.p1 pok.out,PathD.p2 pok.out⟩)
   have PB:=hid (show pathB p=p.own++(p.also++(p.lock++(f4 wt++f4 tl))) from by rw [hwt,htl];rfl)
   obtain⟨j1,hj1⟩:∃j1,j1=j+1:=⟨_,rfl⟩
   have r9:IntKind.i64.wrap ((j:Int)+1)=(j1:Int):=by have:=PL.out;rw [IntKind.wrap_i64];omega
   have J1:=hid (And.intro hj1 hlj)
   have HPj:=hid hp
   have WLr:=hid (show w.heap.size≤wr.heap.size from BWr.out.size)
   subst e3
   clear hj hlj hp ogw rg2 hpcs hwt htl hj1 e2
   go_upto_region 11 with(first|with_reducible refine wpList_load_mid rfl _ _ rfl b2 (off2+j*98) rfl pcs _ rgq Tryz.underlying121 rfl hiP.out ?_|(refine wpList_store_row rfl _ _ _ rfl wr.heap.size pcs.toArray rfl rfl _ _ (heap_alloc_new _ _) hiPa.out hoP.out h17.out ?_;refine laidW (F:=fun w3=>wpList _ _ _ _ _ w3) ?_;intro w9 h9 b9))
   have OQ9:=hid (ownKB OQ.out b9.out)
   have hnQ:=hid (show v8.ownBlock≠some wr.heap.size from fun e=>by have:=(OQ.out.lt _ e).2;omega)
   have W9:=hid (show w.heap.size≤w9.heap.size from Nat.le_trans WLr.out b9.out.size)
   have NQ:=hid (show n1+104*j≤200000 by have:=N0.out;have:=B1S.out.2;have:=PL.out;have:=J1.out;omega)
   have SL1:=hid (sl_in h9.out pok.out.own PC.out.2.1)
   clear u1 u2 u6 u7 u8' rgq
   refine wp_region_held_drew (S:=fun _=>True) (by kernel_rfl) (trivial) (fun hHeld=>?_)
   try simp only [List.size_toArray,List.length_cons,List.length_nil,Nat.reduceAdd,Array.replicate_succ,Array.replicate_zero,List.push_toArray,List.nil_append,List.cons_append]
   refine tkH (i:=0) (oi:=⟨_,.move (.tmp 3),_,_,_,_⟩) (v:=?v2001) rfl (yi ?y2001) hHeld ?_
   case y2001=>(intro w _;go_simp;(try with_reducible rfl))
   (try simp only [Act.put,s0,s1,s2])
   refine tkH (i:=1) (oi:=⟨_,.fieldAddr 121 (.tmp 7) 0,_,_,_,_⟩) (v:=?v2002) rfl (yi ?y2002) hHeld ?_
   case y2002=>(intro w _;go_simp;(try with_reducible rfl))
   (try simp only [Act.put,s0,s1,s2])
   refine tkH (i:=2) (oi:=⟨_,.slice 43 (.tmp 43) none none none,_,_,_,_⟩) (v:=?v2003) rfl (yi ?y2003) hHeld ?_
   case y2003=>(intro w _;go_simp;(try with_reducible rfl))
   (try simp only [Act.put,s0,s1,s2])
   refine tkH (i:=4) (oi:=⟨_,.fieldAddr 121 (.tmp 7) 1,_,_,_,_⟩) (v:=?v2004) rfl (yi ?y2004) hHeld ?_
   case y2004=>(intro w _;go_simp;(try with_reducible rfl))
   (try simp only [Act.put,s0,s1,s2])
   refine tkH (i:=5) (oi:=⟨_,.slice 43 (.tmp 46) none none none,_,_,_,_⟩) (v:=?v2005) rfl (yi ?y2005) hHeld ?_
   case y2005=>(intro w _;go_simp;(try with_reducible rfl))
   (try simp only [Act.put,s0,s1,s2])
   refine tkH (i:=7) (oi:=⟨_,.fieldAddr 121 (.tmp 7) 2,_,_,_,_⟩) (v:=?v2006) rfl (yi ?y2006) hHeld ?_
   case y2006=>(intro w _;go_simp;(try with_reducible rfl))
   (try simp only [Act.put,s0,s1,s2])
   refine tkH (i:=8) (oi:=⟨_,.slice 43 (.tmp 49) none none none,_,_,_,_⟩) (v:=?v2007) rfl (yi ?y2007) hHeld ?_
   case y2007=>(intro w _;go_simp;(try with_reducible rfl))
   (try simp only [Act.put,s0,s1,s2])
   refine wpAnyH_ready (rs:=[3]) (by kernel_rfl) (by simp) ?_
   refine AllReadyH.cons (o:=⟨_,.call ⟨.builtin .append,#[.tmp 42,.tmp 44],#[28,28]⟩,_,_,_,_⟩) rfl (fun K hK=>?_) ?_
   rw [if_pos (by rfl)];refine wp_cat _ _ 28 rfl tyBy w.heap.size (ownKB OQ9.out (Below.refl _ _).drew) rfl rfl (SL1.out.below (Below.refl _ _).drew) (nums_oneCell _ _) (by have:=NQ.out;omega) (by have:=NQ.out;unfold maxLen;omega) W9.out ?_;intro va wa owna ga nba;have OA:=hid owna;have GA:=hid (((Grow.refl w9 v8).below (Below.refl _ _).drew).cat ga nba);have SL2:=hid (sl_in (GA.out.heap h9.out hnQ.out) pok.out.also PC.out.2.2.1);clear owna ga nba
   refine hK.out _ _ (trivial) (fun hHeld=>?_)
   clear hK K
   (try simp only [s0,s1,s2])
   refine wpAnyH_ready (rs:=[6]) (by kernel_rfl) (by simp) ?_
   refine AllReadyH.cons (o:=⟨_,.call ⟨.builtin .append,#[.tmp 45,.tmp 47],#[28,28]⟩,_,_,_,_⟩) rfl (fun K hK=>?_) ?_
   rw [if_pos (by rfl)];refine wp_cat _ _ 28 rfl tyBy w.heap.size OA.out rfl rfl SL2.out (nums_oneCell _ _) (by have:=NQ.out;omega) (by have:=NQ.out;unfold maxLen;omega) (Nat.le_trans W9.out GA.out.1.size) ?_;intro vb wb ownb gb nbb;have OB2:=hid ownb;have GB:=hid (GA.out.cat gb nbb);have SL3:=hid (sl_in (GB.out.heap h9.out hnQ.out) pok.out.lock PC.out.2.2.2);clear ownb gb nbb
   refine hK.out _ _ (trivial) (fun hHeld=>?_)
   clear hK K
   (try simp only [s0,s1,s2])
   refine wpAnyH_ready (rs:=[9]) (by kernel_rfl) (by simp) ?_
   refine AllReadyH.cons (o:=⟨_,.call ⟨.builtin .append,#[.tmp 48,.tmp 50],#[28,28]⟩,_,_,_,_⟩) rfl (fun K hK=>?_) ?_
   rw [if_pos (by rfl)];refine wp_cat _ _ 28 rfl tyBy w.heap.size OB2.out rfl rfl SL3.out (nums_oneCell _ _) (by have:=NQ.out;omega) (by have:=NQ.out;unfold maxLen;omega) (Nat.le_trans W9.out GB.out.1.size) ?_;intro vc wc ownc gc nbc;have OC:=hid ownc;have GC:=hid (GB.out.cat gc nbc);clear ownc gc nbc
   refine hK.out _ _ (trivial) (fun hHeld=>?_)
   clear hK K
   (try simp only [s0,s1,s2])
   refine tkH (i:=10) (oi:=⟨_,.assign (.tmp 51),_,_,_,_⟩) (v:=?v2008) rfl (yi ?y2008) hHeld ?_
   case y2008=>(intro w _;go_simp;(try with_reducible rfl))
   (try simp only [Act.put,s0,s1,s2])
   refine wpAnyH_done (by kernel_rfl) ?_ _
   rotate_left
   exact AllReadyH.nil
   exact AllReadyH.nil
   exact AllReadyH.nil
   clear hHeld SL1 SL2 SL3
   go_upto_region 12 with(fail)
   have c96:=hid (gen_cell (j:=96) (row_range (GC.out.heap h9.out hnQ.out)) PC.out.1.1)
   have c97:=hid (gen_cell (j:=97) (row_range (GC.out.heap h9.out hnQ.out)) PC.out.1.2)
   have OCx:=hid (show wc.drew.ownsRow w.heap.size 5 1 vc (n1+104*j+32+32+32) (nums .u8 (bs1++(o.paths.take j).flatMap pathB++p.own++p.also++p.lock)) from by
    have e:nums .u8 (bs1++(o.paths.take j).flatMap pathB)++nums .u8 p.own++nums .u8 p.also++nums .u8 p.lock=nums .u8 (bs1++(o.paths.take j).flatMap pathB++p.own++p.also++p.lock):=by simp [nums]
    rw [← e];exact ownKB OC.out (Below.refl _ _).drew)
   refine wp_region_held_drew (S:=fun w'=>w'.cell? ⟨wr.heap.size,96,none⟩=some (.int .i64 wt)∧w'.cell? ⟨wr.heap.size,97,none⟩=some (.int .i64 tl)) (by kernel_rfl) (⟨c96.out,c97.out⟩) (fun hHeld=>?_)
   try simp only [List.size_toArray,List.length_cons,List.length_nil,Nat.reduceAdd,Array.replicate_succ,Array.replicate_zero,List.push_toArray,List.nil_append,List.cons_append]
   refine tkH (i:=0) (oi:=⟨_,.move (.tmp 3),_,_,_,_⟩) (v:=?v3001) rfl (yi ?y3001) hHeld ?_
   case y3001=>(intro w _;go_simp;(try with_reducible rfl))
   (try simp only [Act.put,s0,s1,s2])
   refine tkH (i:=1) (oi:=⟨_,.fieldAddr 121 (.tmp 7) 3,_,_,_,_⟩) (v:=?v3002) rfl (yi ?y3002) hHeld ?_
   case y3002=>(intro w _;go_simp;(try with_reducible rfl))
   (try simp only [Act.put,s0,s1,s2])
   refine tkH (i:=2) (oi:=⟨_,.load 3 (.tmp 53),_,_,_,_⟩) (v:=(.int .i64 wt)) rfl (Or.inl ⟨by rfl,fun w h=>by have c9:=h.1;go_simp⟩) hHeld ?_
   (try simp only [Act.put,s0,s1,s2])
   refine tkH (i:=4) (oi:=⟨_,.fieldAddr 121 (.tmp 7) 4,_,_,_,_⟩) (v:=?v3003) rfl (yi ?y3003) hHeld ?_
   case y3003=>(intro w _;go_simp;(try with_reducible rfl))
   (try simp only [Act.put,s0,s1,s2])
   refine tkH (i:=5) (oi:=⟨_,.load 3 (.tmp 56),_,_,_,_⟩) (v:=(.int .i64 tl)) rfl (Or.inl ⟨by rfl,fun w h=>by have c9:=h.2;go_simp⟩) hHeld ?_
   (try simp only [Act.put,s0,s1,s2])
   refine wpAnyH_ready (rs:=[3]) (by kernel_rfl) (by simp) ?_
   refine AllReadyH.cons (o:=⟨_,.call ⟨.value (.func 48),#[.tmp 52,.tmp 54],#[28,3]⟩,_,_,_,_⟩) rfl (fun K hK=>?_) ?_
   go_simp;refine(cfour_walk w.heap.size vc (n1+104*j+32+32+32) _ wt _ OCx.out (Nat.le_trans W9.out GC.out.1.size) (by have:=NQ.out;omega)).mono ?_;rintro e wd ⟨vd,rfl,od,kd,nd⟩;have OD:=hid od;have KD:=hid (show vc.ownBlock≠some wr.heap.size from fun e=>by rcases GC.out.2 with h|h;exact hnQ.out (h ▸ e);(have h5:=h _ e;have h6:=(Array.getElem?_eq_some_iff.1 h9.out).1;omega));have KE:=hid kd;have GD:=hid ((GC.out.below (Below.refl _ _).drew).step kd nd);clear od kd nd
   refine hK.out _ _ (⟨KE.out.cell hHeld.1 KD.out,KE.out.cell hHeld.2 KD.out⟩) (fun hHeld=>?_)
   clear hK K
   (try simp only [s0,s1,s2])
   refine wpAnyH_ready (rs:=[6]) (by kernel_rfl) (by simp) ?_
   refine AllReadyH.cons (o:=⟨_,.call ⟨.value (.func 48),#[.tmp 55,.tmp 57],#[28,3]⟩,_,_,_,_⟩) rfl (fun K hK=>?_) ?_
   go_simp;refine(cfour_walk w.heap.size vd _ _ tl _ OD.out (Nat.le_trans W9.out GD.out.1.size) (by have:=NQ.out;rw [f4_len];omega)).mono ?_;rintro e we ⟨ve,rfl,oe,ke,ne⟩;have OE:=hid oe;have GE:=hid (GD.out.step ke ne);clear oe ke ne
   refine hK.out _ _ (⟨gen_cell (j:=96) (row_range (GE.out.heap h9.out hnQ.out)) PC.out.1.1,gen_cell (j:=97) (row_range (GE.out.heap h9.out hnQ.out)) PC.out.1.2⟩) (fun hHeld=>?_)
   clear hK K
   (try simp only [s0,s1,s2])
   refine tkH (i:=7) (oi:=⟨_,.assign (.tmp 58),_,_,_,_⟩) (v:=?v3004) rfl (yi ?y3004) hHeld ?_
   case y3004=>(intro w _;go_simp;(try with_reducible rfl))
   (try simp only [Act.put,s0,s1,s2])
   refine wpAnyH_done (by kernel_rfl) ?_ _
   rotate_left
   exact AllReadyH.nil
   exact AllReadyH.nil
   have FIN:=hid (show we.ownsRow w.heap.size 5 1 ve (n1+104*j1) (nums .u8 (bs1++(o.paths.take j1).flatMap pathB)) from by
    have oe:=OE.out
    have e2:bs1++(o.paths.take j1).flatMap pathB=bs1++(o.paths.take j).flatMap pathB++p.own++p.also++p.lock++f4 wt++f4 tl:=by
     rw [J1.out.1,List.take_add_one,HPj.out,List.flatMap_append]
     simp [PB.out]
    rw [e2]
    have e3:n1+104*j+32+32+32+(f4 wt).length+(f4 tl).length=n1+104*j1:=by rw [f4_len,f4_len,J1.out.1];omega
    rw [← e3]
    exact oe)
   have GF:=hid ((GQ.out.below b9.out).trans GE.out)
   clear hHeld OA OB2 OC OCx OD OE GA GB GC GD GE KD KE c96 c97
   go_wp2_with (fail)
   go_roundw
   case rel=>exact⟨j1,ve,rfl,by have:=J1.out;omega,rfl,FIN.out,GF.out⟩
   case measure=>simp [intOf];have:=J1.out;omega
end Go.Proofs.YtnbmpgballopeaaGreatDoor

/- The chain's Send, where nothing waits yet, for a transaction of one input and one output. -/
import Derived.Test.YtnbmpgballopeaaGreatDoorZChr
import Derived.Test.YtnbmpgballopeaaGreatDoorZGve
namespace Go.Proofs.YtnbmpgballopeaaGreatDoor
open Go.RowKit
theorem tyTx:SliceTy Tryz.prog 135 25 2 48 (.agg #[.slice none 0 0,.slice none 0 0]):=.mk' Tryz.underlying135 (by kernel_rfl) (by decide) (by decide)
def putL:List Value→Nat→List Value→List Value
 | xs,_,[]=>xs
 | xs,o,v::r=>putL (xs.set o v) (o+1) r
theorem own_putL{B:Nat}{e:TypeId}{size g n c:Nat}:∀(vs:List Value) (o:Nat) (w:World) (xs:List Value),w.ownsRow B e size (.slice (some ⟨g,0,none⟩) n c) n xs→(w.setCells g o vs).ownsRow B e size (.slice (some ⟨g,0,none⟩) n c) n (putL xs o vs)
 | [],_,_,_,h=>h
 | v::r,o,_,_,h=>own_putL r (o+1) _ _ (h.stored o v).1
theorem putL_whole:∀(vs A B:List Value),B.length=vs.length→putL (A++B) A.length vs=A++vs
 | [],A,B,h=>by
  have hb:B=[]:=List.eq_nil_of_length_eq_zero (by simpa using h)
  subst hb
  simp [putL]
 | v::r,A,[],h=>by simp at h
 | v::r,A,b::B,h=>by
  rw [putL]
  have e:(A++b::B).set A.length v=(A++[v])++B:=by simp
  rw [e,show A.length+1=(A++[v]).length by simp,putL_whole r (A++[v]) B (by simpa using h)]
  simp
theorem own_whole{B:Nat}{e:TypeId}{size g n c:Nat}{w:World}{xs ys:List Value}(h:w.ownsRow B e size (.slice (some ⟨g,0,none⟩) n c) n xs)(hl:xs.length=ys.length):(w.setCells g 0 ys).ownsRow B e size (.slice (some ⟨g,0,none⟩) n c) n ys:=by
 have:=own_putL ys 0 w xs h
 rwa [show putL xs 0 ys=ys from by have:=putL_whole ys [] xs hl;simpa using this] at this
theorem own_there{B:Nat}{e:TypeId}{size g n c:Nat}{w:World}{xs:List Value}(h:w.ownsRow B e size (.slice (some ⟨g,0,none⟩) n c) n xs):w.there g 0 (n*size):=by
 rcases h.2 with⟨hv,_⟩|⟨g',cap,cur,e',_,hg,hn,hm,hs,_⟩
 ·cases hv
 ·simp only [Value.slice.injEq,Option.some.injEq,Addr.mk.injEq,and_true,true_and] at e'
  obtain⟨rfl,rfl⟩:=e'
  exact tag_there hg (by rw [hs];simpa using Nat.mul_le_mul_right _ hn)
theorem own_base{B:Nat}{e:TypeId}{size n c:Nat}{a:Option Addr}{w:World}{xs:List Value}(h:w.ownsRow B e size (.slice a n c) n xs)(hn:0<n):∃g,a=some ⟨g,0,none⟩∧B≤g:=by
 rcases h.2 with⟨hv,hx⟩|⟨g,cap,cur,e',hb,_⟩
 ·simp only [Value.slice.injEq] at hv
  omega
 ·simp only [Value.slice.injEq] at e'
  exact⟨g,e'.1,hb⟩
theorem own_range{B:Nat}{e:TypeId}{size g n c:Nat}{w:World}{xs:List Value}(h:w.ownsRow B e size (.slice (some ⟨g,0,none⟩) n c) n xs):w.rangeAt g 0 xs:=fun j v hj=>by
 have:=h.cells (g:=g) rfl j v hj
 have hadd:(⟨g,0,none⟩:Addr).add j=⟨g,j,none⟩:=by unfold Addr.add;split <;> simp_all
 rw [hadd] at this
 rw [Nat.zero_add]
 exact this
structure PoolAt (w:World) (B:Nat) (P:Value) (t:TxD):Prop where
 ex:∃g k,P = .slice (some ⟨g,0,none⟩) 1 k∧Rd w 2 (some ⟨g,0,none⟩) 1 k t.cells∧B≤g
 good:t.good w
 ia:∀ad,t.ia=some ad→B≤ad.block
 oa:∀ad,t.oa=some ad→B≤ad.block
 off:∀o∈t.outs,o.off B
theorem OutD.good.keepN'{S:Nat→Prop}{w w':World}{o:OutD}(h:o.good w)(k:Keep S w w')(ho:∀ad,o.pa=some ad → ¬ S ad.block):o.good w':=
 ⟨h.coins,h.anchor,h.paths.keep k ho,h.ok⟩
theorem TxD.good.keepN{S:Nat→Prop}{w w':World}{t:TxD}(h:t.good w)(k:Keep S w w')(h1:∀ad,t.ia=some ad → ¬ S ad.block)(h2:∀ad,t.oa=some ad → ¬ S ad.block)(h3:∀o∈t.outs,∀ad,o.pa=some ad → ¬ S ad.block):t.good w':=
 ⟨h.ins.keep k h1,h.iok,h.outs.keep k h2,fun o ho=>⟨(h.ook o ho).coins,(h.ook o ho).anchor,(h.ook o ho).paths.keep k (h3 o ho),(h.ook o ho).ok⟩⟩
theorem PoolAt.keep{S:Nat→Prop}{w w':World}{B:Nat}{P:Value}{t:TxD}(h:PoolAt w B P t)(k:Keep S w w')(hS:∀i,S i→i<B):PoolAt w' B P t:=by
 have q:∀i,B≤i → ¬ S i:=fun i hi hs=>by have:=hS i hs;omega
 obtain⟨g,c,e,hr,hb⟩:=h.ex
 exact⟨⟨g,c,e,hr.keep k (fun ad ha=>by cases ha;exact q _ hb),hb⟩,h.good.keepN k (fun ad ha=>q _ (h.ia ad ha)) (fun ad ha=>q _ (h.oa ad ha)) (fun o ho ad ha=>q _ (h.off o ho ad ha)),h.ia,h.oa,h.off⟩
theorem PoolAt.below{w w':World}{B:Nat}{P:Value}{t:TxD}(h:PoolAt w B P t)(b:Below w.heap.size w w'):PoolAt w' B P t:=by
 obtain⟨g,c,e,hr,hb⟩:=h.ex
 exact⟨⟨g,c,e,hr.below b,hb⟩,h.good.below b,h.ia,h.oa,h.off⟩
theorem Led.try_walk{w:World}{A B ob mb hm dm wm sm cb c:Nat}{ht gf:Int}{P:Value}{HM:HM'}{SM:SM'}{M:EM}(h:Led w A B ob mb hm dm wm sm cb ht gf P HM SM M c)(t:TxD)(hg:t.good w)(hP:∀x∈t.ins,easyIn HM M (idB t) x):
  Calls Tryz.prog 52 #[.pointer (some ⟨cb,0,none⟩),.agg t.cells.toArray] w fun e w'=>e = .returned (.int .i64 (tryC HM SM M ht t:Int))∧Below w.heap.size w w':=by
 obtain⟨nh,_,mh⟩:=h.held
 obtain⟨ns,_,ms⟩:=h.spent
 obtain⟨no,_,mo⟩:=h.off
 exact ctry_walk h.ch HM mh (fun p x hx=>⟨(h.hk p x hx).1,(h.hk p x hx).2.2⟩) SM ms h.sk M mo h.hb t hg hP h.tabs
def SndJ(L:Nat)(wr:World)(o:OutD)(j:Nat)(p:OutD):Prop:=(j=0∧p=o)∨(j=1 ∧ ∃a k,p=o.at' a k∧p.good wr∧p.off L)
set_option maxRecDepth 100000 in
set_option maxHeartbeats 16000000 in
theorem csend_ok{w:World}{A B ob mb hm dm wm sm cb c:Nat}{ht gf:Int}{HM:HM'}{SM:SM'}{M:EM}(h:Led w A B ob mb hm dm wm sm cb ht gf (.slice none 0 0) HM SM M c)(t:TxD)(hg:t.good w)(hP:∀x∈t.ins,easyIn HM M (idB t) x)(x:InD)(o:OutD)(hx:t.ins=[x])(ho:t.outs=[o])(h4:o.paths.length≤4)
  (hcd:tryC HM SM M ht t=0∨tryC HM SM M ht t=33):
  Calls Tryz.prog 22 #[.pointer (some ⟨cb,0,none⟩),.agg t.cells.toArray] w fun e w'=>e = .returned (.int .i64 0) ∧ ∃ia ic oa oc a k P,PoolAt w' w.heap.size P ⟨ia,ic,[x],oa,oc,[o.at' a k]⟩∧Led w' A B ob mb hm dm wm sm cb ht gf P HM SM M c∧Keep (fun i=>i=cb) w w':=by
 obtain⟨tc,htc⟩:∃tc,tc=t.cells:=⟨_,rfl⟩
 have TL:=hid (show tc.length=2 by rw [htc];rfl)
 have HA:=hid (heap_alloc_new w (.cells tc.toArray 25))
 have B1:=hid ((Below.refl w.heap.size w).alloc (Nat.le_refl _) (.cells tc.toArray 25))
 have TR:=fun(wx:World) (bx:Below w.heap.size w wx)=>hid (show Calls Tryz.prog 52 #[.pointer (some ⟨cb,0,none⟩),.agg tc.toArray] wx _ from by rw [htc];exact(h.below bx).try_walk t (hg.below bx) hP)
 have CI:=fun(wx:World) (bx:Below w.heap.size w wx)=>hid (show Calls Tryz.prog 12 #[.agg tc.toArray] wx _ from by rw [htc];exact cid_walk t wx (hg.below bx) (h.tabs.below bx))
 have hiT:=hid (show(Tryz.prog.info? 25).map (·.size)=some tc.length by rw [TL.out];kernel_rfl)
 obtain⟨cd,hce⟩:∃cd,cd=tryC HM SM M ht t:=⟨_,rfl⟩
 rw [← hce] at TR hcd
 have H:=hid h
 have H4:=hid h4
 obtain⟨ia,hia⟩:∃ia,ia=t.ia:=⟨_,rfl⟩
 obtain⟨ic,hic⟩:∃ic,ic=t.ic:=⟨_,rfl⟩
 obtain⟨oa,hoa⟩:∃oa,oa=t.oa:=⟨_,rfl⟩
 obtain⟨oc,hoc⟩:∃oc,oc=t.oc:=⟨_,rfl⟩
 have PI:=hid (show Rd w 130 ia 1 ic ([x].flatMap InD.cells) by rw [hia,hic,← hx];have:=hg.ins;rw [hx] at this ⊢;exact this)
 have PO:=hid (show Rd w 34 oa 1 oc ([o].flatMap OutD.cells) by rw [hoa,hoc,← ho];have:=hg.outs;rw [ho] at this ⊢;exact this)
 have TCE:=hid (show tc=[.slice ia 1 ic,.slice oa 1 oc] by rw [htc];unfold TxD.cells;rw [hia,hic,hoa,hoc,hx,ho];rfl)
 have xok:=hid (show x.ok from hg.iok x (by rw [hx];simp))
 have og:=hid (show o.good w from hg.ook o (by rw [ho];simp))
 have OD:=hid h.ord
 have LE:=hid h.le
 rw [← htc]
 clear h hg hP hx ho h4 htc hia hic hoa hoc hce
 go_enter Tryz.func22,Tryz.ntmps22
 go_upto_region 1 with(fail)
 generalize w.alloc (.cells tc.toArray 25)=w1 at *
 have rT:=row_range HA.out
 go_wp2_with (with_reducible refine wpList_load_mid rfl _ _ rfl w.heap.size 0 rfl tc _ rT Tryz.underlying25 rfl hiT.out ?_)
 refine(TR w1 B1.out).out.mono ?_
 rintro e w2 ⟨rfl,b2⟩
 have B2:=hid (show Below w.heap.size w w2 from B1.out.trans (b2.mono B1.out.size))
 have HA2:=hid (heap_keep HA.out b2)
 clear b2 rT
 go_upto_region 2 with(fail)
 rename_i K aK
 have MID:∀(u5 u12 u13 u14 u15 u16 u17:Value),K ⟨List.toArray (.pointer (some ⟨cb,0,none⟩) :: .agg tc.toArray::undef :: .pointer (some ⟨w.heap.size,0,none⟩) :: .int .i64 0::u5::undef::undef::undef::undef :: .pointer (some ⟨cb,0,none⟩) :: .agg tc.toArray::u12::u13::u14::u15::u16::u17 :: .bool false::undef::undef::undef::undef::undef::undef::undef::undef::undef::undef::undef::undef::undef::undef::undef::undef::undef::undef::undef::undef::undef::undef::undef::undef::undef::undef::undef::undef::undef::undef::undef::undef::undef::undef::undef::undef::undef::undef::undef::undef::undef::undef::undef::undef::undef::undef::undef::undef::undef::undef::undef::undef::undef::undef::undef::undef::undef::undef::[]),[]⟩ w2:=by
  intro u5 u12 u13 u14 u15 u16 u17
  refine aK _ _ ?_
  go_upto_region 4 with(fail)
  clear aK
  have rT2:=row_range HA2.out
  go_wp2_with (with_reducible refine wpList_load_mid rfl _ _ rfl w.heap.size 0 rfl tc _ rT2 Tryz.underlying25 rfl hiT.out ?_)
  refine(CI w2 B2.out).out.mono ?_
  rintro e w3 ⟨rfl,b3⟩
  obtain⟨id,hid'⟩:∃id,id=idB t:=⟨_,rfl⟩
  rw [← hid']
  have IDL:=hid (show id.length=32 by rw [hid'];exact(idB_ok t).1)
  have B3:=hid (show Below w.heap.size w w3 from B2.out.trans (b3.mono B2.out.size))
  have HA3:=hid (heap_keep HA2.out b3)
  have hiH:=hid (show(Tryz.prog.info? 43).map (·.size)=some (nums .u8 id).toArray.size by rw [List.size_toArray,nums_length,IDL.out];kernel_rfl)
  have hoH:=hid (show 32=(nums .u8 id).toArray.size by rw [List.size_toArray,nums_length,IDL.out])
  have h16:=hid (all_oneCell_toArray (nums_oneCell .u8 id))
  clear b3 rT2 hid'
  go_upto_region 5 with(refine wpList_store_row rfl _ _ _ rfl w3.heap.size (nums .u8 id).toArray rfl rfl _ _ (heap_alloc_new _ _) hiH.out hoH.out h16.out ?_;refine laidW (F:=fun w4=>wpList _ _ _ _ _ w4) ?_;intro w4 h4 b4)
  have B4:=hid (show Below w.heap.size w w4 from B3.out.trans (b4.out.mono B3.out.size))
  have HA4:=hid (heap_keep HA3.out b4.out)
  clear h4 b4
  have c6:=(H.out.below B4.out).ch.c6
  go_frame
  go_upto_region 6 with(fail)
  go_loopw [27] (fun x27 wr=>x27 = .int .i64 0∧wr=w4) (fun _ _=>0)
  case atStart=>exact⟨rfl,rfl⟩
  case round=>
   obtain⟨rfl,rfl⟩:=hrel
   have t1:decide ((0:Int)<0)=false:=by decide
   go_upto_region 13 with(fail)
   obtain⟨wo,rfl⟩:∃wo,wo=wr:=⟨_,rfl⟩
   have k0:wo.cell? ⟨w.heap.size,0,none⟩=some (.slice ia 1 ic):=gen_cell (j:=0) (row_range HA4.out) (by rw [TCE.out];rfl)
   have k1:wo.cell? ⟨w.heap.size,1,none⟩=some (.slice oa 1 oc):=gen_cell (j:=1) (row_range HA4.out) (by rw [TCE.out];rfl)
   have K0:=hid k0
   have K1:=hid k1
   have BX:=hid (show wo.heap[w.heap.size]? = some (.cells ([.slice ia 1 ic,.slice oa 1 oc]:List Value).toArray 25 (0,0)) from by rw [← TCE.out];exact HA4.out)
   have INS:=hid (show ∀u∈[x].flatMap InD.cells,u.oneCell'=true from fun u hu=>by simp at hu;exact InD.one x u hu)
   have OUS:=hid (show ∀u∈[o].flatMap OutD.cells,u.oneCell'=true from fun u hu=>by simp at hu;exact OutD.one o u hu)
   clear k0 k1 t1 c6
   refine wp_region_X (l:=7) (S:=fun b w'=>True∧(b=false→Below wo.heap.size wo w')) (by kernel_rfl) (⟨trivial,fun _=>(Below.refl _ _).drew⟩) (fun hHeld=>?_)
   try simp only [List.size_toArray,List.length_cons,List.length_nil,Nat.reduceAdd,Array.replicate_succ,Array.replicate_zero,List.push_toArray,List.nil_append,List.cons_append]
   refine tkE (i:=0) (oi:=⟨_,.fieldAddr 25 (.tmp 3) 0,_,_,_,_⟩) (v:=?v1001) rfl (yi ?y1001) hHeld ?_
   case y1001=>(intro w _;go_simp;(try with_reducible rfl))
   (try simp only [Act.put,s0,s1,s2])
   refine tkE (i:=1) (oi:=⟨_,.load 22 (.tmp 42),_,_,_,_⟩) (v:=(.slice ia 1 ic)) rfl (Or.inl ⟨by rfl,fun w h=>by have c9:=cell_keep (h.2 rfl) K0.out;go_simp⟩) hHeld ?_
   (try simp only [Act.put,s0,s1,s2])
   refine tkE (i:=3) (oi:=⟨_,.fieldAddr 25 (.tmp 3) 1,_,_,_,_⟩) (v:=?v1002) rfl (yi ?y1002) hHeld ?_
   case y1002=>(intro w _;go_simp;(try with_reducible rfl))
   (try simp only [Act.put,s0,s1,s2])
   refine tkE (i:=4) (oi:=⟨_,.load 23 (.tmp 45),_,_,_,_⟩) (v:=(.slice oa 1 oc)) rfl (Or.inl ⟨by rfl,fun w h=>by have c9:=cell_keep (h.2 rfl) K1.out;go_simp⟩) hHeld ?_
   (try simp only [Act.put,s0,s1,s2])
   refine wpAnyX_ready (rs:=[2]) (by kernel_rfl) (by simp) ?_
   refine AllReadyX.cons (o:=⟨_,.call ⟨.value (.func 53),#[.tmp 43],#[22]⟩,_,_,_,_⟩) rfl (b:=false) (by kernel_rfl) (fun K hK=>?_) ?_
   go_simp;refine(cloIn_walk ia 1 ic _ _ ((PI.out.below B4.out).below (hHeld.2 rfl)) INS.out (by decide)).mono ?_;rintro e w5 ⟨ia5,ic5,rfl,o5,b5⟩;have O5:=hid o5;have B5:=hid b5;clear o5 b5
   refine hK.out _ _ (⟨trivial,fun e=>(hHeld.2 e).trans (B5.out.mono (hHeld.2 e).size)⟩) (fun hHeld=>?_)
   clear hK K
   (try simp only [s0,s1,s2])
   refine tkE (i:=6) (oi:=⟨_,.fieldAddr 25 (.tmp 3) 0,_,_,_,_⟩) (v:=?v1003) rfl (yi ?y1003) hHeld ?_
   case y1003=>(intro w _;go_simp;(try with_reducible rfl))
   (try simp only [Act.put,s0,s1,s2])
   refine wpAnyX_ready (rs:=[5]) (by kernel_rfl) (by simp) ?_
   refine AllReadyX.cons (o:=⟨_,.call ⟨.value (.func 54),#[.tmp 46],#[23]⟩,_,_,_,_⟩) rfl (b:=false) (by kernel_rfl) (fun K hK=>?_) ?_
   go_simp;refine(cloOut_walk oa 1 oc _ _ ((PO.out.below B4.out).below (hHeld.2 rfl)) OUS.out (by decide)).mono ?_;rintro e w6 ⟨oa6,oc6,rfl,o6,b6⟩;have O6:=hid o6;have B6:=hid b6;clear o6 b6
   refine hK.out _ _ (⟨trivial,fun e=>(hHeld.2 e).trans (B6.out.mono (hHeld.2 e).size)⟩) (fun hHeld=>?_)
   clear hK K
   (try simp only [s0,s1,s2])
   refine wpAnyX_ready (rs:=[7]) (by kernel_rfl) (by simp) ?_
   refine AllReadyX.cons (o:=⟨_,.store 22 (.tmp 48) (.tmp 44),_,_,_,_⟩) rfl (b:=true) (by kernel_rfl) (fun K hK=>?_) ?_
   have BB:=hid (hHeld.2 rfl);have hC:=heap_keep BX.out BB.out;have c9:=gen_cell (j:=0) (row_range hC) rfl;have z9:w6.frozen? ⟨w.heap.size,0,none⟩=false:=frozen_of_row _ _ _ _ _ hC;go_simp;refine setW (L:=[.slice ia 1 ic,.slice oa 1 oc]) hC ?_;intro w7 h7 f7;have H7:=hid h7;have F7:=hid f7;clear h7 f7 hC c9 z9
   refine hK.out _ _ (⟨trivial,nofun⟩) (fun hHeld=>?_)
   clear hK K
   (try simp only [s0,s1,s2])
   refine tkA (i:=8) (oi:=⟨_,.fieldAddr 25 (.tmp 3) 1,_,_,_,_⟩) (v:=?v1004) (b:=true) rfl (yi ?y1004) hHeld ?_
   case y1004=>(intro w _;go_simp;(try with_reducible rfl))
   (try simp only [Act.put,s0,s1,s2])
   refine wpAnyX_ready (rs:=[9]) (by kernel_rfl) (by simp) ?_
   refine AllReadyX.cons (o:=⟨_,.store 23 (.tmp 49) (.tmp 47),_,_,_,_⟩) rfl (b:=true) (by kernel_rfl) (fun K hK=>?_) ?_
   have hC:=H7.out;have c9:=gen_cell (j:=1) (row_range hC) rfl;have z9:w7.frozen? ⟨w.heap.size,1,none⟩=false:=frozen_of_row _ _ _ _ _ hC;go_simp;refine setW (L:=[.slice ia5 1 ic5,.slice oa 1 oc]) hC ?_;intro w8 h8 f8;have H8:=hid h8;have F8:=hid f8;clear h8 f8 hC c9 z9
   refine hK.out _ _ (⟨trivial,nofun⟩) (fun hHeld=>?_)
   clear hK K
   (try simp only [s0,s1,s2])
   refine wpAnyX_done (by kernel_rfl) ?_ _
   rotate_left
   exact AllReadyX.nil
   exact AllReadyX.nil
   exact AllReadyX.nil
   exact AllReadyX.nil
   clear hHeld
   have W0:=hid (show w.heap.size<wo.heap.size from(Array.getElem?_eq_some_iff.1 HA4.out).1)
   have SZ5:=hid (show wo.heap.size≤w5.heap.size from B5.out.size)
   obtain⟨g6,rfl,lg6⟩:=own_base O6.out (by decide)
   have G6:=hid (show w5.heap.size≤g6 from lg6)
   obtain⟨g5,rfl,lg5⟩:=own_base O5.out (by decide)
   have G5:=hid (show wo.heap.size≤g5 from lg5)
   have L5:=hid (show g5<w5.heap.size from(O5.out.lt g5 rfl).2)
   have KB:=hid ((Keep.far' F7.out).trans (Keep.far' F8.out))
   have O6b:=hid (own_mono (KB.out.own O6.out (fun g hg e=>by have:=(O6.out.lt _ hg).1;have:=W0.out;have h6:w5.heap.size≤g:=(O6.out.lt _ hg).1;have:=SZ5.out;omega)) (show wo.heap.size≤w5.heap.size from SZ5.out))
   have O5b:=hid (KB.out.own (ownKB O5.out B6.out) (fun g hg e=>by have h6:wo.heap.size≤g:=(O5.out.lt _ hg).1;have:=W0.out;omega))
   have BW6:=hid (show Below w.heap.size w w6 from B4.out.trans (BB.out.mono B4.out.size))
   have BW8:=hid (show Below w.heap.size w w8 from BW6.out.trans (KB.out.below (fun i e=>by omega) BW6.out.size))
   have BX8:=hid (show w8.heap[w.heap.size]? = some (.cells ([.slice (some ⟨g5,0,none⟩) 1 ic5,.slice (some ⟨g6,0,none⟩) 1 oc6]:List Value).toArray 25 (0,0)) from H8.out)
   clear lg5 lg6
   have k1:=gen_cell (j:=1) (row_range BX8.out) rfl
   go_upto_region 15 with(fail)
   go_loopw [53] (fun x53 wq=>∃(j:Nat) (p:OutD),j≤1∧x53 = .int .i64 (j:Int)∧wq.ownsRow wo.heap.size 66 34 (.slice (some ⟨g6,0,none⟩) 1 oc6) 1 p.cells∧SndJ w.heap.size wq o j p∧Keep (fun i=>i=g6) w8 wq) (fun x53 _=>1 - (intOf x53).toNat)
   case atStart=>exact⟨0,o,by omega,rfl,by have:=O6b.out;simpa using this,.inl ⟨rfl,rfl⟩,Keep.refl _ _⟩
   case round=>
    obtain⟨j,p,hj,rfl,op,hJ,kq⟩:=hrel
    have OP:=hid op
    have SJ:=hid hJ
    have KQ:=hid kq
    clear op hJ kq
    by_cases hlt:j<1
    case neg=>
     obtain rfl:j=1:=by omega
     have t2:decide ((1:Int)<1)=false:=by decide
     clear hj hlt
     go_upto_region 19 with(fail)
     have BWr:=hid (show Below w.heap.size w wr from BW8.out.trans (KQ.out.below (fun i e=>by have:=G6.out;have:=W0.out;have:=SZ5.out;omega) BW8.out.size))
     have BXr:=hid (KQ.out.heap BX8.out (by have:=G6.out;have:=W0.out;have:=SZ5.out;show ¬ w.heap.size=g6;omega))
     have O5r:=hid (KQ.out.own O5b.out (fun g hg e=>by have:g=g5:=(Option.some.inj (show some g5=some g from hg)).symm;have:=L5.out;have:=G6.out;omega))
     have CHr:=hid (H.out.below BWr.out).ch
     have c6r:=hid CHr.out.c6
     obtain⟨tc2,htc2⟩:∃tc2,tc2=[Value.slice (some ⟨g5,0,none⟩) 1 ic5,.slice (some ⟨g6,0,none⟩) 1 oc6]:=⟨_,rfl⟩
     have TC2:=hid htc2
     rw [← htc2] at BXr
     have rB:=hid (row_range BXr.out)
     have hiT2:=hid (show(Tryz.prog.info? 25).map (·.size)=some tc2.length by rw [htc2];kernel_rfl)
     have hPi:=hid (show(Tryz.prog.info? 25).map (·.size)=some 2 by kernel_rfl)
     have hPz:=hid (show((Tryz.prog.info? 25).bind (·.zero)).isSome=true by kernel_rfl)
     have PL2:=hid (show tc2.toArray.size=2 by rw [htc2];rfl)
     have TLL:=hid (show tc2.length=2 by rw [htc2];rfl)
     have ONE2:=hid (show ∀u∈tc2,u.oneCell'=true by rw [htc2];intro u hu;simp only [List.mem_cons,List.not_mem_nil,or_false] at hu;rcases hu with rfl|rfl <;> rfl)
     clear htc2 t2
     refine wp_region_X (l:=10) (S:=fun b w'=>True∧(b=false→Below wr.heap.size wr w')) (by kernel_rfl) (⟨trivial,fun _=>(Below.refl _ _).drew⟩) (fun hHeld=>?_)
     try simp only [List.size_toArray,List.length_cons,List.length_nil,Nat.reduceAdd,Array.replicate_succ,Array.replicate_zero,List.push_toArray,List.nil_append,List.cons_append]
     refine tkE (i:=0) (oi:=⟨_,.move (.tmp 0),_,_,_,_⟩) (v:=?v2001) rfl (yi ?y2001) hHeld ?_
     case y2001=>(intro w _;go_simp;(try with_reducible rfl))
     (try simp only [Act.put,s0,s1,s2])
     refine tkE (i:=1) (oi:=⟨_,.move (.tmp 0),_,_,_,_⟩) (v:=?v2002) rfl (yi ?y2002) hHeld ?_
     case y2002=>(intro w _;go_simp;(try with_reducible rfl))
     (try simp only [Act.put,s0,s1,s2])
     refine tkE (i:=2) (oi:=⟨_,.nilCheck (.tmp 68),_,_,_,_⟩) (v:=?v2003) rfl (yi ?y2003) hHeld ?_
     case y2003=>(intro w _;go_simp;(try with_reducible rfl))
     (try simp only [Act.put,s0,s1,s2])
     refine tkE (i:=3) (oi:=⟨_,.fieldAddr 137 (.tmp 69) 6,_,_,_,_⟩) (v:=?v2004) rfl (yi ?y2004) hHeld ?_
     case y2004=>(intro w _;go_simp;(try with_reducible rfl))
     (try simp only [Act.put,s0,s1,s2])
     refine tkE (i:=4) (oi:=⟨_,.load 135 (.tmp 70),_,_,_,_⟩) (v:=(.slice none 0 0)) rfl (Or.inl ⟨by rfl,fun w h=>by have c9:=cell_keep (h.2 rfl) c6r.out;go_simp⟩) hHeld ?_
     (try simp only [Act.put,s0,s1,s2])
     refine' tkE (i:=5) (oi:=⟨_,.load 25 (.tmp 3),_,_,_,_⟩) (v:=_) rfl (yieldsIf_load_mid (by rfl) _ _ rfl w.heap.size 0 rfl tc2 _ (fun _ h=>range_keep (h.2 rfl) rB.out) Tryz.underlying25 rfl hiT2.out) hHeld ?_
     (try simp only [Act.put,s0,s1,s2])
     refine wpAnyX_ready (rs:=[6]) (by kernel_rfl) (by simp) ?_
     refine AllReadyX.cons (o:=⟨_,.buildSlice 135 1 #[(0,.tmp 72)],_,_,_,_⟩) rfl (b:=false) (by kernel_rfl) (fun K hK=>?_) ?_
     have S0:=hid (hHeld.2 rfl);rw [if_pos (by rfl)];refine wp_lit1 _ _ _ rfl rfl Tryz.underlying135 hPi.out hPz.out PL2.out (by decide) (by decide) ?_;(first|refine newZ ?_|refine newZd ?_);intro wl hl bl;have HL:=hid hl;have BL:=hid bl;clear hl bl
     refine hK.out _ _ (⟨trivial,fun e=>(hHeld.2 e).trans (BL.out.mono (hHeld.2 e).size)⟩) (fun hHeld=>?_)
     clear hK K
     (try simp only [s0,s1,s2])
     refine wpAnyX_ready (rs:=[7]) (by kernel_rfl) (by simp) ?_
     refine AllReadyX.cons (o:=⟨_,.call ⟨.builtin .append,#[.tmp 71,.tmp 73],#[135,135]⟩,_,_,_,_⟩) rfl (b:=false) (by kernel_rfl) (fun K hK=>?_) ?_
     have S1:=hid (hHeld.2 rfl);rw [if_pos (by rfl)];refine wp_pushK _ _ 135 rfl tyTx wr.heap.size (v:=.slice none 0 0) (n:=0) (xs:=[]) ⟨by simp,.inl ⟨rfl,rfl⟩⟩ rfl rfl HL.out TLL.out ONE2.out (by decide) (by decide) S1.out.size ?_;intro v11 w11 o11 k11 _;have b11:=k11.below (fun i h=>by cases h) (Nat.le_refl _);have O11:=hid o11;have B11:=hid b11;clear o11 k11 b11
     refine hK.out _ _ (⟨trivial,fun e=>(hHeld.2 e).trans (B11.out.mono (hHeld.2 e).size)⟩) (fun hHeld=>?_)
     clear hK K
     (try simp only [s0,s1,s2])
     refine tkA (i:=8) (oi:=⟨_,.nilCheck (.tmp 67),_,_,_,_⟩) (v:=?v2005) (b:=false) rfl (yi ?y2005) hHeld ?_
     case y2005=>(intro w _;go_simp;(try with_reducible rfl))
     (try simp only [Act.put,s0,s1,s2])
     refine tkE (i:=9) (oi:=⟨_,.fieldAddr 137 (.tmp 75) 6,_,_,_,_⟩) (v:=?v2006) rfl (yi ?y2006) hHeld ?_
     case y2006=>(intro w _;go_simp;(try with_reducible rfl))
     (try simp only [Act.put,s0,s1,s2])
     refine wpAnyX_ready (rs:=[10]) (by kernel_rfl) (by simp) ?_
     refine AllReadyX.cons (o:=⟨_,.store 135 (.tmp 76) (.tmp 74),_,_,_,_⟩) rfl (b:=true) (by kernel_rfl) (fun K hK=>?_) ?_
     have S2:=hid (hHeld.2 rfl);have CH11:=hid (CHr.out.below S2.out);have c9:=CH11.out.c6;have z9:=CH11.out.fz 6;obtain⟨a11,q11,rfl,_⟩:=Rd.of_owns O11.out;go_simp;refine setW CH11.out.cell ?_;intro w12 h12 f12;have H12:=hid h12;have F12:=hid f12;clear h12 f12 c9 z9
     refine hK.out _ _ (⟨trivial,nofun⟩) (fun hHeld=>?_)
     clear hK K
     (try simp only [s0,s1,s2])
     refine wpAnyX_done (by kernel_rfl) ?_ _
     rotate_left
     exact AllReadyX.nil
     exact AllReadyX.nil
     exact AllReadyX.nil
     clear hHeld
     go_wp2_with (fail)
     go_ret
     have od:=OD.out
     have le:=LE.out
     have w0:=W0.out
     have sz:=SZ5.out
     have g6l:=G6.out
     have g5l:=G5.out
     rcases SJ.out with⟨h0,_⟩|⟨_,a,k,rfl,hgd,hof⟩
     ·exact absurd h0 (by decide)
     have bw11:Below w.heap.size w w11:=BWr.out.trans (S2.out.mono BWr.out.size)
     have KF:Keep (fun i=>i=cb) w w12:=(Keep.of bw11).trans (Keep.far' F12.out)
     have kr:Keep (fun i=>i=cb) wr w12:=(Keep.of S2.out).trans (Keep.far' F12.out)
     obtain⟨g11,rfl,lg11⟩:=own_base O11.out (by decide)
     have lr:w.heap.size≤wr.heap.size:=BWr.out.size
     have o11:=(Keep.far' F12.out).own O11.out (fun g hg e=>by have:g=g11:=(Option.some.inj (show some g11=some g from hg)).symm;omega)
     have o5:=kr.own O5r.out (fun g hg e=>by have:g=g5:=(Option.some.inj (show some g5=some g from hg)).symm;omega)
     have o6:=kr.own OP.out (fun g hg e=>by have:g=g6:=(Option.some.inj (show some g6=some g from hg)).symm;omega)
     obtain⟨_,_,e1,r11⟩:=Rd.of_owns o11
     simp only [Value.slice.injEq] at e1
     obtain⟨rfl,_,rfl⟩:=e1
     obtain⟨_,_,e2,r5⟩:=Rd.of_owns o5
     simp only [Value.slice.injEq] at e2
     obtain⟨rfl,_,rfl⟩:=e2
     obtain⟨_,_,e3,r6⟩:=Rd.of_owns o6
     simp only [Value.slice.injEq] at e3
     obtain⟨rfl,_,rfl⟩:=e3
     refine⟨rfl,some ⟨g5,0,none⟩,ic5,some ⟨g6,0,none⟩,oc6,a,k,.slice (some ⟨g11,0,none⟩) 1 q11,⟨⟨g11,q11,rfl,?_,by omega⟩,⟨?_,?_,?_,?_⟩,?_,?_,?_⟩,(H.out.struct KF (fun i h=>h) ⟨H12.out⟩ ⟨Int.le_refl _,H.out.hb.2⟩ H.out.gb),KF⟩
     ·have:TxD.cells ⟨some ⟨g5,0,none⟩,ic5,[x],some ⟨g6,0,none⟩,oc6,[o.at' a k]⟩=tc2:=TC2.out.symm
      rw [this]
      simpa using r11
     ·exact r5
     ·intro i hi;simp only [List.mem_singleton] at hi;rw [hi];exact xok.out
     ·simpa using r6
     ·intro q hq;simp only [List.mem_singleton] at hq;rw [hq];exact hgd.keepN' kr (fun ad ha=>by have:=hof ad ha;omega)
     ·intro ad ha;cases ha;show w.heap.size≤g5;omega
     ·intro ad ha;cases ha;show w.heap.size≤g6;omega
     ·intro q hq;simp only [List.mem_singleton] at hq;rw [hq];exact hof
    have HJ0:=hid (show j=0 by omega)
    have EP0:=hid (show p=o from by rcases SJ.out with h|h;exact h.2;have:=h.1;have:=HJ0.out;omega)
    have t2:decide (j<1)=true:=decide_eq_true hlt
    have t3:decide ((j:Int)<1)=true:=decide_eq_true (by omega)
    have t6:(j:Int)<1:=by omega
    have t7:¬ ((1:Int)≤(j:Int)):=by omega
    have t8:¬ (1≤j):=by omega
    obtain⟨j1,hj1⟩:∃j1,j1=j+1:=⟨_,rfl⟩
    have J1:=hid hj1
    have r4:IntKind.i64.wrap ((j:Int)+1)=(j1:Int):=by have:=HJ0.out;rw [IntKind.wrap_i64];omega
    clear hj hj1
    go_upto_region 17 with(fail)
    have BXr:=hid (KQ.out.heap BX8.out (by have:=G6.out;have:=W0.out;have:=SZ5.out;show ¬ w.heap.size=g6;omega))
    have k1r:=hid (gen_cell (j:=1) (row_range BXr.out) rfl)
    have BWr:=hid (show Below w.heap.size w wr from BW8.out.trans (KQ.out.below (fun i e=>by have:=G6.out;have:=W0.out;have:=SZ5.out;omega) BW8.out.size))
    have GOr:=hid (show o.good wr from og.out.below BWr.out)
    have rP:=hid (show wr.rangeAt g6 (j*34) p.cells from by rw [HJ0.out,Nat.zero_mul];exact own_range OP.out)
    have PCL:=hid (show p.cells.length=34 from by rw [EP0.out];exact OutD.len og.out)
    obtain⟨pcs,hpcs⟩:∃pcs,pcs=p.cells:=⟨_,rfl⟩
    rw [← hpcs] at rP PCL
    have PCE2:=hid hpcs
    have PCE:=hid (show pcs=o.cells from by rw [hpcs,EP0.out])
    have hiC:=hid (show(Tryz.prog.info? 66).map (·.size)=some pcs.length by rw [PCL.out];kernel_rfl)
    have CC:=fun(wx:World) (bx:Below wr.heap.size wr wx)=>hid (show Calls Tryz.prog 49 #[.agg pcs.toArray] wx (CopC wx o) from by rw [PCE.out];exact ccopied_walk o wx (GOr.out.below bx) (by have:=H4.out;omega))
    clear hpcs k1
    refine wp_region_X (l:=10) (S:=fun b w'=>True∧(b=false→Below wr.heap.size wr w')) (by kernel_rfl) (⟨trivial,fun _=>(Below.refl _ _).drew⟩) (fun hHeld=>?_)
    try simp only [List.size_toArray,List.length_cons,List.length_nil,Nat.reduceAdd,Array.replicate_succ,Array.replicate_zero,List.push_toArray,List.nil_append,List.cons_append]
    refine tkE (i:=0) (oi:=⟨_,.fieldAddr 25 (.tmp 3) 1,_,_,_,_⟩) (v:=?v3001) rfl (yi ?y3001) hHeld ?_
    case y3001=>(intro w _;go_simp;(try with_reducible rfl))
    (try simp only [Act.put,s0,s1,s2])
    refine tkE (i:=1) (oi:=⟨_,.load 23 (.tmp 56),_,_,_,_⟩) (v:=(.slice (some ⟨g6,0,none⟩) 1 oc6)) rfl (Or.inl ⟨by rfl,fun w h=>by have c9:=cell_keep (h.2 rfl) k1r.out;go_simp⟩) hHeld ?_
    (try simp only [Act.put,s0,s1,s2])
    refine tkE (i:=2) (oi:=⟨_,.move (.tmp 9),_,_,_,_⟩) (v:=?v3002) rfl (yi ?y3002) hHeld ?_
    case y3002=>(intro w _;go_simp;(try with_reducible rfl))
    (try simp only [Act.put,s0,s1,s2])
    refine tkE (i:=3) (oi:=⟨_,.fieldAddr 25 (.tmp 3) 1,_,_,_,_⟩) (v:=?v3003) rfl (yi ?y3003) hHeld ?_
    case y3003=>(intro w _;go_simp;(try with_reducible rfl))
    (try simp only [Act.put,s0,s1,s2])
    refine tkE (i:=4) (oi:=⟨_,.load 23 (.tmp 59),_,_,_,_⟩) (v:=(.slice (some ⟨g6,0,none⟩) 1 oc6)) rfl (Or.inl ⟨by rfl,fun w h=>by have c9:=cell_keep (h.2 rfl) k1r.out;go_simp⟩) hHeld ?_
    (try simp only [Act.put,s0,s1,s2])
    refine tkE (i:=5) (oi:=⟨_,.move (.tmp 9),_,_,_,_⟩) (v:=?v3004) rfl (yi ?y3004) hHeld ?_
    case y3004=>(intro w _;go_simp;(try with_reducible rfl))
    (try simp only [Act.put,s0,s1,s2])
    refine tkE (i:=6) (oi:=⟨_,.indexAddr 23 (.tmp 60) (.tmp 61),_,_,_,_⟩) (v:=(.pointer (some ⟨g6,j*34,none⟩))) rfl (Or.inl ⟨by rfl,fun w _=>by go_simp⟩) hHeld ?_
    (try simp only [Act.put,s0,s1,s2])
    refine' tkE (i:=7) (oi:=⟨_,.load 66 (.tmp 62),_,_,_,_⟩) (v:=_) rfl (yieldsIf_load_mid (by rfl) _ _ rfl g6 (j*34) rfl pcs _ (fun _ h=>range_keep (h.2 rfl) rP.out) Tryz.underlying66 rfl hiC.out) hHeld ?_
    (try simp only [Act.put,s0,s1,s2])
    refine wpAnyX_ready (rs:=[8]) (by kernel_rfl) (by simp) ?_
    refine AllReadyX.cons (o:=⟨_,.call ⟨.value (.func 49),#[.tmp 63],#[66]⟩,_,_,_,_⟩) rfl (b:=false) (by kernel_rfl) (fun K hK=>?_) ?_
    go_simp;refine(CC _ (hHeld.2 rfl)).out.mono ?_;rintro e w9 ⟨a,k,rfl,g9,o9,b9⟩;have G9:=hid g9;have O9:=hid o9;have B9:=hid b9;obtain⟨ncs,hncs⟩:∃ncs,ncs=(o.at' a k).cells:=⟨_,rfl⟩;rw [← hncs];have NCE:=hid hncs;have NCL:=hid (show ncs.length=34 from by rw [hncs];exact OutD.len g9);have hiN:=hid (show(Tryz.prog.info? 66).map (·.size)=some ncs.toArray.size from by rw [List.size_toArray,NCL.out];kernel_rfl);have hN1:=hid (show(ncs.toArray.all fun x=>x.oneCell')=true by rw [hncs];exact all_oneCell_toArray (OutD.one _));clear g9 o9 b9 hncs
    refine hK.out _ _ (⟨trivial,fun e=>(hHeld.2 e).trans (B9.out.mono (hHeld.2 e).size)⟩) (fun hHeld=>?_)
    clear hK K
    (try simp only [s0,s1,s2])
    refine tkE (i:=9) (oi:=⟨_,.indexAddr 23 (.tmp 57) (.tmp 58),_,_,_,_⟩) (v:=(.pointer (some ⟨g6,j*34,none⟩))) rfl (Or.inl ⟨by rfl,fun w _=>by go_simp⟩) hHeld ?_
    (try simp only [Act.put,s0,s1,s2])
    refine wpAnyX_ready (rs:=[10]) (by kernel_rfl) (by simp) ?_
    refine AllReadyX.cons (o:=⟨_,.store 66 (.tmp 65) (.tmp 64),_,_,_,_⟩) rfl (b:=true) (by kernel_rfl) (fun K hK=>?_) ?_
    have BB9:=hid (hHeld.2 rfl);have OPr:=hid (ownKB OP.out BB9.out);rw [if_pos (by rfl)];refine wp_store_mid _ _ _ rfl g6 (j*34) ncs.toArray rfl rfl (by rw [List.size_toArray,NCL.out,HJ0.out,Nat.zero_mul];exact own_there OPr.out) hiN.out hN1.out ?_
    refine hK.out _ _ (⟨trivial,nofun⟩) (fun hHeld=>?_)
    clear hK K
    (try simp only [s0,s1,s2])
    refine wpAnyX_done (by kernel_rfl) ?_ _
    rotate_left
    exact AllReadyX.nil
    exact AllReadyX.nil
    clear hHeld
    have EW:=hid (show w9.setCells g6 (j*34) ncs.toArray.toList=w9.setCells g6 0 ncs from by rw [HJ0.out,Nat.zero_mul])
    have OY:=hid (show(w9.setCells g6 (j*34) ncs.toArray.toList).ownsRow wo.heap.size 66 34 (.slice (some ⟨g6,0,none⟩) 1 oc6) 1 ncs from by rw [EW.out];exact own_whole (xs:=pcs) (by rw [PCE2.out];exact OPr.out) (by rw [PCL.out,NCL.out]))
    have FY:=hid (show Far g6 w9 (w9.setCells g6 (j*34) ncs.toArray.toList) from far_setCells _ _ _)
    clear EW
    generalize w9.setCells g6 (j*34) ncs.toArray.toList=wy at *
    go_wp2_with (fail)
    go_roundw
    case rel=>
     have lo9:∀g,(Value.slice a o.paths.length k).ownBlock=some g→wr.heap.size≤g:=fun g hg=>(O9.out.lt g hg).1
     have g6l:g6<wr.heap.size:=(OP.out.lt g6 rfl).2
     have o9:=(Keep.far' FY.out).own O9.out (fun g hg e=>by have:=lo9 g hg;omega)
     have of:∀ad,a=some ad→wr.heap.size≤ad.block:=off_own o9
     obtain⟨a',c',e',hr⟩:=Rd.of_owns o9
     simp only [Value.slice.injEq] at e'
     obtain⟨rfl,_,rfl⟩:=e'
     refine⟨j1,o.at' a k,by have:=J1.out;have:=HJ0.out;omega,rfl,by have:=OY.out;rw [NCE.out] at this;exact this,.inr ⟨by have:=J1.out;have:=HJ0.out;omega,a,k,rfl,⟨og.out.coins,og.out.anchor,hr,og.out.ok⟩,fun ad ha=>Nat.le_trans BWr.out.size (of ad ha)⟩,KQ.out.trans ((Keep.of BB9.out).trans (Keep.far' FY.out))⟩
    case measure=>simp [intOf];have:=J1.out;have:=HJ0.out;omega
 rcases hcd with h|h
 ·subst h
  go_wp2_with (fail)
  exact MID _ _ _ _ _ _ _
 ·subst h
  go_wp2_with (fail)
  exact MID _ _ _ _ _ _ _
end Go.Proofs.YtnbmpgballopeaaGreatDoor

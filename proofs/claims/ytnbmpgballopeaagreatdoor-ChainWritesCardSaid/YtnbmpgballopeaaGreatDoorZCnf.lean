/- The chain's confirm, for a transaction of one input and one output. -/
import Derived.Test.YtnbmpgballopeaaGreatDoorZGve
namespace Go.Proofs.YtnbmpgballopeaaGreatDoor
open Go.RowKit Go.Maps
section
variable {k:TypeId} {α:Type} {E:KeyE k α} {w:World} {b n:Nat} {M:α→Option Value} {o:Oper} {a:Act} {K:Act→World→Prop} {Q:Exit→Act→World→Prop}
theorem wp_del(m x:Operand)(t:TypeId)(hop:o.op=Op.call { callee:=Callee.builtin Builtin.delete,args:=#[m,x],argTypes:=#[t,k] }){e:TypeId}(ht:Tryz.prog.underlying t=some (.map k e))(h:MapIs E w b M n)
  (hm:a.eval m = .map (some b)) (y:α) (hy:E.ok y) (hx:a.eval x=E.enc y) [DecidableEq α]
  (hK:∀w',MapIs E w' b (fun z=>if z=y then none else M z) (if (M y).isSome then n - 1 else n)→Far b w w'→K (a.put o.dst (.tuple #[])) w'):o.wp Tryz.prog a w K Q:=by
 obtain⟨w',hrun,r1,r2⟩:=h.del ht y hy o.type
 unfold Oper.wp
 simp [execOp,hop,resolve,invoke,builtin,hm,hx,hrun,Result.andThen]
 exact hK _ r1 r2
theorem zv_any{t:TypeId}{z:Value}(h:(Tryz.prog.info? t).map (·.zero)=some (some z))(w:World):(zeroValue t).run Tryz.prog w = .ok z w:=by
 cases hi:Tryz.prog.info? t with
 | none=>rw [hi] at h;cases h
 | some i=>
  rw [hi] at h
  simp only [Option.map_some,Option.some.injEq] at h
  simp [zeroValue,typeInfo,hi,h]
theorem key_str{t:TypeId}(hw:isWide t=true){v:Value}{l:Lit}(h:keyOf Tryz.prog t v=some l):∃s,l = .string s:=by
 unfold isWide at hw
 unfold keyOf at h
 split at hw
 ·rename_i hu
  simp only [hu] at h
  split at h
  ·obtain⟨ls,_,rfl⟩:=Option.map_eq_some_iff.1 h
   exact⟨_,rfl⟩
  ·cases h
 ·rename_i hu
  simp only [hu] at h
  split at h
  ·obtain⟨ls,_,rfl⟩:=Option.map_eq_some_iff.1 h
   exact⟨_,rfl⟩
  ·cases h
 ·cases hw
theorem lawOf{t:TypeId}(hw:isWide t=true)(K:Keyed Tryz.prog t):WideMaps.KeyLaw Tryz.prog t:=⟨key_str hw,K.inj,K.check,K.find,K.stays⟩
open Go.ChangeMaps in
theorem MapIs.entry(hw:isWide k=true)(h:MapIs E w b M n){t e:TypeId}(ht:Tryz.prog.underlying t=some (.map k e)){z:Value}(hz:∀u:World,(zeroValue e).run Tryz.prog u = .ok z u)(hn:n<maxLen)(y:α)(hy:E.ok y)[DecidableEq α]:
  ∃(v0:Value) (st:Int) (w1:World),(Instr.mapEntry t (.map (some b)) (E.enc y)).run Tryz.prog w = .ok (.tuple #[v0,.int .i64 st]) w1∧Far b w w1 ∧
   ∀(w2:World) (val:Value),w2.heap[b]? = w1.heap[b]? → ∃w3,(Instr.entryStore t (.map (some b)) (.int .i64 st) val).run Tryz.prog w2 = .ok () w3∧Far b w2 w3∧MapIs E w3 b (fun q=>if q=y then some val else M q) (if (M y).isSome then n else n+1):=by
 obtain⟨l,hl⟩:=E.kv y hy
 have h':=h
 obtain⟨D,⟨es,clock,hb,F,hs,hD⟩,h2,h3,h4⟩:=h
 obtain⟨v0,st,es1,clock1,hr,_,hst⟩:=WideElems.entry_then_store (lawOf hw E.law) ht hz hb F hl
 have hb1:(setBlock w b (.map es1 clock1)).heap[b]? = some (.map es1 clock1):=heap_setBlock_same hb _
 refine⟨v0,(st:Int),setBlock w b (.map es1 clock1),hr,⟨rfl,rfl,rfl,by simp [setBlock],fun i _ hi=>heap_setBlock_other hb _ (fun e=>hi (by rw [e]))⟩,fun w2 val he=>?_⟩
 rw [hb1] at he
 obtain⟨es',clock',q1,q2⟩:=hst w2 val he
 obtain⟨w',u1,u2,u3⟩:=h'.put ht hn y hy val
 rw [u1] at q2
 have hw':w'=setBlock w b (.map es' clock'):=by
  have:=q2
  simp only [Result.ok.injEq,true_and] at this
  exact this
 refine⟨setBlock w2 b (.map es' clock'),q1,⟨rfl,rfl,rfl,by simp [setBlock],fun i _ hi=>heap_setBlock_other he _ (fun e=>hi (by rw [e]))⟩,?_⟩
 have e1:(setBlock w2 b (.map es' clock')).heap[b]? = w'.heap[b]?:=by
  rw [hw',heap_setBlock_same hb,heap_setBlock_same he]
 exact u2.same e1
theorem wp_entry(m x:Operand)(t:TypeId)(hop:o.op=Op.mapEntry t m x){e:TypeId}(ht:Tryz.prog.underlying t=some (.map k e)){z:Value}(hz:∀u:World,(zeroValue e).run Tryz.prog u = .ok z u)(hw:isWide k=true)(h:MapIs E w b M n)(hn:n<maxLen)
  (hm:a.eval m = .map (some b)) (y:α) (hy:E.ok y) (hx:a.eval x=E.enc y) [DecidableEq α]
  (hK:∀(v0:Value) (st:Int) (w1:World),Far b w w1→(∀(w2:World) (val:Value),w2.heap[b]? = w1.heap[b]? → ∃w3,(Instr.entryStore t (.map (some b)) (.int .i64 st) val).run Tryz.prog w2 = .ok () w3∧Far b w2 w3∧MapIs E w3 b (fun q=>if q=y then some val else M q) (if (M y).isSome then n else n+1)) →
   K (a.put o.dst (.tuple #[v0,.int .i64 st])) w1):o.wp Tryz.prog a w K Q:=by
 obtain⟨v0,st,w1,hr,hf,hp⟩:=h.entry hw ht hz hn y hy
 unfold Oper.wp
 simp [execOp,hop,hm,hx,hr,Result.andThen]
 exact hK v0 st w1 hf hp
theorem wp_entryStore{R:World→Prop}(m s x:Operand)(t:TypeId)(hop:o.op=Op.entryStore t m s x)(hm:a.eval m = .map (some b)){st:Int}(hs:a.eval s = .int .i64 st){val:Value}(hv:a.eval x=val)
  (hp:∃w3,(Instr.entryStore t (.map (some b)) (.int .i64 st) val).run Tryz.prog w = .ok () w3∧R w3) (hK:∀w3,R w3→K (a.put o.dst undef) w3):o.wp Tryz.prog a w K Q:=by
 obtain⟨w3,hr,hR⟩:=hp
 unfold Oper.wp
 simp [execOp,hop,hm,hs,hv,hr,Result.andThen]
 exact hK w3 hR
end
set_option maxRecDepth 100000 in
theorem bPoint2'(n:Int)(a0 a1 a2 a3 a4 a5 a6 a7 a8 a9 a10 a11 a12 a13 a14 a15 a16 a17 a18 a19 a20 a21 a22 a23 a24 a25 a26 a27 a28 a29 a30 a31:Nat):Tryz.prog.built 60 [(0,.agg (nums .u8 [a0,a1,a2,a3,a4,a5,a6,a7,a8,a9,a10,a11,a12,a13,a14,a15,a16,a17,a18,a19,a20,a21,a22,a23,a24,a25,a26,a27,a28,a29,a30,a31]).toArray),(1,.int .i64 n)]=some (ptI [a0,a1,a2,a3,a4,a5,a6,a7,a8,a9,a10,a11,a12,a13,a14,a15,a16,a17,a18,a19,a20,a21,a22,a23,a24,a25,a26,a27,a28,a29,a30,a31] n).toArray:=by kernel_rfl
theorem bPoint2(x:List Nat)(n:Int)(h:x.length=32):Tryz.prog.built 60 [(0,.agg (nums .u8 x).toArray),(1,.int .i64 n)]=some (ptI x n).toArray:=by
 match x,h with
 | [a0,a1,a2,a3,a4,a5,a6,a7,a8,a9,a10,a11,a12,a13,a14,a15,a16,a17,a18,a19,a20,a21,a22,a23,a24,a25,a26,a27,a28,a29,a30,a31],_=>exact bPoint2' ..
theorem MapIs.nocell{k:TypeId}{α:Type}{E:KeyE k α}{w:World}{b n:Nat}{M:α→Option Value}(h:MapIs E w b M n)(q:Nat):w.cell? ⟨b,q,none⟩=none:=by
 obtain⟨D,⟨es,clock,hb,_⟩,_⟩:=h
 simp [World.cell?,hb]
theorem OutD.good.keepN{S:Nat→Prop}{w w':World}{o:OutD}(h:o.good w)(k:Keep S w w')(ho:∀ad,o.pa=some ad → ¬ S ad.block):o.good w':=
 ⟨h.coins,h.anchor,h.paths.keep k ho,h.ok⟩
def CnfJ(L:Nat)(wq:World)(HM1:HM')(id:List Nat)(o:OutD)(ht:Int)(j:Nat)(HMj:HM'):Prop:=
 (j=0∧HMj=HM1)∨(j=1 ∧ ∃a k,HMj=upd HM1 (id,0) (some ⟨o.at' a k,ht+1⟩)∧(o.at' a k).good wq∧(o.at' a k).off L)
def cnfM(HM:HM')(x:InD)(id:List Nat)(o:OutD)(ht:Int):HM':=upd (upd HM (x.tx,x.out) none) (id,0) (some ⟨o,ht+1⟩)
def CnfR(w:World)(A B ob mb hm dm wm sm cb:Nat)(ht gf:Int)(P:Value)(HM:HM')(SM:SM')(M:EM)(c:Nat)(x:InD)(o:OutD)(id:List Nat)(e:Ending)(w':World):Prop:=
 e = .returned (.tuple #[])∧(∃a k,Led w' A B ob mb hm dm wm sm cb ht gf P (cnfM HM x id (o.at' a k) ht) (upd SM (x.tx,x.out) (some id)) M (c+1))∧Keep (fun i=>i=hm∨i=sm∨i=dm∨i=wm) w w'
set_option maxRecDepth 100000 in
set_option maxHeartbeats 16000000 in
theorem cconfirm_walk{w:World}{A B ob mb hm dm wm sm cb c:Nat}{ht gf:Int}{P:Value}{HM:HM'}{SM:SM'}{M:EM}(h:Led w A B ob mb hm dm wm sm cb ht gf P HM SM M c)(hht:ht<1073741824)(hc:c<1000000)(t:TxD)(hg:t.good w)(x:InD)(o:OutD)(hx:t.ins=[x])(ho:t.outs=[o])(hoo:∀ad,t.oa=some ad→ad.block≠hm∧ad.block≠sm)(hof:∀ad,o.pa=some ad→ad.block≠hm∧ad.block≠sm)(h4:o.paths.length≤4):
  Calls Tryz.prog 55 #[.pointer (some ⟨cb,0,none⟩),.agg t.cells.toArray] w (CnfR w A B ob mb hm dm wm sm cb ht gf P HM SM M c x o (idB t)):=by
 have H:=hid h
 have HHT:=hid hht
 have HC:=hid hc
 have G:=hid hg
 have H4:=hid h4
 have HOF:=hid hof
 have OD:=hid h.ord
 have LE:=hid h.le
 have HT:=hid h.tabs
 obtain⟨tc,htc⟩:∃tc,tc=t.cells:=⟨_,rfl⟩
 have TL:=hid (show tc.length=2 by rw [htc];rfl)
 have CI:=fun(wx:World) (bx:Below w.heap.size w wx)=>hid (show Calls Tryz.prog 12 #[.agg tc.toArray] wx _ from by rw [htc];exact cid_walk t wx (G.out.below bx) (HT.out.below bx))
 have hiT:=hid (show(Tryz.prog.info? 25).map (·.size)=some tc.length by rw [TL.out];kernel_rfl)
 have HA:=hid (heap_alloc_new w (.cells tc.toArray 25))
 have B1:=hid ((Below.refl w.heap.size w).alloc (Nat.le_refl _) (.cells tc.toArray 25))
 obtain⟨ia,hia⟩:∃ia,ia=t.ia:=⟨_,rfl⟩
 obtain⟨ic,hic⟩:∃ic,ic=t.ic:=⟨_,rfl⟩
 obtain⟨oa,hoa⟩:∃oa,oa=t.oa:=⟨_,rfl⟩
 obtain⟨oc,hoc⟩:∃oc,oc=t.oc:=⟨_,rfl⟩
 have PI:=hid (show Rd w 130 ia 1 ic ([x].flatMap InD.cells) by rw [hia,hic,← hx];have:=hg.ins;rw [hx] at this ⊢;exact this)
 have PO:=hid (show Rd w 34 oa 1 oc ([o].flatMap OutD.cells) by rw [hoa,hoc,← ho];have:=hg.outs;rw [ho] at this ⊢;exact this)
 have HOO:=hid (show ∀ad,oa=some ad→ad.block≠hm∧ad.block≠sm by rw [hoa];exact hoo)
 have TCE:=hid (show tc=[.slice ia 1 ic,.slice oa 1 oc] by rw [htc];unfold TxD.cells;rw [hia,hic,hoa,hoc,hx,ho];rfl)
 have xok:=hid (show x.ok from hg.iok x (by rw [hx];simp))
 have og:=hid (show o.good w from hg.ook o (by rw [ho];simp))
 rw [← htc]
 clear h hht hc hg hx ho hoo hof h4 htc hia hic hoa hoc
 go_enter Tryz.func55,Tryz.ntmps55
 go_upto_region 1 with(fail)
 generalize w.alloc (.cells tc.toArray 25)=w1 at *
 have rT:=row_range HA.out
 go_wp2_with (with_reducible refine wpList_load_mid rfl _ _ rfl w.heap.size 0 rfl tc _ rT Tryz.underlying25 rfl hiT.out ?_)
 refine(CI w1 B1.out).out.mono ?_
 rintro e w3 ⟨rfl,b3⟩
 obtain⟨id,hid'⟩:∃id,id=idB t:=⟨_,rfl⟩
 rw [← hid']
 have IDE:=hid hid'
 have IDO:=hid (show H32b id by rw [hid'];exact idB_ok t)
 have B3:=hid (show Below w.heap.size w w3 from B1.out.trans (b3.mono B1.out.size))
 have HA3:=hid (heap_keep HA.out b3)
 have hiH:=hid (show(Tryz.prog.info? 43).map (·.size)=some (nums .u8 id).toArray.size by rw [List.size_toArray,nums_length,IDO.out.1];kernel_rfl)
 have hiHl:=hid (show(Tryz.prog.info? 43).map (·.size)=some (nums .u8 id).length by rw [nums_length,IDO.out.1];kernel_rfl)
 have hoH:=hid (show 32=(nums .u8 id).toArray.size by rw [List.size_toArray,nums_length,IDO.out.1])
 have h16:=hid (all_oneCell_toArray (nums_oneCell .u8 id))
 clear b3 rT hid'
 go_upto_region 2 with(refine wpList_store_row rfl _ _ _ rfl w3.heap.size (nums .u8 id).toArray rfl rfl _ _ (heap_alloc_new _ _) hiH.out hoH.out h16.out ?_;refine laidW (F:=fun w4=>wpList _ _ _ _ _ w4) ?_;intro w4 h4 b4)
 have HID:=hid h4.out
 have B4:=hid (show Below w.heap.size w w4 from B3.out.trans (b4.out.mono B3.out.size))
 have HA4:=hid (heap_keep HA3.out b4.out)
 have L3:=hid B3.out.size
 have L4:=hid (show w3.heap.size<w4.heap.size from(Array.getElem?_eq_some_iff.1 h4.out).1)
 clear h4 b4
 generalize w3.heap.size=IB at *
 have LW:=hid (show w.heap.size<w4.heap.size from(Array.getElem?_eq_some_iff.1 HA4.out).1)
 have k0:w4.cell? ⟨w.heap.size,0,none⟩=some (.slice ia 1 ic):=gen_cell (j:=0) (row_range HA4.out) (by rw [TCE.out];rfl)
 have k1:w4.cell? ⟨w.heap.size,1,none⟩=some (.slice oa 1 oc):=gen_cell (j:=1) (row_range HA4.out) (by rw [TCE.out];rfl)
 obtain⟨nh,nhle,mh⟩:=(H.out.below B4.out).held
 obtain⟨ns,nsle,ms⟩:=(H.out.below B4.out).spent
 have MH:=hid mh
 have MS:=hid ms
 have NH:=hid nhle
 have NS:=hid nsle
 clear mh ms nhle nsle
 go_frame
 go_upto_region 3 with(fail)
 go_loopw [14] (fun x14 wr=>∃i:Nat,i≤1∧x14 = .int .i64 (i:Int)∧(∃n,n≤c∧MapIs EP wr hm (heldM (if i=0 then HM else upd HM (x.tx,x.out) none)) n)∧(∃n,n≤c+i∧MapIs EP wr sm (hashM (if i=0 then SM else upd SM (x.tx,x.out) (some id))) n)∧Keep (fun i=>i=hm∨i=sm) w4 wr) (fun x14 _=>1 - (intOf x14).toNat)
 case atStart=>exact⟨0,by omega,rfl,⟨nh,NH.out,MH.out⟩,⟨ns,NS.out,MS.out⟩,Keep.refl _ _⟩
 case round=>
  obtain⟨i,hi,rfl,⟨n1,n1le,m1⟩,⟨n2,n2le,m2⟩,kk⟩:=hrel
  have M1:=hid m1
  have M2:=hid m2
  have N1:=hid n1le
  have N2:=hid n2le
  have KK:=hid kk
  clear m1 m2 n1le n2le kk
  by_cases hlt:i<1
  case neg=>
   obtain rfl:i=1:=by omega
   have M1':=hid (show MapIs EP wr hm (heldM (upd HM (x.tx,x.out) none)) n1 from by have:=M1.out;rwa [if_neg (by decide)] at this)
   have M2':=hid (show MapIs EP wr sm (hashM (upd SM (x.tx,x.out) (some id))) n2 from by have:=M2.out;rwa [if_neg (by decide)] at this)
   have t1:decide ((1:Int)<1)=false:=by decide
   have O:=hid (show hm<sm∧sm<cb∧cb<w.heap.size∧hm<w4.heap.size∧hm<dm∧dm<wm∧wm<sm from by have:=OD.out;have:=LE.out;have:=LW.out;omega)
   have k1':=KK.out.cell k1 (by have:=O.out;show ¬ (w.heap.size=hm∨w.heap.size=sm);omega)
   have LR:=hid (show w4.heap.size≤wr.heap.size from KK.out.size)
   clear hi hlt k0 k1
   obtain⟨H1,hH1⟩:∃H1,H1=upd HM (x.tx,x.out) none:=⟨_,rfl⟩
   rw [← hH1] at M1'
   have HH1:=hid hH1
   clear hH1
   go_upto_region 9 with(fail)
   obtain⟨wo,rfl⟩:∃wo,wo=wr:=⟨_,rfl⟩
   go_loopw [35] (fun x35 wr=>∃(j:Nat) (HMj:HM'),j≤1∧x35 = .int .i64 (j:Int)∧(∃n,n≤c+j∧MapIs EP wr hm (heldM HMj) n)∧CnfJ w.heap.size wr H1 id o ht j HMj∧Keep (fun i=>i=hm) wo wr) (fun x35 _=>1 - (intOf x35).toNat)
   case atStart=>exact⟨0,H1,by omega,rfl,⟨n1,N1.out,M1'.out⟩,.inl ⟨rfl,rfl⟩,Keep.refl _ _⟩
   case round=>
    obtain⟨j,HMj,hj,rfl,⟨n3,n3le,m3⟩,hJ,kj⟩:=hrel
    have M3:=hid m3
    have N3:=hid n3le
    have CJ:=hid hJ
    have KJ:=hid kj
    clear m3 n3le hJ kj
    by_cases hlt:j<1
    case neg=>
     obtain rfl:j=1:=by omega
     have t2:decide ((1:Int)<1)=false:=by decide
     clear hj hlt k1'
     go_upto_region 13 with(fail)
     have KW:=hid (show Keep (fun i=>i=hm∨i=sm) w wr from((Keep.of B4.out).trans KK.out).trans (KJ.out.mono fun i h=>Or.inl h))
     have O2:=hid OD.out
     have c3:=KW.out.cell H.out.ch.c3 (by have:=O.out;show ¬ (cb=hm∨cb=sm);omega)
     have c4:=KW.out.cell H.out.ch.c4 (by have:=O.out;show ¬ (cb=hm∨cb=sm);omega)
     have c1:=KW.out.cell H.out.ch.c1 (by have:=O.out;show ¬ (cb=hm∨cb=sm);omega)
     have C3:=hid c3
     have C4:=hid c4
     have C1:=hid c1
     have rI:=hid (row_range (KJ.out.heap (KK.out.heap HID.out (by have:=O.out;have:=L3.out;omega)) (by have:=O.out;have:=L3.out;omega)))
     have rT:=hid (row_range (KJ.out.heap (KK.out.heap HA4.out (by have:=O.out;omega)) (by have:=O.out;omega)))
     obtain⟨D1,nd,ndle,md⟩:=H.out.doneK KW.out (by have:=O.out;omega) (Nat.le_refl c)
     obtain⟨D2,nw,nwle,mw⟩:=H.out.whnK KW.out (by have:=O.out;omega) (Nat.le_refl c)
     have MD:=hid md
     have MW:=hid mw
     have ND:=hid ndle
     have NW:=hid nwle
     obtain⟨h1,hh1⟩:∃h1,h1=ht+1:=⟨_,rfl⟩
     have r5:IntKind.i64.wrap (ht+1)=h1:=by have:=H.out.hb;rw [IntKind.wrap_i64];omega
     have WH:=hid keyHash.wide
     have ZT:=hid (fun u:World=>zv_any (t:=25) (z:=.agg #[.slice none 0 0,.slice none 0 0]) (by kernel_rfl) u)
     have ZI:=hid (fun u:World=>zv_any (t:=3) (z:=.int .i64 0) (by kernel_rfl) u)
     have NO:=hid (show dm≠IB∧wm≠IB∧dm≠w.heap.size∧wm≠w.heap.size∧cb≠dm∧cb≠wm from by have:=O.out;have:=L3.out;omega)
     clear c1 c3 c4 md mw ndle nwle hh1
     refine wp_region_held_drew (S:=fun w'=>Keep (fun i=>i=dm∨i=wm) wr w') (by kernel_rfl) ((Keep.of (Below.refl _ _).drew)) (fun hHeld=>?_)
     try simp only [List.size_toArray,List.length_cons,List.length_nil,Nat.reduceAdd,Array.replicate_succ,Array.replicate_zero,List.push_toArray,List.nil_append,List.cons_append]
     refine tkH (i:=0) (oi:=⟨_,.move (.tmp 0),_,_,_,_⟩) (v:=?v1001) rfl (yi ?y1001) hHeld ?_
     case y1001=>(intro w _;go_simp;(try with_reducible rfl))
     (try simp only [Act.put,s0,s1,s2])
     refine tkH (i:=1) (oi:=⟨_,.nilCheck (.tmp 56),_,_,_,_⟩) (v:=?v1002) rfl (yi ?y1002) hHeld ?_
     case y1002=>(intro w _;go_simp;(try with_reducible rfl))
     (try simp only [Act.put,s0,s1,s2])
     refine tkH (i:=2) (oi:=⟨_,.fieldAddr 137 (.tmp 57) 3,_,_,_,_⟩) (v:=?v1003) rfl (yi ?y1003) hHeld ?_
     case y1003=>(intro w _;go_simp;(try with_reducible rfl))
     (try simp only [Act.put,s0,s1,s2])
     refine tkH (i:=3) (oi:=⟨_,.load 132 (.tmp 58),_,_,_,_⟩) (v:=(.map (some dm))) rfl (Or.inl ⟨by rfl,fun w h=>by have c9:=h.cell C3.out (fun e=>e.elim NO.out.2.2.2.2.1 NO.out.2.2.2.2.2);go_simp⟩) hHeld ?_
     (try simp only [Act.put,s0,s1,s2])
     refine' tkH (i:=4) (oi:=⟨_,.load 43 (.tmp 4),_,_,_,_⟩) (v:=_) rfl (yieldsIf_load_mid (by rfl) _ _ rfl IB 0 rfl (nums .u8 id) _ (fun _ h=>h.range rI.out (fun e=>e.elim (fun e=>NO.out.1 e.symm) (fun e=>NO.out.2.1 e.symm))) Tryz.underlying43 rfl hiHl.out) hHeld ?_
     (try simp only [Act.put,s0,s1,s2])
     refine tkH (i:=5) (oi:=⟨_,.move (.tmp 0),_,_,_,_⟩) (v:=?v1004) rfl (yi ?y1004) hHeld ?_
     case y1004=>(intro w _;go_simp;(try with_reducible rfl))
     (try simp only [Act.put,s0,s1,s2])
     refine tkH (i:=6) (oi:=⟨_,.nilCheck (.tmp 61),_,_,_,_⟩) (v:=?v1005) rfl (yi ?y1005) hHeld ?_
     case y1005=>(intro w _;go_simp;(try with_reducible rfl))
     (try simp only [Act.put,s0,s1,s2])
     refine tkH (i:=7) (oi:=⟨_,.fieldAddr 137 (.tmp 62) 4,_,_,_,_⟩) (v:=?v1006) rfl (yi ?y1006) hHeld ?_
     case y1006=>(intro w _;go_simp;(try with_reducible rfl))
     (try simp only [Act.put,s0,s1,s2])
     refine tkH (i:=8) (oi:=⟨_,.load 133 (.tmp 63),_,_,_,_⟩) (v:=(.map (some wm))) rfl (Or.inl ⟨by rfl,fun w h=>by have c9:=h.cell C4.out (fun e=>e.elim NO.out.2.2.2.2.1 NO.out.2.2.2.2.2);go_simp⟩) hHeld ?_
     (try simp only [Act.put,s0,s1,s2])
     refine' tkH (i:=9) (oi:=⟨_,.load 43 (.tmp 4),_,_,_,_⟩) (v:=_) rfl (yieldsIf_load_mid (by rfl) _ _ rfl IB 0 rfl (nums .u8 id) _ (fun _ h=>h.range rI.out (fun e=>e.elim (fun e=>NO.out.1 e.symm) (fun e=>NO.out.2.1 e.symm))) Tryz.underlying43 rfl hiHl.out) hHeld ?_
     (try simp only [Act.put,s0,s1,s2])
     refine' tkH (i:=10) (oi:=⟨_,.load 25 (.tmp 3),_,_,_,_⟩) (v:=_) rfl (yieldsIf_load_mid (by rfl) _ _ rfl w.heap.size 0 rfl tc _ (fun _ h=>h.range rT.out (fun e=>e.elim (fun e=>NO.out.2.2.1 e.symm) (fun e=>NO.out.2.2.2.1 e.symm))) Tryz.underlying25 rfl hiT.out) hHeld ?_
     (try simp only [Act.put,s0,s1,s2])
     refine tkH (i:=11) (oi:=⟨_,.move (.tmp 0),_,_,_,_⟩) (v:=?v1007) rfl (yi ?y1007) hHeld ?_
     case y1007=>(intro w _;go_simp;(try with_reducible rfl))
     (try simp only [Act.put,s0,s1,s2])
     refine tkH (i:=12) (oi:=⟨_,.nilCheck (.tmp 67),_,_,_,_⟩) (v:=?v1008) rfl (yi ?y1008) hHeld ?_
     case y1008=>(intro w _;go_simp;(try with_reducible rfl))
     (try simp only [Act.put,s0,s1,s2])
     refine tkH (i:=13) (oi:=⟨_,.fieldAddr 137 (.tmp 68) 1,_,_,_,_⟩) (v:=?v1009) rfl (yi ?y1009) hHeld ?_
     case y1009=>(intro w _;go_simp;(try with_reducible rfl))
     (try simp only [Act.put,s0,s1,s2])
     refine tkH (i:=14) (oi:=⟨_,.load 3 (.tmp 69),_,_,_,_⟩) (v:=(.int .i64 ht)) rfl (Or.inl ⟨by rfl,fun w h=>by have c9:=h.cell C1.out (fun e=>e.elim NO.out.2.2.2.2.1 NO.out.2.2.2.2.2);go_simp⟩) hHeld ?_
     (try simp only [Act.put,s0,s1,s2])
     refine tkH (i:=15) (oi:=⟨_,.binOp .add 3 (.tmp 70) (.const (.int .i64 1)) 3,_,_,_,_⟩) (v:=(.int .i64 h1)) rfl (Or.inl ⟨by rfl,fun w _=>by go_simp⟩) hHeld ?_
     (try simp only [Act.put,s0,s1,s2])
     refine wpAnyH_ready (rs:=[16]) (by kernel_rfl) (by simp) ?_
     refine AllReadyH.cons (o:=⟨_,.mapEntry 132 (.tmp 59) (.tmp 60),_,_,_,_⟩) rfl (fun K hK=>?_) ?_
     rw [if_pos (by rfl)];refine wp_entry _ _ _ rfl Tryz.underlying132 ZT.out WH.out (MD.out.below ((Below.refl _ _).drew)) (by have:=ND.out;have:=HC.out;unfold maxLen;omega) rfl id IDO.out rfl ?_;intro v10 st10 w10 f10 p10;have F10:=hid f10;have P10:=hid p10;clear f10 p10
     refine hK.out _ _ (hHeld.trans (Keep.far F10.out (.inl rfl))) (fun hHeld=>?_)
     clear hK K
     (try simp only [s0,s1,s2])
     refine tkH (i:=17) (oi:=⟨_,.extract (.tmp 72) 1,_,_,_,_⟩) (v:=?v1010) rfl (yi ?y1010) hHeld ?_
     case y1010=>(intro w _;go_simp;(try with_reducible rfl))
     (try simp only [Act.put,s0,s1,s2])
     refine wpAnyH_ready (rs:=[18]) (by kernel_rfl) (by simp) ?_
     refine AllReadyH.cons (o:=⟨_,.entryStore 132 (.tmp 59) (.tmp 73) (.tmp 66),_,_,_,_⟩) rfl (fun K hK=>?_) ?_
     rw [if_pos (by rfl)];refine wp_entryStore (val:=.agg tc.toArray) _ _ _ _ rfl rfl rfl rfl (P10.out _ _ rfl) ?_;rintro w11 ⟨f11,m11⟩;have F11:=hid f11;have M11:=hid m11;clear f11 m11
     refine hK.out _ _ (hHeld.trans (Keep.far F11.out (.inl rfl))) (fun hHeld=>?_)
     clear hK K
     (try simp only [s0,s1,s2])
     refine wpAnyH_ready (rs:=[19]) (by kernel_rfl) (by simp) ?_
     refine AllReadyH.cons (o:=⟨_,.mapEntry 133 (.tmp 64) (.tmp 65),_,_,_,_⟩) rfl (fun K hK=>?_) ?_
     rw [if_pos (by rfl)];refine wp_entry _ _ _ rfl Tryz.underlying133 ZI.out WH.out (((MW.out.below ((Below.refl _ _).drew)).far F10.out (by have:=O.out;omega)).far F11.out (by have:=O.out;omega)) (by have:=NW.out;have:=HC.out;unfold maxLen;omega) rfl id IDO.out rfl ?_;intro v12 st12 w12 f12 p12;have F12:=hid f12;have P12:=hid p12;clear f12 p12
     refine hK.out _ _ (hHeld.trans (Keep.far F12.out (.inr rfl))) (fun hHeld=>?_)
     clear hK K
     (try simp only [s0,s1,s2])
     refine tkH (i:=20) (oi:=⟨_,.extract (.tmp 74) 1,_,_,_,_⟩) (v:=?v1011) rfl (yi ?y1011) hHeld ?_
     case y1011=>(intro w _;go_simp;(try with_reducible rfl))
     (try simp only [Act.put,s0,s1,s2])
     refine wpAnyH_ready (rs:=[21]) (by kernel_rfl) (by simp) ?_
     refine AllReadyH.cons (o:=⟨_,.entryStore 133 (.tmp 64) (.tmp 75) (.tmp 71),_,_,_,_⟩) rfl (fun K hK=>?_) ?_
     rw [if_pos (by rfl)];refine wp_entryStore (val:=.int .i64 h1) _ _ _ _ rfl rfl rfl rfl (P12.out _ _ rfl) ?_;rintro w13 ⟨f13,m13⟩;have F13:=hid f13;have M13:=hid m13;clear f13 m13
     refine hK.out _ _ (hHeld.trans (Keep.far F13.out (.inr rfl))) (fun hHeld=>?_)
     clear hK K
     (try simp only [s0,s1,s2])
     refine wpAnyH_done (by kernel_rfl) ?_ _
     rotate_left
     exact AllReadyH.nil
     exact AllReadyH.nil
     exact AllReadyH.nil
     exact AllReadyH.nil
     have KF:=hid hHeld
     clear hHeld
     go_wp2_with (fail)
     go_frame
     go_end0
     have o1:=O.out
     have KA:Keep (fun i=>i=hm∨i=sm∨i=dm∨i=wm) w w13:=(KW.out.mono (fun i h=>by omega)).trans (KF.out.mono (fun i h=>by omega))
     rcases CJ.out with⟨h0,_⟩|⟨_,a,k,hHM,hgd,hof⟩
     ·exact absurd h0 (by decide)
     have qd:∀b:Bool,(if b=true then nd else nd+1)≤c+1:=fun b=>by have:=ND.out;split <;> omega
     have qw:∀b:Bool,(if b=true then nw else nw+1)≤c+1:=fun b=>by have:=NW.out;split <;> omega
     have m3:=M3.out.keep KF.out (by omega)
     have m2:=((M2'.out.keep KJ.out (by omega)).keep KF.out (by omega))
     have m11:=(M11.out.far F12.out (by omega)).far F13.out (by omega)
     rw [hHM,HH1.out] at m3
     refine⟨rfl,⟨a,k,?_⟩,KA⟩
     refine H.out.turn KA (fun i h=>by have:=O2.out;omega) (H.out.ch.keep KA (by omega)) ⟨n3,N3.out,by unfold cnfM;rw [← IDE.out];exact m3⟩ ⟨_,_,qd _,m11⟩ ⟨_,_,qw _,M13.out⟩ ⟨n2,N2.out,by rw [← IDE.out];exact m2⟩ (H.out.offK KA (by have:=O2.out;omega) (by have:=O2.out;omega) (by omega)) (fun p y hy=>?_) (fun p y hy=>?_) ⟨Int.le_refl _,H.out.hb.2⟩ H.out.gb (by have:=HC.out;omega)
     ·unfold cnfM upd at hy
      split at hy
      ·obtain rfl:=Option.some.inj hy
       exact .inr ⟨hgd.keepN KF.out (fun ad ha h=>by have:=hof ad ha;omega),fun ad ha=>Nat.le_trans LE.out (hof ad ha),H4.out,by have:=H.out.hb;dsimp only;omega,Int.le_refl _⟩
      ·split at hy
       ·cases hy
       ·exact .inl hy
     ·unfold upd at hy
      split at hy
      ·obtain rfl:=Option.some.inj hy
       rw [← IDE.out];exact IDO.out
      ·exact H.out.sk p y hy
    have HJ0:=hid (show j=0 by omega)
    have EJ:=hid (show HMj=H1 from by rcases CJ.out with h|h;exact h.2;have:=h.1;have:=HJ0.out;omega)
    have t2:decide (j<1)=true:=decide_eq_true hlt
    have t3:decide ((j:Int)<1)=true:=decide_eq_true (by omega)
    have t6:(j:Int)<1:=by omega
    have t7:¬ ((1:Int)≤(j:Int)):=by omega
    have t8:¬ (1≤j):=by omega
    have ho:[o][j]? = some o:=by rw [HJ0.out];rfl
    obtain⟨b,off,rfl,rg⟩:=rd_row (fun z hz=>by simp only [List.mem_singleton] at hz;rw [hz];exact OutD.len og.out) PO.out ho hlt
    have xb:=HOO.out _ rfl
    have KW:=hid (show Keep (fun i=>i=hm∨i=sm) w wr from((Keep.of B4.out).trans KK.out).trans (KJ.out.mono fun i h=>Or.inl h))
    have rgr:=KW.out.range rg (fun h=>h.elim xb.1 xb.2)
    obtain⟨ocs,hocs⟩:∃ocs,ocs=o.cells:=⟨_,rfl⟩
    have OL:=hid (show ocs.length=34 by rw [hocs];exact OutD.len og.out)
    rw [← hocs] at rgr
    have hiC:=hid (show(Tryz.prog.info? 66).map (·.size)=some ocs.length by rw [OL.out];kernel_rfl)
    have hiCa:=hid (show(Tryz.prog.info? 66).map (·.size)=some ocs.toArray.size by rw [List.size_toArray,OL.out];kernel_rfl)
    have hoC:=hid (show 34=ocs.toArray.size by rw [List.size_toArray,OL.out])
    have h17:=hid (show(ocs.toArray.all fun x=>x.oneCell')=true by rw [hocs];exact all_oneCell_toArray (OutD.one o))
    obtain⟨j1,hj1⟩:∃j1,j1=j+1:=⟨_,rfl⟩
    have r4:IntKind.i64.wrap ((j:Int)+1)=(j1:Int):=by have:=HJ0.out;rw [IntKind.wrap_i64];omega
    have J1:=hid hj1
    have OCE:=hid hocs
    have GO:=hid (show o.good wr from og.out.keepN KW.out (fun ad ha h=>h.elim (HOF.out ad ha).1 (HOF.out ad ha).2))
    clear hj hlt ho rg xb hocs hj1
    go_upto_region 11 with(first|with_reducible refine wpList_load_mid rfl _ _ rfl b (off+j*34) rfl ocs _ rgr Tryz.underlying66 rfl hiC.out ?_|(refine wpList_store_row rfl _ _ _ rfl wr.heap.size ocs.toArray rfl rfl _ _ (heap_alloc_new _ _) hiCa.out hoC.out h17.out ?_;refine laidW (F:=fun w3=>wpList _ _ _ _ _ w3) ?_;intro w5 h5 b5))
    have HX5:=hid h5.out
    have B5:=hid b5.out
    have GO5:=hid (GO.out.below b5.out)
    have LR2:=hid (show wo.heap.size≤wr.heap.size from KJ.out.size)
    have K5:=hid (show Keep (fun i=>i=hm∨i=sm) w w5 from KW.out.trans (Keep.of b5.out))
    clear h5 b5 t1 t2 t3 t6 t7 t8 rgr k1'
    go_frame
    have c2:=hid (K5.out.cell H.out.ch.c2 (by have:=O.out;show ¬ (cb=hm∨cb=sm);omega))
    have c1:=hid (K5.out.cell H.out.ch.c1 (by have:=O.out;show ¬ (cb=hm∨cb=sm);omega))
    have rO:=hid (row_range HX5.out)
    have rI:=hid (row_range ((Keep.of B5.out (S:=fun i=>i=hm)).heap (KJ.out.heap (KK.out.heap HID.out (by have:=O.out;have:=L3.out;omega)) (by have:=O.out;have:=L3.out;omega)) (by have:=O.out;have:=L3.out;omega)))
    have M5:=hid (M3.out.below B5.out)
    have CC:=fun(wx:World) (bx:Below w5.heap.size w5 wx)=>hid (show Calls Tryz.prog 49 #[.agg ocs.toArray] wx (CopC wx o) from by rw [OCE.out];exact ccopied_walk o wx (GO5.out.below bx) (by have:=H4.out;omega))
    obtain⟨h1,hh1⟩:∃h1,h1=ht+1:=⟨_,rfl⟩
    have r5:IntKind.i64.wrap (ht+1)=h1:=by have:=H.out.hb;rw [IntKind.wrap_i64];omega
    have HH:=hid hh1
    obtain⟨pp,hpp⟩:∃pp,pp=ptI id (j:Int):=⟨_,rfl⟩
    have BPT:=hid (show Tryz.prog.built 60 [(0,.agg (nums .u8 id).toArray),(1,.int .i64 (j:Int))]=some pp.toArray from by rw [hpp];exact bPoint2 id _ IDO.out.1)
    have HPP:=hid (show Value.agg pp.toArray=EP.enc (id,(j:Int)) from by rw [hpp];rfl)
    clear hh1 hpp
    refine wp_region_X (l:=15) (S:=fun b w'=>True∧(b=false→Below w5.heap.size w5 w')) (by kernel_rfl) (⟨trivial,fun _=>(Below.refl _ _).drew⟩) (fun hHeld=>?_)
    try simp only [List.size_toArray,List.length_cons,List.length_nil,Nat.reduceAdd,Array.replicate_succ,Array.replicate_zero,List.push_toArray,List.nil_append,List.cons_append]
    refine tkE (i:=0) (oi:=⟨_,.move (.tmp 0),_,_,_,_⟩) (v:=?v2001) rfl (yi ?y2001) hHeld ?_
    case y2001=>(intro w _;go_simp;(try with_reducible rfl))
    (try simp only [Act.put,s0,s1,s2])
    refine tkE (i:=1) (oi:=⟨_,.nilCheck (.tmp 40),_,_,_,_⟩) (v:=?v2002) rfl (yi ?y2002) hHeld ?_
    case y2002=>(intro w _;go_simp;(try with_reducible rfl))
    (try simp only [Act.put,s0,s1,s2])
    refine tkE (i:=2) (oi:=⟨_,.fieldAddr 137 (.tmp 41) 2,_,_,_,_⟩) (v:=?v2003) rfl (yi ?y2003) hHeld ?_
    case y2003=>(intro w _;go_simp;(try with_reducible rfl))
    (try simp only [Act.put,s0,s1,s2])
    refine tkE (i:=3) (oi:=⟨_,.load 131 (.tmp 42),_,_,_,_⟩) (v:=(.map (some hm))) rfl (Or.inl ⟨by rfl,fun w h=>by have c9:=cell_keep (h.2 rfl) c2.out;go_simp⟩) hHeld ?_
    (try simp only [Act.put,s0,s1,s2])
    refine' tkE (i:=4) (oi:=⟨_,.load 43 (.tmp 4),_,_,_,_⟩) (v:=_) rfl (yieldsIf_load_mid (by rfl) _ _ rfl IB 0 rfl (nums .u8 id) _ (fun _ h=>range_keep (h.2 rfl) rI.out) Tryz.underlying43 rfl hiHl.out) hHeld ?_
    (try simp only [Act.put,s0,s1,s2])
    refine tkE (i:=5) (oi:=⟨_,.move (.tmp 7),_,_,_,_⟩) (v:=?v2004) rfl (yi ?y2004) hHeld ?_
    case y2004=>(intro w _;go_simp;(try with_reducible rfl))
    (try simp only [Act.put,s0,s1,s2])
    refine tkE (i:=6) (oi:=⟨_,.build 60 #[(0,.tmp 44),(1,.tmp 45)],_,_,_,_⟩) (v:=(.agg pp.toArray)) rfl (Or.inl ⟨by rfl,fun w _=>run_build2' rfl rfl rfl BPT.out⟩) hHeld ?_
    (try simp only [Act.put,s0,s1,s2])
    refine' tkE (i:=7) (oi:=⟨_,.load 66 (.tmp 8),_,_,_,_⟩) (v:=_) rfl (yieldsIf_load_mid (by rfl) _ _ rfl wr.heap.size 0 rfl ocs _ (fun _ h=>range_keep (h.2 rfl) rO.out) Tryz.underlying66 rfl hiC.out) hHeld ?_
    (try simp only [Act.put,s0,s1,s2])
    refine tkE (i:=9) (oi:=⟨_,.move (.tmp 0),_,_,_,_⟩) (v:=?v2005) rfl (yi ?y2005) hHeld ?_
    case y2005=>(intro w _;go_simp;(try with_reducible rfl))
    (try simp only [Act.put,s0,s1,s2])
    refine tkE (i:=10) (oi:=⟨_,.nilCheck (.tmp 49),_,_,_,_⟩) (v:=?v2006) rfl (yi ?y2006) hHeld ?_
    case y2006=>(intro w _;go_simp;(try with_reducible rfl))
    (try simp only [Act.put,s0,s1,s2])
    refine tkE (i:=11) (oi:=⟨_,.fieldAddr 137 (.tmp 50) 1,_,_,_,_⟩) (v:=?v2007) rfl (yi ?y2007) hHeld ?_
    case y2007=>(intro w _;go_simp;(try with_reducible rfl))
    (try simp only [Act.put,s0,s1,s2])
    refine tkE (i:=12) (oi:=⟨_,.load 3 (.tmp 51),_,_,_,_⟩) (v:=(.int .i64 ht)) rfl (Or.inl ⟨by rfl,fun w h=>by have c9:=cell_keep (h.2 rfl) c1.out;go_simp⟩) hHeld ?_
    (try simp only [Act.put,s0,s1,s2])
    refine tkE (i:=13) (oi:=⟨_,.binOp .add 3 (.tmp 52) (.const (.int .i64 1)) 3,_,_,_,_⟩) (v:=(.int .i64 h1)) rfl (Or.inl ⟨by rfl,fun w _=>by go_simp⟩) hHeld ?_
    (try simp only [Act.put,s0,s1,s2])
    refine wpAnyX_ready (rs:=[8]) (by kernel_rfl) (by simp) ?_
    refine AllReadyX.cons (o:=⟨_,.call ⟨.value (.func 49),#[.tmp 47],#[66]⟩,_,_,_,_⟩) rfl (b:=false) (by kernel_rfl) (fun K hK=>?_) ?_
    go_simp;refine(CC _ (hHeld.2 rfl)).out.mono ?_;rintro e w8 ⟨a,k,rfl,g8,o8,b8⟩;have G8:=hid g8;have O8:=hid o8;have B8:=hid b8;obtain⟨ncs,hncs⟩:∃ncs,ncs=(o.at' a k).cells:=⟨_,rfl⟩;rw [← hncs];obtain⟨hcs,hhcs⟩:∃hcs,hcs=(HeldD.mk (o.at' a k) h1).cells:=⟨_,rfl⟩;have HCS:=hid hhcs;have BHE:=hid (show Tryz.prog.built 75 [(0,.agg ncs.toArray),(1,.int .i64 h1)]=some hcs.toArray from by rw [hncs,hhcs];exact bHeld _ h1 g8.anchor.1);clear g8 o8 b8 hncs hhcs
    refine hK.out _ _ (⟨trivial,fun e=>(hHeld.2 e).trans (B8.out.mono (hHeld.2 e).size)⟩) (fun hHeld=>?_)
    clear hK K
    (try simp only [s0,s1,s2])
    refine tkE (i:=14) (oi:=⟨_,.build 75 #[(0,.tmp 48),(1,.tmp 53)],_,_,_,_⟩) (v:=(.agg hcs.toArray)) rfl (Or.inl ⟨by rfl,fun w _=>run_build2' rfl rfl rfl BHE.out⟩) hHeld ?_
    (try simp only [Act.put,s0,s1,s2])
    refine wpAnyX_ready (rs:=[15]) (by kernel_rfl) (by simp) ?_
    refine AllReadyX.cons (o:=⟨_,.mapUpdate 131 (.tmp 43) (.tmp 46) (.tmp 54),_,_,_,_⟩) rfl (b:=true) (by kernel_rfl) (fun K hK=>?_) ?_
    have BB:=hid (hHeld.2 rfl);rw [if_pos (by rfl)];refine wp_put (val:=.agg hcs.toArray) _ _ _ _ rfl Tryz.underlying131 (M5.out.below BB.out) (by have:=N3.out;have:=HC.out;have:=HJ0.out;unfold maxLen;omega) rfl (id,(j:Int)) ⟨IDO.out,by have:=HJ0.out;constructor <;> (dsimp only;omega)⟩ HPP.out rfl ?_;intro w9 m9 f9;have M9:=hid m9;have F9:=hid f9;clear m9 f9
    refine hK.out _ _ (⟨trivial,nofun⟩) (fun hHeld=>?_)
    clear hK K
    (try simp only [s0,s1,s2])
    refine wpAnyX_done (by kernel_rfl) ?_ _
    rotate_left
    exact AllReadyX.nil
    exact AllReadyX.nil
    clear hHeld
    go_wp2_with (fail)
    go_roundw
    case rel=>
     have od:=O.out
     have e1:j1=1:=by have:=J1.out;have:=HJ0.out;omega
     have q2:∀b:Bool,(if b=true then n3 else n3+1)≤c+j1:=fun b=>by have:=N3.out;have:=HJ0.out;split <;> omega
     have kf:Keep (fun i=>i=hm) w5 w9:=(Keep.of BB.out).trans (Keep.far' F9.out)
     have lw:w.heap.size≤w5.heap.size:=K5.out.size
     have lo8:∀g,(Value.slice a o.paths.length k).ownBlock=some g→w5.heap.size≤g:=fun g hg=>(O8.out.lt g hg).1
     have o9:=(Keep.far' F9.out).own O8.out (fun g hg e=>by have:=lo8 g hg;omega)
     have of:∀ad,a=some ad→w5.heap.size≤ad.block:=off_own o9
     obtain⟨a',c',e',hr⟩:=Rd.of_owns o9
     simp only [Value.slice.injEq] at e'
     obtain⟨rfl,_,rfl⟩:=e'
     have m9:=M9.out
     rw [HCS.out,held_upd,EJ.out,HJ0.out] at m9
     (repeat apply Exists.intro)
     refine⟨⟨j1,by omega,rfl,upd H1 (id,0) (some ⟨o.at' a k,h1⟩),⟨_,q2 _,m9⟩,.inr ⟨e1,a,k,by rw [HH.out],⟨og.out.coins,og.out.anchor,hr,og.out.ok⟩,fun ad ha=>Nat.le_trans lw (of ad ha)⟩,KJ.out.trans ((Keep.of B5.out).trans kf)⟩,?_⟩
     (repeat' (first|exact rfl|apply And.intro))
    case measure=>simp [intOf];have:=J1.out;have:=HJ0.out;omega
  have HI0:=hid (show i=0 by omega)
  have M1':=hid (show MapIs EP wr hm (heldM HM) n1 from by have:=M1.out;rwa [if_pos HI0.out] at this)
  have M2':=hid (show MapIs EP wr sm (hashM SM) n2 from by have:=M2.out;rwa [if_pos HI0.out] at this)
  have t1:decide (i<1)=true:=decide_eq_true hlt
  have t2:decide ((i:Int)<1)=true:=decide_eq_true (by omega)
  have t6:(i:Int)<1:=by omega
  have t7:¬ ((1:Int)≤(i:Int)):=by omega
  have t8:¬ (1≤i):=by omega
  have hx:[x][i]? = some x:=by rw [HI0.out];rfl
  obtain⟨b,off,rfl,rg⟩:=rd_row (fun z hz=>by simp only [List.mem_singleton] at hz;rw [hz];exact InD.len xok.out) PI.out hx hlt
  have rgb:=range_keep B4.out rg
  have xb:=hid (show ¬ (b=hm∨b=sm) from by
   have c0:w4.cell? ⟨b,off+i*130,none⟩=_:=rgb 0 _ (by unfold InD.cells;rw [List.getElem?_append_left (by simp [xok.out.tx.1])];exact nums_get .u8 (by rw [xok.out.tx.1];decide))
   rintro(e|e)
   ·rw [e] at c0;exact absurd c0 (by rw [MH.out.nocell];nofun)
   ·rw [e] at c0;exact absurd c0 (by rw [MS.out.nocell];nofun))
  have rgr:=KK.out.range rgb xb.out
  obtain⟨xcs,hxcs⟩:∃xcs,xcs=x.cells:=⟨_,rfl⟩
  have XL:=hid (show xcs.length=130 by rw [hxcs];exact InD.len xok.out)
  rw [← hxcs] at rgr
  have hiC:=hid (show(Tryz.prog.info? 69).map (·.size)=some xcs.length by rw [XL.out];kernel_rfl)
  have hiCa:=hid (show(Tryz.prog.info? 69).map (·.size)=some xcs.toArray.size by rw [List.size_toArray,XL.out];kernel_rfl)
  have hoC:=hid (show 130=xcs.toArray.size by rw [List.size_toArray,XL.out])
  have h17:=hid (show(xcs.toArray.all fun x=>x.oneCell')=true by rw [hxcs];exact all_oneCell_toArray (InD.one x))
  obtain⟨i1,hi1⟩:∃i1,i1=i+1:=⟨_,rfl⟩
  have r4:IntKind.i64.wrap ((i:Int)+1)=(i1:Int):=by have:=HI0.out;rw [IntKind.wrap_i64];omega
  have I1:=hid hi1
  obtain⟨lp,hlp⟩:∃lp,lp=ptI x.tx x.out:=⟨_,rfl⟩
  have XC:=hid (show(xcs.drop 0).take 33=lp from by rw [hxcs,hlp];exact InD.point xok.out)
  have LPE:=hid (show Value.agg lp.toArray=EP.enc (x.tx,x.out) from by rw [hlp];rfl)
  have OK:=hid (show EP.ok (x.tx,x.out) from⟨xok.out.tx,xok.out.out⟩)
  have hiP:=hid (show(Tryz.prog.info? 60).map (·.size)=some lp.length from by rw [hlp,show(ptI x.tx x.out).length=33 by simp [ptI,xok.out.tx.1]];kernel_rfl)
  clear hi hlt hx rg rgb hxcs hi1 hlp
  go_upto_region 5 with(first|with_reducible refine wpList_load_mid rfl _ _ rfl b (off+i*130) rfl xcs _ rgr Tryz.underlying69 rfl hiC.out ?_|(refine wpList_store_row rfl _ _ _ rfl wr.heap.size xcs.toArray rfl rfl _ _ (heap_alloc_new _ _) hiCa.out hoC.out h17.out ?_;refine laidW (F:=fun w3=>wpList _ _ _ _ _ w3) ?_;intro w5 h5 b5))
  have HX5:=hid h5.out
  have B5:=hid b5.out
  have LR:=hid (show w4.heap.size≤wr.heap.size from KK.out.size)
  have K5:=hid (show Keep (fun i=>i=hm∨i=sm) w4 w5 from KK.out.trans (Keep.of b5.out))
  clear h5 b5 t1 t2 t6 t7 t8 rgr k0 k1
  go_frame
  have L4w:=hid (H.out.below B4.out)
  have c2:=hid (K5.out.cell L4w.out.ch.c2 (by have:=OD.out;show ¬ (cb=hm∨cb=sm);omega))
  have rP:=hid (show w5.rangeAt wr.heap.size 0 lp from by have:=gen_range (row_range HX5.out) 0 33;rw [XC.out] at this;exact this)
  have M5:=hid (M1'.out.below B5.out)
  refine wp_region_X (l:=6) (S:=fun b w'=>True∧(b=false→Below w5.heap.size w5 w')) (by kernel_rfl) (⟨trivial,fun _=>(Below.refl _ _).drew⟩) (fun hHeld=>?_)
  try simp only [List.size_toArray,List.length_cons,List.length_nil,Nat.reduceAdd,Array.replicate_succ,Array.replicate_zero,List.push_toArray,List.nil_append,List.cons_append]
  refine tkA (i:=0) (oi:=⟨_,.move (.tmp 0),_,_,_,_⟩) (v:=?v3001) (b:=false) rfl (yi ?y3001) hHeld ?_
  case y3001=>(intro w _;go_simp;(try with_reducible rfl))
  (try simp only [Act.put,s0,s1,s2])
  refine tkA (i:=1) (oi:=⟨_,.nilCheck (.tmp 18),_,_,_,_⟩) (v:=?v3002) (b:=false) rfl (yi ?y3002) hHeld ?_
  case y3002=>(intro w _;go_simp;(try with_reducible rfl))
  (try simp only [Act.put,s0,s1,s2])
  refine tkA (i:=2) (oi:=⟨_,.fieldAddr 137 (.tmp 19) 2,_,_,_,_⟩) (v:=?v3003) (b:=false) rfl (yi ?y3003) hHeld ?_
  case y3003=>(intro w _;go_simp;(try with_reducible rfl))
  (try simp only [Act.put,s0,s1,s2])
  refine tkE (i:=3) (oi:=⟨_,.load 131 (.tmp 20),_,_,_,_⟩) (v:=(.map (some hm))) rfl (Or.inl ⟨by rfl,fun w h=>by have c9:=cell_keep (h.2 rfl) c2.out;go_simp⟩) hHeld ?_
  (try simp only [Act.put,s0,s1,s2])
  refine tkA (i:=4) (oi:=⟨_,.fieldAddr 69 (.tmp 6) 0,_,_,_,_⟩) (v:=?v3004) (b:=false) rfl (yi ?y3004) hHeld ?_
  case y3004=>(intro w _;go_simp;(try with_reducible rfl))
  (try simp only [Act.put,s0,s1,s2])
  refine' tkE (i:=5) (oi:=⟨_,.load 60 (.tmp 22),_,_,_,_⟩) (v:=_) rfl (yieldsIf_load_mid (by rfl) _ _ rfl wr.heap.size 0 rfl lp _ (fun _ h=>range_keep (h.2 rfl) rP.out) Tryz.underlying60 rfl hiP.out) hHeld ?_
  (try simp only [Act.put,s0,s1,s2])
  refine wpAnyX_ready (rs:=[6]) (by kernel_rfl) (by simp) ?_
  refine AllReadyX.cons (o:=⟨_,.call ⟨.builtin .delete,#[.tmp 21,.tmp 23],#[131,60]⟩,_,_,_,_⟩) rfl (b:=true) (by kernel_rfl) (fun K hK=>?_) ?_
  have BB:=hid (hHeld.2 rfl);rw [if_pos (by rfl)];refine wp_del _ _ 131 rfl Tryz.underlying131 (M5.out.below BB.out) rfl (x.tx,x.out) OK.out LPE.out ?_;intro w6 m6 f6;rw [held_del] at m6;have M6:=hid m6;have F6:=hid f6;clear m6 f6
  refine hK.out _ _ (⟨trivial,nofun⟩) (fun hHeld=>?_)
  clear hK K
  (try simp only [s0,s1,s2])
  refine wpAnyX_done (by kernel_rfl) ?_ _
  rotate_left
  exact AllReadyX.nil
  clear hHeld
  go_upto_region 6 with(fail)
  have O:=hid (show hm<sm∧sm<cb∧cb<w.heap.size∧hm<w4.heap.size from by have:=OD.out;have:=LE.out;have:=LW.out;omega)
  have KW6:=hid (show Keep (fun i=>i=hm) w5 w6 from(Keep.of BB.out).trans (Keep.far' F6.out))
  have HX6:=hid (KW6.out.heap HX5.out (by have:=O.out;have:=LR.out;omega))
  have c5:=hid (KW6.out.cell (K5.out.cell L4w.out.ch.c5 (by have:=OD.out;show ¬ (cb=hm∨cb=sm);omega)) (by have:=O.out;show ¬ cb=hm;omega))
  have rP6:=hid (show w6.rangeAt wr.heap.size 0 lp from by have:=gen_range (row_range HX6.out) 0 33;rw [XC.out] at this;exact this)
  have rI6:=hid (row_range (KW6.out.heap (K5.out.heap HID.out (by have:=O.out;have:=L3.out;have:=OD.out;omega)) (by have:=O.out;have:=L3.out;omega)))
  have M7:=hid (((M2'.out.below B5.out).below BB.out).keep (Keep.far' F6.out) (by have:=O.out;omega))
  refine wp_region_X (l:=7) (S:=fun b w'=>True∧(b=false→Below w6.heap.size w6 w')) (by kernel_rfl) (⟨trivial,fun _=>(Below.refl _ _).drew⟩) (fun hHeld=>?_)
  try simp only [List.size_toArray,List.length_cons,List.length_nil,Nat.reduceAdd,Array.replicate_succ,Array.replicate_zero,List.push_toArray,List.nil_append,List.cons_append]
  refine tkE (i:=0) (oi:=⟨_,.move (.tmp 0),_,_,_,_⟩) (v:=?v4001) rfl (yi ?y4001) hHeld ?_
  case y4001=>(intro w _;go_simp;(try with_reducible rfl))
  (try simp only [Act.put,s0,s1,s2])
  refine tkE (i:=1) (oi:=⟨_,.nilCheck (.tmp 24),_,_,_,_⟩) (v:=?v4002) rfl (yi ?y4002) hHeld ?_
  case y4002=>(intro w _;go_simp;(try with_reducible rfl))
  (try simp only [Act.put,s0,s1,s2])
  refine tkE (i:=2) (oi:=⟨_,.fieldAddr 137 (.tmp 25) 5,_,_,_,_⟩) (v:=?v4003) rfl (yi ?y4003) hHeld ?_
  case y4003=>(intro w _;go_simp;(try with_reducible rfl))
  (try simp only [Act.put,s0,s1,s2])
  refine tkE (i:=3) (oi:=⟨_,.load 134 (.tmp 26),_,_,_,_⟩) (v:=(.map (some sm))) rfl (Or.inl ⟨by rfl,fun w h=>by have c9:=cell_keep (h.2 rfl) c5.out;go_simp⟩) hHeld ?_
  (try simp only [Act.put,s0,s1,s2])
  refine tkE (i:=4) (oi:=⟨_,.fieldAddr 69 (.tmp 6) 0,_,_,_,_⟩) (v:=?v4004) rfl (yi ?y4004) hHeld ?_
  case y4004=>(intro w _;go_simp;(try with_reducible rfl))
  (try simp only [Act.put,s0,s1,s2])
  refine' tkE (i:=5) (oi:=⟨_,.load 60 (.tmp 28),_,_,_,_⟩) (v:=_) rfl (yieldsIf_load_mid (by rfl) _ _ rfl wr.heap.size 0 rfl lp _ (fun _ h=>range_keep (h.2 rfl) rP6.out) Tryz.underlying60 rfl hiP.out) hHeld ?_
  (try simp only [Act.put,s0,s1,s2])
  refine' tkE (i:=6) (oi:=⟨_,.load 43 (.tmp 4),_,_,_,_⟩) (v:=_) rfl (yieldsIf_load_mid (by rfl) _ _ rfl IB 0 rfl (nums .u8 id) _ (fun _ h=>range_keep (h.2 rfl) rI6.out) Tryz.underlying43 rfl hiHl.out) hHeld ?_
  (try simp only [Act.put,s0,s1,s2])
  refine wpAnyX_ready (rs:=[7]) (by kernel_rfl) (by simp) ?_
  refine AllReadyX.cons (o:=⟨_,.mapUpdate 134 (.tmp 27) (.tmp 29) (.tmp 30),_,_,_,_⟩) rfl (b:=true) (by kernel_rfl) (fun K hK=>?_) ?_
  have BC:=hid (hHeld.2 rfl);rw [if_pos (by rfl)];refine wp_put (val:=.agg (nums .u8 id).toArray) _ _ _ _ rfl Tryz.underlying134 (M7.out.below BC.out) (by have:=N2.out;have:=HC.out;have:=HI0.out;unfold maxLen;omega) rfl (x.tx,x.out) OK.out LPE.out rfl ?_;intro w7 m7 f7;rw [hash_upd] at m7;have M8:=hid m7;have F7:=hid f7;clear m7 f7
  refine hK.out _ _ (⟨trivial,nofun⟩) (fun hHeld=>?_)
  clear hK K
  (try simp only [s0,s1,s2])
  refine wpAnyX_done (by kernel_rfl) ?_ _
  rotate_left
  exact AllReadyX.nil
  clear hHeld
  go_wp2_with (fail)
  go_roundw
  case rel=>
   have e1:i1=1:=by have:=I1.out;have:=HI0.out;omega
   have k67:Keep (fun i=>i=hm∨i=sm) w5 w7:=(KW6.out.mono (fun i h=>Or.inl h)).trans ((Keep.of BC.out).trans (Keep.far F7.out (.inr rfl)))
   have q:∀b:Bool,(if b=true then n1 - 1 else n1)≤c:=fun b=>by have:=N1.out;split <;> omega
   have q2:∀b:Bool,(if b=true then n2 else n2+1)≤c+i1:=fun b=>by have:=N2.out;have:=HI0.out;split <;> omega
   have m6':=(M6.out.below BC.out).keep (Keep.far' F7.out) (by have:=O.out;omega)
   obtain⟨n6,hn6,m6⟩:∃n,n≤c∧MapIs EP w7 hm (heldM (upd HM (x.tx,x.out) none)) n:=⟨_,q _,m6'⟩
   obtain⟨n8,hn8,m8⟩:∃n,n≤c+i1∧MapIs EP w7 sm (hashM (upd SM (x.tx,x.out) (some id))) n:=⟨_,q2 _,M8.out⟩
   refine⟨i1,by omega,rfl,⟨n6,hn6,by rw [if_neg (by omega)];exact m6⟩,⟨n8,hn8,by rw [if_neg (by omega)];exact m8⟩,K5.out.trans k67⟩
  case measure=>simp [intOf];have:=I1.out;have:=HI0.out;omega
end Go.Proofs.YtnbmpgballopeaaGreatDoor

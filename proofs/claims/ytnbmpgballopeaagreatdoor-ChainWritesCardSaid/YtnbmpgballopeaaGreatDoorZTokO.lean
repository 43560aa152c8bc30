/- The chain's copied: an output with paths of its own. -/
import Derived.Test.YtnbmpgballopeaaGreatDoorZStr
import Derived.Test.YtnbmpgballopeaaGreatDoorZKeep
import Derived.Test.YtnbmpgballopeaaGreatDoorZPick
import Derived.Test.YtnbmpgballopeaaGreatDoorZChg
import Derived.Test.YtnbmpgballopeaaGreatDoorZTag
namespace Go.Proofs.YtnbmpgballopeaaGreatDoor
open Go.RowKit
theorem zv_out{t:TypeId}{Z:Array Value}(h:(Tryz.prog.info? t).map (·.zero)=some (some (.agg Z)))(w:World):(zeroValue t).run Tryz.prog w = .ok (.agg Z) w:=by
 cases hi:Tryz.prog.info? t with
 | none=>rw [hi] at h;cases h
 | some i=>
  rw [hi] at h
  simp only [Option.map_some,Option.some.injEq] at h
  simp [zeroValue,typeInfo,hi,h]
def OutD.at'(o:OutD)(a:Option Addr)(c:Nat):OutD:=⟨o.coins,a,c,o.paths,o.anchor⟩
theorem OutD.at_cells(o:OutD)(a:Option Addr)(c:Nat):o.cells.set 1 (.slice a o.paths.length c)=(o.at' a c).cells:=rfl
theorem paths_one(o:OutD):∀u∈o.paths.flatMap PathD.cells,u.oneCell'=true:=fun u hu=>by
 obtain⟨p,_,hp⟩:=List.mem_flatMap.1 hu
 exact PathD.one p u hp
def CopC(w:World)(o:OutD)(e:Ending)(w':World):Prop:=∃a c,e = .returned (.agg (o.at' a c).cells.toArray)∧(o.at' a c).good w'∧w'.ownsRow w.heap.size 121 98 (.slice a o.paths.length c) o.paths.length (o.paths.flatMap PathD.cells)∧Below w.heap.size w w'
set_option maxRecDepth 100000 in
set_option maxHeartbeats 4000000 in
theorem ccopied_walk(o:OutD)(w:World)(h:o.good w)(hn:o.paths.length≤4096):Calls Tryz.prog 49 #[.agg o.cells.toArray] w (CopC w o):=by
 have G:=hid h
 have HN:=hid hn
 obtain⟨oc,hoc⟩:∃oc,oc=o.cells:=⟨_,rfl⟩
 have HOC:=hid hoc
 have OL:=hid (show oc.length=34 by rw [hoc];exact OutD.len h)
 obtain⟨zo,hzo⟩:∃zo:Array Value,zo=zOut:=⟨_,rfl⟩
 have ZH:∀w:World,(zeroValue 66).run Tryz.prog w = .ok (.agg zo) w:=by rw [hzo];exact zv_out (by kernel_rfl)
 have zl:=hid (show zo.size=34 by rw [hzo];rfl)
 have A2:=alloc2p w (.cells oc.toArray 66) (.cells zo 66)
 have HA:=hid A2.1
 have HR:=hid A2.2.1
 have B1:=hid A2.2.2.2
 obtain⟨N,hN⟩:∃N,N=o.paths.length:=⟨_,rfl⟩
 obtain⟨pa,hpa⟩:∃pa,pa=o.pa:=⟨_,rfl⟩
 obtain⟨pc,hpc⟩:∃pc,pc=o.pc:=⟨_,rfl⟩
 have NN:=hid hN
 have PP:=hid (show Rd w 98 pa N pc (o.paths.flatMap PathD.cells) by rw [hpa,hpc,hN];exact h.paths)
 have c1:=gen_cell (j:=1) (row_range A2.1) (v:=.slice pa N pc) (by rw [hoc,hpa,hpc,hN];rfl)
 rw [← hoc]
 clear h hn hzo A2 hoc hN hpa hpc
 go_enter Tryz.func49,Tryz.ntmps49
 go_upto_region 1 with(fail)
 generalize (w.alloc (.cells oc.toArray 66)).alloc (.cells zo 66)=w1 at *
 go_wp2_with (fail)
 refine(cloPath_walk pa N pc _ w1 (PP.out.below B1.out) (paths_one o) (by rw [NN.out];exact HN.out)).mono ?_
 rintro e w2 ⟨a2,k2,rfl,o2,b2⟩
 have O2:=hid o2
 have B2:=hid (show Below w.heap.size w w2 from B1.out.trans (b2.mono B1.out.size))
 have HA2:=hid (heap_keep HA.out b2)
 have HR2:=hid (heap_keep HR.out b2)
 have c1b:=cell_keep b2 c1
 have z1:w2.frozen? ⟨w.heap.size,1,none⟩=false:=frozen_of_row _ _ _ _ _ HA2.out
 have W1:=hid (show w.heap.size+1<w1.heap.size from(Array.getElem?_eq_some_iff.1 HR.out).1)
 obtain⟨nc,hnc⟩:∃nc,nc=(o.at' a2 k2).cells:=⟨_,rfl⟩
 have hS:(w2.setCell ⟨w.heap.size,1,none⟩ (.slice a2 N k2)).heap[w.heap.size]? = some (.cells nc.toArray 66 (0,0)):=by
  rw [heap_set _ HA2.out,hnc,← OutD.at_cells,HOC.out,NN.out]
 have rS:=row_range hS
 have NL:=hid (show nc.length=34 by rw [hnc];have:=OutD.len (G.out);exact this)
 have hiC:=hid (show(Tryz.prog.info? 66).map (·.size)=some nc.length by rw [NL.out];kernel_rfl)
 have hiCa:=hid (show(Tryz.prog.info? 66).map (·.size)=some nc.toArray.size by rw [List.size_toArray,NL.out];kernel_rfl)
 have hoC:=hid (show zo.size=nc.toArray.size by rw [zl.out,List.size_toArray,NL.out])
 have h16:=hid (show(nc.toArray.all fun x=>x.oneCell')=true by rw [hnc];exact all_oneCell_toArray (OutD.one _))
 have FS:=hid (show Far w.heap.size w2 (w2.setCell ⟨w.heap.size,1,none⟩ (.slice a2 N k2)) from Far.set _)
 have hR3:=heap_far HR2.out FS.out (by omega)
 have HNC:=hid hnc
 clear o2 b2 c1 hnc
 go_wp2_with (first|with_reducible refine wpList_load_mid rfl _ _ rfl w.heap.size 0 rfl nc _ rS Tryz.underlying66 rfl hiC.out ?_|refine wpList_store_row rfl _ _ _ rfl (w.heap.size+1) nc.toArray rfl rfl _ _ hR3 hiCa.out hoC.out h16.out ?_)
 refine bodyPost_ret (results_cellH rfl _ _ (w.heap.size+1) _ nc.toArray _ _ rfl (setRow_heap _ _ _ _ _ _ hR3) Tryz.underlying66 rfl hiCa.out) rfl ?_
 obtain rfl:N=o.paths.length:=NN.out
 have KF:=((Keep.far' FS.out).mono (fun i h=>Or.inl h) (R:=fun i=>i=w.heap.size∨i=w.heap.size+1)).trans ((Keep.far' (far_row (w2.setCell ⟨w.heap.size,1,none⟩ (.slice a2 o.paths.length k2)) (w.heap.size+1) nc.toArray)).mono (fun i h=>Or.inr h))
 have w1l:=W1.out
 have o2:=KF.own O2.out (fun g hg e=>by
  have:=(O2.out.lt _ hg).1
  omega)
 have o3:=own_mono o2 B1.out.size
 obtain⟨a',c',e',hr⟩:=Rd.of_owns o3
 simp only [Value.slice.injEq] at e'
 obtain⟨rfl,_,rfl⟩:=e'
 refine⟨a2,k2,by rw [HNC.out],⟨G.out.coins,G.out.anchor,hr,G.out.ok⟩,o3,B2.out.trans (KF.below (fun i e=>by omega) B2.out.size)⟩
end Go.Proofs.YtnbmpgballopeaaGreatDoor
/- The chain's memory: points as keys, the chain's struct, its maps; New, Height. -/
namespace Go.Proofs.YtnbmpgballopeaaGreatDoor
open Go.RowKit
def EP:KeyE 60 (List Nat × Int) where
 enc:=fun p=>.agg (ptI p.1 p.2).toArray
 ok:=fun p=>H32b p.1∧i64ok p.2
 kv:=fun _ h=>kv_point h.1 h.2
 inj:=fun x y hx hy e=>by
  have:=(point_inj hx.1 hy.1).1 e
  exact Prod.ext this.1 this.2
 law:=keyPoint.law
 kinj:=keyPoint.inj
def chL(ob:Nat)(ht:Int)(hm dm wm sm:Nat)(pool:Value)(gf:Int):List Value:=
 [.pointer (some ⟨ob,0,none⟩),.int .i64 ht,.map (some hm),.map (some dm),.map (some wm),.map (some sm),pool,.int .i64 gf]
structure ChAt (w:World) (cb ob:Nat) (ht:Int) (hm dm wm sm:Nat) (pool:Value) (gf:Int):Prop where
 cell:w.heap[cb]? = some (.cells (chL ob ht hm dm wm sm pool gf).toArray 137 (0,0))
section
variable {w w':World} {cb ob hm dm wm sm:Nat} {ht gf:Int} {pool:Value}
theorem ChAt.c0(h:ChAt w cb ob ht hm dm wm sm pool gf):w.cell? ⟨cb,0,none⟩=some (.pointer (some ⟨ob,0,none⟩)):=gen_cell (j:=0) (row_range h.cell) rfl
theorem ChAt.c1(h:ChAt w cb ob ht hm dm wm sm pool gf):w.cell? ⟨cb,1,none⟩=some (.int .i64 ht):=gen_cell (j:=1) (row_range h.cell) rfl
theorem ChAt.c2(h:ChAt w cb ob ht hm dm wm sm pool gf):w.cell? ⟨cb,2,none⟩=some (.map (some hm)):=gen_cell (j:=2) (row_range h.cell) rfl
theorem ChAt.c3(h:ChAt w cb ob ht hm dm wm sm pool gf):w.cell? ⟨cb,3,none⟩=some (.map (some dm)):=gen_cell (j:=3) (row_range h.cell) rfl
theorem ChAt.c4(h:ChAt w cb ob ht hm dm wm sm pool gf):w.cell? ⟨cb,4,none⟩=some (.map (some wm)):=gen_cell (j:=4) (row_range h.cell) rfl
theorem ChAt.c5(h:ChAt w cb ob ht hm dm wm sm pool gf):w.cell? ⟨cb,5,none⟩=some (.map (some sm)):=gen_cell (j:=5) (row_range h.cell) rfl
theorem ChAt.c6(h:ChAt w cb ob ht hm dm wm sm pool gf):w.cell? ⟨cb,6,none⟩=some pool:=gen_cell (j:=6) (row_range h.cell) rfl
theorem ChAt.c7(h:ChAt w cb ob ht hm dm wm sm pool gf):w.cell? ⟨cb,7,none⟩=some (.int .i64 gf):=gen_cell (j:=7) (row_range h.cell) rfl
theorem ChAt.fz(h:ChAt w cb ob ht hm dm wm sm pool gf)(k:Nat):w.frozen? ⟨cb,k,none⟩=false:=frozen_of_row _ _ _ _ _ h.cell
theorem ChAt.lt(h:ChAt w cb ob ht hm dm wm sm pool gf):cb<w.heap.size:=(Array.getElem?_eq_some_iff.1 h.cell).1
theorem ChAt.keep{S:Nat→Prop}(h:ChAt w cb ob ht hm dm wm sm pool gf)(k:Keep S w w')(hn:¬ S cb):ChAt w' cb ob ht hm dm wm sm pool gf:=⟨k.heap h.cell hn⟩
theorem ChAt.below(h:ChAt w cb ob ht hm dm wm sm pool gf)(b:Below w.heap.size w w'):ChAt w' cb ob ht hm dm wm sm pool gf:=⟨heap_keep h.cell b⟩
theorem cheight_walk(h:ChAt w cb ob ht hm dm wm sm pool gf):Calls Tryz.prog 25 #[.pointer (some ⟨cb,0,none⟩)] w fun e w'=>e = .returned (.int .i64 ht)∧w=w':=by
 have c1:=h.c1
 clear h
 go_enter Tryz.func25,Tryz.ntmps25
 go_wp2
 go_ret
 exact⟨rfl,rfl⟩
end
def NewCRes(w:World)(ob:Nat)(e:Ending)(w':World):Prop:=
 ∃cb hm dm wm sm,e = .returned (.pointer (some ⟨cb,0,none⟩))∧ChAt w' cb ob 0 hm dm wm sm (.slice none 0 0) 0∧MapIs EP w' hm (fun _=>none) 0∧MapIs EH w' dm (fun _=>none) 0∧MapIs EH w' wm (fun _=>none) 0∧MapIs EP w' sm (fun _=>none) 0 ∧
  (w.heap.size≤hm∧hm<dm∧dm<wm∧wm<sm∧sm<cb)∧Below w.heap.size w w'
set_option maxRecDepth 100000 in
set_option maxHeartbeats 4000000 in
theorem cnew_walk(ob:Nat)(w:World):Calls Tryz.prog 18 #[.pointer (some ⟨ob,0,none⟩)] w (NewCRes w ob):=by
 have hmm:=@run_makeMap Tryz.prog
 obtain⟨w1,hw1⟩:∃w1,w1=w.alloc (.map #[] 0):=⟨_,rfl⟩
 obtain⟨w2,hw2⟩:∃w2,w2=w1.alloc (.map #[] 0):=⟨_,rfl⟩
 obtain⟨w3,hw3⟩:∃w3,w3=w2.alloc (.map #[] 0):=⟨_,rfl⟩
 obtain⟨w4,hw4⟩:∃w4,w4=w3.alloc (.map #[] 0):=⟨_,rfl⟩
 obtain⟨w5,hw5⟩:∃w5,w5=w4.alloc (.cells (chL ob 0 w.heap.size w1.heap.size w2.heap.size w3.heap.size (.slice none 0 0) 0).toArray 137):=⟨_,rfl⟩
 have b1:Below w.heap.size w w1:=by rw [hw1];exact(Below.refl _ _).alloc (Nat.le_refl _) _
 have b2:Below w1.heap.size w1 w2:=by rw [hw2];exact(Below.refl _ _).alloc (Nat.le_refl _) _
 have b3:Below w2.heap.size w2 w3:=by rw [hw3];exact(Below.refl _ _).alloc (Nat.le_refl _) _
 have b4:Below w3.heap.size w3 w4:=by rw [hw4];exact(Below.refl _ _).alloc (Nat.le_refl _) _
 have b5:Below w4.heap.size w4 w5:=by rw [hw5];exact(Below.refl _ _).alloc (Nat.le_refl _) _
 have m1:MapIs EP w1 w.heap.size (fun _=>none) 0:=by rw [hw1];exact MapIs.made w
 have m2:MapIs EH w2 w1.heap.size (fun _=>none) 0:=by rw [hw2];exact MapIs.made w1
 have m3:MapIs EH w3 w2.heap.size (fun _=>none) 0:=by rw [hw3];exact MapIs.made w2
 have m4:MapIs EP w4 w3.heap.size (fun _=>none) 0:=by rw [hw4];exact MapIs.made w3
 have hc:ChAt w5 w4.heap.size ob 0 w.heap.size w1.heap.size w2.heap.size w3.heap.size (.slice none 0 0) 0:=⟨by rw [hw5];exact heap_alloc_new _ _⟩
 have F:=hid (show NewCRes w ob (.returned (.pointer (some ⟨w4.heap.size,0,none⟩))) w5 from
  ⟨_,_,_,_,_,rfl,hc,(((m1.below b2).below b3).below b4).below b5,((m2.below b3).below b4).below b5,(m3.below b4).below b5,m4.below b5,⟨Nat.le_refl _,m1.lt,m2.lt,m3.lt,m4.lt⟩,
   (((b1.trans (b2.mono b1.size)).trans (b3.mono (Nat.le_trans b1.size b2.size))).trans (b4.mono (Nat.le_trans (Nat.le_trans b1.size b2.size) b3.size))).trans (b5.mono (Nat.le_trans (Nat.le_trans (Nat.le_trans b1.size b2.size) b3.size) b4.size))⟩)
 clear b1 b2 b3 b4 b5 m1 m2 m3 m4 hc
 subst hw5 hw4 hw3 hw2 hw1
 go_enter Tryz.func18,Tryz.ntmps18
 go_wp2
 go_ret
 simpa [chL] using F.out
end Go.Proofs.YtnbmpgballopeaaGreatDoor
/- Tags: a new one; how often it was used. -/
namespace Go.Proofs.YtnbmpgballopeaaGreatDoor
open Go.RowKit
noncomputable def tagC (s:ByteArray):Array Value:=Tryz.zeroCells172.setIfInBounds 0 (.string s)
theorem tagZ_size:Tryz.zeroCells172.size=79:=by kernel_rfl
theorem tagC_new(s:ByteArray):TagNew (tagC s) s 0 where
 sz:=by unfold tagC;rw [Array.size_setIfInBounds];exact tagZ_size
 nm:=by unfold tagC;rw [Array.getElem?_setIfInBounds_self_of_lt (by rw [tagZ_size];decide)]
 dn:=by unfold tagC;rw [Array.getElem?_setIfInBounds_ne (by decide)];kernel_rfl
 fr:=by unfold tagC;rw [Array.getElem?_setIfInBounds_ne (by decide)];kernel_rfl
 us:=by unfold tagC;rw [Array.getElem?_setIfInBounds_ne (by decide)];kernel_rfl
theorem built_tag(s:ByteArray):Tryz.prog.built 172 [(0,.string s)]=some (tagC s):=by kernel_rfl
theorem wpList_build1{P:Program}{ops:Array Oper}{rest:List Oper}{o:Oper}{a:Act}{w:World}{Q:Exit→Act→World→Prop}(hg:o.guard=none)(t:TypeId)(x:Operand)(ho:o.op = .build t #[(0,x)])
  {v0:Value} {cells:Array Value} (hb:P.built t [(0,v0)]=some cells) (hx:a.eval x=v0)
  (h:wpList P ops Q rest (a.put o.dst (.agg cells)) w):wpList P ops Q (o::rest) a w:=by
 have hv:((#[(0,x)]:Array (Nat × Operand)).map fun(i,x)=>(i,a.eval x)).toList=[(0,v0)]:=by simp [hx]
 exact wpList_build hg t _ ho (by rw [hv,hb];rfl) (by rw [hv,hb];exact h)
def NewTRes(w:World)(s:ByteArray)(e:Ending)(w':World):Prop:=∃g cur,e = .returned (.pointer (some ⟨g,0,none⟩))∧w.heap.size≤g∧w'.heap[g]? = some (.cells cur 172 (0,0))∧TagNew cur s 0∧Below w.heap.size w w'
set_option maxRecDepth 100000 in
theorem newtag_walk(s:ByteArray)(w:World):Calls Tryz.prog 37 #[.string s] w (NewTRes w s):=by
 have N:=hid (tagC_new s)
 have B:=hid (built_tag s)
 generalize tagC s=C at *
 go_enter Tryz.func37,Tryz.ntmps37
 go_wp2_with (refine wpList_build1 rfl _ _ rfl B.out rfl ?_)
 go_ret
 exact⟨w.heap.size,C,rfl,Nat.le_refl _,heap_alloc_new w _,N.out,(Below.refl _ _).alloc (Nat.le_refl _) _⟩
end Go.Proofs.YtnbmpgballopeaaGreatDoor
/- A transaction's name: Id. -/
namespace Go.Proofs.YtnbmpgballopeaaGreatDoor
open Go.RowKit
theorem zv_of{t:TypeId}{Z:Array Value}(h:(Tryz.prog.info? t).map (·.zero)=some (some (.agg Z)))(w:World):(zeroValue t).run Tryz.prog w = .ok (.agg Z) w:=by
 cases hi:Tryz.prog.info? t with
 | none=>rw [hi] at h;cases h
 | some i=>
  rw [hi] at h
  simp only [Option.map_some,Option.some.injEq] at h
  simp [zeroValue,typeInfo,hi,h]
def zh:List Nat:=List.replicate 32 0
def nmTx:ByteArray:=⟨#[109,111,110,101,121,101,114,47,116,120]⟩
def idB(t:TxD):List Nat:=if t.code=0 then sha (tagH nmTx++bodyB t) else zh
theorem outsC_zero:∀ {os:List OutD},outsC os=0 → ∀o∈os,o.code=0
 | [],_,o,ho=>by simp at ho
 | x::r,h,o,ho=>by
  rw [outsC] at h
  split at h
  ·rename_i hx
   rcases List.mem_cons.1 ho with rfl|ho
   ·exact hx
   ·exact outsC_zero h o ho
  ·rename_i hx;exact absurd h hx
theorem code_zero{t:TxD}(h:t.code=0):t.ins.length≤256∧t.outs.length≤256 ∧ ∀o∈t.outs,o.paths.length≤4:=by
 unfold TxD.code at h
 split at h
 ·omega
 ·rename_i h1
  split at h
  ·omega
  ·split at h
   ·rename_i h3;exact absurd h h3
   ·split at h
    ·rename_i h4;exact absurd h h4
    ·rename_i h4
     refine⟨by omega,by omega,fun o ho=>?_⟩
     have h5:outsC t.outs=0:=Classical.byContradiction h4
     have:=outsC_zero h5 o ho
     unfold OutD.code at this
     split at this
     ·omega
     ·omega
theorem bodyB_lt{t:TxD}{w:World}(h:t.good w)(h4:∀o∈t.outs,o.paths.length≤4):∀d∈bodyB t,d<256:=by
 intro d hd
 unfold bodyB at hd
 simp only [List.mem_append,List.mem_cons,List.not_mem_nil,or_false,List.mem_flatMap] at hd
 rcases hd with(rfl|rfl)|⟨i,hi,hd⟩|⟨o,ho,hd⟩
 ·omega
 ·omega
 ·simp only [inB,List.mem_append] at hd
  rcases hd with hd|hd
  ·exact(h.iok i hi).tx.2 d hd
  ·exact f4_lt _ d hd
 ·have og:=h.ook o ho
  simp only [outB,List.mem_append,List.mem_cons,List.mem_flatMap] at hd
  rcases hd with hd|hd|hd|rfl|⟨p,hp,hd⟩
  ·exact f4_lt _ d hd
  ·exact f4_lt _ d hd
  ·exact og.anchor.2 d hd
  ·have:=h4 o ho;omega
  ·have pk:=og.ok p hp
   simp only [pathB,List.mem_append] at hd
   rcases hd with hd|hd|hd|hd|hd
   ·exact pk.own.2 d hd
   ·exact pk.also.2 d hd
   ·exact pk.lock.2 d hd
   ·exact f4_lt _ d hd
   ·exact f4_lt _ d hd
theorem part1F{wx:World}{g P n c:Nat}{T:TypeId}{a:Option Addr}{b:List Nat}(hP:wx.heap[P]? = some (.cells #[.slice a n c] T (0,0)))(hb:∀w',Far g wx w'→Sl .u8 w' a n c b)(hb8:∀d∈b,d<256)(hn:n≤140737488351232)(hPg:P≠g):∀w',Far g wx w'→Parts w' (some ⟨P,0,none⟩) 1 1 [⟨a,c,b⟩]:=by
 intro w' hf
 have hP':=heap_far hP hf hPg
 have hl:b.length=n:=(hb w' hf).len
 refine⟨⟨by simp [BS.cells],Nat.le_refl _,by decide,(fun e=>nomatch e),P,0,fun _=>rfl,fun j u hu=>?_⟩,rfl,fun l hl'=>?_⟩
 ·have:=gen_cell (j:=j) (row_range (L:=[.slice a n c]) hP') (v:=u) (by simpa [BS.cells,hl] using hu)
  simpa using this
 ·simp only [List.mem_cons,List.not_mem_nil,or_false] at hl'
  subst hl'
  exact⟨by rw [show(BS.mk a c b).v.length=n from hl];exact hb w' hf,hb8,by rw [show(BS.mk a c b).v.length=n from hl];exact hn⟩
set_option maxRecDepth 100000 in
set_option maxHeartbeats 8000000 in
theorem cid_walk(t:TxD)(w:World)(h:t.good w)(ht:Tabs w):Calls Tryz.prog 12 #[.agg t.cells.toArray] w fun e w'=>e = .returned (.agg (nums .u8 (idB t)).toArray)∧Below w.heap.size w w':=by
 have G:=hid h
 have HT:=hid ht
 obtain⟨tc,htc⟩:∃tc,tc=t.cells:=⟨_,rfl⟩
 have TL:=hid (show tc.length=2 by rw [htc];rfl)
 obtain⟨zz,hzz⟩:∃zz:List Nat,zz=zh:=⟨_,rfl⟩
 have ZH:∀w:World,(zeroValue 43).run Tryz.prog w = .ok (.agg (nums .u8 zz).toArray) w:=by rw [hzz];exact zv_of (by kernel_rfl)
 have HZZ:=hid hzz
 have lz:=hid (show zz.length=32 by rw [hzz];rfl)
 have A2:=alloc2p w (.cells tc.toArray 25) (.cells (nums .u8 zz).toArray 43)
 have HA:=hid A2.1
 have HR:=hid A2.2.1
 have B1:=hid A2.2.2.2
 have CK:=fun(wx:World) (bx:Below w.heap.size w wx)=>hid (show Calls Tryz.prog 9 #[.agg tc.toArray] wx _ from by rw [htc];exact tcheck_walk t wx (G.out.below bx))
 have hiT:=hid (show(Tryz.prog.info? 25).map (·.size)=some tc.length by rw [TL.out];kernel_rfl)
 have HTC:=hid htc
 rw [← htc]
 clear h ht A2 hzz htc
 go_enter Tryz.func12,Tryz.ntmps12
 go_upto_region 1 with(fail)
 generalize (w.alloc (.cells tc.toArray 25)).alloc (.cells (nums .u8 zz).toArray 43)=w1 at *
 have rT:=row_range HA.out
 go_wp2_with (with_reducible refine wpList_load_mid rfl _ _ rfl w.heap.size 0 rfl tc _ rT Tryz.underlying25 rfl hiT.out ?_)
 refine(CK w1 B1.out).out.mono ?_
 rintro e w2 ⟨rfl,b2⟩
 have B2:=hid b2
 have BW2:=hid (show Below w.heap.size w w2 from B1.out.trans (b2.mono B1.out.size))
 have HR2:=hid (heap_keep HR.out b2)
 have HA2:=hid (heap_keep HA.out b2)
 clear b2 rT
 by_cases hz:t.code=0
 case neg=>
  have v1:((t.code:Int) == 0)=false:=by rw [beq_eq_false_iff_ne];omega
  have HZ:=hid hz
  have hiZ:=hid (show(Tryz.prog.info? 43).map (·.size)=some (nums .u8 zz).toArray.size by rw [List.size_toArray,nums_length,lz.out];kernel_rfl)
  have hz1:=hid (all_oneCell_toArray (nums_oneCell .u8 zz))
  clear hz
  go_upto_region 2 with(fail)
  go_wp2_with (refine wpList_store_row rfl _ _ _ rfl (w.heap.size+1) (nums .u8 zz).toArray rfl rfl _ _ HR2.out hiZ.out rfl hz1.out ?_)
  refine bodyPost_ret (results_cellH rfl _ _ (w.heap.size+1) _ (nums .u8 zz).toArray _ _ rfl (setRow_heap _ _ _ _ _ _ HR2.out) Tryz.underlying43 rfl hiZ.out) rfl ?_
  refine⟨by unfold idB;rw [if_neg HZ.out,HZZ.out],below_setRow BW2.out (by omega) _⟩
 have v1:((t.code:Int) == 0)=true:=by rw [beq_iff_eq];omega
 have CZ:=hid (code_zero hz)
 have IDB:=hid (show idB t=sha (tagH nmTx++bodyB t) from by unfold idB;rw [if_pos hz])
 clear hz
 go_upto_region 3 with(fail)
 have rT2:=hid (row_range HA2.out)
 have W1:=hid (show w.heap.size+1<w1.heap.size from(Array.getElem?_eq_some_iff.1 HR.out).1)
 have CB:=fun(wx:World) (bx:Below w.heap.size w wx)=>hid (show Calls Tryz.prog 39 #[.agg tc.toArray] wx _ from by rw [HTC.out];exact cbody_walk t wx (G.out.below bx) CZ.out.1 CZ.out.2.1 CZ.out.2.2)
 have B8:=hid (bodyB_lt G.out CZ.out.2.2)
 have BLEN:=hid (show(bodyB t).length≤1048576 from by
  have h1:=outsB_len (os:=t.outs) (fun o ho=>⟨(G.out.ook o ho).anchor.1,(G.out.ook o ho).ok,CZ.out.2.2 o ho⟩)
  have h2:=insB_len (is:=t.ins) G.out.iok
  have h3:=CZ.out
  unfold bodyB
  simp only [List.length_append,List.length_cons,List.length_nil,h2]
  omega)
 obtain⟨bd,hbd⟩:∃bd,bd=bodyB t:=⟨_,rfl⟩
 obtain⟨n,hn⟩:∃n,n=bd.length:=⟨_,rfl⟩
 have HBD:=hid (And.intro hbd hn)
 have NLE:=hid (show n≤1048576 by rw [hn,hbd];exact BLEN.out)
 rw [← hbd] at B8 IDB CB
 have hi6:=hid (show(Tryz.prog.info? 43).map (·.size)=some (nums .u8 (idB t)).toArray.size by rw [List.size_toArray,nums_length,IDB.out,sha_len];kernel_rfl)
 have ho6:=hid (show(nums .u8 zz).toArray.size=(nums .u8 (idB t)).toArray.size by rw [List.size_toArray,List.size_toArray,nums_length,nums_length,lz.out,IDB.out,sha_len])
 have h16:=hid (all_oneCell_toArray (nums_oneCell .u8 (idB t)))
 clear hbd hn
 refine wp_region_X (l:=5) (S:=fun b w'=>Below w.heap.size w w'∧(b=false→Below w2.heap.size w2 w')) (by kernel_rfl) (⟨BW2.out.trans ((Below.refl _ _).drew.mono BW2.out.size),fun _=>(Below.refl _ _).drew⟩) (fun hHeld=>?_)
 try simp only [List.size_toArray,List.length_cons,List.length_nil,Nat.reduceAdd,Array.replicate_succ,Array.replicate_zero,List.push_toArray,List.nil_append,List.cons_append]
 refine' tkE (i:=1) (oi:=⟨_,.load 25 (.tmp 1),_,_,_,_⟩) (v:=_) rfl (yieldsIf_load_mid (by rfl) _ _ rfl w.heap.size 0 rfl tc _ (fun _ h=>range_keep (h.2 rfl) rT2.out) Tryz.underlying25 rfl hiT.out) hHeld ?_
 (try simp only [Act.put,s0,s1,s2])
 refine wpAnyX_ready (rs:=[0]) (by kernel_rfl) (by simp) ?_
 refine AllReadyX.cons (o:=⟨_,.call ⟨.value (.func 37),#[.const (.string { data:=#[109,111,110,101,121,101,114,47,116,120] })],#[9]⟩,_,_,_,_⟩) rfl (b:=false) (by kernel_rfl) (fun K hK=>?_) ?_
 go_simp;refine(newtag_walk nmTx _).mono ?_;rintro e w3 ⟨gt,cur,rfl,hg,hc,hN,b3⟩;have HG:=hid hc;have GL:=hid (show w2.heap.size≤gt from Nat.le_trans (hHeld.2 rfl).size hg);have TN:=hid hN;have BT:=hid b3;clear hg hc hN b3
 refine hK.out _ _ (⟨hHeld.1.trans (BT.out.mono hHeld.1.size),fun e=>(hHeld.2 e).trans (BT.out.mono (hHeld.2 e).size)⟩) (fun hHeld=>?_)
 clear hK K
 (try simp only [List.setIfInBounds_toArray,List.set_cons_zero])
 refine wpAnyX_ready (rs:=[2]) (by kernel_rfl) (by simp) ?_
 refine AllReadyX.cons (o:=⟨_,.call ⟨.value (.func 39),#[.tmp 8],#[25]⟩,_,_,_,_⟩) rfl (b:=false) (by kernel_rfl) (fun K hK=>?_) ?_
 go_simp;refine(CB _ hHeld.1).out.mono ?_;rintro e w4 ⟨v4,rfl,o4,b4⟩;rw [← HBD.out.2] at o4;obtain⟨a4,c4,rfl,_⟩:=Rd.of_owns o4;have O4:=hid o4;have B4:=hid b4;have HG4:=hid (heap_keep HG.out b4);have GT4:=hid (show ∀x,(Value.slice a4 n c4).ownBlock=some x→x≠gt from fun x hx=>by have:=(O4.out.lt x hx).1;have:=(Array.getElem?_eq_some_iff.1 HG.out).1;omega);clear o4 b4
 refine hK.out _ _ (⟨hHeld.1.trans (B4.out.mono hHeld.1.size),fun e=>(hHeld.2 e).trans (B4.out.mono (hHeld.2 e).size)⟩) (fun hHeld=>?_)
 clear hK K
 (try simp only [s0,s1,s2])
 refine wpAnyX_ready (rs:=[3]) (by kernel_rfl) (by simp) ?_
 refine AllReadyX.cons (o:=⟨_,.buildSlice 173 1 #[(0,.tmp 9)],_,_,_,_⟩) rfl (b:=false) (by kernel_rfl) (fun K hK=>?_) ?_
 go_simp;(first|refine newZ ?_|refine newZd ?_);intro w5 HP B5
 refine hK.out _ _ (⟨hHeld.1.trans (B5.out.mono hHeld.1.size),fun e=>(hHeld.2 e).trans (B5.out.mono (hHeld.2 e).size)⟩) (fun hHeld=>?_)
 clear hK K
 (try simp only [s0,s1,s2])
 refine wpAnyX_ready (rs:=[4]) (by kernel_rfl) (by simp) ?_
 refine AllReadyX.cons (o:=⟨_,.call ⟨.value (.func 38),#[.tmp 7,.tmp 10],#[104,173]⟩,_,_,_,_⟩) rfl (b:=false) (by kernel_rfl) (fun K hK=>?_) ?_
 go_simp;have TS:=tsum_walk gt 0 172 nmTx cur (some ⟨w4.heap.size,0,none⟩) 1 1 [⟨a4,c4,bd⟩] w5 (by decide) (heap_keep HG4.out B5.out) (.inl TN.out) (part1F HP.out (fun w' hf=>by(have o:=(Keep.far' hf).own (ownKB O4.out B5.out) (fun g hg e=>GT4.out g hg e));obtain⟨a',c',e',hr⟩:=Rd.of_owns o;simp only [Value.slice.injEq] at e';obtain⟨rfl,_,rfl⟩:=e';exact hr) B8.out (by have:=NLE.out;omega) (by have:=(Array.getElem?_eq_some_iff.1 HG4.out).1;omega)) (by have h1:=HBD.out.2;have h2:=NLE.out;simp [flat];omega) (by decide) (HT.out.below hHeld.1) (by have:=World.block_lt_of_cell? w _ (HT.out.1 0 (by decide));have h2:=GL.out;have h3:=W1.out;have h4:=B2.out.size;dsimp only at this;omega) (by have:=World.block_lt_of_cell? w _ (HT.out.2 0 (by decide));have h2:=GL.out;have h3:=W1.out;have h4:=B2.out.size;dsimp only at this;omega);rw [show flat [⟨a4,c4,bd⟩]=bd by simp [flat]] at TS;refine TS.mono ?_;clear TS;rintro e w6 ⟨rfl,f6,_⟩;have F6:=hid f6;clear f6;rw [← IDB.out,show hv (idB t) = .agg (nums .u8 (idB t)).toArray from rfl]
 refine hK.out _ _ (⟨hHeld.1.trans (F6.out.below (by have:=GL.out;have:=B2.out.size;have:=W1.out;omega) hHeld.1.size),fun e=>(hHeld.2 e).trans (F6.out.below GL.out (hHeld.2 e).size)⟩) (fun hHeld=>?_)
 clear hK K
 (try simp only [s0,s1,s2])
 refine wpAnyX_ready (rs:=[5]) (by kernel_rfl) (by simp) ?_
 refine AllReadyX.cons (o:=⟨_,.store 43 (.tmp 2) (.tmp 11),_,_,_,_⟩) rfl (b:=true) (by kernel_rfl) (fun K hK=>?_) ?_
 have hr5:=heap_keep HR2.out (hHeld.2 rfl);have HR5:=hid hr5;rw [if_pos (by rfl)];refine wp_store_row _ _ _ rfl (w.heap.size+1) (nums .u8 (idB t)).toArray rfl rfl _ _ hr5 hi6.out ho6.out h16.out ?_
 refine hK.out _ _ (⟨below_setRow hHeld.1 (by omega) _,nofun⟩) (fun hHeld=>?_)
 clear hK K
 (try simp only [s0,s1,s2])
 refine wpAnyX_done (by kernel_rfl) ?_ _
 rotate_left
 exact AllReadyX.nil
 exact AllReadyX.nil
 exact AllReadyX.nil
 exact AllReadyX.nil
 exact AllReadyX.nil
 have BF:=hid hHeld.1
 clear hHeld
 go_wp2_with (fail)
 refine bodyPost_ret (results_cellH rfl _ _ (w.heap.size+1) _ (nums .u8 (idB t)).toArray _ _ rfl (setRow_heap _ _ _ _ _ _ HR5.out) Tryz.underlying43 rfl hi6.out) rfl ?_
 exact⟨rfl,BF.out⟩
end Go.Proofs.YtnbmpgballopeaaGreatDoor
/- The chain's Spent. -/
namespace Go.Proofs.YtnbmpgballopeaaGreatDoor
open Go.RowKit
def hashM(SM:List Nat × Int→Option (List Nat)):List Nat × Int→Option Value:=fun p=>(SM p).map (fun x=>.agg (nums .u8 x).toArray)
end Go.Proofs.YtnbmpgballopeaaGreatDoor
/- Tokens: whom a secret makes known. -/
namespace Go.Proofs.YtnbmpgballopeaaGreatDoor
open Go.RowKit
theorem tagParts{W:World}{g p:Nat}{T:TypeId}{L:List (Nat × List Nat)}(hp:W.heap[p]? = some (.cells (L.map (fun q=>Value.slice (some ⟨q.1,0,none⟩) 32 32)).toArray T (0,0)))(hpg:p≠g)
  (hL:∀q∈L,(∃t,W.heap[q.1]? = some (.cells (nums .u8 q.2).toArray t (0,0)))∧q.2.length=32∧(∀d∈q.2,d<256)∧q.1≠g) (hn:L.length≤1048576:=by simp):
  ∀w',Far g W w'→Parts w' (some ⟨p,0,none⟩) L.length L.length (L.map fun q=>⟨some ⟨q.1,0,none⟩,32,q.2⟩):=by
 intro w' hf
 have hp':=heap_far hp hf hpg
 refine⟨⟨by rw [bflat_eq];simp,Nat.le_refl _,by unfold maxLen;omega,(fun e=>by cases e),p,0,fun _=>rfl,fun j u hu=>?_⟩,by simp,fun l hl=>?_⟩
 ·rw [Nat.zero_add,cell_of_row _ p _ _ T (0,0) hp',List.getElem?_toArray]
  rw [bflat_eq,List.map_map,List.getElem?_map] at hu
  rw [List.getElem?_map]
  cases hq:L[j]? with
  | none=>rw [hq] at hu;cases hu
  | some q=>
   rw [hq] at hu
   have h32:=(hL q (List.mem_of_getElem? hq)).2.1
   simp only [Option.map_some,Function.comp_def,Option.some.injEq] at hu ⊢
   rw [← hu,h32]
 ·obtain⟨q,hq,rfl⟩:=List.mem_map.1 hl
  obtain⟨⟨t,h1⟩,h2,h3,h4⟩:=hL q hq
  exact⟨by rw [h2];exact sl_arr (heap_far h1 hf h4) h2,h3,by rw [h2];decide⟩
def nmOwner:ByteArray:=⟨#[109,111,110,101,121,101,114,47,111,119,110,101,114]⟩
def nmToken:ByteArray:=⟨#[109,111,110,101,121,101,114,47,116,111,107,101,110]⟩
theorem nmOwner_size:nmOwner.size≤1048576:=by decide
theorem nmToken_size:nmToken.size≤1048576:=by decide
def ownD(sec:List Nat):List Nat:=sha (tagH nmOwner++sec)
def tokD(sec what:List Nat):List Nat:=sha (tagH nmToken++(sec++what))
theorem ownD_ok(sec:List Nat):(ownD sec).length=32 ∧ ∀d∈ownD sec,d<256:=⟨sha_len _,sha_lt _⟩
theorem tokD_ok(sec what:List Nat):(tokD sec what).length=32 ∧ ∀d∈tokD sec what,d<256:=⟨sha_len _,sha_lt _⟩
def OwnRes(sec:List Nat)(w:World)(e:Ending)(w':World):Prop:=e = .returned (hv (ownD sec))∧Below w.heap.size w w'
set_option maxRecDepth 100000 in
set_option maxHeartbeats 4000000 in
theorem owner_walk(sec:List Nat)(hl:sec.length=32)(hb:∀d∈sec,d<256)(w:World)(ht:Tabs w):Calls Tryz.prog 50 #[hv sec] w (OwnRes sec w):=by
 have HT:=hid ht
 have A2:=fun z=>alloc2p w (.cells (nums .u8 sec).toArray 43) (.cells z 43)
 have hs0:0<w.heap.size:=by have:=World.block_lt_of_cell? w _ (ht.1 0 (by decide));simpa using this
 have hs1:1<w.heap.size:=by have:=World.block_lt_of_cell? w _ (ht.2 0 (by decide));simpa using this
 have hb:=hid hb
 clear ht
 unfold hv
 go_enter Tryz.func50,Tryz.ntmps50
 go_upto_region 1 with(fail)
 generalize hW:World.alloc (World.alloc w _) _=wb
 replace A2:∃z:Array Value,z.size=32∧wb.heap[w.heap.size]? = some (.cells (nums .u8 sec).toArray 43 (0,0))∧wb.heap[w.heap.size+1]? = some (.cells z 43 (0,0))∧Below w.heap.size w wb:=⟨_,by rfl,hW ▸ (A2 _).1,hW ▸ (A2 _).2.1,hW ▸ (A2 _).2.2.2⟩
 obtain⟨z,hz,gP,gZ,b0⟩:=A2
 have hRl:w.heap.size+1<wb.heap.size:=(Array.getElem?_eq_some_iff.1 gZ).1
 have HTb:=hid (HT.out.below b0)
 have hKv:=hid gP
 have hZ:=hid gZ
 have B0:=hid b0
 have hiW:=hid (show(Tryz.prog.info? 43).map (·.size)=some (nums .u8 (sha (tagH nmOwner++flat [⟨some ⟨w.heap.size,0,none⟩,32,sec⟩]))).toArray.size by rw [List.size_toArray,nums_length,sha_len];kernel_rfl)
 have hzW:=hid (show z.size=(nums .u8 (sha (tagH nmOwner++flat [⟨some ⟨w.heap.size,0,none⟩,32,sec⟩]))).toArray.size by rw [hz];simp [sha_len])
 have hoW:=hid (all_oneCell_toArray (nums_oneCell .u8 (sha (tagH nmOwner++flat [⟨some ⟨w.heap.size,0,none⟩,32,sec⟩]))))
 clear gP gZ b0 hW hz
 generalize hP:w.heap.size=P at *
 generalize hR:P+1=R at *
 have hPR:P≠R:=by omega
 have hR0:R≠0:=by omega
 have hR1:R≠1:=by omega
 refine wp_region_held_drew (S:=fun w'=>Far R wb w') (by kernel_rfl) (Far.of ((Below.refl _ _).drew)) (fun hHeld=>?_)
 try simp only [List.size_toArray,List.length_cons,List.length_nil,Nat.reduceAdd,Array.replicate_succ,Array.replicate_zero,List.push_toArray,List.nil_append,List.cons_append]
 refine tkH (i:=1) (oi:=⟨_,.slice 43 (.tmp 1) none none none,_,_,_,_⟩) (v:=?v1001) rfl (yi ?y1001) hHeld ?_
 case y1001=>(intro w _;go_simp;(try with_reducible rfl))
 (try simp only [Act.put,s0,s1,s2])
 refine wpAnyH_ready (rs:=[0,2]) (by kernel_rfl) (by simp) ?_
 refine AllReadyH.cons (o:=⟨_,.call ⟨.value (.func 37),#[.const (.string { data:=#[109,111,110,101,121,101,114,47,111,119,110,101,114] })],#[9]⟩,_,_,_,_⟩) rfl (fun K hK=>?_) ?_
 go_simp;refine(newtag_walk nmOwner _).mono ?_;rintro e wt ⟨g,cur,rfl,lg,hG,hN,bt⟩;have HG:=hid hG;have HN:=hid hN;have BT:=hid bt;have lg':wb.heap.size≤g:=(by first|exact lg|exact Nat.le_trans hHeld.size lg);clear hG hN bt
 refine hK.out _ _ (hHeld.trans (Far.of BT.out)) (fun hHeld=>?_)
 clear hK K
 (try simp only [List.setIfInBounds_toArray,List.set_cons_zero])
 refine wpAnyH_ready (rs:=[2]) (by kernel_rfl) (by simp) ?_
 refine AllReadyH.cons (o:=⟨_,.buildSlice 173 1 #[(0,.tmp 4)],_,_,_,_⟩) rfl (fun K hK=>?_) ?_
 go_simp;(first|refine newZ ?_|refine newZd ?_);intro wp hp bp;have HP:=hid hp;have BP:=hid bp;clear hp bp
 refine hK.out _ _ (by first|exact hHeld.trans (Far.of BP.out)|exact Far.of BP.out) (fun hHeld=>?_)
 clear hK K
 (try simp only [s0,s1,s2])
 refine wpAnyH_ready (rs:=[3]) (by kernel_rfl) (by simp) ?_
 refine AllReadyH.cons (o:=⟨_,.call ⟨.value (.func 38),#[.tmp 3,.tmp 5],#[104,173]⟩,_,_,_,_⟩) rfl (fun K hK=>?_) ?_
 go_simp;refine(tsum_walk g 0 _ nmOwner cur _ 1 1 [⟨some ⟨P,0,none⟩,32,sec⟩] _ nmOwner_size (by first|exact HG.out|exact heap_keep HG.out BP.out) (.inl HN.out) (tagParts (L:=[(P,sec)]) (by first|exact HP.out|exact heap_keep HP.out BT.out) (by first|(have h1:=(Array.getElem?_eq_some_iff.1 HG.out).1;omega)|(have h1:=(Array.getElem?_eq_some_iff.1 HP.out).1;omega)) (by intro q hq;simp only [List.mem_singleton] at hq;subst hq;exact⟨⟨_,heap_far hKv.out hHeld hPR⟩,hl,hb.out,by simp only;omega⟩)) (by simp [flat,hl]) (by decide) (HTb.out.far hHeld hR0 hR1) (by omega) (by omega)).mono ?_;rintro e wq ⟨rfl,fq,_⟩;have FQ:=hid fq;clear fq
 refine hK.out _ _ (hHeld.newer FQ.out lg') (fun hHeld=>?_)
 clear hK K
 (try simp only [s0,s1,s2])
 refine wpAnyH_ready (rs:=[4]) (by kernel_rfl) (by simp) ?_
 refine AllReadyH.cons (o:=⟨_,.store 43 (.tmp 2) (.tmp 6),_,_,_,_⟩) rfl (fun K hK=>?_) ?_
 rw [if_pos (by rfl)];refine wp_store_row _ _ _ rfl R (nums .u8 (sha (tagH nmOwner++flat [⟨some ⟨P,0,none⟩,32,sec⟩]))).toArray rfl rfl _ _ (heap_far (by first|exact heap_keep (heap_keep (w:=wb.drew) hZ.out BT.out) BP.out|exact heap_keep (heap_keep hZ.out BP.out) BT.out) FQ.out (by omega)) hiW.out hzW.out hoW.out ?_
 refine hK.out _ _ (hHeld.trans (far_row _ R _)) (fun hHeld=>?_)
 clear hK K
 (try simp only [s0,s1,s2])
 refine wpAnyH_done (by kernel_rfl) ?_ _
 rotate_left
 exact AllReadyH.nil
 exact AllReadyH.nil
 exact AllReadyH.nil
 refine AllReadyH.cons (o:=⟨_,.buildSlice 173 1 #[(0,.tmp 4)],_,_,_,_⟩) rfl (fun K hK=>?_) ?_
 go_simp;(first|refine newZ ?_|refine newZd ?_);intro wp hp bp;have HP:=hid hp;have BP:=hid bp;clear hp bp
 refine hK.out _ _ (by first|exact hHeld.trans (Far.of BP.out)|exact Far.of BP.out) (fun hHeld=>?_)
 clear hK K
 (try simp only [s0,s1,s2])
 refine wpAnyH_ready (rs:=[0]) (by kernel_rfl) (by simp) ?_
 refine AllReadyH.cons (o:=⟨_,.call ⟨.value (.func 37),#[.const (.string { data:=#[109,111,110,101,121,101,114,47,111,119,110,101,114] })],#[9]⟩,_,_,_,_⟩) rfl (fun K hK=>?_) ?_
 go_simp;refine(newtag_walk nmOwner _).mono ?_;rintro e wt ⟨g,cur,rfl,lg,hG,hN,bt⟩;have HG:=hid hG;have HN:=hid hN;have BT:=hid bt;have lg':wb.heap.size≤g:=(by first|exact lg|exact Nat.le_trans hHeld.size lg);clear hG hN bt
 refine hK.out _ _ (hHeld.trans (Far.of BT.out)) (fun hHeld=>?_)
 clear hK K
 (try simp only [List.setIfInBounds_toArray,List.set_cons_zero])
 refine wpAnyH_ready (rs:=[3]) (by kernel_rfl) (by simp) ?_
 refine AllReadyH.cons (o:=⟨_,.call ⟨.value (.func 38),#[.tmp 3,.tmp 5],#[104,173]⟩,_,_,_,_⟩) rfl (fun K hK=>?_) ?_
 go_simp;refine(tsum_walk g 0 _ nmOwner cur _ 1 1 [⟨some ⟨P,0,none⟩,32,sec⟩] _ nmOwner_size (by first|exact HG.out|exact heap_keep HG.out BP.out) (.inl HN.out) (tagParts (L:=[(P,sec)]) (by first|exact HP.out|exact heap_keep HP.out BT.out) (by first|(have h1:=(Array.getElem?_eq_some_iff.1 HG.out).1;omega)|(have h1:=(Array.getElem?_eq_some_iff.1 HP.out).1;omega)) (by intro q hq;simp only [List.mem_singleton] at hq;subst hq;exact⟨⟨_,heap_far hKv.out hHeld hPR⟩,hl,hb.out,by simp only;omega⟩)) (by simp [flat,hl]) (by decide) (HTb.out.far hHeld hR0 hR1) (by omega) (by omega)).mono ?_;rintro e wq ⟨rfl,fq,_⟩;have FQ:=hid fq;clear fq
 refine hK.out _ _ (hHeld.newer FQ.out lg') (fun hHeld=>?_)
 clear hK K
 (try simp only [s0,s1,s2])
 refine wpAnyH_ready (rs:=[4]) (by kernel_rfl) (by simp) ?_
 refine AllReadyH.cons (o:=⟨_,.store 43 (.tmp 2) (.tmp 6),_,_,_,_⟩) rfl (fun K hK=>?_) ?_
 rw [if_pos (by rfl)];refine wp_store_row _ _ _ rfl R (nums .u8 (sha (tagH nmOwner++flat [⟨some ⟨P,0,none⟩,32,sec⟩]))).toArray rfl rfl _ _ (heap_far (by first|exact heap_keep (heap_keep (w:=wb.drew) hZ.out BT.out) BP.out|exact heap_keep (heap_keep hZ.out BP.out) BT.out) FQ.out (by omega)) hiW.out hzW.out hoW.out ?_
 refine hK.out _ _ (hHeld.trans (far_row _ R _)) (fun hHeld=>?_)
 clear hK K
 (try simp only [s0,s1,s2])
 refine wpAnyH_done (by kernel_rfl) ?_ _
 rotate_left
 exact AllReadyH.nil
 exact AllReadyH.nil
 exact AllReadyH.nil
 exact AllReadyH.nil
 all_goals
  have hz6:=hid (setRow_heap wq R _ (nums .u8 (sha (tagH nmOwner++flat [⟨some ⟨P,0,none⟩,32,sec⟩]))).toArray _ _ (heap_far (by first|exact heap_keep (heap_keep (w:=wb.drew) hZ.out BT.out) BP.out|exact heap_keep (heap_keep hZ.out BP.out) BT.out) FQ.out (by omega)))
  have hb6:=hid (B0.out.trans (hHeld.below (show P≤R by omega) (by have:=hHeld.size;omega)))
  clear hHeld
  go_wp2
  refine bodyPost_ret (results_cell_row rfl _ _ R _ (nums .u8 (sha (tagH nmOwner++flat [⟨some ⟨P,0,none⟩,32,sec⟩]))).toArray _ _ rfl hz6.out Tryz.underlying43 rfl hiW.out) rfl ?_
  exact⟨by simp [hv,ownD,flat],hP ▸ hb6.out⟩
end Go.Proofs.YtnbmpgballopeaaGreatDoor

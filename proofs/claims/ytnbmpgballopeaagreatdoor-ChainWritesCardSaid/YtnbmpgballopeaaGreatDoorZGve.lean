/- The chain's Give. -/
import Derived.Test.YtnbmpgballopeaaGreatDoorZTokO
import Derived.Test.YtnbmpgballopeaaGreatDoorZLed
namespace Go.Proofs.YtnbmpgballopeaaGreatDoor
open Go.RowKit
def nmGift:ByteArray:=⟨#[109,111,110,101,121,101,114,47,103,105,102,116]⟩
def giftD(n:Int):List Nat:=sha (tagH nmGift++f4 n)
theorem ptI_one(x:List Nat)(n:Int):∀u∈ptI x n,u.oneCell'=true:=by
 intro u hu
 simp only [ptI,List.mem_append,List.mem_cons,List.not_mem_nil,or_false] at hu
 rcases hu with h|rfl
 ·exact nums_oneCell _ _ u h
 ·rfl
set_option maxRecDepth 100000 in
theorem bPoint'(a0 a1 a2 a3 a4 a5 a6 a7 a8 a9 a10 a11 a12 a13 a14 a15 a16 a17 a18 a19 a20 a21 a22 a23 a24 a25 a26 a27 a28 a29 a30 a31:Nat):Tryz.prog.built 60 [(0,.agg (nums .u8 [a0,a1,a2,a3,a4,a5,a6,a7,a8,a9,a10,a11,a12,a13,a14,a15,a16,a17,a18,a19,a20,a21,a22,a23,a24,a25,a26,a27,a28,a29,a30,a31]).toArray)]=some (ptI [a0,a1,a2,a3,a4,a5,a6,a7,a8,a9,a10,a11,a12,a13,a14,a15,a16,a17,a18,a19,a20,a21,a22,a23,a24,a25,a26,a27,a28,a29,a30,a31] 0).toArray:=by kernel_rfl
theorem bPoint(x:List Nat)(h:x.length=32):Tryz.prog.built 60 [(0,.agg (nums .u8 x).toArray)]=some (ptI x 0).toArray:=by
 match x,h with
 | [a0,a1,a2,a3,a4,a5,a6,a7,a8,a9,a10,a11,a12,a13,a14,a15,a16,a17,a18,a19,a20,a21,a22,a23,a24,a25,a26,a27,a28,a29,a30,a31],_=>exact bPoint' ..
theorem run_build1'{P:Program}{w:World}{o:Oper}{ev:Operand→Value}{t:TypeId}{x0:Operand}{v0:Value}{cells:Array Value}(ho:o.op = .build t #[(0,x0)])
  (h0:ev x0=v0) (hb:P.built t [(0,v0)]=some cells):(execOp ev o).run P w = .ok (.value (.agg cells)) w:=
 run_buildN ho (by simpa [h0] using hb)
theorem oLen4{o:OutD}(h:o.code=0):o.paths.length≤4:=by
 unfold OutD.code at h
 split at h
 ·omega
 ·omega
set_option maxRecDepth 100000 in
theorem bHeld'(u:Value)(v:Value)(h:Int)(a0 a1 a2 a3 a4 a5 a6 a7 a8 a9 a10 a11 a12 a13 a14 a15 a16 a17 a18 a19 a20 a21 a22 a23 a24 a25 a26 a27 a28 a29 a30 a31:Nat):Tryz.prog.built 75 [(0,.agg (u::v::nums .u8 [a0,a1,a2,a3,a4,a5,a6,a7,a8,a9,a10,a11,a12,a13,a14,a15,a16,a17,a18,a19,a20,a21,a22,a23,a24,a25,a26,a27,a28,a29,a30,a31]).toArray),(1,.int .i64 h)]=some ((u::v::nums .u8 [a0,a1,a2,a3,a4,a5,a6,a7,a8,a9,a10,a11,a12,a13,a14,a15,a16,a17,a18,a19,a20,a21,a22,a23,a24,a25,a26,a27,a28,a29,a30,a31])++[Value.int .i64 h]).toArray:=by kernel_rfl
theorem bHeld(o:OutD)(h:Int)(ha:o.anchor.length=32):Tryz.prog.built 75 [(0,.agg o.cells.toArray),(1,.int .i64 h)]=some (HeldD.mk o h).cells.toArray:=by
 obtain⟨c,pa,pc,ps,an⟩:=o
 match an,ha with
 | [a0,a1,a2,a3,a4,a5,a6,a7,a8,a9,a10,a11,a12,a13,a14,a15,a16,a17,a18,a19,a20,a21,a22,a23,a24,a25,a26,a27,a28,a29,a30,a31],_=>exact bHeld' ..
def GiveR(w:World)(A B ob mb hm dm wm sm cb:Nat)(ht gf:Int)(P:Value)(HM:HM')(SM:SM')(M:EM)(c:Nat)(o:OutD)(e:Ending)(w':World):Prop:=
 (o.code≠0∧e = .returned (.tuple #[.agg (ptI zh 0).toArray,.int .i64 (o.code:Int)])∧Below w.heap.size w w') ∨
 (o.code=0∧e = .returned (.tuple #[.agg (ptI (giftD (gf+1)) 0).toArray,.int .i64 0])∧(∃a k,(o.at' a k).off w.heap.size∧Led w' A B ob mb hm dm wm sm cb ht (gf+1) P (upd HM (giftD (gf+1),0) (some ⟨o.at' a k,ht⟩)) SM M (c+1))∧Keep (fun i=>i=cb∨i=hm) w w')
set_option maxRecDepth 100000 in
set_option maxHeartbeats 16000000 in
theorem cgive_walk{w:World}{A B ob mb hm dm wm sm cb c:Nat}{ht gf:Int}{P:Value}{HM:HM'}{SM:SM'}{M:EM}(h:Led w A B ob mb hm dm wm sm cb ht gf P HM SM M c)(hgf:gf<1000000)(hc:c<1000000)(o:OutD)(ho:o.good w)(hof:∀ad,o.pa=some ad→ad.block≠cb):
  Calls Tryz.prog 19 #[.pointer (some ⟨cb,0,none⟩),.agg o.cells.toArray] w (GiveR w A B ob mb hm dm wm sm cb ht gf P HM SM M c o):=by
 have H:=hid h
 have HGF:=hid hgf
 have HC:=hid hc
 have G:=hid ho
 have HT:=hid h.tabs
 have HOF:=hid hof
 obtain⟨oc,hoc⟩:∃oc,oc=o.cells:=⟨_,rfl⟩
 have OL:=hid (show oc.length=34 by rw [hoc];exact OutD.len ho)
 have HOC:=hid hoc
 obtain⟨zz,hzz⟩:∃zz:List Value,zz=ptI zh 0:=⟨_,rfl⟩
 have HZZ:=hid hzz
 have ZH:∀w:World,(zeroValue 60).run Tryz.prog w = .ok (.agg zz.toArray) w:=by rw [hzz];exact zv_of (by kernel_rfl)
 have lz:=hid (show zz.length=33 by rw [hzz];rfl)
 have A2:=alloc2p w (.cells oc.toArray 66) (.cells zz.toArray 60)
 have HA:=hid A2.1
 have HR:=hid A2.2.1
 have B1:=hid A2.2.2.2
 have CK:=fun(wx:World) (bx:Below w.heap.size w wx)=>hid (show Calls Tryz.prog 33 #[.agg oc.toArray] wx _ from by rw [hoc];exact ocheck_walk o wx (G.out.below bx))
 have hiO:=hid (show(Tryz.prog.info? 66).map (·.size)=some oc.length by rw [OL.out];kernel_rfl)
 have hiZ:=hid (show(Tryz.prog.info? 60).map (·.size)=some zz.toArray.size by rw [List.size_toArray,lz.out];kernel_rfl)
 have hz1:=hid (show(zz.toArray.all fun x=>x.oneCell')=true by rw [hzz];exact all_oneCell_toArray (by decide))
 have c7:=hid h.ch.c7
 have fz:=hid (h.ch.fz 7)
 rw [← hoc]
 clear h hgf hc ho hof hoc hzz A2
 go_enter Tryz.func19,Tryz.ntmps19
 go_upto_region 3 with(fail)
 generalize (w.alloc (.cells oc.toArray 66)).alloc (.cells zz.toArray 60)=w1 at *
 have rO:=row_range HA.out
 go_wp2_with (with_reducible refine wpList_load_mid rfl _ _ rfl w.heap.size 0 rfl oc _ rO Tryz.underlying66 rfl hiO.out ?_)
 refine(CK w1 B1.out).out.mono ?_
 rintro e w2 ⟨rfl,b2⟩
 have B2:=hid (show Below w.heap.size w w2 from B1.out.trans (b2.mono B1.out.size))
 have HA2:=hid (heap_keep HA.out b2)
 have HR2:=hid (heap_keep HR.out b2)
 clear b2 rO
 by_cases hz:o.code=0
 case neg=>
  have v1:((o.code:Int) != 0)=true:=by rw [bne_iff_ne];omega
  have HZ:=hid hz
  have BP:=hid (show Tryz.prog.built 60 []=some zz.toArray from by rw [HZZ.out];kernel_rfl)
  clear hz
  go_upto_region 5 with(fail)
  go_wp2_with (first|with_reducible refine wpList_build0 rfl _ rfl BP.out ?_|refine wpList_store_row rfl _ _ _ rfl (w.heap.size+1) zz.toArray rfl rfl _ _ HR2.out hiZ.out rfl hz1.out ?_)
  refine bodyPost_ret (results_cell_tmp rfl _ _ (w.heap.size+1) _ zz.toArray _ _ _ rfl rfl (setRow_heap _ _ _ _ _ _ HR2.out) Tryz.underlying60 rfl hiZ.out) rfl ?_
  exact .inl ⟨HZ.out,by rw [HZZ.out];rfl,below_setRow B2.out (by omega) _⟩
 have v1:((o.code:Int) != 0)=false:=by rw [bne_eq_false_iff_eq];omega
 have CZ:=hid hz
 clear hz
 go_upto_region 6 with(fail)
 have d7:=(H.out.below B2.out).ch.c7
 have z7:=(H.out.below B2.out).ch.fz 7
 obtain⟨g1,hg1⟩:∃g1,g1=gf+1:=⟨_,rfl⟩
 have G1:=hid hg1
 have r1:IntKind.i64.wrap (gf+1)=g1:=by have:=H.out.gb;rw [IntKind.wrap_i64];omega
 clear hg1
 go_upto_region 7 with(fail)
 have L3':=(H.out.below B2.out).struct (S:=fun i=>i=cb) (Keep.far' (Far.set _)) (fun _ h=>h) ((H.out.below B2.out).ch.set7 g1) ⟨Int.le_refl _,H.out.hb.2⟩ (by have:=H.out.gb;have:=HGF.out;have:=G1.out;omega)
 have L3:=hid L3'
 have F3:=hid (show Far cb w2 (w2.setCell ⟨cb,7,none⟩ (.int .i64 g1)) from Far.set _)
 have NE:=hid (show cb<w.heap.size from by have:=H.out.ord;have:=H.out.le;omega)
 have HA3:=hid (heap_far HA2.out F3.out (by have:=NE.out;omega))
 have HR3:=hid (heap_far HR2.out F3.out (by have:=NE.out;omega))
 have G3:=hid (show o.good (w2.setCell ⟨cb,7,none⟩ (.int .i64 g1)) from⟨G.out.coins,G.out.anchor,(G.out.paths.below B2.out).keep (Keep.far' F3.out) (fun ad ha h=>HOF.out ad ha h),G.out.ok⟩)
 have KW3:=hid (show Keep (fun i=>i=cb∨i=hm) w (w2.setCell ⟨cb,7,none⟩ (.int .i64 g1)) from(Keep.of B2.out).trans (Keep.far F3.out (.inl rfl)))
 clear L3' v1 d7 z7 r1
 generalize w2.setCell ⟨cb,7,none⟩ (.int .i64 g1)=w3 at *
 have W3L:=hid (show w.heap.size+1<w3.heap.size from(Array.getElem?_eq_some_iff.1 HR3.out).1)
 obtain⟨gd,hgd⟩:∃gd,gd=giftD g1:=⟨_,rfl⟩
 have GD:=hid hgd
 have GDL:=hid (show H32b gd from by rw [hgd];exact⟨sha_len _,sha_lt _⟩)
 have BPT:=hid (bPoint gd GDL.out.1)
 obtain⟨pp,hpp⟩:∃pp,pp=ptI gd 0:=⟨_,rfl⟩
 rw [← hpp] at BPT
 have PPL:=hid (show pp.length=33 from by rw [hpp];simp [ptI,GDL.out.1])
 have HPP:=hid hpp
 have hiPP:=hid (show(Tryz.prog.info? 60).map (·.size)=some pp.length by rw [PPL.out];kernel_rfl)
 have hiPA:=hid (show(Tryz.prog.info? 60).map (·.size)=some pp.toArray.size by rw [List.size_toArray,PPL.out];kernel_rfl)
 have hoPA:=hid (show zz.toArray.size=pp.toArray.size by rw [List.size_toArray,List.size_toArray,lz.out,PPL.out])
 have h1PA:=hid (show(pp.toArray.all fun x=>x.oneCell')=true by rw [hpp];exact all_oneCell_toArray (ptI_one gd 0))
 clear hgd hpp
 rename_i K aK
 have MID:∀(K7:Nat) (u24 u25 u26 u27 u28 u29 u30 u31 u32:Value) (wz:World),w3.heap.size≤K7→wz.heap[K7]? = some (.cells pp.toArray 60 (0,0))→Below w3.heap.size w3 wz →
   K ⟨#[.pointer (some ⟨cb,0,none⟩),.agg oc.toArray,undef,.pointer (some ⟨w.heap.size,0,none⟩),.pointer (some ⟨w.heap.size+1,0,none⟩),.int .i64 0,.int .i64 (o.code:Int),.pointer (some ⟨K7,0,none⟩),.pointer (some ⟨cb,0,none⟩),.bool false,undef,.agg oc.toArray,.int .i64 (o.code:Int),.int .i64 (o.code:Int),.bool false,undef,undef,.pointer (some ⟨cb,0,none⟩),.pointer (some ⟨cb,0,none⟩),.pointer (some ⟨cb,7,none⟩),.int .i64 gf,.int .i64 g1,.pointer (some ⟨cb,0,none⟩),.pointer (some ⟨cb,7,none⟩),u24,u25,u26,u27,u28,u29,u30,u31,u32,undef,undef,undef,undef,undef,undef,undef,undef,undef,undef,undef,undef,undef],[]⟩ wz:=by
  intro K7 u24 u25 u26 u27 u28 u29 u30 u31 u32 wz hK7 gK bz
  refine aK _ _ ?_
  have LZ:=hid (L3.out.below bz)
  have BZ:=hid bz
  have GZ:=hid (G3.out.below bz)
  have HKz:=hid gK
  have HAz:=hid (heap_keep HA3.out bz)
  have HRz:=hid (heap_keep HR3.out bz)
  have HK7:=hid hK7
  have K7L:=hid (show K7<wz.heap.size from(Array.getElem?_eq_some_iff.1 gK).1)
  clear bz gK hK7
  go_upto_region 8 with(fail)
  have c1:=hid LZ.out.ch.c1
  have c2:=hid LZ.out.ch.c2
  have rP:=hid (row_range HKz.out)
  have rO:=hid (row_range HAz.out)
  have CC:=fun(wx:World) (bx:Below wz.heap.size wz wx)=>hid (show Calls Tryz.prog 49 #[.agg oc.toArray] wx (CopC wx o) from by rw [HOC.out];exact ccopied_walk o wx (GZ.out.below bx) (by have:=oLen4 CZ.out;omega))
  obtain⟨nh,nle,mh⟩:=LZ.out.held
  have MH:=hid mh
  have NLE:=hid nle
  clear mh nle
  refine wp_region_X (l:=12) (S:=fun b w'=>True∧(b=false→Below wz.heap.size wz w')) (by kernel_rfl) (⟨trivial,fun _=>(Below.refl _ _).drew⟩) (fun hHeld=>?_)
  try simp only [List.size_toArray,List.length_cons,List.length_nil,Nat.reduceAdd,Array.replicate_succ,Array.replicate_zero,List.push_toArray,List.nil_append,List.cons_append]
  refine tkE (i:=0) (oi:=⟨_,.move (.tmp 0),_,_,_,_⟩) (v:=?v1001) rfl (yi ?y1001) hHeld ?_
  case y1001=>(intro w _;go_simp;(try with_reducible rfl))
  (try simp only [Act.put,s0,s1,s2])
  refine tkE (i:=1) (oi:=⟨_,.nilCheck (.tmp 33),_,_,_,_⟩) (v:=?v1002) rfl (yi ?y1002) hHeld ?_
  case y1002=>(intro w _;go_simp;(try with_reducible rfl))
  (try simp only [Act.put,s0,s1,s2])
  refine tkE (i:=2) (oi:=⟨_,.fieldAddr 137 (.tmp 34) 2,_,_,_,_⟩) (v:=?v1003) rfl (yi ?y1003) hHeld ?_
  case y1003=>(intro w _;go_simp;(try with_reducible rfl))
  (try simp only [Act.put,s0,s1,s2])
  refine tkE (i:=3) (oi:=⟨_,.load 131 (.tmp 35),_,_,_,_⟩) (v:=(.map (some hm))) rfl (Or.inl ⟨by rfl,fun w h=>by have c9:=cell_keep (h.2 rfl) c2.out;go_simp⟩) hHeld ?_
  (try simp only [Act.put,s0,s1,s2])
  refine' tkE (i:=4) (oi:=⟨_,.load 60 (.tmp 7),_,_,_,_⟩) (v:=_) rfl (yieldsIf_load_mid (by rfl) _ _ rfl K7 0 rfl pp _ (fun _ h=>range_keep (h.2 rfl) rP.out) Tryz.underlying60 rfl hiPP.out) hHeld ?_
  (try simp only [Act.put,s0,s1,s2])
  refine' tkE (i:=5) (oi:=⟨_,.load 66 (.tmp 3),_,_,_,_⟩) (v:=_) rfl (yieldsIf_load_mid (by rfl) _ _ rfl w.heap.size 0 rfl oc _ (fun _ h=>range_keep (h.2 rfl) rO.out) Tryz.underlying66 rfl hiO.out) hHeld ?_
  (try simp only [Act.put,s0,s1,s2])
  refine tkE (i:=7) (oi:=⟨_,.move (.tmp 0),_,_,_,_⟩) (v:=?v1004) rfl (yi ?y1004) hHeld ?_
  case y1004=>(intro w _;go_simp;(try with_reducible rfl))
  (try simp only [Act.put,s0,s1,s2])
  refine tkE (i:=8) (oi:=⟨_,.nilCheck (.tmp 40),_,_,_,_⟩) (v:=?v1005) rfl (yi ?y1005) hHeld ?_
  case y1005=>(intro w _;go_simp;(try with_reducible rfl))
  (try simp only [Act.put,s0,s1,s2])
  refine tkE (i:=9) (oi:=⟨_,.fieldAddr 137 (.tmp 41) 1,_,_,_,_⟩) (v:=?v1006) rfl (yi ?y1006) hHeld ?_
  case y1006=>(intro w _;go_simp;(try with_reducible rfl))
  (try simp only [Act.put,s0,s1,s2])
  refine tkE (i:=10) (oi:=⟨_,.load 3 (.tmp 42),_,_,_,_⟩) (v:=(.int .i64 ht)) rfl (Or.inl ⟨by rfl,fun w h=>by have c9:=cell_keep (h.2 rfl) c1.out;go_simp⟩) hHeld ?_
  (try simp only [Act.put,s0,s1,s2])
  refine wpAnyX_ready (rs:=[6]) (by kernel_rfl) (by simp) ?_
  refine AllReadyX.cons (o:=⟨_,.call ⟨.value (.func 49),#[.tmp 38],#[66]⟩,_,_,_,_⟩) rfl (b:=false) (by kernel_rfl) (fun K hK=>?_) ?_
  go_simp;refine(CC _ (hHeld.2 rfl)).out.mono ?_;rintro e w8 ⟨a,k,rfl,g8,o8,b8⟩;have G8:=hid g8;have O8:=hid o8;have B8:=hid b8;obtain⟨ncs,hncs⟩:∃ncs,ncs=(o.at' a k).cells:=⟨_,rfl⟩;rw [← hncs];obtain⟨hcs,hhcs⟩:∃hcs,hcs=(HeldD.mk (o.at' a k) ht).cells:=⟨_,rfl⟩;have HCS:=hid hhcs;have BHE:=hid (show Tryz.prog.built 75 [(0,.agg ncs.toArray),(1,.int .i64 ht)]=some hcs.toArray from by rw [hncs,hhcs];exact bHeld _ ht g8.anchor.1);clear g8 o8 b8 hncs hhcs
  refine hK.out _ _ (⟨trivial,fun e=>(hHeld.2 e).trans (B8.out.mono (hHeld.2 e).size)⟩) (fun hHeld=>?_)
  clear hK K
  (try simp only [s0,s1,s2])
  refine tkE (i:=11) (oi:=⟨_,.build 75 #[(0,.tmp 39),(1,.tmp 43)],_,_,_,_⟩) (v:=(.agg hcs.toArray)) rfl (Or.inl ⟨by rfl,fun w _=>run_build2' rfl rfl rfl BHE.out⟩) hHeld ?_
  (try simp only [Act.put,s0,s1,s2])
  refine wpAnyX_ready (rs:=[12]) (by kernel_rfl) (by simp) ?_
  refine AllReadyX.cons (o:=⟨_,.mapUpdate 131 (.tmp 36) (.tmp 37) (.tmp 44),_,_,_,_⟩) rfl (b:=true) (by kernel_rfl) (fun K hK=>?_) ?_
  have BB:=hid (hHeld.2 rfl);rw [if_pos (by rfl)];refine wp_put (val:=.agg hcs.toArray) _ _ _ _ rfl Tryz.underlying131 (MH.out.below BB.out) (by have:=NLE.out;have:=HC.out;unfold maxLen;omega) rfl (gd,0) ⟨GDL.out,i64z⟩ (by rw [HPP.out];rfl) rfl ?_;intro w9 m9 f9;have M9:=hid m9;have F9:=hid f9;clear m9 f9
  refine hK.out _ _ (⟨trivial,nofun⟩) (fun hHeld=>?_)
  clear hK K
  (try simp only [s0,s1,s2])
  refine wpAnyX_done (by kernel_rfl) ?_ _
  rotate_left
  exact AllReadyX.nil
  exact AllReadyX.nil
  clear hHeld
  have NE2:=hid (show hm<w.heap.size from by have:=H.out.ord;have:=H.out.le;omega)
  have SZ:=hid (show w3.heap.size≤w8.heap.size from Nat.le_trans BZ.out.size BB.out.size)
  have HR9:=heap_far (heap_keep HRz.out BB.out) F9.out (by have:=NE2.out;omega)
  have r9:=row_range (heap_far (heap_keep HKz.out BB.out) F9.out (by have:=NE2.out;have:=HK7.out;have:=W3L.out;omega))
  go_wp2_with (first|with_reducible refine wpList_load_mid rfl _ _ rfl K7 0 rfl pp _ r9 Tryz.underlying60 rfl hiPP.out ?_|refine wpList_store_row rfl _ _ _ rfl (w.heap.size+1) pp.toArray rfl rfl _ _ HR9 hiPA.out hoPA.out h1PA.out ?_)
  refine bodyPost_ret (results_cell_tmp rfl _ _ (w.heap.size+1) _ pp.toArray _ _ _ rfl rfl (setRow_heap _ _ _ _ _ _ HR9) Tryz.underlying60 rfl hiPA.out) rfl ?_
  have od:=H.out.ord
  have le:=H.out.le
  have FR:=far_row w9 (w.heap.size+1) pp.toArray
  have k38:Keep (fun i=>i=cb∨i=hm) w w8:=(KW3.out.trans (Keep.of BZ.out)).trans (Keep.of BB.out)
  have KF:Keep (fun i=>i=cb∨i=hm) w (w9.setRow (w.heap.size+1) pp.toArray):=(k38.trans (Keep.far F9.out (.inr rfl))).then (Keep.far' FR) (fun i hi h=>by omega)
  have L8:=LZ.out.below BB.out
  have ch:ChAt (w9.setRow (w.heap.size+1) pp.toArray) cb ob ht hm dm wm sm P g1:=(L8.ch.keep (Keep.far' F9.out) (by omega)).keep (Keep.far' FR) (by omega)
  have lw:w.heap.size+1<wz.heap.size:=by have:=BZ.out.size;have:=W3L.out;omega
  have q:∀b:Bool,(if b=true then nh else nh+1)≤c+1:=fun b=>by have:=NLE.out;split <;> omega
  have n2:=NE2.out
  have lo8:∀g,(Value.slice a o.paths.length k).ownBlock=some g→wz.heap.size≤g:=fun g hg=>(O8.out.lt g hg).1
  have o9:=(Keep.far' FR).own ((Keep.far' F9.out).own O8.out (fun g hg e=>by have:=lo8 g hg;omega)) (fun g hg e=>by have:=lo8 g hg;omega)
  have of:∀ad,a=some ad→wz.heap.size≤ad.block:=off_own o9
  obtain⟨a',c',e',hr⟩:=Rd.of_owns o9
  simp only [Value.slice.injEq] at e'
  obtain⟨rfl,_,rfl⟩:=e'
  rw [G1.out] at GD
  refine .inr ⟨CZ.out,by rw [← GD.out,← HPP.out];rfl,⟨a,k,fun ad ha=>Nat.le_trans (by omega) (of ad ha),?_⟩,KF⟩
  rw [← GD.out,← G1.out]
  refine H.out.turn KF (fun i h=>by omega) ch ⟨_,q _,by have:=M9.out;rw [HCS.out,held_upd] at this;exact this.keep (Keep.far' FR) (by omega)⟩ (H.out.doneK KF (by omega) (by omega)) (H.out.whnK KF (by omega) (by omega)) (H.out.spentK KF (by omega) (by omega)) (H.out.offK KF (by omega) (by omega) (by omega)) (fun p x hx=>?_) H.out.sk ⟨Int.le_refl _,H.out.hb.2⟩ (by have:=H.out.gb;have:=HGF.out;have:=G1.out;omega) (by have:=HC.out;omega)
  unfold upd at hx
  split at hx
  ·obtain rfl:=Option.some.inj hx
   exact .inr ⟨⟨G.out.coins,G.out.anchor,hr,G.out.ok⟩,fun ad ha=>Nat.le_trans (Nat.le_trans le (by omega)) (of ad ha),by have:=oLen4 CZ.out;exact this,H.out.hb.1,by dsimp only;omega⟩
  ·exact .inl hx
 have MID:=hid MID
 have c7:=hid L3.out.ch.c7
 refine wp_region_held_drew (S:=fun w'=>Below w3.heap.size w3 w') (by kernel_rfl) ((Below.refl _ _).drew) (fun hHeld=>?_)
 try simp only [List.size_toArray,List.length_cons,List.length_nil,Nat.reduceAdd,Array.replicate_succ,Array.replicate_zero,List.push_toArray,List.nil_append,List.cons_append]
 refine tkH (i:=1) (oi:=⟨_,.move (.tmp 0),_,_,_,_⟩) (v:=?v2001) rfl (yi ?y2001) hHeld ?_
 case y2001=>(intro w _;go_simp;(try with_reducible rfl))
 (try simp only [Act.put,s0,s1,s2])
 refine tkH (i:=2) (oi:=⟨_,.nilCheck (.tmp 25),_,_,_,_⟩) (v:=?v2002) rfl (yi ?y2002) hHeld ?_
 case y2002=>(intro w _;go_simp;(try with_reducible rfl))
 (try simp only [Act.put,s0,s1,s2])
 refine tkH (i:=3) (oi:=⟨_,.fieldAddr 137 (.tmp 26) 7,_,_,_,_⟩) (v:=?v2003) rfl (yi ?y2003) hHeld ?_
 case y2003=>(intro w _;go_simp;(try with_reducible rfl))
 (try simp only [Act.put,s0,s1,s2])
 refine tkH (i:=4) (oi:=⟨_,.load 3 (.tmp 27),_,_,_,_⟩) (v:=(.int .i64 g1)) rfl (Or.inl ⟨by rfl,fun w h=>by have c9:=cell_keep h c7.out;go_simp⟩) hHeld ?_
 (try simp only [Act.put,s0,s1,s2])
 refine wpAnyH_ready (rs:=[0,9]) (by kernel_rfl) (by simp) ?_
 refine AllReadyH.cons (o:=⟨_,.call ⟨.value (.func 37),#[.const (.string { data:=#[109,111,110,101,121,101,114,47,103,105,102,116] })],#[9]⟩,_,_,_,_⟩) rfl (fun K hK=>?_) ?_
 go_simp;refine(newtag_walk nmGift _).mono ?_;rintro e wt ⟨gt,cur,rfl,lg,hG,hN,bt⟩;have HG:=hid hG;have HN:=hid hN;have BT:=hid bt;have lg':w3.heap.size≤gt:=(by first|exact lg|exact Nat.le_trans hHeld.size lg);have gl:=(Array.getElem?_eq_some_iff.1 hG).1;clear hG hN bt
 refine hK.out _ _ (by first|exact hHeld.trans (BT.out.mono hHeld.size)|exact BT.out) (fun hHeld=>?_)
 clear hK K
 (try simp only [List.setIfInBounds_toArray,List.set_cons_zero])
 refine wpAnyH_ready (rs:=[5,9]) (by kernel_rfl) (by simp) ?_
 refine AllReadyH.cons (o:=⟨_,.call ⟨.value (.func 48),#[.const (.slice none 0 0),.tmp 28],#[28,3]⟩,_,_,_,_⟩) rfl (fun K hK=>?_) ?_
 go_simp;refine(cfour_walk _ (.slice none 0 0) 0 [] g1 _ ⟨rfl,.inl ⟨rfl,rfl⟩⟩ (Nat.le_refl _) (by decide)).mono ?_;rintro e w4 ⟨v4,rfl,o4,k4,_⟩;rw [Nat.zero_add,List.nil_append] at o4;have b4:=k4.below (fun i h=>by cases h) (Nat.le_refl _);obtain⟨a4,q4,rfl,_⟩:=Rd.of_owns o4;have O4:=hid o4;have B4:=hid b4;have GT4:=hid (show ∀x,(Value.slice a4 4 q4).ownBlock=some x→x≠gt from fun x hx=>by have:=(O4.out.lt x hx).1;have:=(Array.getElem?_eq_some_iff.1 (by first|exact HG.out|exact heap_keep HG.out BA.out)).1;omega);clear o4 b4 k4
 refine hK.out _ _ (hHeld.trans (B4.out.mono hHeld.size)) (fun hHeld=>?_)
 clear hK K
 (try simp only [s0,s1,s2])
 refine wpAnyH_ready (rs:=[6,9]) (by kernel_rfl) (by simp) ?_
 refine AllReadyH.cons (o:=⟨_,.buildSlice 173 1 #[(0,.tmp 29)],_,_,_,_⟩) rfl (fun K hK=>?_) ?_
 have gx:=(Array.getElem?_eq_some_iff.1 (by first|exact heap_keep HG.out B4.out|exact heap_keep (heap_keep HG.out B4.out) BA.out|exact heap_keep (heap_keep HG.out BA.out) B4.out)).1;go_simp;(first|refine newZ ?_|refine newZd ?_);intro wp hp bp;have HP:=hid hp;have BP:=hid bp;have pl:=(Array.getElem?_eq_some_iff.1 hp).1;clear hp bp
 refine hK.out _ _ (by first|exact hHeld.trans (BP.out.mono hHeld.size)|exact BP.out) (fun hHeld=>?_)
 clear hK K
 (try simp only [s0,s1,s2])
 refine wpAnyH_ready (rs:=[7,9]) (by kernel_rfl) (by simp) ?_
 refine AllReadyH.cons (o:=⟨_,.call ⟨.value (.func 38),#[.tmp 24,.tmp 30],#[104,173]⟩,_,_,_,_⟩) rfl (fun K hK=>?_) ?_
 go_simp;refine(tsum_walk gt 0 172 nmGift cur _ 1 1 [⟨a4,q4,f4 g1⟩] _ (by decide) (by first|exact heap_keep (heap_keep HG.out B4.out) BP.out|exact heap_keep (heap_keep (heap_keep HG.out BA.out) B4.out) BP.out|exact heap_keep (heap_keep (heap_keep HG.out B4.out) BA.out) BP.out|exact heap_keep (heap_keep (heap_keep HG.out B4.out) BP.out) BA.out) (.inl HN.out) (part1F (by first|exact HP.out|exact heap_keep HP.out BA.out) (fun w' hf=>by(have o:=(Keep.far' hf).own (by first|exact ownKB O4.out BP.out|exact ownKB (ownKB O4.out BA.out) BP.out|exact ownKB (ownKB O4.out BP.out) BA.out) (fun g hg e=>GT4.out g hg e));obtain⟨a',c',e',hr⟩:=Rd.of_owns o;simp only [Value.slice.injEq] at e';obtain⟨rfl,_,rfl⟩:=e';exact hr) (f4_lt _) (by rw [f4_len];omega) (by omega)) (by simp [flat,f4_len]) (by decide) (L3.out.tabs.below hHeld) (by have:=L3.out.tlt;have:=L3.out.ord;have:=L3.out.le;omega) (by have:=L3.out.tlt;have:=L3.out.ord;have:=L3.out.le;omega)).mono ?_;rintro e wq ⟨rfl,fq,_⟩;rw [show flat [⟨a4,q4,f4 g1⟩]=f4 g1 by simp [flat],show sha (tagH nmGift++f4 g1)=gd from GD.out.symm];have FQ:=hid fq;have sq:=Nat.le_trans hHeld.size fq.size;clear fq;rw [show hv gd = .agg (nums .u8 gd).toArray from rfl]
 refine hK.out _ _ (hHeld.trans (FQ.out.below lg' hHeld.size)) (fun hHeld=>?_)
 clear hK K
 (try simp only [s0,s1,s2])
 refine tkH (i:=8) (oi:=⟨_,.build 60 #[(0,.tmp 31)],_,_,_,_⟩) (v:=(.agg pp.toArray)) rfl (Or.inl ⟨by rfl,fun w _=>run_build1' rfl rfl BPT.out⟩) hHeld ?_
 (try simp only [Act.put,s0,s1,s2])
 refine wpAnyH_ready (rs:=[9]) (by kernel_rfl) (by simp) ?_
 refine AllReadyH.cons (o:=⟨_,.alloc 60,_,_,_,_⟩) rfl (fun K hK=>?_) ?_
 go_simp;(first|refine newZ ?_|refine newZd ?_);intro wa ha ba;have HW:=hid ha;have BA:=hid ba;have al:=(Array.getElem?_eq_some_iff.1 ha).1;clear ha ba
 refine hK.out _ _ (by first|exact hHeld.trans (BA.out.mono hHeld.size)|exact BA.out) (fun hHeld=>?_)
 clear hK K
 (try simp only [s0,s1,s2])
 refine wpAnyH_ready (rs:=[10]) (by kernel_rfl) (by simp) ?_
 refine AllReadyH.cons (o:=⟨_,.store 60 (.tmp 7) (.tmp 32),_,_,_,_⟩) rfl (fun K hK=>?_) ?_
 rw [if_pos (by rfl)];refine wp_store_row _ _ _ rfl _ pp.toArray rfl rfl _ _ (by first|exact HW.out|exact heap_far HW.out FQ.out (by omega)|exact heap_far (heap_keep HW.out BP.out) FQ.out (by omega)|exact heap_far (heap_keep (heap_keep HW.out B4.out) BP.out) FQ.out (by omega)|exact heap_far (heap_keep (heap_keep (heap_keep HW.out BT.out) B4.out) BP.out) FQ.out (by omega)) hiPA.out hoPA.out h1PA.out ?_
 refine hK.out _ _ (below_setRow hHeld (by omega) _) (fun hHeld=>?_)
 clear hK K
 (try simp only [s0,s1,s2])
 refine wpAnyH_done (by kernel_rfl) ?_ _
 rotate_left
 exact AllReadyH.nil
 exact AllReadyH.nil
 refine AllReadyH.cons (o:=⟨_,.alloc 60,_,_,_,_⟩) rfl (fun K hK=>?_) ?_
 go_simp;(first|refine newZ ?_|refine newZd ?_);intro wa ha ba;have HW:=hid ha;have BA:=hid ba;have al:=(Array.getElem?_eq_some_iff.1 ha).1;clear ha ba
 refine hK.out _ _ (by first|exact hHeld.trans (BA.out.mono hHeld.size)|exact BA.out) (fun hHeld=>?_)
 clear hK K
 (try simp only [s0,s1,s2])
 refine wpAnyH_ready (rs:=[7]) (by kernel_rfl) (by simp) ?_
 refine AllReadyH.cons (o:=⟨_,.call ⟨.value (.func 38),#[.tmp 24,.tmp 30],#[104,173]⟩,_,_,_,_⟩) rfl (fun K hK=>?_) ?_
 go_simp;refine(tsum_walk gt 0 172 nmGift cur _ 1 1 [⟨a4,q4,f4 g1⟩] _ (by decide) (by first|exact heap_keep (heap_keep HG.out B4.out) BP.out|exact heap_keep (heap_keep (heap_keep HG.out BA.out) B4.out) BP.out|exact heap_keep (heap_keep (heap_keep HG.out B4.out) BA.out) BP.out|exact heap_keep (heap_keep (heap_keep HG.out B4.out) BP.out) BA.out) (.inl HN.out) (part1F (by first|exact HP.out|exact heap_keep HP.out BA.out) (fun w' hf=>by(have o:=(Keep.far' hf).own (by first|exact ownKB O4.out BP.out|exact ownKB (ownKB O4.out BA.out) BP.out|exact ownKB (ownKB O4.out BP.out) BA.out) (fun g hg e=>GT4.out g hg e));obtain⟨a',c',e',hr⟩:=Rd.of_owns o;simp only [Value.slice.injEq] at e';obtain⟨rfl,_,rfl⟩:=e';exact hr) (f4_lt _) (by rw [f4_len];omega) (by omega)) (by simp [flat,f4_len]) (by decide) (L3.out.tabs.below hHeld) (by have:=L3.out.tlt;have:=L3.out.ord;have:=L3.out.le;omega) (by have:=L3.out.tlt;have:=L3.out.ord;have:=L3.out.le;omega)).mono ?_;rintro e wq ⟨rfl,fq,_⟩;rw [show flat [⟨a4,q4,f4 g1⟩]=f4 g1 by simp [flat],show sha (tagH nmGift++f4 g1)=gd from GD.out.symm];have FQ:=hid fq;have sq:=Nat.le_trans hHeld.size fq.size;clear fq;rw [show hv gd = .agg (nums .u8 gd).toArray from rfl]
 refine hK.out _ _ (hHeld.trans (FQ.out.below lg' hHeld.size)) (fun hHeld=>?_)
 clear hK K
 (try simp only [s0,s1,s2])
 refine tkH (i:=8) (oi:=⟨_,.build 60 #[(0,.tmp 31)],_,_,_,_⟩) (v:=(.agg pp.toArray)) rfl (Or.inl ⟨by rfl,fun w _=>run_build1' rfl rfl BPT.out⟩) hHeld ?_
 (try simp only [Act.put,s0,s1,s2])
 refine wpAnyH_ready (rs:=[10]) (by kernel_rfl) (by simp) ?_
 refine AllReadyH.cons (o:=⟨_,.store 60 (.tmp 7) (.tmp 32),_,_,_,_⟩) rfl (fun K hK=>?_) ?_
 rw [if_pos (by rfl)];refine wp_store_row _ _ _ rfl _ pp.toArray rfl rfl _ _ (by first|exact HW.out|exact heap_far HW.out FQ.out (by omega)|exact heap_far (heap_keep HW.out BP.out) FQ.out (by omega)|exact heap_far (heap_keep (heap_keep HW.out B4.out) BP.out) FQ.out (by omega)|exact heap_far (heap_keep (heap_keep (heap_keep HW.out BT.out) B4.out) BP.out) FQ.out (by omega)) hiPA.out hoPA.out h1PA.out ?_
 refine hK.out _ _ (below_setRow hHeld (by omega) _) (fun hHeld=>?_)
 clear hK K
 (try simp only [s0,s1,s2])
 refine wpAnyH_done (by kernel_rfl) ?_ _
 rotate_left
 exact AllReadyH.nil
 exact AllReadyH.nil
 exact AllReadyH.nil
 refine AllReadyH.cons (o:=⟨_,.alloc 60,_,_,_,_⟩) rfl (fun K hK=>?_) ?_
 go_simp;(first|refine newZ ?_|refine newZd ?_);intro wa ha ba;have HW:=hid ha;have BA:=hid ba;have al:=(Array.getElem?_eq_some_iff.1 ha).1;clear ha ba
 refine hK.out _ _ (by first|exact hHeld.trans (BA.out.mono hHeld.size)|exact BA.out) (fun hHeld=>?_)
 clear hK K
 (try simp only [s0,s1,s2])
 refine wpAnyH_ready (rs:=[6]) (by kernel_rfl) (by simp) ?_
 refine AllReadyH.cons (o:=⟨_,.buildSlice 173 1 #[(0,.tmp 29)],_,_,_,_⟩) rfl (fun K hK=>?_) ?_
 have gx:=(Array.getElem?_eq_some_iff.1 (by first|exact heap_keep HG.out B4.out|exact heap_keep (heap_keep HG.out B4.out) BA.out|exact heap_keep (heap_keep HG.out BA.out) B4.out)).1;go_simp;(first|refine newZ ?_|refine newZd ?_);intro wp hp bp;have HP:=hid hp;have BP:=hid bp;have pl:=(Array.getElem?_eq_some_iff.1 hp).1;clear hp bp
 refine hK.out _ _ (by first|exact hHeld.trans (BP.out.mono hHeld.size)|exact BP.out) (fun hHeld=>?_)
 clear hK K
 (try simp only [s0,s1,s2])
 refine wpAnyH_ready (rs:=[7]) (by kernel_rfl) (by simp) ?_
 refine AllReadyH.cons (o:=⟨_,.call ⟨.value (.func 38),#[.tmp 24,.tmp 30],#[104,173]⟩,_,_,_,_⟩) rfl (fun K hK=>?_) ?_
 go_simp;refine(tsum_walk gt 0 172 nmGift cur _ 1 1 [⟨a4,q4,f4 g1⟩] _ (by decide) (by first|exact heap_keep (heap_keep HG.out B4.out) BP.out|exact heap_keep (heap_keep (heap_keep HG.out BA.out) B4.out) BP.out|exact heap_keep (heap_keep (heap_keep HG.out B4.out) BA.out) BP.out|exact heap_keep (heap_keep (heap_keep HG.out B4.out) BP.out) BA.out) (.inl HN.out) (part1F (by first|exact HP.out|exact heap_keep HP.out BA.out) (fun w' hf=>by(have o:=(Keep.far' hf).own (by first|exact ownKB O4.out BP.out|exact ownKB (ownKB O4.out BA.out) BP.out|exact ownKB (ownKB O4.out BP.out) BA.out) (fun g hg e=>GT4.out g hg e));obtain⟨a',c',e',hr⟩:=Rd.of_owns o;simp only [Value.slice.injEq] at e';obtain⟨rfl,_,rfl⟩:=e';exact hr) (f4_lt _) (by rw [f4_len];omega) (by omega)) (by simp [flat,f4_len]) (by decide) (L3.out.tabs.below hHeld) (by have:=L3.out.tlt;have:=L3.out.ord;have:=L3.out.le;omega) (by have:=L3.out.tlt;have:=L3.out.ord;have:=L3.out.le;omega)).mono ?_;rintro e wq ⟨rfl,fq,_⟩;rw [show flat [⟨a4,q4,f4 g1⟩]=f4 g1 by simp [flat],show sha (tagH nmGift++f4 g1)=gd from GD.out.symm];have FQ:=hid fq;have sq:=Nat.le_trans hHeld.size fq.size;clear fq;rw [show hv gd = .agg (nums .u8 gd).toArray from rfl]
 refine hK.out _ _ (hHeld.trans (FQ.out.below lg' hHeld.size)) (fun hHeld=>?_)
 clear hK K
 (try simp only [s0,s1,s2])
 refine tkH (i:=8) (oi:=⟨_,.build 60 #[(0,.tmp 31)],_,_,_,_⟩) (v:=(.agg pp.toArray)) rfl (Or.inl ⟨by rfl,fun w _=>run_build1' rfl rfl BPT.out⟩) hHeld ?_
 (try simp only [Act.put,s0,s1,s2])
 refine wpAnyH_ready (rs:=[10]) (by kernel_rfl) (by simp) ?_
 refine AllReadyH.cons (o:=⟨_,.store 60 (.tmp 7) (.tmp 32),_,_,_,_⟩) rfl (fun K hK=>?_) ?_
 rw [if_pos (by rfl)];refine wp_store_row _ _ _ rfl _ pp.toArray rfl rfl _ _ (by first|exact HW.out|exact heap_far HW.out FQ.out (by omega)|exact heap_far (heap_keep HW.out BP.out) FQ.out (by omega)|exact heap_far (heap_keep (heap_keep HW.out B4.out) BP.out) FQ.out (by omega)|exact heap_far (heap_keep (heap_keep (heap_keep HW.out BT.out) B4.out) BP.out) FQ.out (by omega)) hiPA.out hoPA.out h1PA.out ?_
 refine hK.out _ _ (below_setRow hHeld (by omega) _) (fun hHeld=>?_)
 clear hK K
 (try simp only [s0,s1,s2])
 refine wpAnyH_done (by kernel_rfl) ?_ _
 rotate_left
 exact AllReadyH.nil
 exact AllReadyH.nil
 exact AllReadyH.nil
 exact AllReadyH.nil
 refine AllReadyH.cons (o:=⟨_,.alloc 60,_,_,_,_⟩) rfl (fun K hK=>?_) ?_
 go_simp;(first|refine newZ ?_|refine newZd ?_);intro wa ha ba;have HW:=hid ha;have BA:=hid ba;have al:=(Array.getElem?_eq_some_iff.1 ha).1;clear ha ba
 refine hK.out _ _ (by first|exact hHeld.trans (BA.out.mono hHeld.size)|exact BA.out) (fun hHeld=>?_)
 clear hK K
 (try simp only [s0,s1,s2])
 refine wpAnyH_ready (rs:=[5]) (by kernel_rfl) (by simp) ?_
 refine AllReadyH.cons (o:=⟨_,.call ⟨.value (.func 48),#[.const (.slice none 0 0),.tmp 28],#[28,3]⟩,_,_,_,_⟩) rfl (fun K hK=>?_) ?_
 go_simp;refine(cfour_walk _ (.slice none 0 0) 0 [] g1 _ ⟨rfl,.inl ⟨rfl,rfl⟩⟩ (Nat.le_refl _) (by decide)).mono ?_;rintro e w4 ⟨v4,rfl,o4,k4,_⟩;rw [Nat.zero_add,List.nil_append] at o4;have b4:=k4.below (fun i h=>by cases h) (Nat.le_refl _);obtain⟨a4,q4,rfl,_⟩:=Rd.of_owns o4;have O4:=hid o4;have B4:=hid b4;have GT4:=hid (show ∀x,(Value.slice a4 4 q4).ownBlock=some x→x≠gt from fun x hx=>by have:=(O4.out.lt x hx).1;have:=(Array.getElem?_eq_some_iff.1 (by first|exact HG.out|exact heap_keep HG.out BA.out)).1;omega);clear o4 b4 k4
 refine hK.out _ _ (hHeld.trans (B4.out.mono hHeld.size)) (fun hHeld=>?_)
 clear hK K
 (try simp only [s0,s1,s2])
 refine wpAnyH_ready (rs:=[6]) (by kernel_rfl) (by simp) ?_
 refine AllReadyH.cons (o:=⟨_,.buildSlice 173 1 #[(0,.tmp 29)],_,_,_,_⟩) rfl (fun K hK=>?_) ?_
 have gx:=(Array.getElem?_eq_some_iff.1 (by first|exact heap_keep HG.out B4.out|exact heap_keep (heap_keep HG.out B4.out) BA.out|exact heap_keep (heap_keep HG.out BA.out) B4.out)).1;go_simp;(first|refine newZ ?_|refine newZd ?_);intro wp hp bp;have HP:=hid hp;have BP:=hid bp;have pl:=(Array.getElem?_eq_some_iff.1 hp).1;clear hp bp
 refine hK.out _ _ (by first|exact hHeld.trans (BP.out.mono hHeld.size)|exact BP.out) (fun hHeld=>?_)
 clear hK K
 (try simp only [s0,s1,s2])
 refine wpAnyH_ready (rs:=[7]) (by kernel_rfl) (by simp) ?_
 refine AllReadyH.cons (o:=⟨_,.call ⟨.value (.func 38),#[.tmp 24,.tmp 30],#[104,173]⟩,_,_,_,_⟩) rfl (fun K hK=>?_) ?_
 go_simp;refine(tsum_walk gt 0 172 nmGift cur _ 1 1 [⟨a4,q4,f4 g1⟩] _ (by decide) (by first|exact heap_keep (heap_keep HG.out B4.out) BP.out|exact heap_keep (heap_keep (heap_keep HG.out BA.out) B4.out) BP.out|exact heap_keep (heap_keep (heap_keep HG.out B4.out) BA.out) BP.out|exact heap_keep (heap_keep (heap_keep HG.out B4.out) BP.out) BA.out) (.inl HN.out) (part1F (by first|exact HP.out|exact heap_keep HP.out BA.out) (fun w' hf=>by(have o:=(Keep.far' hf).own (by first|exact ownKB O4.out BP.out|exact ownKB (ownKB O4.out BA.out) BP.out|exact ownKB (ownKB O4.out BP.out) BA.out) (fun g hg e=>GT4.out g hg e));obtain⟨a',c',e',hr⟩:=Rd.of_owns o;simp only [Value.slice.injEq] at e';obtain⟨rfl,_,rfl⟩:=e';exact hr) (f4_lt _) (by rw [f4_len];omega) (by omega)) (by simp [flat,f4_len]) (by decide) (L3.out.tabs.below hHeld) (by have:=L3.out.tlt;have:=L3.out.ord;have:=L3.out.le;omega) (by have:=L3.out.tlt;have:=L3.out.ord;have:=L3.out.le;omega)).mono ?_;rintro e wq ⟨rfl,fq,_⟩;rw [show flat [⟨a4,q4,f4 g1⟩]=f4 g1 by simp [flat],show sha (tagH nmGift++f4 g1)=gd from GD.out.symm];have FQ:=hid fq;have sq:=Nat.le_trans hHeld.size fq.size;clear fq;rw [show hv gd = .agg (nums .u8 gd).toArray from rfl]
 refine hK.out _ _ (hHeld.trans (FQ.out.below lg' hHeld.size)) (fun hHeld=>?_)
 clear hK K
 (try simp only [s0,s1,s2])
 refine tkH (i:=8) (oi:=⟨_,.build 60 #[(0,.tmp 31)],_,_,_,_⟩) (v:=(.agg pp.toArray)) rfl (Or.inl ⟨by rfl,fun w _=>run_build1' rfl rfl BPT.out⟩) hHeld ?_
 (try simp only [Act.put,s0,s1,s2])
 refine wpAnyH_ready (rs:=[10]) (by kernel_rfl) (by simp) ?_
 refine AllReadyH.cons (o:=⟨_,.store 60 (.tmp 7) (.tmp 32),_,_,_,_⟩) rfl (fun K hK=>?_) ?_
 rw [if_pos (by rfl)];refine wp_store_row _ _ _ rfl _ pp.toArray rfl rfl _ _ (by first|exact HW.out|exact heap_far HW.out FQ.out (by omega)|exact heap_far (heap_keep HW.out BP.out) FQ.out (by omega)|exact heap_far (heap_keep (heap_keep HW.out B4.out) BP.out) FQ.out (by omega)|exact heap_far (heap_keep (heap_keep (heap_keep HW.out BT.out) B4.out) BP.out) FQ.out (by omega)) hiPA.out hoPA.out h1PA.out ?_
 refine hK.out _ _ (below_setRow hHeld (by omega) _) (fun hHeld=>?_)
 clear hK K
 (try simp only [s0,s1,s2])
 refine wpAnyH_done (by kernel_rfl) ?_ _
 rotate_left
 exact AllReadyH.nil
 exact AllReadyH.nil
 exact AllReadyH.nil
 exact AllReadyH.nil
 exact AllReadyH.nil
 refine AllReadyH.cons (o:=⟨_,.alloc 60,_,_,_,_⟩) rfl (fun K hK=>?_) ?_
 go_simp;(first|refine newZ ?_|refine newZd ?_);intro wa ha ba;have HW:=hid ha;have BA:=hid ba;have al:=(Array.getElem?_eq_some_iff.1 ha).1;clear ha ba
 refine hK.out _ _ (by first|exact hHeld.trans (BA.out.mono hHeld.size)|exact BA.out) (fun hHeld=>?_)
 clear hK K
 (try simp only [s0,s1,s2])
 refine wpAnyH_ready (rs:=[0]) (by kernel_rfl) (by simp) ?_
 refine AllReadyH.cons (o:=⟨_,.call ⟨.value (.func 37),#[.const (.string { data:=#[109,111,110,101,121,101,114,47,103,105,102,116] })],#[9]⟩,_,_,_,_⟩) rfl (fun K hK=>?_) ?_
 go_simp;refine(newtag_walk nmGift _).mono ?_;rintro e wt ⟨gt,cur,rfl,lg,hG,hN,bt⟩;have HG:=hid hG;have HN:=hid hN;have BT:=hid bt;have lg':w3.heap.size≤gt:=(by first|exact lg|exact Nat.le_trans hHeld.size lg);have gl:=(Array.getElem?_eq_some_iff.1 hG).1;clear hG hN bt
 refine hK.out _ _ (by first|exact hHeld.trans (BT.out.mono hHeld.size)|exact BT.out) (fun hHeld=>?_)
 clear hK K
 (try simp only [List.setIfInBounds_toArray,List.set_cons_zero])
 refine wpAnyH_ready (rs:=[5]) (by kernel_rfl) (by simp) ?_
 refine AllReadyH.cons (o:=⟨_,.call ⟨.value (.func 48),#[.const (.slice none 0 0),.tmp 28],#[28,3]⟩,_,_,_,_⟩) rfl (fun K hK=>?_) ?_
 go_simp;refine(cfour_walk _ (.slice none 0 0) 0 [] g1 _ ⟨rfl,.inl ⟨rfl,rfl⟩⟩ (Nat.le_refl _) (by decide)).mono ?_;rintro e w4 ⟨v4,rfl,o4,k4,_⟩;rw [Nat.zero_add,List.nil_append] at o4;have b4:=k4.below (fun i h=>by cases h) (Nat.le_refl _);obtain⟨a4,q4,rfl,_⟩:=Rd.of_owns o4;have O4:=hid o4;have B4:=hid b4;have GT4:=hid (show ∀x,(Value.slice a4 4 q4).ownBlock=some x→x≠gt from fun x hx=>by have:=(O4.out.lt x hx).1;have:=(Array.getElem?_eq_some_iff.1 (by first|exact HG.out|exact heap_keep HG.out BA.out)).1;omega);clear o4 b4 k4
 refine hK.out _ _ (hHeld.trans (B4.out.mono hHeld.size)) (fun hHeld=>?_)
 clear hK K
 (try simp only [s0,s1,s2])
 refine wpAnyH_ready (rs:=[6]) (by kernel_rfl) (by simp) ?_
 refine AllReadyH.cons (o:=⟨_,.buildSlice 173 1 #[(0,.tmp 29)],_,_,_,_⟩) rfl (fun K hK=>?_) ?_
 have gx:=(Array.getElem?_eq_some_iff.1 (by first|exact heap_keep HG.out B4.out|exact heap_keep (heap_keep HG.out B4.out) BA.out|exact heap_keep (heap_keep HG.out BA.out) B4.out)).1;go_simp;(first|refine newZ ?_|refine newZd ?_);intro wp hp bp;have HP:=hid hp;have BP:=hid bp;have pl:=(Array.getElem?_eq_some_iff.1 hp).1;clear hp bp
 refine hK.out _ _ (by first|exact hHeld.trans (BP.out.mono hHeld.size)|exact BP.out) (fun hHeld=>?_)
 clear hK K
 (try simp only [s0,s1,s2])
 refine wpAnyH_ready (rs:=[7]) (by kernel_rfl) (by simp) ?_
 refine AllReadyH.cons (o:=⟨_,.call ⟨.value (.func 38),#[.tmp 24,.tmp 30],#[104,173]⟩,_,_,_,_⟩) rfl (fun K hK=>?_) ?_
 go_simp;refine(tsum_walk gt 0 172 nmGift cur _ 1 1 [⟨a4,q4,f4 g1⟩] _ (by decide) (by first|exact heap_keep (heap_keep HG.out B4.out) BP.out|exact heap_keep (heap_keep (heap_keep HG.out BA.out) B4.out) BP.out|exact heap_keep (heap_keep (heap_keep HG.out B4.out) BA.out) BP.out|exact heap_keep (heap_keep (heap_keep HG.out B4.out) BP.out) BA.out) (.inl HN.out) (part1F (by first|exact HP.out|exact heap_keep HP.out BA.out) (fun w' hf=>by(have o:=(Keep.far' hf).own (by first|exact ownKB O4.out BP.out|exact ownKB (ownKB O4.out BA.out) BP.out|exact ownKB (ownKB O4.out BP.out) BA.out) (fun g hg e=>GT4.out g hg e));obtain⟨a',c',e',hr⟩:=Rd.of_owns o;simp only [Value.slice.injEq] at e';obtain⟨rfl,_,rfl⟩:=e';exact hr) (f4_lt _) (by rw [f4_len];omega) (by omega)) (by simp [flat,f4_len]) (by decide) (L3.out.tabs.below hHeld) (by have:=L3.out.tlt;have:=L3.out.ord;have:=L3.out.le;omega) (by have:=L3.out.tlt;have:=L3.out.ord;have:=L3.out.le;omega)).mono ?_;rintro e wq ⟨rfl,fq,_⟩;rw [show flat [⟨a4,q4,f4 g1⟩]=f4 g1 by simp [flat],show sha (tagH nmGift++f4 g1)=gd from GD.out.symm];have FQ:=hid fq;have sq:=Nat.le_trans hHeld.size fq.size;clear fq;rw [show hv gd = .agg (nums .u8 gd).toArray from rfl]
 refine hK.out _ _ (hHeld.trans (FQ.out.below lg' hHeld.size)) (fun hHeld=>?_)
 clear hK K
 (try simp only [s0,s1,s2])
 refine tkH (i:=8) (oi:=⟨_,.build 60 #[(0,.tmp 31)],_,_,_,_⟩) (v:=(.agg pp.toArray)) rfl (Or.inl ⟨by rfl,fun w _=>run_build1' rfl rfl BPT.out⟩) hHeld ?_
 (try simp only [Act.put,s0,s1,s2])
 refine wpAnyH_ready (rs:=[10]) (by kernel_rfl) (by simp) ?_
 refine AllReadyH.cons (o:=⟨_,.store 60 (.tmp 7) (.tmp 32),_,_,_,_⟩) rfl (fun K hK=>?_) ?_
 rw [if_pos (by rfl)];refine wp_store_row _ _ _ rfl _ pp.toArray rfl rfl _ _ (by first|exact HW.out|exact heap_far HW.out FQ.out (by omega)|exact heap_far (heap_keep HW.out BP.out) FQ.out (by omega)|exact heap_far (heap_keep (heap_keep HW.out B4.out) BP.out) FQ.out (by omega)|exact heap_far (heap_keep (heap_keep (heap_keep HW.out BT.out) B4.out) BP.out) FQ.out (by omega)) hiPA.out hoPA.out h1PA.out ?_
 refine hK.out _ _ (below_setRow hHeld (by omega) _) (fun hHeld=>?_)
 clear hK K
 (try simp only [s0,s1,s2])
 refine wpAnyH_done (by kernel_rfl) ?_ _
 rotate_left
 exact AllReadyH.nil
 exact AllReadyH.nil
 exact AllReadyH.nil
 exact AllReadyH.nil
 exact AllReadyH.nil
 exact AllReadyH.nil
 all_goals (refine MID.out _ _ _ _ _ _ _ _ _ _ _ ?_ ?_ hHeld;omega;exact setRow_heap _ _ _ _ _ _ (by first|exact HW.out|exact heap_far HW.out FQ.out (by omega)|exact heap_far (heap_keep HW.out BP.out) FQ.out (by omega)|exact heap_far (heap_keep (heap_keep HW.out B4.out) BP.out) FQ.out (by omega)|exact heap_far (heap_keep (heap_keep (heap_keep HW.out BT.out) B4.out) BP.out) FQ.out (by omega)))
end Go.Proofs.YtnbmpgballopeaaGreatDoor

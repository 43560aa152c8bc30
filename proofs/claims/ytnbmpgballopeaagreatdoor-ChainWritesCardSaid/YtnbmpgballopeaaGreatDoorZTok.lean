/- An office of tokens. -/
import Derived.Test.YtnbmpgballopeaaGreatDoorZKeep
import Derived.Test.YtnbmpgballopeaaGreatDoorZTokO
namespace Go.Proofs.YtnbmpgballopeaaGreatDoor
open Go.RowKit
abbrev EM:=List Nat→Option (List Nat × List Nat)
def entV(e:List Nat × List Nat):Value:=.agg (nums .u8 (e.1++e.2)).toArray
def valE(M:EM):List Nat→Option Value:=fun x=>(M x).map entV
def updE(M:EM)(x:List Nat)(e:List Nat × List Nat):EM:=fun y=>if y=x then some e else M y
theorem valE_upd(M:EM)(x:List Nat)(e:List Nat × List Nat):(fun y=>if y=x then some (entV e) else valE M y)=valE (updE M x e):=by
 funext y
 unfold valE updE
 by_cases h:y=x
 ·simp [h]
 ·simp [h]
theorem unE:Tryz.prog.underlying 123=some (.map 43 142):=by kernel_rfl
structure OffAt (w:World) (ob mb:Nat) (M:EM) (n:Nat):Prop where
 st:w.heap[ob]? = some (.cells #[.map (some mb),.int .i64 (n:Int)] 130 (0,0))
 map:MapIs EH w mb (valE M) n
 ok:∀x e,M x=some e→EH.ok e.1∧EH.ok e.2
 small:n<1099511627776
 ne:ob≠mb
theorem OffAt.below{w w':World}{ob mb n:Nat}{M:EM}(h:OffAt w ob mb M n)(hb:Below w.heap.size w w'):OffAt w' ob mb M n:=⟨heap_keep h.st hb,h.map.below hb,h.ok,h.small,h.ne⟩
theorem OffAt.far{w w':World}{ob mb n H:Nat}{M:EM}(h:OffAt w ob mb M n)(hf:Far H w w')(h1:ob≠H)(h2:mb≠H):OffAt w' ob mb M n:=⟨heap_far h.st hf h1,h.map.far hf h2,h.ok,h.small,h.ne⟩
theorem built_ent'(a0 a1 a2 a3 a4 a5 a6 a7 a8 a9 a10 a11 a12 a13 a14 a15 a16 a17 a18 a19 a20 a21 a22 a23 a24 a25 a26 a27 a28 a29 a30 a31 b0 b1 b2 b3 b4 b5 b6 b7 b8 b9 b10 b11 b12 b13 b14 b15 b16 b17 b18 b19 b20 b21 b22 b23 b24 b25 b26 b27 b28 b29 b30 b31:Nat):Tryz.prog.built 142 [(0,.agg #[.int .u8 (a0:Int),.int .u8 (a1:Int),.int .u8 (a2:Int),.int .u8 (a3:Int),.int .u8 (a4:Int),.int .u8 (a5:Int),.int .u8 (a6:Int),.int .u8 (a7:Int),.int .u8 (a8:Int),.int .u8 (a9:Int),.int .u8 (a10:Int),.int .u8 (a11:Int),.int .u8 (a12:Int),.int .u8 (a13:Int),.int .u8 (a14:Int),.int .u8 (a15:Int),.int .u8 (a16:Int),.int .u8 (a17:Int),.int .u8 (a18:Int),.int .u8 (a19:Int),.int .u8 (a20:Int),.int .u8 (a21:Int),.int .u8 (a22:Int),.int .u8 (a23:Int),.int .u8 (a24:Int),.int .u8 (a25:Int),.int .u8 (a26:Int),.int .u8 (a27:Int),.int .u8 (a28:Int),.int .u8 (a29:Int),.int .u8 (a30:Int),.int .u8 (a31:Int)]),(1,.agg #[.int .u8 (b0:Int),.int .u8 (b1:Int),.int .u8 (b2:Int),.int .u8 (b3:Int),.int .u8 (b4:Int),.int .u8 (b5:Int),.int .u8 (b6:Int),.int .u8 (b7:Int),.int .u8 (b8:Int),.int .u8 (b9:Int),.int .u8 (b10:Int),.int .u8 (b11:Int),.int .u8 (b12:Int),.int .u8 (b13:Int),.int .u8 (b14:Int),.int .u8 (b15:Int),.int .u8 (b16:Int),.int .u8 (b17:Int),.int .u8 (b18:Int),.int .u8 (b19:Int),.int .u8 (b20:Int),.int .u8 (b21:Int),.int .u8 (b22:Int),.int .u8 (b23:Int),.int .u8 (b24:Int),.int .u8 (b25:Int),.int .u8 (b26:Int),.int .u8 (b27:Int),.int .u8 (b28:Int),.int .u8 (b29:Int),.int .u8 (b30:Int),.int .u8 (b31:Int)])]=some #[.int .u8 (a0:Int),.int .u8 (a1:Int),.int .u8 (a2:Int),.int .u8 (a3:Int),.int .u8 (a4:Int),.int .u8 (a5:Int),.int .u8 (a6:Int),.int .u8 (a7:Int),.int .u8 (a8:Int),.int .u8 (a9:Int),.int .u8 (a10:Int),.int .u8 (a11:Int),.int .u8 (a12:Int),.int .u8 (a13:Int),.int .u8 (a14:Int),.int .u8 (a15:Int),.int .u8 (a16:Int),.int .u8 (a17:Int),.int .u8 (a18:Int),.int .u8 (a19:Int),.int .u8 (a20:Int),.int .u8 (a21:Int),.int .u8 (a22:Int),.int .u8 (a23:Int),.int .u8 (a24:Int),.int .u8 (a25:Int),.int .u8 (a26:Int),.int .u8 (a27:Int),.int .u8 (a28:Int),.int .u8 (a29:Int),.int .u8 (a30:Int),.int .u8 (a31:Int),.int .u8 (b0:Int),.int .u8 (b1:Int),.int .u8 (b2:Int),.int .u8 (b3:Int),.int .u8 (b4:Int),.int .u8 (b5:Int),.int .u8 (b6:Int),.int .u8 (b7:Int),.int .u8 (b8:Int),.int .u8 (b9:Int),.int .u8 (b10:Int),.int .u8 (b11:Int),.int .u8 (b12:Int),.int .u8 (b13:Int),.int .u8 (b14:Int),.int .u8 (b15:Int),.int .u8 (b16:Int),.int .u8 (b17:Int),.int .u8 (b18:Int),.int .u8 (b19:Int),.int .u8 (b20:Int),.int .u8 (b21:Int),.int .u8 (b22:Int),.int .u8 (b23:Int),.int .u8 (b24:Int),.int .u8 (b25:Int),.int .u8 (b26:Int),.int .u8 (b27:Int),.int .u8 (b28:Int),.int .u8 (b29:Int),.int .u8 (b30:Int),.int .u8 (b31:Int)]:=by kernel_rfl
theorem built_ent(x y:List Nat)(h1:x.length=32)(h2:y.length=32):Tryz.prog.built 142 [(0,.agg (nums .u8 x).toArray),(1,.agg (nums .u8 y).toArray)]=some (nums .u8 (x++y)).toArray:=by
 match x,h1,y,h2 with
 | [a0,a1,a2,a3,a4,a5,a6,a7,a8,a9,a10,a11,a12,a13,a14,a15,a16,a17,a18,a19,a20,a21,a22,a23,a24,a25,a26,a27,a28,a29,a30,a31],_,[b0,b1,b2,b3,b4,b5,b6,b7,b8,b9,b10,b11,b12,b13,b14,b15,b16,b17,b18,b19,b20,b21,b22,b23,b24,b25,b26,b27,b28,b29,b30,b31],_=>exact built_ent' a0 a1 a2 a3 a4 a5 a6 a7 a8 a9 a10 a11 a12 a13 a14 a15 a16 a17 a18 a19 a20 a21 a22 a23 a24 a25 a26 a27 a28 a29 a30 a31 b0 b1 b2 b3 b4 b5 b6 b7 b8 b9 b10 b11 b12 b13 b14 b15 b16 b17 b18 b19 b20 b21 b22 b23 b24 b25 b26 b27 b28 b29 b30 b31
theorem run_build2'{P:Program}{w:World}{o:Oper}{ev:Operand→Value}{t:TypeId}{x0 x1:Operand}{v0 v1:Value}{cells:Array Value}(ho:o.op = .build t #[(0,x0),(1,x1)])
  (h0:ev x0=v0) (h1:ev x1=v1) (hb:P.built t [(0,v0),(1,v1)]=some cells):(execOp ev o).run P w = .ok (.value (.agg cells)) w:=
 run_buildN ho (by simpa [h0,h1] using hb)
def zE:Array Value:=(nums .u8 (List.replicate 64 0)).toArray
theorem zeroE(w:World):(zeroValue 142).run Tryz.prog w = .ok (.agg zE) w:=by
 have h:(Tryz.prog.info? 142).map (·.zero)=some (some (.agg zE)):=by kernel_rfl
 cases hi:Tryz.prog.info? 142 with
 | none=>rw [hi] at h;cases h
 | some i=>
  rw [hi] at h
  simp only [Option.map_some,Option.some.injEq] at h
  simp [zeroValue,typeInfo,hi,h]
def allM(M:EM)(sec what:List Nat):EM:=if (M (tokD sec what)).isSome then M else updE M (tokD sec what) (ownD sec,what)
def allN(M:EM)(n:Nat)(sec what:List Nat):Nat:=if (M (tokD sec what)).isSome then n else n+1
def AlwRes(w:World)(ob mb:Nat)(M:EM)(n:Nat)(t:List Nat)(e:Ending)(w':World):Prop:=e = .returned (hv t)∧OffAt w' ob mb M n∧Far2 ob mb w w'
set_option maxRecDepth 100000 in
set_option maxHeartbeats 8000000 in
theorem allow_walk(sec what:List Nat)(hso:EH.ok sec)(hwo:EH.ok what)(ob mb n:Nat)(M:EM)(w:World)(h:OffAt w ob mb M n)(hn1:n+1<1099511627776)(ht:Tabs w):
  Calls Tryz.prog 21 #[.pointer (some ⟨ob,0,none⟩),hv sec,hv what] w (AlwRes w ob mb (allM M sec what) (allN M n sec what) (tokD sec what)):=by
 have HT:=hid ht
 have HO:=hid h
 have A3:=fun z=>alloc3p w (.cells (nums .u8 sec).toArray 43) (.cells (nums .u8 what).toArray 43) (.cells z 43)
 have hs0:0<w.heap.size:=by have:=World.block_lt_of_cell? w _ (ht.1 0 (by decide));simpa using this
 have hs1:1<w.heap.size:=by have:=World.block_lt_of_cell? w _ (ht.2 0 (by decide));simpa using this
 have hobl:ob<w.heap.size:=(Array.getElem?_eq_some_iff.1 h.st).1
 have hmbl:=h.map.lt
 have hne:=h.ne
 clear ht h
 unfold hv
 go_enter Tryz.func21,Tryz.ntmps21
 go_upto_region 3 with(fail)
 generalize hW:World.alloc (World.alloc (World.alloc w _) _) _=wb
 replace A3:∃z:Array Value,z.size=32∧wb.heap[w.heap.size]? = some (.cells (nums .u8 sec).toArray 43 (0,0))∧wb.heap[w.heap.size+1]? = some (.cells (nums .u8 what).toArray 43 (0,0))∧wb.heap[w.heap.size+1+1]? = some (.cells z 43 (0,0))∧Below w.heap.size w wb:=⟨_,by rfl,hW ▸ (A3 _).1,hW ▸ (A3 _).2.1,hW ▸ (A3 _).2.2.1,hW ▸ (A3 _).2.2.2⟩
 obtain⟨z,hz,gP,gQ,gZ,b0⟩:=A3
 have hRl:w.heap.size+1+1<wb.heap.size:=(Array.getElem?_eq_some_iff.1 gZ).1
 have HTb:=hid (HT.out.below b0)
 have HOb:=hid (HO.out.below b0)
 have hPv:=hid gP
 have hQv:=hid gQ
 have hZ:=hid gZ
 have hz32:=hid hz
 have B0:=hid b0
 clear gP gQ gZ b0 hW hz
 generalize hP:w.heap.size=P at *
 generalize hQ:P+1=Q at *
 generalize hR:Q+1=R at *
 have hiW:=hid (show(Tryz.prog.info? 43).map (·.size)=some (nums .u8 (sha (tagH nmToken++flat [⟨some ⟨P,0,none⟩,32,sec⟩,⟨some ⟨Q,0,none⟩,32,what⟩]))).toArray.size by rw [List.size_toArray,nums_length,sha_len];kernel_rfl)
 have hzW:=hid (show ∀y:Array Value,y.size=32→y.size=(nums .u8 (sha (tagH nmToken++flat [⟨some ⟨P,0,none⟩,32,sec⟩,⟨some ⟨Q,0,none⟩,32,what⟩]))).toArray.size from fun y hy=>by rw [hy];simp [sha_len])
 have hoW:=hid (all_oneCell_toArray (nums_oneCell .u8 (sha (tagH nmToken++flat [⟨some ⟨P,0,none⟩,32,sec⟩,⟨some ⟨Q,0,none⟩,32,what⟩]))))
 have eT:sha (tagH nmToken++flat [⟨some ⟨P,0,none⟩,32,sec⟩,⟨some ⟨Q,0,none⟩,32,what⟩])=tokD sec what:=by simp [flat,tokD]
 have ET:=hid eT
 clear eT
 rename_i K aK
 have MID:∀(K7:Nat) (u13 u14 u15 u16 u17:Value) (wz:World),wb.heap.size≤K7→wz.heap[K7]? = some (.cells (nums .u8 (tokD sec what)).toArray 43 (0,0))→Below wb.heap.size wb wz→K ⟨#[.pointer (some ⟨ob,0,none⟩),.agg (nums .u8 sec).toArray,.agg (nums .u8 what).toArray,undef,.pointer (some ⟨P,0,none⟩),.pointer (some ⟨Q,0,none⟩),.pointer (some ⟨R,0,none⟩),.pointer (some ⟨K7,0,none⟩),undef,undef,.pointer (some ⟨ob,0,none⟩),.bool false,undef,u13,u14,u15,u16,u17,undef,undef,undef,undef,undef,undef,undef,undef,undef,undef,undef,undef,undef,undef,undef,undef,undef,undef,undef,undef,undef,undef,undef,undef,undef],[]⟩ wz:=by
  intro K7 u13 u14 u15 u16 u17 wz hK7 gK bz
  refine aK _ _ ?_
  have BZ:=hid (B0.out.trans (bz.mono (by omega)))
  have HOz:=hid (HOb.out.below bz)
  have HTz:=hid (HTb.out.below bz)
  have hPz:=hid (heap_keep hPv.out bz)
  have hQz:=hid (heap_keep hQv.out bz)
  have hZz:=hid (heap_keep hZ.out bz)
  have hKz:=hid gK
  have unH:=Tryz.underlying43
  have hiL:=hid (show(Tryz.prog.info? 43).map (·.size)=some (nums .u8 (tokD sec what)).length by rw [nums_length,(tokD_ok _ _).1];kernel_rfl)
  have hiLs:=hid (show(Tryz.prog.info? 43).map (·.size)=some (nums .u8 sec).length by rw [nums_length,hso.1];kernel_rfl)
  have hiLw:=hid (show(Tryz.prog.info? 43).map (·.size)=some (nums .u8 what).length by rw [nums_length,hwo.1];kernel_rfl)
  obtain⟨EV,kn,hval,hEV,hkn⟩:∃(EV:Array Value) (kn:Bool),Hid ((if true=true then Value.tuple #[(valE M (tokD sec what)).getD (.agg zE),.bool (valE M (tokD sec what)).isSome] else (valE M (tokD sec what)).getD (.agg zE)) = .tuple #[.agg EV,.bool kn])∧Hid (EV.size=64∧EV.all (·.oneCell')=true)∧Hid (kn=(M (tokD sec what)).isSome):=by
   rw [if_pos rfl]
   unfold valE
   cases hm:M (tokD sec what) with
   | none=>exact⟨zE,false,hid rfl,hid ⟨rfl,all_oneCell_toArray (nums_oneCell .u8 _)⟩,hid rfl⟩
   | some e=>
    have:=HOz.out.ok _ e hm
    exact⟨(nums .u8 (e.1++e.2)).toArray,true,hid rfl,hid ⟨by simp [this.1.1,this.2.1],all_oneCell_toArray (nums_oneCell .u8 _)⟩,hid rfl⟩
  have hEi:=hid (show(Tryz.prog.info? 142).map (·.size)=some EV.size by rw [hEV.out.1];kernel_rfl)
  have hEz:=hid (fun(y:Array Value) (hy:y.size=64)=>hy.trans hEV.out.1.symm)
  have hEo:=hid hEV.out.2
  have keepS:∀X Y:World,Below X.heap.size X Y→(X.cell? ⟨ob,0,none⟩=some (.map (some mb))∧X.rangeAt K7 0 (nums .u8 (tokD sec what))∧MapIs EH X mb (valE M) n)→(Y.cell? ⟨ob,0,none⟩=some (.map (some mb))∧Y.rangeAt K7 0 (nums .u8 (tokD sec what))∧MapIs EH Y mb (valE M) n):=
   fun X Y hb h=>⟨cell_keep hb h.1,range_keep hb h.2.1,h.2.2.below hb⟩
  have f1:wz.cell? ⟨ob,0,none⟩=some (.map (some mb)):=cellA HOz.out.st rfl
  have f2:=row_range gK
  have f3:=HOz.out.map
  clear bz gK
  go_upto_region 4 with(fail)
  refine wp_region_held_drew (S:=fun w'=>w'.cell? ⟨ob,0,none⟩=some (.map (some mb))∧w'.rangeAt K7 0 (nums .u8 (tokD sec what))∧MapIs EH w' mb (valE M) n) (by kernel_rfl) (⟨f1,f2,f3⟩) (fun hHeld=>?_)
  try simp only [List.size_toArray,List.length_cons,List.length_nil,Nat.reduceAdd,Array.replicate_succ,Array.replicate_zero,List.push_toArray,List.nil_append,List.cons_append]
  refine tkH (i:=0) (oi:=⟨_,.move (.tmp 0),_,_,_,_⟩) (v:=?v4001) rfl (yi ?y4001) hHeld ?_
  case y4001=>(intro w _;go_simp;(try with_reducible rfl))
  (try simp only [Act.put,s0,s1,s2])
  refine tkH (i:=1) (oi:=⟨_,.nilCheck (.tmp 19),_,_,_,_⟩) (v:=?v4002) rfl (yi ?y4002) hHeld ?_
  case y4002=>(intro w _;go_simp;(try with_reducible rfl))
  (try simp only [Act.put,s0,s1,s2])
  refine tkH (i:=2) (oi:=⟨_,.fieldAddr 130 (.tmp 20) 0,_,_,_,_⟩) (v:=?v4003) rfl (yi ?y4003) hHeld ?_
  case y4003=>(intro w _;go_simp;(try with_reducible rfl))
  (try simp only [Act.put,s0,s1,s2])
  refine tkH (i:=3) (oi:=⟨_,.load 123 (.tmp 21),_,_,_,_⟩) (v:=?v4004) rfl (yi ?y4004) hHeld ?_
  case y4004=>(intro w _;go_simp;(try with_reducible rfl))
  (try simp only [Act.put,s0,s1,s2])
  refine' tkH (i:=4) (oi:=⟨_,.load 43 (.tmp 7),_,_,_,_⟩) (v:=_) rfl (yieldsIf_load_mid (by rfl) _ _ rfl K7 0 rfl (nums .u8 (tokD sec what)) _ (fun _ h=>h.2.1) unH rfl hiL.out) hHeld ?_
  (try simp only [Act.put,s0,s1,s2])
  refine tkH (i:=5) (oi:=⟨_,.lookup 123 (.tmp 22) (.tmp 23) true,_,_,_,_⟩) (v:=.tuple #[.agg EV,.bool kn]) rfl (Or.inl ⟨by rfl,fun w h=>by rw [← hval.out];exact run_look _ _ _ true rfl unE (zeroE w) h.2.2 rfl (tokD sec what) (tokD_ok sec what) rfl⟩) hHeld ?_
  (try simp only [Act.put,s0,s1,s2])
  refine tkH (i:=6) (oi:=⟨_,.move (.tmp 24),_,_,_,_⟩) (v:=?v4005) rfl (yi ?y4005) hHeld ?_
  case y4005=>(intro w _;go_simp;(try with_reducible rfl))
  (try simp only [Act.put,s0,s1,s2])
  refine tkH (i:=7) (oi:=⟨_,.extract (.tmp 18) 0,_,_,_,_⟩) (v:=?v4006) rfl (yi ?y4006) hHeld ?_
  case y4006=>(intro w _;go_simp;(try with_reducible rfl))
  (try simp only [Act.put,s0,s1,s2])
  refine tkH (i:=8) (oi:=⟨_,.extract (.tmp 18) 1,_,_,_,_⟩) (v:=?v4007) rfl (yi ?y4007) hHeld ?_
  case y4007=>(intro w _;go_simp;(try with_reducible rfl))
  (try simp only [Act.put,s0,s1,s2])
  refine wpAnyH_ready (rs:=[9]) (by kernel_rfl) (by simp) ?_
  refine AllReadyH.cons (o:=⟨_,.alloc 142,_,_,_,_⟩) rfl (fun K hK=>?_) ?_
  go_simp;(first|refine newZ ?_|refine newZd ?_);intro w5 h5 b5
  refine hK.out _ _ (keepS _ _ b5.out ⟨f1,f2,f3⟩) (fun hHeld=>?_)
  clear hK K
  (try simp only [s0,s1,s2])
  refine wpAnyH_ready (rs:=[10]) (by kernel_rfl) (by simp) ?_
  refine AllReadyH.cons (o:=⟨_,.store 142 (.tmp 8) (.tmp 25),_,_,_,_⟩) rfl (fun K hK=>?_) ?_
  rw [if_pos (by rfl)];refine wp_store_row _ _ _ rfl _ EV rfl rfl _ _ h5.out hEi.out (hEz.out _ rfl) hEo.out ?_
  refine hK.out _ _ (keepS _ _ (below_setRow b5.out (Nat.le_refl _) _) ⟨f1,f2,f3⟩) (fun hHeld=>?_)
  clear hK K
  (try simp only [s0,s1,s2])
  refine tkH (i:=11) (oi:=⟨_,.assign (.tmp 26),_,_,_,_⟩) (v:=?v4008) rfl (yi ?y4008) hHeld ?_
  case y4008=>(intro w _;go_simp;(try with_reducible rfl))
  (try simp only [Act.put,s0,s1,s2])
  refine wpAnyH_done (by kernel_rfl) ?_ _
  rotate_left
  exact AllReadyH.nil
  exact AllReadyH.nil
  have b7:=below_setRow b5.out (Nat.le_refl _) EV
  have f1':=cell_keep b7 f1
  have hO7:=hid (HOz.out.below b7)
  have hT7:=hid (HTz.out.below b7)
  have hP7:=hid (heap_keep hPz.out b7)
  have hQ7:=hid (heap_keep hQz.out b7)
  have hZ7:=hid (heap_keep hZz.out b7)
  have hK7':=hid (heap_keep hKz.out b7)
  have B7:=hid (BZ.out.trans (b7.mono (by have:=BZ.out.size;omega)))
  clear hHeld keepS f1 f2 f3 h5 b5 b7
  generalize w5.setRow wz.heap.size EV=w7 at *
  have hiT:=hid (show(Tryz.prog.info? 43).map (·.size)=some (nums .u8 (tokD sec what)).toArray.size by rw [List.size_toArray];exact hiL.out)
  have hT32:=hid (show 32=(nums .u8 (tokD sec what)).toArray.size by rw [List.size_toArray,nums_length,(tokD_ok _ _).1])
  have hoT:=hid (all_oneCell_toArray (nums_oneCell .u8 (tokD sec what)))
  have hobR:=hid (show ob≠R by omega)
  have hmbR:=hid (show mb≠R by omega)
  have hPw:P≤w.heap.size:=by omega
  cases kn with
  | true=>
   have eM:allM M sec what=M:=by unfold allM;rw [← hkn.out,if_pos rfl]
   have eN:allN M n sec what=n:=by unfold allN;rw [← hkn.out,if_pos rfl]
   go_wp2_with (first|refine wpList_load_mid rfl _ _ rfl K7 0 rfl (nums .u8 (tokD sec what)) _ (row_range hK7'.out) unH rfl hiL.out ?_|refine wpList_store_row rfl _ _ _ rfl R (nums .u8 (tokD sec what)).toArray rfl rfl _ _ hZ7.out hiT.out (hz32.out.trans hT32.out) hoT.out ?_)
   refine bodyPost_ret (results_cell_row rfl _ _ R _ (nums .u8 (tokD sec what)).toArray _ _ rfl (setRow_heap _ R _ _ _ _ hZ7.out) unH rfl hiT.out) rfl ?_
   refine⟨rfl,?_,(((Far.of (H:=ob) (hP ▸ B7.out)).l2 mb).newer (far_row _ R _) (by omega))⟩
   exact hO7.out.far (far_row _ R _) hobR.out hmbR.out
  | false=>
   have hMn:M (tokD sec what)=none:=by cases hm:M (tokD sec what) with
    | none=>rfl
    | some e=>have:=hkn.out;rw [hm] at this;cases this
   have eM:allM M sec what=updE M (tokD sec what) (ownD sec,what):=by unfold allM;rw [← hkn.out,if_neg (by decide)]
   have eN:allN M n sec what=n+1:=by unfold allN;rw [← hkn.out,if_neg (by decide)]
   have g1:=f1'
   have g2:=row_range hK7'.out
   have g3:=row_range hP7.out
   have g4:=row_range hQ7.out
   have g5:=hid hO7.out.map
   have hnb:=hid (show n<maxLen by unfold maxLen;omega)
   have HBT:=hid (built_ent (ownD sec) what (ownD_ok sec).1 hwo.1)
   have hK7n:=hid (show K7≠mb by omega)
   go_upto_region 6 with(fail)
   refine wp_region_held_drew (S:=fun w'=>w'.cell? ⟨ob,0,none⟩=some (.map (some mb))∧w'.rangeAt K7 0 (nums .u8 (tokD sec what))∧w'.rangeAt P 0 (nums .u8 sec)∧w'.rangeAt Q 0 (nums .u8 what)) (by kernel_rfl) (⟨g1,g2,g3,g4⟩) (fun hHeld=>?_)
   try simp only [List.size_toArray,List.length_cons,List.length_nil,Nat.reduceAdd,Array.replicate_succ,Array.replicate_zero,List.push_toArray,List.nil_append,List.cons_append]
   refine tkH (i:=0) (oi:=⟨_,.move (.tmp 0),_,_,_,_⟩) (v:=?v6001) rfl (yi ?y6001) hHeld ?_
   case y6001=>(intro w _;go_simp;(try with_reducible rfl))
   (try simp only [Act.put,s0,s1,s2])
   refine tkH (i:=1) (oi:=⟨_,.nilCheck (.tmp 29),_,_,_,_⟩) (v:=?v6002) rfl (yi ?y6002) hHeld ?_
   case y6002=>(intro w _;go_simp;(try with_reducible rfl))
   (try simp only [Act.put,s0,s1,s2])
   refine tkH (i:=2) (oi:=⟨_,.fieldAddr 130 (.tmp 30) 0,_,_,_,_⟩) (v:=?v6003) rfl (yi ?y6003) hHeld ?_
   case y6003=>(intro w _;go_simp;(try with_reducible rfl))
   (try simp only [Act.put,s0,s1,s2])
   refine tkH (i:=3) (oi:=⟨_,.load 123 (.tmp 31),_,_,_,_⟩) (v:=?v6004) rfl (yi ?y6004) hHeld ?_
   case y6004=>(intro w _;go_simp;(try with_reducible rfl))
   (try simp only [Act.put,s0,s1,s2])
   refine' tkH (i:=4) (oi:=⟨_,.load 43 (.tmp 7),_,_,_,_⟩) (v:=_) rfl (yieldsIf_load_mid (by rfl) _ _ rfl K7 0 rfl (nums .u8 (tokD sec what)) _ (fun _ h=>h.2.1) unH rfl hiL.out) hHeld ?_
   (try simp only [Act.put,s0,s1,s2])
   refine' tkH (i:=5) (oi:=⟨_,.load 43 (.tmp 4),_,_,_,_⟩) (v:=_) rfl (yieldsIf_load_mid (by rfl) _ _ rfl P 0 rfl (nums .u8 sec) _ (fun _ h=>h.2.2.1) unH rfl hiLs.out) hHeld ?_
   (try simp only [Act.put,s0,s1,s2])
   refine' tkH (i:=7) (oi:=⟨_,.load 43 (.tmp 5),_,_,_,_⟩) (v:=_) rfl (yieldsIf_load_mid (by rfl) _ _ rfl Q 0 rfl (nums .u8 what) _ (fun _ h=>h.2.2.2) unH rfl hiLw.out) hHeld ?_
   (try simp only [Act.put,s0,s1,s2])
   refine wpAnyH_ready (rs:=[6]) (by kernel_rfl) (by simp) ?_
   refine AllReadyH.cons (o:=⟨_,.call ⟨.value (.func 50),#[.tmp 34],#[43]⟩,_,_,_,_⟩) rfl (fun K hK=>?_) ?_
   go_simp;refine(owner_walk sec hso.1 hso.2 _ (hT7.out.below ((Below.refl _ _).drew))).mono ?_;rintro e wo ⟨rfl,bo⟩;have BO:=hid (((Below.refl w7.heap.size w7).drew).trans bo);clear bo
   refine hK.out _ _ (⟨cell_keep BO.out g1,range_keep BO.out g2,range_keep BO.out g3,range_keep BO.out g4⟩) (fun hHeld=>?_)
   clear hK K
   (try simp only [s0,s1,s2])
   refine tkH (i:=8) (oi:=⟨_,.build 142 #[(0,.tmp 35),(1,.tmp 36)],_,_,_,_⟩) (v:=.agg (nums .u8 (ownD sec++what)).toArray) rfl (Or.inl ⟨by rfl,fun w _=>run_build2' rfl rfl rfl HBT.out⟩) hHeld ?_
   (try simp only [Act.put,s0,s1,s2])
   refine wpAnyH_ready (rs:=[9]) (by kernel_rfl) (by simp) ?_
   refine AllReadyH.cons (o:=⟨_,.mapUpdate 123 (.tmp 32) (.tmp 33) (.tmp 37),_,_,_,_⟩) rfl (fun K hK=>?_) ?_
   rw [if_pos (by rfl)];refine wp_put _ _ _ _ rfl unE (g5.out.below BO.out) hnb.out rfl (tokD sec what) (tokD_ok sec what) rfl rfl ?_;intro w9 m9 f9
   refine hK.out _ _ (⟨far_cell' hHeld.1 f9 hne,range_far f9 hHeld.2.1 (by omega),range_far f9 hHeld.2.2.1 (by omega),range_far f9 hHeld.2.2.2 (by omega)⟩) (fun hHeld=>?_)
   clear hK K
   (try simp only [s0,s1,s2])
   refine wpAnyH_done (by kernel_rfl) ?_ _
   rotate_left
   exact AllReadyH.nil
   exact AllReadyH.nil
   have hvn:(valE M (tokD sec what)).isSome=false:=by unfold valE;rw [hMn];rfl
   rw [hvn,if_neg (by decide)] at m9
   have hm9:=hid (show MapIs EH w9 mb (valE (updE M (tokD sec what) (ownD sec,what))) (n+1) by rw [← valE_upd];exact m9)
   have hst9:=hid (heap_far (heap_keep hO7.out.st BO.out) f9 hne)
   have hK9:=hid (heap_far (heap_keep hK7'.out BO.out) f9 hK7n.out)
   have hZ9:=hid (heap_far (heap_keep hZ7.out BO.out) f9 (by omega))
   have F9:=hid ((((Far.of (H:=ob) (hP ▸ B7.out)).l2 mb).trans ((Far.of (H:=ob) BO.out).l2 mb)).trans (f9.r2 ob))
   have s9:=f9.size
   have sO:=BO.out.size
   clear hHeld m9 f9 g1 g2 g3 g4 f1' hvn
   obtain⟨n1,hn1'⟩:∃n1:Nat,n1=n+1:=⟨_,rfl⟩
   have AD:=hid (addI_walk ⟨ob,1,none⟩ n 1 (n1:Int) w9 (cellA hst9.out rfl) (frozenA hst9.out) (by rw [IntWalk.i64_in _ (by omega)];omega))
   have hn1h:=hid hn1'
   have hst10:=hid (heap_setA (i:=1) (.int .i64 (n1:Int)) hst9.out)
   have F10:=hid (F9.out.trans ((Far.set (w:=w9) (H:=ob) (j:=1) (.int .i64 (n1:Int))).l2 mb))
   have hK10:=hid (heap_far hK9.out (Far.set (w:=w9) (H:=ob) (j:=1) (.int .i64 (n1:Int))) (by omega))
   have hZ10:=hid (heap_far hZ9.out (Far.set (w:=w9) (H:=ob) (j:=1) (.int .i64 (n1:Int))) (by omega))
   have hm10:=hid (hm9.out.far (Far.set (w:=w9) (H:=ob) (j:=1) (.int .i64 (n1:Int))) (Ne.symm hne))
   clear hn1' hst9 F9 hK9 hZ9 hm9
   go_upto_region 8 with(go_at_call 51;refine AD.out.mono ?_;rintro e w10 ⟨rfl,rfl⟩)
   clear AD
   generalize w9.setCell ⟨ob,1,none⟩ (.int .i64 (n1:Int))=w10 at *
   go_wp2_with (first|refine wpList_load_mid rfl _ _ rfl K7 0 rfl (nums .u8 (tokD sec what)) _ (row_range hK10.out) unH rfl hiL.out ?_|refine wpList_store_row rfl _ _ _ rfl R (nums .u8 (tokD sec what)).toArray rfl rfl _ _ hZ10.out hiT.out (hz32.out.trans hT32.out) hoT.out ?_)
   refine bodyPost_ret (results_cell_row rfl _ _ R _ (nums .u8 (tokD sec what)).toArray _ _ rfl (setRow_heap _ R _ _ _ _ hZ10.out) unH rfl hiT.out) rfl ?_
   refine⟨rfl,?_,F10.out.newer (far_row _ R _) (by omega)⟩
   have hnn:=hn1h.out
   subst hnn
   rw [eM,eN]
   exact⟨(setRow_other _ _ _ _ hobR.out).trans hst10.out,hm10.out.far (far_row _ R _) hmbR.out,fun x e he=>by
    unfold updE at he
    split at he
    ·cases he;exact⟨ownD_ok sec,hwo⟩
    ·exact hO7.out.ok x e he,hn1,hne⟩
 clear aK
 have MID:=hid MID
 refine wp_region_held_drew (S:=fun w'=>Below wb.heap.size wb w') (by kernel_rfl) ((Below.refl _ _).drew) (fun hHeld=>?_)
 try simp only [List.size_toArray,List.length_cons,List.length_nil,Nat.reduceAdd,Array.replicate_succ,Array.replicate_zero,List.push_toArray,List.nil_append,List.cons_append]
 refine tkH (i:=1) (oi:=⟨_,.slice 43 (.tmp 4) none none none,_,_,_,_⟩) (v:=?v3001) rfl (yi ?y3001) hHeld ?_
 case y3001=>(intro w _;go_simp;(try with_reducible rfl))
 (try simp only [Act.put,s0,s1,s2])
 refine tkH (i:=2) (oi:=⟨_,.slice 43 (.tmp 5) none none none,_,_,_,_⟩) (v:=?v3002) rfl (yi ?y3002) hHeld ?_
 case y3002=>(intro w _;go_simp;(try with_reducible rfl))
 (try simp only [Act.put,s0,s1,s2])
 refine wpAnyH_ready (rs:=[0,3,5]) (by kernel_rfl) (by simp) ?_
 refine AllReadyH.cons (o:=⟨_,.call ⟨.value (.func 37),#[.const (.string { data:=#[109,111,110,101,121,101,114,47,116,111,107,101,110] })],#[9]⟩,_,_,_,_⟩) rfl (fun K hK=>?_) ?_
 go_simp;refine(newtag_walk nmToken _).mono ?_;rintro e wt ⟨g,cur,rfl,lg,hG,hN,bt⟩;have HG:=hid hG;have HN:=hid hN;have BT:=hid bt;have lg':wb.heap.size≤g:=(by first|exact lg|exact Nat.le_trans hHeld.size lg);have gl:=(Array.getElem?_eq_some_iff.1 hG).1;clear hG hN bt
 refine hK.out _ _ (by first|exact hHeld.trans (BT.out.mono hHeld.size)|exact BT.out) (fun hHeld=>?_)
 clear hK K
 (try simp only [List.setIfInBounds_toArray,List.set_cons_zero])
 refine wpAnyH_ready (rs:=[3,5]) (by kernel_rfl) (by simp) ?_
 refine AllReadyH.cons (o:=⟨_,.buildSlice 173 2 #[(0,.tmp 14),(1,.tmp 15)],_,_,_,_⟩) rfl (fun K hK=>?_) ?_
 go_simp;(first|refine newZ ?_|refine newZd ?_);intro wp hp bp;have HP:=hid hp;have BP:=hid bp;have pl:=(Array.getElem?_eq_some_iff.1 hp).1;clear hp bp
 refine hK.out _ _ (by first|exact hHeld.trans (BP.out.mono hHeld.size)|exact BP.out) (fun hHeld=>?_)
 clear hK K
 (try simp only [s0,s1,s2])
 refine wpAnyH_ready (rs:=[4,5]) (by kernel_rfl) (by simp) ?_
 refine AllReadyH.cons (o:=⟨_,.call ⟨.value (.func 38),#[.tmp 13,.tmp 16],#[104,173]⟩,_,_,_,_⟩) rfl (fun K hK=>?_) ?_
 go_simp;refine(tsum_walk g 0 _ nmToken cur _ 2 2 [⟨some ⟨P,0,none⟩,32,sec⟩,⟨some ⟨Q,0,none⟩,32,what⟩] _ nmToken_size (by first|exact HG.out|exact heap_keep HG.out BP.out|exact heap_keep HG.out BA.out|exact heap_keep (heap_keep HG.out BP.out) BA.out|exact heap_keep (heap_keep HG.out BA.out) BP.out) (.inl HN.out) (tagParts (L:=[(P,sec),(Q,what)]) (by first|exact HP.out|exact heap_keep HP.out BT.out|exact heap_keep HP.out BA.out|exact heap_keep (heap_keep HP.out BT.out) BA.out|exact heap_keep (heap_keep HP.out BA.out) BT.out) (by omega) (by intro q hq;simp only [List.mem_cons,List.not_mem_nil,or_false] at hq;rcases hq with rfl|rfl;exact⟨⟨_,heap_keep hPv.out hHeld⟩,hso.1,hso.2,by simp only;omega⟩;exact⟨⟨_,heap_keep hQv.out hHeld⟩,hwo.1,hwo.2,by simp only;omega⟩)) (by simp [flat,hso.1,hwo.1]) (by decide) (HTb.out.below hHeld) (by omega) (by omega)).mono ?_;rintro e wq ⟨rfl,fq,_⟩;have FQ:=hid fq;have sq:=Nat.le_trans hHeld.size fq.size;clear fq
 refine hK.out _ _ (hHeld.trans (FQ.out.below lg' hHeld.size)) (fun hHeld=>?_)
 clear hK K
 (try simp only [s0,s1,s2])
 refine wpAnyH_ready (rs:=[5]) (by kernel_rfl) (by simp) ?_
 refine AllReadyH.cons (o:=⟨_,.alloc 43,_,_,_,_⟩) rfl (fun K hK=>?_) ?_
 go_simp;(first|refine newZ ?_|refine newZd ?_);intro wa ha ba;have HA:=hid ha;have BA:=hid ba;have al:=(Array.getElem?_eq_some_iff.1 ha).1;clear ha ba
 refine hK.out _ _ (by first|exact hHeld.trans (BA.out.mono hHeld.size)|exact BA.out) (fun hHeld=>?_)
 clear hK K
 (try simp only [s0,s1,s2])
 refine wpAnyH_ready (rs:=[6]) (by kernel_rfl) (by simp) ?_
 refine AllReadyH.cons (o:=⟨_,.store 43 (.tmp 7) (.tmp 17),_,_,_,_⟩) rfl (fun K hK=>?_) ?_
 rw [if_pos (by rfl)];refine wp_store_row _ _ _ rfl _ (nums .u8 (sha (tagH nmToken++flat [⟨some ⟨P,0,none⟩,32,sec⟩,⟨some ⟨Q,0,none⟩,32,what⟩]))).toArray rfl rfl _ _ (by first|exact HA.out|exact heap_far HA.out FQ.out (by omega)|exact heap_far (heap_keep HA.out BP.out) FQ.out (by omega)|exact heap_far (heap_keep HA.out BT.out) FQ.out (by omega)|exact heap_far (heap_keep (heap_keep HA.out BP.out) BT.out) FQ.out (by omega)|exact heap_far (heap_keep (heap_keep HA.out BT.out) BP.out) FQ.out (by omega)) hiW.out (hzW.out _ rfl) hoW.out ?_
 refine hK.out _ _ (below_setRow hHeld (by omega) _) (fun hHeld=>?_)
 clear hK K
 (try simp only [s0,s1,s2])
 refine wpAnyH_done (by kernel_rfl) ?_ _
 rotate_left
 exact AllReadyH.nil
 exact AllReadyH.nil
 refine AllReadyH.cons (o:=⟨_,.alloc 43,_,_,_,_⟩) rfl (fun K hK=>?_) ?_
 go_simp;(first|refine newZ ?_|refine newZd ?_);intro wa ha ba;have HA:=hid ha;have BA:=hid ba;have al:=(Array.getElem?_eq_some_iff.1 ha).1;clear ha ba
 refine hK.out _ _ (by first|exact hHeld.trans (BA.out.mono hHeld.size)|exact BA.out) (fun hHeld=>?_)
 clear hK K
 (try simp only [s0,s1,s2])
 refine wpAnyH_ready (rs:=[4]) (by kernel_rfl) (by simp) ?_
 refine AllReadyH.cons (o:=⟨_,.call ⟨.value (.func 38),#[.tmp 13,.tmp 16],#[104,173]⟩,_,_,_,_⟩) rfl (fun K hK=>?_) ?_
 go_simp;refine(tsum_walk g 0 _ nmToken cur _ 2 2 [⟨some ⟨P,0,none⟩,32,sec⟩,⟨some ⟨Q,0,none⟩,32,what⟩] _ nmToken_size (by first|exact HG.out|exact heap_keep HG.out BP.out|exact heap_keep HG.out BA.out|exact heap_keep (heap_keep HG.out BP.out) BA.out|exact heap_keep (heap_keep HG.out BA.out) BP.out) (.inl HN.out) (tagParts (L:=[(P,sec),(Q,what)]) (by first|exact HP.out|exact heap_keep HP.out BT.out|exact heap_keep HP.out BA.out|exact heap_keep (heap_keep HP.out BT.out) BA.out|exact heap_keep (heap_keep HP.out BA.out) BT.out) (by omega) (by intro q hq;simp only [List.mem_cons,List.not_mem_nil,or_false] at hq;rcases hq with rfl|rfl;exact⟨⟨_,heap_keep hPv.out hHeld⟩,hso.1,hso.2,by simp only;omega⟩;exact⟨⟨_,heap_keep hQv.out hHeld⟩,hwo.1,hwo.2,by simp only;omega⟩)) (by simp [flat,hso.1,hwo.1]) (by decide) (HTb.out.below hHeld) (by omega) (by omega)).mono ?_;rintro e wq ⟨rfl,fq,_⟩;have FQ:=hid fq;have sq:=Nat.le_trans hHeld.size fq.size;clear fq
 refine hK.out _ _ (hHeld.trans (FQ.out.below lg' hHeld.size)) (fun hHeld=>?_)
 clear hK K
 (try simp only [s0,s1,s2])
 refine wpAnyH_ready (rs:=[6]) (by kernel_rfl) (by simp) ?_
 refine AllReadyH.cons (o:=⟨_,.store 43 (.tmp 7) (.tmp 17),_,_,_,_⟩) rfl (fun K hK=>?_) ?_
 rw [if_pos (by rfl)];refine wp_store_row _ _ _ rfl _ (nums .u8 (sha (tagH nmToken++flat [⟨some ⟨P,0,none⟩,32,sec⟩,⟨some ⟨Q,0,none⟩,32,what⟩]))).toArray rfl rfl _ _ (by first|exact HA.out|exact heap_far HA.out FQ.out (by omega)|exact heap_far (heap_keep HA.out BP.out) FQ.out (by omega)|exact heap_far (heap_keep HA.out BT.out) FQ.out (by omega)|exact heap_far (heap_keep (heap_keep HA.out BP.out) BT.out) FQ.out (by omega)|exact heap_far (heap_keep (heap_keep HA.out BT.out) BP.out) FQ.out (by omega)) hiW.out (hzW.out _ rfl) hoW.out ?_
 refine hK.out _ _ (below_setRow hHeld (by omega) _) (fun hHeld=>?_)
 clear hK K
 (try simp only [s0,s1,s2])
 refine wpAnyH_done (by kernel_rfl) ?_ _
 rotate_left
 exact AllReadyH.nil
 exact AllReadyH.nil
 exact AllReadyH.nil
 refine AllReadyH.cons (o:=⟨_,.alloc 43,_,_,_,_⟩) rfl (fun K hK=>?_) ?_
 go_simp;(first|refine newZ ?_|refine newZd ?_);intro wa ha ba;have HA:=hid ha;have BA:=hid ba;have al:=(Array.getElem?_eq_some_iff.1 ha).1;clear ha ba
 refine hK.out _ _ (by first|exact hHeld.trans (BA.out.mono hHeld.size)|exact BA.out) (fun hHeld=>?_)
 clear hK K
 (try simp only [s0,s1,s2])
 refine wpAnyH_ready (rs:=[3]) (by kernel_rfl) (by simp) ?_
 refine AllReadyH.cons (o:=⟨_,.buildSlice 173 2 #[(0,.tmp 14),(1,.tmp 15)],_,_,_,_⟩) rfl (fun K hK=>?_) ?_
 go_simp;(first|refine newZ ?_|refine newZd ?_);intro wp hp bp;have HP:=hid hp;have BP:=hid bp;have pl:=(Array.getElem?_eq_some_iff.1 hp).1;clear hp bp
 refine hK.out _ _ (by first|exact hHeld.trans (BP.out.mono hHeld.size)|exact BP.out) (fun hHeld=>?_)
 clear hK K
 (try simp only [s0,s1,s2])
 refine wpAnyH_ready (rs:=[4]) (by kernel_rfl) (by simp) ?_
 refine AllReadyH.cons (o:=⟨_,.call ⟨.value (.func 38),#[.tmp 13,.tmp 16],#[104,173]⟩,_,_,_,_⟩) rfl (fun K hK=>?_) ?_
 go_simp;refine(tsum_walk g 0 _ nmToken cur _ 2 2 [⟨some ⟨P,0,none⟩,32,sec⟩,⟨some ⟨Q,0,none⟩,32,what⟩] _ nmToken_size (by first|exact HG.out|exact heap_keep HG.out BP.out|exact heap_keep HG.out BA.out|exact heap_keep (heap_keep HG.out BP.out) BA.out|exact heap_keep (heap_keep HG.out BA.out) BP.out) (.inl HN.out) (tagParts (L:=[(P,sec),(Q,what)]) (by first|exact HP.out|exact heap_keep HP.out BT.out|exact heap_keep HP.out BA.out|exact heap_keep (heap_keep HP.out BT.out) BA.out|exact heap_keep (heap_keep HP.out BA.out) BT.out) (by omega) (by intro q hq;simp only [List.mem_cons,List.not_mem_nil,or_false] at hq;rcases hq with rfl|rfl;exact⟨⟨_,heap_keep hPv.out hHeld⟩,hso.1,hso.2,by simp only;omega⟩;exact⟨⟨_,heap_keep hQv.out hHeld⟩,hwo.1,hwo.2,by simp only;omega⟩)) (by simp [flat,hso.1,hwo.1]) (by decide) (HTb.out.below hHeld) (by omega) (by omega)).mono ?_;rintro e wq ⟨rfl,fq,_⟩;have FQ:=hid fq;have sq:=Nat.le_trans hHeld.size fq.size;clear fq
 refine hK.out _ _ (hHeld.trans (FQ.out.below lg' hHeld.size)) (fun hHeld=>?_)
 clear hK K
 (try simp only [s0,s1,s2])
 refine wpAnyH_ready (rs:=[6]) (by kernel_rfl) (by simp) ?_
 refine AllReadyH.cons (o:=⟨_,.store 43 (.tmp 7) (.tmp 17),_,_,_,_⟩) rfl (fun K hK=>?_) ?_
 rw [if_pos (by rfl)];refine wp_store_row _ _ _ rfl _ (nums .u8 (sha (tagH nmToken++flat [⟨some ⟨P,0,none⟩,32,sec⟩,⟨some ⟨Q,0,none⟩,32,what⟩]))).toArray rfl rfl _ _ (by first|exact HA.out|exact heap_far HA.out FQ.out (by omega)|exact heap_far (heap_keep HA.out BP.out) FQ.out (by omega)|exact heap_far (heap_keep HA.out BT.out) FQ.out (by omega)|exact heap_far (heap_keep (heap_keep HA.out BP.out) BT.out) FQ.out (by omega)|exact heap_far (heap_keep (heap_keep HA.out BT.out) BP.out) FQ.out (by omega)) hiW.out (hzW.out _ rfl) hoW.out ?_
 refine hK.out _ _ (below_setRow hHeld (by omega) _) (fun hHeld=>?_)
 clear hK K
 (try simp only [s0,s1,s2])
 refine wpAnyH_done (by kernel_rfl) ?_ _
 rotate_left
 exact AllReadyH.nil
 exact AllReadyH.nil
 exact AllReadyH.nil
 exact AllReadyH.nil
 refine AllReadyH.cons (o:=⟨_,.buildSlice 173 2 #[(0,.tmp 14),(1,.tmp 15)],_,_,_,_⟩) rfl (fun K hK=>?_) ?_
 go_simp;(first|refine newZ ?_|refine newZd ?_);intro wp hp bp;have HP:=hid hp;have BP:=hid bp;have pl:=(Array.getElem?_eq_some_iff.1 hp).1;clear hp bp
 refine hK.out _ _ (by first|exact hHeld.trans (BP.out.mono hHeld.size)|exact BP.out) (fun hHeld=>?_)
 clear hK K
 (try simp only [s0,s1,s2])
 refine wpAnyH_ready (rs:=[0,5]) (by kernel_rfl) (by simp) ?_
 refine AllReadyH.cons (o:=⟨_,.call ⟨.value (.func 37),#[.const (.string { data:=#[109,111,110,101,121,101,114,47,116,111,107,101,110] })],#[9]⟩,_,_,_,_⟩) rfl (fun K hK=>?_) ?_
 go_simp;refine(newtag_walk nmToken _).mono ?_;rintro e wt ⟨g,cur,rfl,lg,hG,hN,bt⟩;have HG:=hid hG;have HN:=hid hN;have BT:=hid bt;have lg':wb.heap.size≤g:=(by first|exact lg|exact Nat.le_trans hHeld.size lg);have gl:=(Array.getElem?_eq_some_iff.1 hG).1;clear hG hN bt
 refine hK.out _ _ (by first|exact hHeld.trans (BT.out.mono hHeld.size)|exact BT.out) (fun hHeld=>?_)
 clear hK K
 (try simp only [List.setIfInBounds_toArray,List.set_cons_zero])
 refine wpAnyH_ready (rs:=[4,5]) (by kernel_rfl) (by simp) ?_
 refine AllReadyH.cons (o:=⟨_,.call ⟨.value (.func 38),#[.tmp 13,.tmp 16],#[104,173]⟩,_,_,_,_⟩) rfl (fun K hK=>?_) ?_
 go_simp;refine(tsum_walk g 0 _ nmToken cur _ 2 2 [⟨some ⟨P,0,none⟩,32,sec⟩,⟨some ⟨Q,0,none⟩,32,what⟩] _ nmToken_size (by first|exact HG.out|exact heap_keep HG.out BP.out|exact heap_keep HG.out BA.out|exact heap_keep (heap_keep HG.out BP.out) BA.out|exact heap_keep (heap_keep HG.out BA.out) BP.out) (.inl HN.out) (tagParts (L:=[(P,sec),(Q,what)]) (by first|exact HP.out|exact heap_keep HP.out BT.out|exact heap_keep HP.out BA.out|exact heap_keep (heap_keep HP.out BT.out) BA.out|exact heap_keep (heap_keep HP.out BA.out) BT.out) (by omega) (by intro q hq;simp only [List.mem_cons,List.not_mem_nil,or_false] at hq;rcases hq with rfl|rfl;exact⟨⟨_,heap_keep hPv.out hHeld⟩,hso.1,hso.2,by simp only;omega⟩;exact⟨⟨_,heap_keep hQv.out hHeld⟩,hwo.1,hwo.2,by simp only;omega⟩)) (by simp [flat,hso.1,hwo.1]) (by decide) (HTb.out.below hHeld) (by omega) (by omega)).mono ?_;rintro e wq ⟨rfl,fq,_⟩;have FQ:=hid fq;have sq:=Nat.le_trans hHeld.size fq.size;clear fq
 refine hK.out _ _ (hHeld.trans (FQ.out.below lg' hHeld.size)) (fun hHeld=>?_)
 clear hK K
 (try simp only [s0,s1,s2])
 refine wpAnyH_ready (rs:=[5]) (by kernel_rfl) (by simp) ?_
 refine AllReadyH.cons (o:=⟨_,.alloc 43,_,_,_,_⟩) rfl (fun K hK=>?_) ?_
 go_simp;(first|refine newZ ?_|refine newZd ?_);intro wa ha ba;have HA:=hid ha;have BA:=hid ba;have al:=(Array.getElem?_eq_some_iff.1 ha).1;clear ha ba
 refine hK.out _ _ (by first|exact hHeld.trans (BA.out.mono hHeld.size)|exact BA.out) (fun hHeld=>?_)
 clear hK K
 (try simp only [s0,s1,s2])
 refine wpAnyH_ready (rs:=[6]) (by kernel_rfl) (by simp) ?_
 refine AllReadyH.cons (o:=⟨_,.store 43 (.tmp 7) (.tmp 17),_,_,_,_⟩) rfl (fun K hK=>?_) ?_
 rw [if_pos (by rfl)];refine wp_store_row _ _ _ rfl _ (nums .u8 (sha (tagH nmToken++flat [⟨some ⟨P,0,none⟩,32,sec⟩,⟨some ⟨Q,0,none⟩,32,what⟩]))).toArray rfl rfl _ _ (by first|exact HA.out|exact heap_far HA.out FQ.out (by omega)|exact heap_far (heap_keep HA.out BP.out) FQ.out (by omega)|exact heap_far (heap_keep HA.out BT.out) FQ.out (by omega)|exact heap_far (heap_keep (heap_keep HA.out BP.out) BT.out) FQ.out (by omega)|exact heap_far (heap_keep (heap_keep HA.out BT.out) BP.out) FQ.out (by omega)) hiW.out (hzW.out _ rfl) hoW.out ?_
 refine hK.out _ _ (below_setRow hHeld (by omega) _) (fun hHeld=>?_)
 clear hK K
 (try simp only [s0,s1,s2])
 refine wpAnyH_done (by kernel_rfl) ?_ _
 rotate_left
 exact AllReadyH.nil
 exact AllReadyH.nil
 refine AllReadyH.cons (o:=⟨_,.alloc 43,_,_,_,_⟩) rfl (fun K hK=>?_) ?_
 go_simp;(first|refine newZ ?_|refine newZd ?_);intro wa ha ba;have HA:=hid ha;have BA:=hid ba;have al:=(Array.getElem?_eq_some_iff.1 ha).1;clear ha ba
 refine hK.out _ _ (by first|exact hHeld.trans (BA.out.mono hHeld.size)|exact BA.out) (fun hHeld=>?_)
 clear hK K
 (try simp only [s0,s1,s2])
 refine wpAnyH_ready (rs:=[4]) (by kernel_rfl) (by simp) ?_
 refine AllReadyH.cons (o:=⟨_,.call ⟨.value (.func 38),#[.tmp 13,.tmp 16],#[104,173]⟩,_,_,_,_⟩) rfl (fun K hK=>?_) ?_
 go_simp;refine(tsum_walk g 0 _ nmToken cur _ 2 2 [⟨some ⟨P,0,none⟩,32,sec⟩,⟨some ⟨Q,0,none⟩,32,what⟩] _ nmToken_size (by first|exact HG.out|exact heap_keep HG.out BP.out|exact heap_keep HG.out BA.out|exact heap_keep (heap_keep HG.out BP.out) BA.out|exact heap_keep (heap_keep HG.out BA.out) BP.out) (.inl HN.out) (tagParts (L:=[(P,sec),(Q,what)]) (by first|exact HP.out|exact heap_keep HP.out BT.out|exact heap_keep HP.out BA.out|exact heap_keep (heap_keep HP.out BT.out) BA.out|exact heap_keep (heap_keep HP.out BA.out) BT.out) (by omega) (by intro q hq;simp only [List.mem_cons,List.not_mem_nil,or_false] at hq;rcases hq with rfl|rfl;exact⟨⟨_,heap_keep hPv.out hHeld⟩,hso.1,hso.2,by simp only;omega⟩;exact⟨⟨_,heap_keep hQv.out hHeld⟩,hwo.1,hwo.2,by simp only;omega⟩)) (by simp [flat,hso.1,hwo.1]) (by decide) (HTb.out.below hHeld) (by omega) (by omega)).mono ?_;rintro e wq ⟨rfl,fq,_⟩;have FQ:=hid fq;have sq:=Nat.le_trans hHeld.size fq.size;clear fq
 refine hK.out _ _ (hHeld.trans (FQ.out.below lg' hHeld.size)) (fun hHeld=>?_)
 clear hK K
 (try simp only [s0,s1,s2])
 refine wpAnyH_ready (rs:=[6]) (by kernel_rfl) (by simp) ?_
 refine AllReadyH.cons (o:=⟨_,.store 43 (.tmp 7) (.tmp 17),_,_,_,_⟩) rfl (fun K hK=>?_) ?_
 rw [if_pos (by rfl)];refine wp_store_row _ _ _ rfl _ (nums .u8 (sha (tagH nmToken++flat [⟨some ⟨P,0,none⟩,32,sec⟩,⟨some ⟨Q,0,none⟩,32,what⟩]))).toArray rfl rfl _ _ (by first|exact HA.out|exact heap_far HA.out FQ.out (by omega)|exact heap_far (heap_keep HA.out BP.out) FQ.out (by omega)|exact heap_far (heap_keep HA.out BT.out) FQ.out (by omega)|exact heap_far (heap_keep (heap_keep HA.out BP.out) BT.out) FQ.out (by omega)|exact heap_far (heap_keep (heap_keep HA.out BT.out) BP.out) FQ.out (by omega)) hiW.out (hzW.out _ rfl) hoW.out ?_
 refine hK.out _ _ (below_setRow hHeld (by omega) _) (fun hHeld=>?_)
 clear hK K
 (try simp only [s0,s1,s2])
 refine wpAnyH_done (by kernel_rfl) ?_ _
 rotate_left
 exact AllReadyH.nil
 exact AllReadyH.nil
 exact AllReadyH.nil
 refine AllReadyH.cons (o:=⟨_,.alloc 43,_,_,_,_⟩) rfl (fun K hK=>?_) ?_
 go_simp;(first|refine newZ ?_|refine newZd ?_);intro wa ha ba;have HA:=hid ha;have BA:=hid ba;have al:=(Array.getElem?_eq_some_iff.1 ha).1;clear ha ba
 refine hK.out _ _ (by first|exact hHeld.trans (BA.out.mono hHeld.size)|exact BA.out) (fun hHeld=>?_)
 clear hK K
 (try simp only [s0,s1,s2])
 refine wpAnyH_ready (rs:=[0]) (by kernel_rfl) (by simp) ?_
 refine AllReadyH.cons (o:=⟨_,.call ⟨.value (.func 37),#[.const (.string { data:=#[109,111,110,101,121,101,114,47,116,111,107,101,110] })],#[9]⟩,_,_,_,_⟩) rfl (fun K hK=>?_) ?_
 go_simp;refine(newtag_walk nmToken _).mono ?_;rintro e wt ⟨g,cur,rfl,lg,hG,hN,bt⟩;have HG:=hid hG;have HN:=hid hN;have BT:=hid bt;have lg':wb.heap.size≤g:=(by first|exact lg|exact Nat.le_trans hHeld.size lg);have gl:=(Array.getElem?_eq_some_iff.1 hG).1;clear hG hN bt
 refine hK.out _ _ (by first|exact hHeld.trans (BT.out.mono hHeld.size)|exact BT.out) (fun hHeld=>?_)
 clear hK K
 (try simp only [List.setIfInBounds_toArray,List.set_cons_zero])
 refine wpAnyH_ready (rs:=[4]) (by kernel_rfl) (by simp) ?_
 refine AllReadyH.cons (o:=⟨_,.call ⟨.value (.func 38),#[.tmp 13,.tmp 16],#[104,173]⟩,_,_,_,_⟩) rfl (fun K hK=>?_) ?_
 go_simp;refine(tsum_walk g 0 _ nmToken cur _ 2 2 [⟨some ⟨P,0,none⟩,32,sec⟩,⟨some ⟨Q,0,none⟩,32,what⟩] _ nmToken_size (by first|exact HG.out|exact heap_keep HG.out BP.out|exact heap_keep HG.out BA.out|exact heap_keep (heap_keep HG.out BP.out) BA.out|exact heap_keep (heap_keep HG.out BA.out) BP.out) (.inl HN.out) (tagParts (L:=[(P,sec),(Q,what)]) (by first|exact HP.out|exact heap_keep HP.out BT.out|exact heap_keep HP.out BA.out|exact heap_keep (heap_keep HP.out BT.out) BA.out|exact heap_keep (heap_keep HP.out BA.out) BT.out) (by omega) (by intro q hq;simp only [List.mem_cons,List.not_mem_nil,or_false] at hq;rcases hq with rfl|rfl;exact⟨⟨_,heap_keep hPv.out hHeld⟩,hso.1,hso.2,by simp only;omega⟩;exact⟨⟨_,heap_keep hQv.out hHeld⟩,hwo.1,hwo.2,by simp only;omega⟩)) (by simp [flat,hso.1,hwo.1]) (by decide) (HTb.out.below hHeld) (by omega) (by omega)).mono ?_;rintro e wq ⟨rfl,fq,_⟩;have FQ:=hid fq;have sq:=Nat.le_trans hHeld.size fq.size;clear fq
 refine hK.out _ _ (hHeld.trans (FQ.out.below lg' hHeld.size)) (fun hHeld=>?_)
 clear hK K
 (try simp only [s0,s1,s2])
 refine wpAnyH_ready (rs:=[6]) (by kernel_rfl) (by simp) ?_
 refine AllReadyH.cons (o:=⟨_,.store 43 (.tmp 7) (.tmp 17),_,_,_,_⟩) rfl (fun K hK=>?_) ?_
 rw [if_pos (by rfl)];refine wp_store_row _ _ _ rfl _ (nums .u8 (sha (tagH nmToken++flat [⟨some ⟨P,0,none⟩,32,sec⟩,⟨some ⟨Q,0,none⟩,32,what⟩]))).toArray rfl rfl _ _ (by first|exact HA.out|exact heap_far HA.out FQ.out (by omega)|exact heap_far (heap_keep HA.out BP.out) FQ.out (by omega)|exact heap_far (heap_keep HA.out BT.out) FQ.out (by omega)|exact heap_far (heap_keep (heap_keep HA.out BP.out) BT.out) FQ.out (by omega)|exact heap_far (heap_keep (heap_keep HA.out BT.out) BP.out) FQ.out (by omega)) hiW.out (hzW.out _ rfl) hoW.out ?_
 refine hK.out _ _ (below_setRow hHeld (by omega) _) (fun hHeld=>?_)
 clear hK K
 (try simp only [s0,s1,s2])
 refine wpAnyH_done (by kernel_rfl) ?_ _
 rotate_left
 exact AllReadyH.nil
 exact AllReadyH.nil
 exact AllReadyH.nil
 exact AllReadyH.nil
 refine AllReadyH.cons (o:=⟨_,.alloc 43,_,_,_,_⟩) rfl (fun K hK=>?_) ?_
 go_simp;(first|refine newZ ?_|refine newZd ?_);intro wa ha ba;have HA:=hid ha;have BA:=hid ba;have al:=(Array.getElem?_eq_some_iff.1 ha).1;clear ha ba
 refine hK.out _ _ (by first|exact hHeld.trans (BA.out.mono hHeld.size)|exact BA.out) (fun hHeld=>?_)
 clear hK K
 (try simp only [s0,s1,s2])
 refine wpAnyH_ready (rs:=[0,3]) (by kernel_rfl) (by simp) ?_
 refine AllReadyH.cons (o:=⟨_,.call ⟨.value (.func 37),#[.const (.string { data:=#[109,111,110,101,121,101,114,47,116,111,107,101,110] })],#[9]⟩,_,_,_,_⟩) rfl (fun K hK=>?_) ?_
 go_simp;refine(newtag_walk nmToken _).mono ?_;rintro e wt ⟨g,cur,rfl,lg,hG,hN,bt⟩;have HG:=hid hG;have HN:=hid hN;have BT:=hid bt;have lg':wb.heap.size≤g:=(by first|exact lg|exact Nat.le_trans hHeld.size lg);have gl:=(Array.getElem?_eq_some_iff.1 hG).1;clear hG hN bt
 refine hK.out _ _ (by first|exact hHeld.trans (BT.out.mono hHeld.size)|exact BT.out) (fun hHeld=>?_)
 clear hK K
 (try simp only [List.setIfInBounds_toArray,List.set_cons_zero])
 refine wpAnyH_ready (rs:=[3]) (by kernel_rfl) (by simp) ?_
 refine AllReadyH.cons (o:=⟨_,.buildSlice 173 2 #[(0,.tmp 14),(1,.tmp 15)],_,_,_,_⟩) rfl (fun K hK=>?_) ?_
 go_simp;(first|refine newZ ?_|refine newZd ?_);intro wp hp bp;have HP:=hid hp;have BP:=hid bp;have pl:=(Array.getElem?_eq_some_iff.1 hp).1;clear hp bp
 refine hK.out _ _ (by first|exact hHeld.trans (BP.out.mono hHeld.size)|exact BP.out) (fun hHeld=>?_)
 clear hK K
 (try simp only [s0,s1,s2])
 refine wpAnyH_ready (rs:=[4]) (by kernel_rfl) (by simp) ?_
 refine AllReadyH.cons (o:=⟨_,.call ⟨.value (.func 38),#[.tmp 13,.tmp 16],#[104,173]⟩,_,_,_,_⟩) rfl (fun K hK=>?_) ?_
 go_simp;refine(tsum_walk g 0 _ nmToken cur _ 2 2 [⟨some ⟨P,0,none⟩,32,sec⟩,⟨some ⟨Q,0,none⟩,32,what⟩] _ nmToken_size (by first|exact HG.out|exact heap_keep HG.out BP.out|exact heap_keep HG.out BA.out|exact heap_keep (heap_keep HG.out BP.out) BA.out|exact heap_keep (heap_keep HG.out BA.out) BP.out) (.inl HN.out) (tagParts (L:=[(P,sec),(Q,what)]) (by first|exact HP.out|exact heap_keep HP.out BT.out|exact heap_keep HP.out BA.out|exact heap_keep (heap_keep HP.out BT.out) BA.out|exact heap_keep (heap_keep HP.out BA.out) BT.out) (by omega) (by intro q hq;simp only [List.mem_cons,List.not_mem_nil,or_false] at hq;rcases hq with rfl|rfl;exact⟨⟨_,heap_keep hPv.out hHeld⟩,hso.1,hso.2,by simp only;omega⟩;exact⟨⟨_,heap_keep hQv.out hHeld⟩,hwo.1,hwo.2,by simp only;omega⟩)) (by simp [flat,hso.1,hwo.1]) (by decide) (HTb.out.below hHeld) (by omega) (by omega)).mono ?_;rintro e wq ⟨rfl,fq,_⟩;have FQ:=hid fq;have sq:=Nat.le_trans hHeld.size fq.size;clear fq
 refine hK.out _ _ (hHeld.trans (FQ.out.below lg' hHeld.size)) (fun hHeld=>?_)
 clear hK K
 (try simp only [s0,s1,s2])
 refine wpAnyH_ready (rs:=[6]) (by kernel_rfl) (by simp) ?_
 refine AllReadyH.cons (o:=⟨_,.store 43 (.tmp 7) (.tmp 17),_,_,_,_⟩) rfl (fun K hK=>?_) ?_
 rw [if_pos (by rfl)];refine wp_store_row _ _ _ rfl _ (nums .u8 (sha (tagH nmToken++flat [⟨some ⟨P,0,none⟩,32,sec⟩,⟨some ⟨Q,0,none⟩,32,what⟩]))).toArray rfl rfl _ _ (by first|exact HA.out|exact heap_far HA.out FQ.out (by omega)|exact heap_far (heap_keep HA.out BP.out) FQ.out (by omega)|exact heap_far (heap_keep HA.out BT.out) FQ.out (by omega)|exact heap_far (heap_keep (heap_keep HA.out BP.out) BT.out) FQ.out (by omega)|exact heap_far (heap_keep (heap_keep HA.out BT.out) BP.out) FQ.out (by omega)) hiW.out (hzW.out _ rfl) hoW.out ?_
 refine hK.out _ _ (below_setRow hHeld (by omega) _) (fun hHeld=>?_)
 clear hK K
 (try simp only [s0,s1,s2])
 refine wpAnyH_done (by kernel_rfl) ?_ _
 rotate_left
 exact AllReadyH.nil
 exact AllReadyH.nil
 exact AllReadyH.nil
 refine AllReadyH.cons (o:=⟨_,.buildSlice 173 2 #[(0,.tmp 14),(1,.tmp 15)],_,_,_,_⟩) rfl (fun K hK=>?_) ?_
 go_simp;(first|refine newZ ?_|refine newZd ?_);intro wp hp bp;have HP:=hid hp;have BP:=hid bp;have pl:=(Array.getElem?_eq_some_iff.1 hp).1;clear hp bp
 refine hK.out _ _ (by first|exact hHeld.trans (BP.out.mono hHeld.size)|exact BP.out) (fun hHeld=>?_)
 clear hK K
 (try simp only [s0,s1,s2])
 refine wpAnyH_ready (rs:=[0]) (by kernel_rfl) (by simp) ?_
 refine AllReadyH.cons (o:=⟨_,.call ⟨.value (.func 37),#[.const (.string { data:=#[109,111,110,101,121,101,114,47,116,111,107,101,110] })],#[9]⟩,_,_,_,_⟩) rfl (fun K hK=>?_) ?_
 go_simp;refine(newtag_walk nmToken _).mono ?_;rintro e wt ⟨g,cur,rfl,lg,hG,hN,bt⟩;have HG:=hid hG;have HN:=hid hN;have BT:=hid bt;have lg':wb.heap.size≤g:=(by first|exact lg|exact Nat.le_trans hHeld.size lg);have gl:=(Array.getElem?_eq_some_iff.1 hG).1;clear hG hN bt
 refine hK.out _ _ (by first|exact hHeld.trans (BT.out.mono hHeld.size)|exact BT.out) (fun hHeld=>?_)
 clear hK K
 (try simp only [List.setIfInBounds_toArray,List.set_cons_zero])
 refine wpAnyH_ready (rs:=[4]) (by kernel_rfl) (by simp) ?_
 refine AllReadyH.cons (o:=⟨_,.call ⟨.value (.func 38),#[.tmp 13,.tmp 16],#[104,173]⟩,_,_,_,_⟩) rfl (fun K hK=>?_) ?_
 go_simp;refine(tsum_walk g 0 _ nmToken cur _ 2 2 [⟨some ⟨P,0,none⟩,32,sec⟩,⟨some ⟨Q,0,none⟩,32,what⟩] _ nmToken_size (by first|exact HG.out|exact heap_keep HG.out BP.out|exact heap_keep HG.out BA.out|exact heap_keep (heap_keep HG.out BP.out) BA.out|exact heap_keep (heap_keep HG.out BA.out) BP.out) (.inl HN.out) (tagParts (L:=[(P,sec),(Q,what)]) (by first|exact HP.out|exact heap_keep HP.out BT.out|exact heap_keep HP.out BA.out|exact heap_keep (heap_keep HP.out BT.out) BA.out|exact heap_keep (heap_keep HP.out BA.out) BT.out) (by omega) (by intro q hq;simp only [List.mem_cons,List.not_mem_nil,or_false] at hq;rcases hq with rfl|rfl;exact⟨⟨_,heap_keep hPv.out hHeld⟩,hso.1,hso.2,by simp only;omega⟩;exact⟨⟨_,heap_keep hQv.out hHeld⟩,hwo.1,hwo.2,by simp only;omega⟩)) (by simp [flat,hso.1,hwo.1]) (by decide) (HTb.out.below hHeld) (by omega) (by omega)).mono ?_;rintro e wq ⟨rfl,fq,_⟩;have FQ:=hid fq;have sq:=Nat.le_trans hHeld.size fq.size;clear fq
 refine hK.out _ _ (hHeld.trans (FQ.out.below lg' hHeld.size)) (fun hHeld=>?_)
 clear hK K
 (try simp only [s0,s1,s2])
 refine wpAnyH_ready (rs:=[6]) (by kernel_rfl) (by simp) ?_
 refine AllReadyH.cons (o:=⟨_,.store 43 (.tmp 7) (.tmp 17),_,_,_,_⟩) rfl (fun K hK=>?_) ?_
 rw [if_pos (by rfl)];refine wp_store_row _ _ _ rfl _ (nums .u8 (sha (tagH nmToken++flat [⟨some ⟨P,0,none⟩,32,sec⟩,⟨some ⟨Q,0,none⟩,32,what⟩]))).toArray rfl rfl _ _ (by first|exact HA.out|exact heap_far HA.out FQ.out (by omega)|exact heap_far (heap_keep HA.out BP.out) FQ.out (by omega)|exact heap_far (heap_keep HA.out BT.out) FQ.out (by omega)|exact heap_far (heap_keep (heap_keep HA.out BP.out) BT.out) FQ.out (by omega)|exact heap_far (heap_keep (heap_keep HA.out BT.out) BP.out) FQ.out (by omega)) hiW.out (hzW.out _ rfl) hoW.out ?_
 refine hK.out _ _ (below_setRow hHeld (by omega) _) (fun hHeld=>?_)
 clear hK K
 (try simp only [s0,s1,s2])
 refine wpAnyH_done (by kernel_rfl) ?_ _
 rotate_left
 exact AllReadyH.nil
 exact AllReadyH.nil
 exact AllReadyH.nil
 exact AllReadyH.nil
 exact AllReadyH.nil
 all_goals
  refine MID.out _ _ _ _ _ _ _ ?_ ?_ hHeld
  ·omega
  ·rw [← ET.out];exact setRow_heap _ _ _ _ _ _ (by first|exact HA.out|exact heap_far HA.out FQ.out (by omega)|exact heap_far (heap_keep HA.out BP.out) FQ.out (by omega)|exact heap_far (heap_keep HA.out BT.out) FQ.out (by omega)|exact heap_far (heap_keep (heap_keep HA.out BP.out) BT.out) FQ.out (by omega)|exact heap_far (heap_keep (heap_keep HA.out BT.out) BP.out) FQ.out (by omega))
end Go.Proofs.YtnbmpgballopeaaGreatDoor

/- The reference's SameOut at outputs that are the same. -/
import Derived.Test.YtnbmpgballopeaaGreatDoorZRch
import Derived.Test.YtnbmpgballopeaaGreatDoorZPln
namespace Go.Proofs.YtnbmpgballopeaaGreatDoor
open Go.RowKit
theorem key32t:KeyT 42 2:=⟨by kernel_rfl,by kernel_rfl,by kernel_rfl,by decide,by kernel_rfl⟩
theorem kv32t{xs:List Nat}(h:H32b xs):KV 42 (.agg (nums .u8 xs).toArray):=
 KV.mk key32t.wide (by kernel_rfl) (by rw [nums_length,h.1];kernel_rfl) (fun d=>KL.bytes (d:=d+6) Tryz.underlying42 (by kernel_rfl) h.1 h.2)
theorem keyRPath:KeyT 152 3:=⟨by kernel_rfl,by kernel_rfl,by kernel_rfl,by decide,by kernel_rfl⟩
theorem PathD.i96{p:PathD}(h:p.ok):(p.cells.drop 96).take 1=[.int .i64 p.wait]:=by
 have h1:=PathD.c96 h
 have hl:96<p.cells.length:=by rw [PathD.len h];decide
 rw [List.drop_eq_getElem_cons hl,List.take_succ_cons,List.take_zero]
 rw [List.getElem?_eq_getElem hl] at h1
 rw [Option.some.inj h1]
theorem PathD.i97{p:PathD}(h:p.ok):(p.cells.drop 97).take 1=[.int .i64 p.till]:=by
 have h1:=PathD.c97 h
 have hl:97<p.cells.length:=by rw [PathD.len h];decide
 rw [List.drop_eq_getElem_cons hl,List.take_succ_cons,List.take_zero]
 rw [List.getElem?_eq_getElem hl] at h1
 rw [Option.some.inj h1]
theorem kl_rpath{p:PathD}(h:p.ok)(d:Nat):KL (d+8) 152 p.cells:=by
 refine KL.struct Tryz.underlying152 (by rw [PathD.len h];kernel_rfl) (by kernel_rfl) fun f hf=>?_
 simp only [List.mem_cons,List.not_mem_nil,or_false] at hf
 rcases hf with rfl|rfl|rfl|rfl|rfl
 ·rw [show Tryz.prog.cellsOf _=32 by kernel_rfl]
  rw [show List.take 32 (List.drop _ p.cells)=nums .u8 p.own from PathD.p0 h]
  exact KL.bytes (d:=d+5) Tryz.underlying42 (by kernel_rfl) h.own.1 h.own.2
 ·rw [show Tryz.prog.cellsOf _=32 by kernel_rfl]
  rw [show List.take 32 (List.drop _ p.cells)=nums .u8 p.also from PathD.p1 h]
  exact KL.bytes (d:=d+5) Tryz.underlying42 (by kernel_rfl) h.also.1 h.also.2
 ·rw [show Tryz.prog.cellsOf _=32 by kernel_rfl]
  rw [show List.take 32 (List.drop _ p.cells)=nums .u8 p.lock from PathD.p2 h]
  exact KL.bytes (d:=d+5) Tryz.underlying42 (by kernel_rfl) h.lock.1 h.lock.2
 ·rw [show Tryz.prog.cellsOf _=1 by kernel_rfl]
  rw [show List.take 1 (List.drop _ p.cells)=[.int .i64 p.wait] from PathD.i96 h]
  exact KL.int Tryz.underlying3 (wf64 h.wait)
 ·rw [show Tryz.prog.cellsOf _=1 by kernel_rfl]
  rw [show List.take 1 (List.drop _ p.cells)=[.int .i64 p.till] from PathD.i97 h]
  exact KL.int Tryz.underlying3 (wf64 h.till)
theorem kv_rpath{p:PathD}(h:p.ok):KV 152 (.agg p.cells.toArray):=
 KV.mk keyRPath.wide (by kernel_rfl) (by rw [PathD.len h];kernel_rfl) (fun d=>kl_rpath h d)
theorem OutD.bare_inj{o o':OutD}(h:o'.bare=o.bare):o'.coins=o.coins∧o'.paths=o.paths∧o'.anchor=o.anchor:=by
 have h1:=congrArg OutD.coins h
 have h2:=congrArg OutD.paths h
 have h3:=congrArg OutD.anchor h
 exact⟨h1,h2,h3⟩
set_option maxRecDepth 100000 in
set_option maxHeartbeats 8000000 in
theorem rsameout_walk(o o':OutD)(he:o'.bare=o.bare)(w:World)(h:o.good w)(h':o'.good w)(hn:o.paths.length≤4096):
  Calls Tryz.prog 47 #[.agg o.cells.toArray,.agg o'.cells.toArray] w fun e w'=>e = .returned (.bool true)∧Below w.heap.size w w':=by
 obtain⟨e1,e2,e3⟩:=OutD.bare_inj he
 have G:=hid h
 have HN:=hid hn
 obtain⟨oc,hoc⟩:∃oc,oc=o.cells:=⟨_,rfl⟩
 obtain⟨oc',hoc'⟩:∃oc,oc=o'.cells:=⟨_,rfl⟩
 obtain⟨N,hN⟩:∃N,N=o.paths.length:=⟨_,rfl⟩
 obtain⟨pa,hpa⟩:∃pa,pa=o.pa:=⟨_,rfl⟩
 obtain⟨pc,hpc⟩:∃pc,pc=o.pc:=⟨_,rfl⟩
 obtain⟨pa',hpa'⟩:∃pa,pa=o'.pa:=⟨_,rfl⟩
 obtain⟨pc',hpc'⟩:∃pc,pc=o'.pc:=⟨_,rfl⟩
 obtain⟨cn,hcn⟩:∃cn,cn=o.coins:=⟨_,rfl⟩
 obtain⟨an,han⟩:∃an,an=o.anchor:=⟨_,rfl⟩
 have NN:=hid hN
 have OL:=hid (show oc.length=34 by rw [hoc];exact OutD.len h)
 have OL':=hid (show oc'.length=34 by rw [hoc'];exact OutD.len h')
 have ANO:=hid (show H32b an by rw [han];exact h.anchor)
 have PP:=hid (show Rd w 98 pa N pc (o.paths.flatMap PathD.cells) by rw [hpa,hpc,hN];exact h.paths)
 have PP':=hid (show Rd w 98 pa' N pc' (o.paths.flatMap PathD.cells) by rw [hpa',hpc',hN,← e2];exact h'.paths)
 have OCS:=hid (show oc[0]? = some (.int .u64 (cn:Int))∧oc[1]? = some (.slice pa N pc)∧(oc.drop 2).take 32=nums .u8 an from by rw [hoc,hcn,hN,hpa,hpc,han];exact⟨rfl,rfl,OutD.anc h.anchor⟩)
 have OCS':=hid (show oc'[0]? = some (.int .u64 (cn:Int))∧oc'[1]? = some (.slice pa' N pc')∧(oc'.drop 2).take 32=nums .u8 an from by
  rw [hoc',hcn,hN,hpa',hpc',han,← e1,← e2,← e3];exact⟨rfl,rfl,OutD.anc h'.anchor⟩)
 have A2:=alloc2p w (.cells oc.toArray 96) (.cells oc'.toArray 96)
 have HA:=hid A2.1
 have HB:=hid A2.2.1
 have B1:=hid A2.2.2.2
 have hiA:=hid (show(Tryz.prog.info? 42).map (·.size)=some (nums .u8 an).length from by rw [nums_length,ANO.out.1];kernel_rfl)
 have nqA:=key32t.neq (kv32t ANO.out) (kv32t ANO.out) (p:=True) (by simp)
 have gqA:=key32t.guarded (nums .u8 an).toArray (nums .u8 an).toArray
 rw [← hoc,← hoc']
 clear he h h' hn hoc hoc' hN hpa hpc hpa' hpc' hcn han A2 e1 e2 e3
 go_enter Tryz.func47,Tryz.ntmps47
 go_upto_region 1 with(fail)
 generalize (w.alloc (.cells oc.toArray 96)).alloc (.cells oc'.toArray 96)=w1 at *
 have c0:=gen_cell (j:=0) (row_range HA.out) OCS.out.1
 have c1:=gen_cell (j:=1) (row_range HA.out) OCS.out.2.1
 have d0:=gen_cell (j:=0) (row_range HB.out) OCS'.out.1
 have d1:=gen_cell (j:=1) (row_range HB.out) OCS'.out.2.1
 have ra:=gen_range (row_range HA.out) 2 32
 rw [OCS.out.2.2] at ra
 have rb:=gen_range (row_range HB.out) 2 32
 rw [OCS'.out.2.2] at rb
 have v1:((cn:Int) != (cn:Int))=false:=by simp
 have v2:((N:Int) != (N:Int))=false:=by simp
 go_upto_region 3 with(first|refine wpList_load_midG rfl _ _ rfl w.heap.size 2 rfl (nums .u8 an) _ ra Tryz.underlying42 rfl hiA.out ?_|refine wpList_load_midG rfl _ _ rfl (w.heap.size+1) 2 rfl (nums .u8 an) _ rb Tryz.underlying42 rfl hiA.out ?_)
 go_upto_region 4 with(fail)
 clear v1 v2 nqA gqA ra rb c0 d0
 have C1:=hid c1
 have D1:=hid d1
 clear c1 d1
 go_loopw [30] (fun x30 wr=>∃k:Nat,k≤N∧x30 = .int .i64 (k:Int)∧Below w1.heap.size w1 wr) (fun x30 _=>N - (intOf x30).toNat)
 case atStart=>exact⟨0,Nat.zero_le _,rfl,Below.refl _ _⟩
 case round=>
  obtain⟨k,hk,rfl,hb⟩:=hrel
  obtain⟨wo,rfl⟩:∃wo,wo=wr:=⟨_,rfl⟩
  have BR:=hid hb
  have BW:=hid (B1.out.trans (hb.mono B1.out.size))
  clear hb
  by_cases hlk:k<N
  case neg=>
   obtain rfl:k=N:=by omega
   have u1:decide (k<k)=false:=decide_eq_false (by omega)
   have u2:decide ((k:Int)<(k:Int))=false:=decide_eq_false (by omega)
   clear hk hlk
   go_wp2_with (fail)
   go_ret
   exact⟨rfl,BW.out⟩
  have u1:decide (k<N)=true:=decide_eq_true hlk
  have u2:decide ((k:Int)<(N:Int))=true:=decide_eq_true (by omega)
  have u6:(k:Int)<(N:Int):=by omega
  have u7:¬ ((N:Int)≤(k:Int)):=by omega
  have u8':¬ (N≤k):=by omega
  obtain⟨p,hp⟩:∃p,o.paths[k]? = some p:=⟨_,List.getElem?_eq_getElem (by rw [← NN.out];exact hlk)⟩
  have pok:=hid (G.out.ok p (List.mem_of_getElem? hp))
  obtain⟨b,off,q1,rg⟩:=rd_row (pathsOne G.out) PP.out hp hlk
  obtain⟨b2,off2,q2,rg2⟩:=rd_row (pathsOne G.out) PP'.out hp hlk
  have rgr:=hid (range_keep BW.out rg)
  have rgr2:=hid (range_keep BW.out rg2)
  obtain⟨pcs,hpcs⟩:∃pcs,pcs=p.cells:=⟨_,rfl⟩
  have PCL:=hid (show pcs.length=98 by rw [hpcs];exact PathD.len pok.out)
  rw [← hpcs] at rgr rgr2
  have hiP:=hid (show(Tryz.prog.info? 152).map (·.size)=some pcs.length by rw [PCL.out];kernel_rfl)
  have kv:=kv_rpath pok.out
  rw [← hpcs] at kv
  have nqP:=hid (keyRPath.neq kv kv (p:=True) (by simp))
  have gqP:=hid (keyRPath.guarded pcs.toArray pcs.toArray)
  obtain⟨k1,hk1⟩:∃k1,k1=k+1:=⟨_,rfl⟩
  have r4:IntKind.i64.wrap ((k:Int)+1)=(k1:Int):=by have:=HN.out;have:=NN.out;rw [IntKind.wrap_i64];omega
  have K1:=hid (And.intro hk1 hlk)
  subst q1
  subst q2
  have cA:=hid (cell_keep BR.out C1.out)
  have cB:=hid (cell_keep BR.out D1.out)
  clear hk hlk hp rg rg2 hpcs hk1 kv
  go_upto_region 6 with(fail)
  refine wp_region_held_drew (S:=fun w'=>Below wo.heap.size wo w') (by kernel_rfl) ((Below.refl _ _).drew) (fun hHeld=>?_)
  try simp only [List.size_toArray,List.length_cons,List.length_nil,Nat.reduceAdd,Array.replicate_succ,Array.replicate_zero,List.push_toArray,List.nil_append,List.cons_append]
  refine tkH (i:=0) (oi:=⟨_,.fieldAddr 96 (.tmp 2) 1,_,_,_,_⟩) (v:=?v1001) rfl (yi ?y1001) hHeld ?_
  case y1001=>(intro w _;go_simp;(try with_reducible rfl))
  (try simp only [Act.put,s0,s1,s2])
  refine tkH (i:=1) (oi:=⟨_,.load 94 (.tmp 33),_,_,_,_⟩) (v:=(.slice (some ⟨b,off,none⟩) N pc)) rfl (Or.inl ⟨by rfl,fun w h=>by have c9:=cell_keep h cA.out;go_simp⟩) hHeld ?_
  (try simp only [Act.put,s0,s1,s2])
  refine tkH (i:=2) (oi:=⟨_,.move (.tmp 5),_,_,_,_⟩) (v:=?v1002) rfl (yi ?y1002) hHeld ?_
  case y1002=>(intro w _;go_simp;(try with_reducible rfl))
  (try simp only [Act.put,s0,s1,s2])
  refine tkH (i:=3) (oi:=⟨_,.indexAddr 94 (.tmp 34) (.tmp 35),_,_,_,_⟩) (v:=?v1003) rfl (yi ?y1003) hHeld ?_
  case y1003=>(intro w _;go_simp;(try with_reducible rfl))
  (try simp only [Act.put,s0,s1,s2])
  refine' tkH (i:=4) (oi:=⟨_,.load 152 (.tmp 36),_,_,_,_⟩) (v:=_) rfl (yieldsIf_load_mid (by rfl) _ _ rfl b (off+k*98) rfl pcs _ (fun _ h=>range_keep h rgr.out) Tryz.underlying152 rfl hiP.out) hHeld ?_
  (try simp only [Act.put,s0,s1,s2])
  refine tkH (i:=5) (oi:=⟨_,.fieldAddr 96 (.tmp 3) 1,_,_,_,_⟩) (v:=?v1004) rfl (yi ?y1004) hHeld ?_
  case y1004=>(intro w _;go_simp;(try with_reducible rfl))
  (try simp only [Act.put,s0,s1,s2])
  refine tkH (i:=6) (oi:=⟨_,.load 94 (.tmp 38),_,_,_,_⟩) (v:=(.slice (some ⟨b2,off2,none⟩) N pc')) rfl (Or.inl ⟨by rfl,fun w h=>by have c9:=cell_keep h cB.out;go_simp⟩) hHeld ?_
  (try simp only [Act.put,s0,s1,s2])
  refine tkH (i:=7) (oi:=⟨_,.move (.tmp 5),_,_,_,_⟩) (v:=?v1005) rfl (yi ?y1005) hHeld ?_
  case y1005=>(intro w _;go_simp;(try with_reducible rfl))
  (try simp only [Act.put,s0,s1,s2])
  refine tkH (i:=8) (oi:=⟨_,.indexAddr 94 (.tmp 39) (.tmp 40),_,_,_,_⟩) (v:=?v1006) rfl (yi ?y1006) hHeld ?_
  case y1006=>(intro w _;go_simp;(try with_reducible rfl))
  (try simp only [Act.put,s0,s1,s2])
  refine' tkH (i:=9) (oi:=⟨_,.load 152 (.tmp 41),_,_,_,_⟩) (v:=_) rfl (yieldsIf_load_mid (by rfl) _ _ rfl b2 (off2+k*98) rfl pcs _ (fun _ h=>range_keep h rgr2.out) Tryz.underlying152 rfl hiP.out) hHeld ?_
  (try simp only [Act.put,s0,s1,s2])
  refine tkH (i:=10) (oi:=⟨_,.binOp .neq 152 (.tmp 37) (.tmp 42) 152,_,_,_,_⟩) (v:=(.bool false)) rfl (Or.inl ⟨by rfl,fun w _=>by have e8:=gqP.out;have e9:=nqP.out;go_simp⟩) hHeld ?_
  (try simp only [Act.put,s0,s1,s2])
  refine wpAnyH_done (by kernel_rfl) ?_ _
  rotate_left
  clear hHeld
  go_wp2_with (fail)
  go_roundw
  case rel=>exact⟨k1,by have:=K1.out;omega,rfl,BR.out.trans ((Below.refl _ _).drew.mono BR.out.size)⟩
  case measure=>simp [intOf];have:=K1.out;omega
end Go.Proofs.YtnbmpgballopeaaGreatDoor
/- The reference's Same at transactions that are the same. -/
namespace Go.Proofs.YtnbmpgballopeaaGreatDoor
open Go.RowKit
theorem keyRIn:KeyT 88 4:=⟨by kernel_rfl,by kernel_rfl,by kernel_rfl,by decide,by kernel_rfl⟩
theorem InD.i33{i:InD}(h:i.ok):(i.cells.drop 33).take 1=[.int .i64 i.path]:=by
 have h1:=InD.c33 h
 have hl:33<i.cells.length:=by rw [InD.len h];decide
 rw [List.drop_eq_getElem_cons hl,List.take_succ_cons,List.take_zero]
 rw [List.getElem?_eq_getElem hl] at h1
 rw [Option.some.inj h1]
theorem kl_rin{i:InD}(h:i.ok)(d:Nat):KL (d+8) 88 i.cells:=by
 refine KL.struct Tryz.underlying88 (by rw [InD.len h];kernel_rfl) (by kernel_rfl) fun f hf=>?_
 simp only [List.mem_cons,List.not_mem_nil,or_false] at hf
 rcases hf with rfl|rfl|rfl|rfl|rfl
 ·rw [show Tryz.prog.cellsOf _=33 by kernel_rfl]
  rw [show List.take 33 (List.drop _ i.cells)=ptI i.tx i.out from InD.point h]
  exact rkl_point h.tx.1 h.tx.2 (wf64 h.out) (d+4)
 ·rw [show Tryz.prog.cellsOf _=1 by kernel_rfl]
  rw [show List.take 1 (List.drop _ i.cells)=[.int .i64 i.path] from InD.i33 h]
  exact KL.int Tryz.underlying3 (wf64 h.path)
 ·rw [show Tryz.prog.cellsOf _=32 by kernel_rfl]
  rw [show List.take 32 (List.drop _ i.cells)=nums .u8 i.token from InD.tok h]
  exact KL.bytes (d:=d+5) Tryz.underlying42 (by kernel_rfl) h.token.1 h.token.2
 ·rw [show Tryz.prog.cellsOf _=32 by kernel_rfl]
  rw [show List.take 32 (List.drop _ i.cells)=nums .u8 i.more from InD.mor h]
  exact KL.bytes (d:=d+5) Tryz.underlying42 (by kernel_rfl) h.more.1 h.more.2
 ·rw [show Tryz.prog.cellsOf _=32 by kernel_rfl]
  rw [show List.take 32 (List.drop _ i.cells)=nums .u8 i.secret from InD.sec h]
  exact KL.bytes (d:=d+5) Tryz.underlying42 (by kernel_rfl) h.secret.1 h.secret.2
theorem kv_rin{i:InD}(h:i.ok):KV 88 (.agg i.cells.toArray):=
 KV.mk keyRIn.wide (by kernel_rfl) (by rw [InD.len h];kernel_rfl) (fun d=>kl_rin h d)
set_option maxRecDepth 100000 in
set_option maxHeartbeats 8000000 in
theorem rsame_walk(t u:TxD)(hi:u.ins=t.ins)(ho:u.outs.map OutD.bare=t.outs.map OutD.bare)(w:World)(h:t.good w)(h':u.good w)(hn:t.ins.length≤4096∧t.outs.length≤4096)(hp:∀o∈t.outs,o.paths.length≤4096):
  Calls Tryz.prog 16 #[.agg t.cells.toArray,.agg u.cells.toArray] w fun e w'=>e = .returned (.bool true)∧Below w.heap.size w w':=by
 have G:=hid h
 have G':=hid h'
 have HO:=hid ho
 have HN:=hid hn
 have HP:=hid hp
 obtain⟨tc,htc⟩:∃tc,tc=t.cells:=⟨_,rfl⟩
 obtain⟨uc,huc⟩:∃uc,uc=u.cells:=⟨_,rfl⟩
 obtain⟨N,hN⟩:∃N,N=t.ins.length:=⟨_,rfl⟩
 obtain⟨M,hM⟩:∃M,M=t.outs.length:=⟨_,rfl⟩
 have hM':u.outs.length=M:=by rw [hM];have:=congrArg List.length ho;simpa using this
 obtain⟨ia,hia⟩:∃ia,ia=t.ia:=⟨_,rfl⟩
 obtain⟨ic,hic⟩:∃ic,ic=t.ic:=⟨_,rfl⟩
 obtain⟨oa,hoa⟩:∃oa,oa=t.oa:=⟨_,rfl⟩
 obtain⟨oc,hoc⟩:∃oc,oc=t.oc:=⟨_,rfl⟩
 obtain⟨ia',hia'⟩:∃ia,ia=u.ia:=⟨_,rfl⟩
 obtain⟨ic',hic'⟩:∃ic,ic=u.ic:=⟨_,rfl⟩
 obtain⟨oa',hoa'⟩:∃oa,oa=u.oa:=⟨_,rfl⟩
 obtain⟨oc',hoc'⟩:∃oc,oc=u.oc:=⟨_,rfl⟩
 have NN:=hid (And.intro hN (And.intro hM hM'))
 have PI:=hid (show Rd w 130 ia N ic (t.ins.flatMap InD.cells) by rw [hia,hic,hN];exact h.ins)
 have PO:=hid (show Rd w 34 oa M oc (t.outs.flatMap OutD.cells) by rw [hoa,hoc,hM];exact h.outs)
 have PI':=hid (show Rd w 130 ia' N ic' (t.ins.flatMap InD.cells) by rw [hia',hic',hN,← hi];exact h'.ins)
 have PO':=hid (show Rd w 34 oa' M oc' (u.outs.flatMap OutD.cells) by rw [hoa',hoc',← hM'];exact h'.outs)
 have TCE:=hid (show tc=[.slice ia N ic,.slice oa M oc] by rw [htc];unfold TxD.cells;rw [hia,hic,hN,hoa,hoc,hM])
 have UCE:=hid (show uc=[.slice ia' N ic',.slice oa' M oc'] by rw [huc];unfold TxD.cells;rw [hia',hic',hN,hoa',hoc',hi,hM'])
 have A2:=alloc2p w (.cells tc.toArray 37) (.cells uc.toArray 37)
 have HA:=hid A2.1
 have HB:=hid A2.2.1
 have B1:=hid A2.2.2.2
 rw [← htc,← huc]
 clear h h' hi ho hn hp htc huc hN hM hM' hia hic hoa hoc hia' hic' hoa' hoc' A2
 go_enter Tryz.func16,Tryz.ntmps16
 go_upto_region 1 with(fail)
 generalize (w.alloc (.cells tc.toArray 37)).alloc (.cells uc.toArray 37)=w1 at *
 have c0:=gen_cell (j:=0) (row_range HA.out) (v:=.slice ia N ic) (by rw [TCE.out];rfl)
 have c1:=gen_cell (j:=1) (row_range HA.out) (v:=.slice oa M oc) (by rw [TCE.out];rfl)
 have d0:=gen_cell (j:=0) (row_range HB.out) (v:=.slice ia' N ic') (by rw [UCE.out];rfl)
 have d1:=gen_cell (j:=1) (row_range HB.out) (v:=.slice oa' M oc') (by rw [UCE.out];rfl)
 have v1:((N:Int) != (N:Int))=false:=by simp
 have v2:((M:Int) != (M:Int))=false:=by simp
 have C0:=hid c0
 have C1:=hid c1
 have D0:=hid d0
 have D1:=hid d1
 go_upto_region 3 with(fail)
 go_upto_region 4 with(fail)
 clear v1 v2 c0 c1 d0 d1
 go_loopw [26] (fun x26 wr=>∃k:Nat,k≤N∧x26 = .int .i64 (k:Int)∧Below w1.heap.size w1 wr) (fun x26 _=>N - (intOf x26).toNat)
 case atStart=>exact⟨0,Nat.zero_le _,rfl,Below.refl _ _⟩
 case round=>
  obtain⟨k,hk,rfl,hb⟩:=hrel
  obtain⟨wo,rfl⟩:∃wo,wo=wr:=⟨_,rfl⟩
  have BR:=hid hb
  have BW:=hid (B1.out.trans (hb.mono B1.out.size))
  clear hb
  by_cases hlk:k<N
  case neg=>
   obtain rfl:k=N:=by omega
   have u1:decide (k<k)=false:=decide_eq_false (by omega)
   have u2:decide ((k:Int)<(k:Int))=false:=decide_eq_false (by omega)
   have c1:=cell_keep BR.out C1.out
   have E1:=hid c1
   have E2:=hid (cell_keep BR.out D1.out)
   clear hk hlk
   go_upto_region 10 with(fail)
   clear c1 u1 u2
   go_loopw [44] (fun x44 wr=>∃m:Nat,m≤M∧x44 = .int .i64 (m:Int)∧Below wo.heap.size wo wr) (fun x44 _=>M - (intOf x44).toNat)
   case atStart=>exact⟨0,Nat.zero_le _,rfl,Below.refl _ _⟩
   case round=>
    obtain⟨m,hm,rfl,hb⟩:=hrel
    obtain⟨wp,rfl⟩:∃wp,wp=wr:=⟨_,rfl⟩
    have BQ:=hid hb
    have BWp:=hid (BW.out.trans (hb.mono BW.out.size))
    clear hb
    by_cases hlm:m<M
    case neg=>
     obtain rfl:m=M:=by omega
     have u1:decide (m<m)=false:=decide_eq_false (by omega)
     have u2:decide ((m:Int)<(m:Int))=false:=decide_eq_false (by omega)
     clear hm hlm
     go_wp2_with (fail)
     go_ret
     exact⟨rfl,BWp.out⟩
    have u1:decide (m<M)=true:=decide_eq_true hlm
    have u2:decide ((m:Int)<(M:Int))=true:=decide_eq_true (by omega)
    have u6:(m:Int)<(M:Int):=by omega
    have u7:¬ ((M:Int)≤(m:Int)):=by omega
    have u8':¬ (M≤m):=by omega
    obtain⟨o,ho⟩:∃o,t.outs[m]? = some o:=⟨_,List.getElem?_eq_getElem (by rw [← NN.out.2.1];exact hlm)⟩
    obtain⟨o',ho'⟩:∃o,u.outs[m]? = some o:=⟨_,List.getElem?_eq_getElem (by rw [NN.out.2.2];exact hlm)⟩
    have og:=hid (G.out.ook o (List.mem_of_getElem? ho))
    have og':=hid (G'.out.ook o' (List.mem_of_getElem? ho'))
    have oe:=hid (show o'.bare=o.bare from by
     have h1:=congrArg (fun l:List OutD=>l[m]?) HO.out
     simp only [List.getElem?_map,ho,ho',Option.map_some,Option.some.injEq] at h1
     exact h1)
    obtain⟨b,off,q1,rg⟩:=rd_row (fun z hz=>OutD.len (G.out.ook z hz)) PO.out ho hlm
    obtain⟨b2,off2,q2,rg2⟩:=rd_row (fun z hz=>OutD.len (G'.out.ook z hz)) PO'.out ho' hlm
    have rgr:=hid (range_keep BWp.out rg)
    have rgr2:=hid (range_keep BWp.out rg2)
    obtain⟨pcs,hpcs⟩:∃pcs,pcs=o.cells:=⟨_,rfl⟩
    obtain⟨qcs,hqcs⟩:∃pcs,pcs=o'.cells:=⟨_,rfl⟩
    have PCL:=hid (show pcs.length=34 by rw [hpcs];exact OutD.len og.out)
    have QCL:=hid (show qcs.length=34 by rw [hqcs];exact OutD.len og'.out)
    rw [← hpcs] at rgr
    rw [← hqcs] at rgr2
    have hiP:=hid (show(Tryz.prog.info? 96).map (·.size)=some pcs.length by rw [PCL.out];kernel_rfl)
    have hiQ:=hid (show(Tryz.prog.info? 96).map (·.size)=some qcs.length by rw [QCL.out];kernel_rfl)
    have SO:=fun(wx:World) (bx:Below w.heap.size w wx)=>hid (show Calls Tryz.prog 47 #[.agg pcs.toArray,.agg qcs.toArray] wx _ from by rw [hpcs,hqcs];exact rsameout_walk o o' oe.out wx (og.out.below bx) (og'.out.below bx) (HP.out o (List.mem_of_getElem? ho)))
    obtain⟨m1,hm1⟩:∃m1,m1=m+1:=⟨_,rfl⟩
    have r4:IntKind.i64.wrap ((m:Int)+1)=(m1:Int):=by have:=HN.out.2;have:=NN.out.2.1;rw [IntKind.wrap_i64];omega
    have M1:=hid (And.intro hm1 hlm)
    subst q1
    subst q2
    have cA:=hid (cell_keep BQ.out E1.out)
    have cB:=hid (cell_keep BQ.out E2.out)
    clear hm hlm ho ho' rg rg2 hpcs hqcs hm1
    go_upto_region 12 with(fail)
    refine wp_region_held_drew (S:=fun w'=>Below wp.heap.size wp w') (by kernel_rfl) ((Below.refl _ _).drew) (fun hHeld=>?_)
    try simp only [List.size_toArray,List.length_cons,List.length_nil,Nat.reduceAdd,Array.replicate_succ,Array.replicate_zero,List.push_toArray,List.nil_append,List.cons_append]
    refine tkH (i:=0) (oi:=⟨_,.fieldAddr 37 (.tmp 2) 1,_,_,_,_⟩) (v:=?v1001) rfl (yi ?y1001) hHeld ?_
    case y1001=>(intro w _;go_simp;(try with_reducible rfl))
    (try simp only [Act.put,s0,s1,s2])
    refine tkH (i:=1) (oi:=⟨_,.load 35 (.tmp 47),_,_,_,_⟩) (v:=(.slice (some ⟨b,off,none⟩) M oc)) rfl (Or.inl ⟨by rfl,fun w h=>by have c9:=cell_keep h cA.out;go_simp⟩) hHeld ?_
    (try simp only [Act.put,s0,s1,s2])
    refine tkH (i:=2) (oi:=⟨_,.move (.tmp 6),_,_,_,_⟩) (v:=?v1002) rfl (yi ?y1002) hHeld ?_
    case y1002=>(intro w _;go_simp;(try with_reducible rfl))
    (try simp only [Act.put,s0,s1,s2])
    refine tkH (i:=3) (oi:=⟨_,.indexAddr 35 (.tmp 48) (.tmp 49),_,_,_,_⟩) (v:=?v1003) rfl (yi ?y1003) hHeld ?_
    case y1003=>(intro w _;go_simp;(try with_reducible rfl))
    (try simp only [Act.put,s0,s1,s2])
    refine' tkH (i:=4) (oi:=⟨_,.load 96 (.tmp 50),_,_,_,_⟩) (v:=_) rfl (yieldsIf_load_mid (by rfl) _ _ rfl b (off+m*34) rfl pcs _ (fun _ h=>range_keep h rgr.out) Tryz.underlying96 rfl hiP.out) hHeld ?_
    (try simp only [Act.put,s0,s1,s2])
    refine tkH (i:=5) (oi:=⟨_,.fieldAddr 37 (.tmp 3) 1,_,_,_,_⟩) (v:=?v1004) rfl (yi ?y1004) hHeld ?_
    case y1004=>(intro w _;go_simp;(try with_reducible rfl))
    (try simp only [Act.put,s0,s1,s2])
    refine tkH (i:=6) (oi:=⟨_,.load 35 (.tmp 52),_,_,_,_⟩) (v:=(.slice (some ⟨b2,off2,none⟩) M oc')) rfl (Or.inl ⟨by rfl,fun w h=>by have c9:=cell_keep h cB.out;go_simp⟩) hHeld ?_
    (try simp only [Act.put,s0,s1,s2])
    refine tkH (i:=7) (oi:=⟨_,.move (.tmp 6),_,_,_,_⟩) (v:=?v1005) rfl (yi ?y1005) hHeld ?_
    case y1005=>(intro w _;go_simp;(try with_reducible rfl))
    (try simp only [Act.put,s0,s1,s2])
    refine tkH (i:=8) (oi:=⟨_,.indexAddr 35 (.tmp 53) (.tmp 54),_,_,_,_⟩) (v:=?v1006) rfl (yi ?y1006) hHeld ?_
    case y1006=>(intro w _;go_simp;(try with_reducible rfl))
    (try simp only [Act.put,s0,s1,s2])
    refine' tkH (i:=9) (oi:=⟨_,.load 96 (.tmp 55),_,_,_,_⟩) (v:=_) rfl (yieldsIf_load_mid (by rfl) _ _ rfl b2 (off2+m*34) rfl qcs _ (fun _ h=>range_keep h rgr2.out) Tryz.underlying96 rfl hiQ.out) hHeld ?_
    (try simp only [Act.put,s0,s1,s2])
    refine wpAnyH_ready (rs:=[10]) (by kernel_rfl) (by simp) ?_
    refine AllReadyH.cons (o:=⟨_,.call ⟨.value (.func 47),#[.tmp 51,.tmp 56],#[96,96]⟩,_,_,_,_⟩) rfl (fun K hK=>?_) ?_
    go_simp;refine(SO _ (BWp.out.trans (hHeld.mono BWp.out.size))).out.mono ?_;rintro e w4 ⟨rfl,b4⟩;have B4:=hid b4;clear b4
    refine hK.out _ _ (hHeld.trans (B4.out.mono hHeld.size)) (fun hHeld=>?_)
    clear hK K
    (try simp only [s0,s1,s2])
    refine tkH (i:=11) (oi:=⟨_,.unOp .not 4 (.tmp 57),_,_,_,_⟩) (v:=?v1007) rfl (yi ?y1007) hHeld ?_
    case y1007=>(intro w _;go_simp;(try with_reducible rfl))
    (try simp only [Act.put,s0,s1,s2])
    refine wpAnyH_done (by kernel_rfl) ?_ _
    rotate_left
    exact AllReadyH.nil
    have HH:=hid hHeld
    clear hHeld
    go_wp2_with (fail)
    go_roundw
    case rel=>exact⟨m1,by have:=M1.out;omega,rfl,BQ.out.trans (HH.out.mono BQ.out.size)⟩
    case measure=>simp [intOf];have:=M1.out;omega
  have u1:decide (k<N)=true:=decide_eq_true hlk
  have u2:decide ((k:Int)<(N:Int))=true:=decide_eq_true (by omega)
  have u6:(k:Int)<(N:Int):=by omega
  have u7:¬ ((N:Int)≤(k:Int)):=by omega
  have u8':¬ (N≤k):=by omega
  obtain⟨x,hx⟩:∃x,t.ins[k]? = some x:=⟨_,List.getElem?_eq_getElem (by rw [← NN.out.1];exact hlk)⟩
  have xok:=hid (G.out.iok x (List.mem_of_getElem? hx))
  obtain⟨b,off,q1,rg⟩:=rd_row (fun z hz=>InD.len (G.out.iok z hz)) PI.out hx hlk
  obtain⟨b2,off2,q2,rg2⟩:=rd_row (fun z hz=>InD.len (G.out.iok z hz)) PI'.out hx hlk
  have rgr:=hid (range_keep BW.out rg)
  have rgr2:=hid (range_keep BW.out rg2)
  obtain⟨pcs,hpcs⟩:∃pcs,pcs=x.cells:=⟨_,rfl⟩
  have PCL:=hid (show pcs.length=130 by rw [hpcs];exact InD.len xok.out)
  rw [← hpcs] at rgr rgr2
  have hiP:=hid (show(Tryz.prog.info? 88).map (·.size)=some pcs.length by rw [PCL.out];kernel_rfl)
  have kv:=kv_rin xok.out
  rw [← hpcs] at kv
  have nqP:=hid (keyRIn.neq kv kv (p:=True) (by simp))
  have gqP:=hid (keyRIn.guarded pcs.toArray pcs.toArray)
  obtain⟨k1,hk1⟩:∃k1,k1=k+1:=⟨_,rfl⟩
  have r4:IntKind.i64.wrap ((k:Int)+1)=(k1:Int):=by have:=HN.out.1;have:=NN.out.1;rw [IntKind.wrap_i64];omega
  have K1:=hid (And.intro hk1 hlk)
  subst q1
  subst q2
  have cA:=hid (cell_keep BR.out C0.out)
  have cB:=hid (cell_keep BR.out D0.out)
  clear hk hlk hx rg rg2 hpcs hk1 kv
  go_upto_region 6 with(fail)
  refine wp_region_held_drew (S:=fun w'=>Below wo.heap.size wo w') (by kernel_rfl) ((Below.refl _ _).drew) (fun hHeld=>?_)
  try simp only [List.size_toArray,List.length_cons,List.length_nil,Nat.reduceAdd,Array.replicate_succ,Array.replicate_zero,List.push_toArray,List.nil_append,List.cons_append]
  refine tkH (i:=0) (oi:=⟨_,.fieldAddr 37 (.tmp 2) 0,_,_,_,_⟩) (v:=?v2001) rfl (yi ?y2001) hHeld ?_
  case y2001=>(intro w _;go_simp;(try with_reducible rfl))
  (try simp only [Act.put,s0,s1,s2])
  refine tkH (i:=1) (oi:=⟨_,.load 34 (.tmp 29),_,_,_,_⟩) (v:=(.slice (some ⟨b,off,none⟩) N ic)) rfl (Or.inl ⟨by rfl,fun w h=>by have c9:=cell_keep h cA.out;go_simp⟩) hHeld ?_
  (try simp only [Act.put,s0,s1,s2])
  refine tkH (i:=2) (oi:=⟨_,.move (.tmp 5),_,_,_,_⟩) (v:=?v2002) rfl (yi ?y2002) hHeld ?_
  case y2002=>(intro w _;go_simp;(try with_reducible rfl))
  (try simp only [Act.put,s0,s1,s2])
  refine tkH (i:=3) (oi:=⟨_,.indexAddr 34 (.tmp 30) (.tmp 31),_,_,_,_⟩) (v:=?v2003) rfl (yi ?y2003) hHeld ?_
  case y2003=>(intro w _;go_simp;(try with_reducible rfl))
  (try simp only [Act.put,s0,s1,s2])
  refine' tkH (i:=4) (oi:=⟨_,.load 88 (.tmp 32),_,_,_,_⟩) (v:=_) rfl (yieldsIf_load_mid (by rfl) _ _ rfl b (off+k*130) rfl pcs _ (fun _ h=>range_keep h rgr.out) Tryz.underlying88 rfl hiP.out) hHeld ?_
  (try simp only [Act.put,s0,s1,s2])
  refine tkH (i:=5) (oi:=⟨_,.fieldAddr 37 (.tmp 3) 0,_,_,_,_⟩) (v:=?v2004) rfl (yi ?y2004) hHeld ?_
  case y2004=>(intro w _;go_simp;(try with_reducible rfl))
  (try simp only [Act.put,s0,s1,s2])
  refine tkH (i:=6) (oi:=⟨_,.load 34 (.tmp 34),_,_,_,_⟩) (v:=(.slice (some ⟨b2,off2,none⟩) N ic')) rfl (Or.inl ⟨by rfl,fun w h=>by have c9:=cell_keep h cB.out;go_simp⟩) hHeld ?_
  (try simp only [Act.put,s0,s1,s2])
  refine tkH (i:=7) (oi:=⟨_,.move (.tmp 5),_,_,_,_⟩) (v:=?v2005) rfl (yi ?y2005) hHeld ?_
  case y2005=>(intro w _;go_simp;(try with_reducible rfl))
  (try simp only [Act.put,s0,s1,s2])
  refine tkH (i:=8) (oi:=⟨_,.indexAddr 34 (.tmp 35) (.tmp 36),_,_,_,_⟩) (v:=?v2006) rfl (yi ?y2006) hHeld ?_
  case y2006=>(intro w _;go_simp;(try with_reducible rfl))
  (try simp only [Act.put,s0,s1,s2])
  refine' tkH (i:=9) (oi:=⟨_,.load 88 (.tmp 37),_,_,_,_⟩) (v:=_) rfl (yieldsIf_load_mid (by rfl) _ _ rfl b2 (off2+k*130) rfl pcs _ (fun _ h=>range_keep h rgr2.out) Tryz.underlying88 rfl hiP.out) hHeld ?_
  (try simp only [Act.put,s0,s1,s2])
  refine tkH (i:=10) (oi:=⟨_,.binOp .neq 88 (.tmp 33) (.tmp 38) 88,_,_,_,_⟩) (v:=(.bool false)) rfl (Or.inl ⟨by rfl,fun w _=>by have e8:=gqP.out;have e9:=nqP.out;go_simp⟩) hHeld ?_
  (try simp only [Act.put,s0,s1,s2])
  refine wpAnyH_done (by kernel_rfl) ?_ _
  rotate_left
  clear hHeld
  go_wp2_with (fail)
  go_roundw
  case rel=>exact⟨k1,by have:=K1.out;omega,rfl,BR.out.trans ((Below.refl _ _).drew.mono BR.out.size)⟩
  case measure=>simp [intOf];have:=K1.out;omega
end Go.Proofs.YtnbmpgballopeaaGreatDoor

/- The walk of the reference's (Tables).Sum. -/
import Derived.Deep.MidRow
import Derived.Test.YtnbmpgballopeaaGreatDoorZHashRA
import Derived.Test.YtnbmpgballopeaaGreatDoorZTag
import Derived.Test.YtnbmpgballopeaaGreatDoorZHq2
namespace Go.Proofs.YtnbmpgballopeaaGreatDoor
open Go.RowKit
theorem row_range'{w:World}{g:Nat}{t:TypeId}{cs:Array Value}{L:List Value}(h:w.heap[g]? = some (.cells cs t (0,0)))(hl:cs.toList=L):w.rangeAt g 0 L:=fun j v hj=>by
 subst hl
 rw [Nat.zero_add,cell_of_row _ g _ _ t (0,0) h,← Array.getElem?_toList];exact hj
theorem rangeAt_cut{w:World}{b:Nat}{L:List Value}(h:w.rangeAt b 0 L)(o n:Nat):w.rangeAt b o ((L.drop o).take n):=fun j v hj=>by
 rw [List.getElem?_take] at hj
 split at hj
 ·rw [List.getElem?_drop] at hj
  have:=h (o+j) v hj
  rwa [Nat.zero_add] at this
 ·cases hj
theorem heap_keep'{w w':World}{g:Nat}{x:Obj}(h:w.heap[g]? = some x)(b:Below w.heap.size w w'):w'.heap[g]? = some x:=(b.block g (Array.getElem?_eq_some_iff.1 h).1).trans h
theorem H0_len:H0.length=8:=rfl
theorem K0_len:K0.length=64:=rfl
theorem tab_S:((nums .u32 (H0++K0)).drop 0).take 8=nums .u32 H0:=by simp [nums,H0]
theorem tab_K:((nums .u32 (H0++K0)).drop 8).take 64=nums .u32 K0:=by kernel_rfl
set_option maxRecDepth 100000 in
set_option maxHeartbeats 4000000 in
theorem rsum_walk(a:Option Addr)(n cap:Nat)(ls:List BS)(w:World)(h:Parts w a n cap ls)(hlen:(flat ls).length≤1048576):
  Calls Tryz.prog 70 #[tabV,.slice a n cap] w (SumRes (flat ls) w):=by
 have HI:=hid h
 have HL:=hid h.2.1
 have hnb:=Nat.le_trans h.1.2.1 h.1.2.2.1
 unfold maxLen at hnb
 obtain⟨tc,htc⟩:∃tc:Array Value,tc=(nums .u32 (H0++K0)).toArray:=⟨_,rfl⟩
 have hT:tabV = .agg tc:=by rw [htc];rfl
 rw [hT]
 have htl:=hid (show tc.toList=nums .u32 (H0++K0) by rw [htc])
 clear hT htc
 have A2:=hid (alloc2 w (.cells tc 50) (.cells #[.int .u8 0,.int .u8 0,.int .u8 0,.int .u8 0,.int .u8 0,.int .u8 0,.int .u8 0,.int .u8 0,.int .u8 0,.int .u8 0,.int .u8 0,.int .u8 0,.int .u8 0,.int .u8 0,.int .u8 0,.int .u8 0,.int .u8 0,.int .u8 0,.int .u8 0,.int .u8 0,.int .u8 0,.int .u8 0,.int .u8 0,.int .u8 0,.int .u8 0,.int .u8 0,.int .u8 0,.int .u8 0,.int .u8 0,.int .u8 0,.int .u8 0,.int .u8 0] 42))
 clear h
 go_enter Tryz.func70,Tryz.ntmps70
 go_upto_region 1 with(fail)
 generalize ((w.alloc (.cells tc 50)).alloc (.cells #[.int .u8 0,.int .u8 0,.int .u8 0,.int .u8 0,.int .u8 0,.int .u8 0,.int .u8 0,.int .u8 0,.int .u8 0,.int .u8 0,.int .u8 0,.int .u8 0,.int .u8 0,.int .u8 0,.int .u8 0,.int .u8 0,.int .u8 0,.int .u8 0,.int .u8 0,.int .u8 0,.int .u8 0,.int .u8 0,.int .u8 0,.int .u8 0,.int .u8 0,.int .u8 0,.int .u8 0,.int .u8 0,.int .u8 0,.int .u8 0,.int .u8 0,.int .u8 0] 42))=W2 at *
 have O1:=hid (World.ownsRow_made (base:=W2.heap.size) (e:=5) (size:=1) W2 #[] 0 (Nat.le_refl _) (by simp) (by simp))
 have B1:=hid ((Below.refl _ W2).alloc (Nat.le_refl _) (.cells #[] 5))
 go_wp2
 go_loopw [5,11] (fun x5 x11 wr=>∃(i:Nat) (v:Value),i≤n∧x11 = .int .i64 i∧v=x5∧wr.ownsRow W2.heap.size 5 1 v (flat (ls.take i)).length (nums .u8 (flat (ls.take i)))∧Below W2.heap.size W2 wr) (fun _ x11 _=>n - (intOf x11).toNat)
 case atStart=>exact⟨0,_,by omega,rfl,rfl,O1.out,B1.out⟩
 case round=>
  obtain⟨i,v,hi,rfl,rfl,ho,hb⟩:=hrel
  clear O1 B1
  have HO:=hid ho
  have HB:=hid hb
  have BEL:=hid (A2.out.2.2.2.trans (hb.mono (by have:=A2.out.2.2.1;omega)))
  clear ho hb
  have hfl:=flat_take_le ls i
  by_cases hlt:i<n
  ·obtain⟨l,hl⟩:=bget_some HL.out hlt
   obtain⟨b,off,rfl,c1,gd⟩:=(HI.out.below BEL.out).cells hl
   have HGD:=hid gd
   have HE:=hid (flat_take_succ hl)
   have hle:=flat_take_le ls (i+1)
   rw [HE.out,List.length_append] at hle
   have hBs:=HB.out.size
   clear gd hl
   go_wp2_with (at_builtin;refine wpList_cat rfl _ _ 28 rfl tyBs W2.heap.size HO.out rfl rfl HGD.out.1 (nums_oneCell _ _) ?c1 ?c2 ?c3 ?_)
   case c1=>omega
   case c2=>unfold maxLen;omega
   case c3=>exact hBs
   intro v6 w6 own6 b6 hs6 _
   rw [nums_append,← List.length_append,← HE.out] at own6
   have O6:=hid own6
   have B6:=hid (HB.out.trans b6)
   clear own6 b6 hs6 c1 hle
   go_wp2
   go_roundw
   case rel=>exact⟨i+1,v6,by omega,by go_num,rfl,O6.out,B6.out⟩
   case measure=>simp [intOf];omega
  ·have hge:n≤i:=by omega
   have et:ls.take i=ls:=List.take_of_length_le (by rw [HL.out];exact hge)
   rw [et] at HO
   obtain⟨av,cv,rfl,rv⟩:=Rd.of_owns HO.out
   have h0:=(HB.out.block w.heap.size (by have:=A2.out.2.2.1;omega)).trans A2.out.1
   have h1:=hid ((HB.out.block (w.heap.size+1) (by have:=A2.out.2.2.1;omega)).trans A2.out.2.1)
   have r0:=row_range' h0 htl.out
   have rS:=hid (tab_S ▸ rangeAt_cut r0 0 8)
   have rK:=hid (tab_K ▸ rangeAt_cut r0 8 64)
   have hsl:=hid (show Sl .u8 wr av (flat ls).length cv (flat ls) from rv)
   clear et h0 r0 rv A2
   have iS:(Tryz.prog.info? 47).map (·.size)=some (nums .u32 H0).length:=by rw [nums_length,H0_len];kernel_rfl
   have iK:(Tryz.prog.info? 48).map (·.size)=some (nums .u32 K0).length:=by rw [nums_length,K0_len];kernel_rfl
   go_wp2_with (first|(refine wpList_load_mid rfl _ _ rfl w.heap.size 0 rfl (nums .u32 H0) _ rS.out Tryz.underlying47 rfl iS ?_)|(refine wpList_load_mid rfl _ _ rfl w.heap.size 8 rfl (nums .u32 K0) _ rK.out Tryz.underlying48 rfl iK ?_))
   refine(rhash_walk av _ cv (flat ls) H0 K0 (flat_lt fun l hl=>(HI.out.2.2 l hl).2.1) hlen H0_len H0_lt K0_len K0_lt _ hsl.out).mono ?_
   rintro e wA ⟨rfl,bA⟩
   have h0':=hid (heap_keep' h1.out bA)
   have B2:=hid (bstep BEL.out bA)
   have hiH:(Tryz.prog.info? 42).map (·.size)=some (nums .u8 (sha (flat ls))).toArray.size:=by rw [List.size_toArray,nums_length,sha_len];exact infoO
   have h32:(#[Value.int .u8 0,Value.int .u8 0,Value.int .u8 0,Value.int .u8 0,Value.int .u8 0,Value.int .u8 0,Value.int .u8 0,Value.int .u8 0,Value.int .u8 0,Value.int .u8 0,Value.int .u8 0,Value.int .u8 0,Value.int .u8 0,Value.int .u8 0,Value.int .u8 0,Value.int .u8 0,Value.int .u8 0,Value.int .u8 0,Value.int .u8 0,Value.int .u8 0,Value.int .u8 0,Value.int .u8 0,Value.int .u8 0,Value.int .u8 0,Value.int .u8 0,Value.int .u8 0,Value.int .u8 0,Value.int .u8 0,Value.int .u8 0,Value.int .u8 0,Value.int .u8 0,Value.int .u8 0]:Array Value).size=(nums .u8 (sha (flat ls))).toArray.size:=by show 32=_;rw [List.size_toArray,nums_length,sha_len]
   have h1c:(nums .u8 (sha (flat ls))).toArray.all (·.oneCell')=true:=by simp [nums,Value.oneCell']
   clear bA h1
   have eS:hashS K0 H0 (flat ls)=sha (flat ls):=rfl
   rw [eS]
   unfold hv
   clear eS
   generalize hcs:(nums .u8 (sha (flat ls))).toArray=cs at *
   have HCS:=hid hcs
   clear hcs
   go_wp2_with (refine wpList_store_row rfl _ _ _ rfl (w.heap.size+1) cs rfl rfl _ _ h0'.out hiH h32 h1c ?_)
   (try simp only [Exit.inBlock,Exit.then])
   refine bodyPost_ret (results_cell_row rfl _ _ (w.heap.size+1) _ cs _ _ rfl (setRow_heap wA (w.heap.size+1) _ cs _ _ h0'.out) Tryz.underlying42 rfl hiH) rfl ?_
   exact⟨by rw [hv,HCS.out],below_setRow B2.out (Nat.le_succ _) _⟩
end Go.Proofs.YtnbmpgballopeaaGreatDoor
/- The walk of the reference's (Tables).Tag. -/
namespace Go.Proofs.YtnbmpgballopeaaGreatDoor
open Go.RowKit
def DigRes(X:List Nat)(w:World)(e:Ending)(w':World):Prop:=e = .returned (hv X)∧Below w.heap.size w w'
theorem infoO'{xs:List Nat}(h:xs.length=32):(Tryz.prog.info? 42).map (·.size)=some (nums .u8 xs).toArray.size:=by rw [List.size_toArray,nums_length,h];exact infoO
theorem rsum_tc{tc:Array Value}(htc:tc=(nums .u32 (H0++K0)).toArray)(a:Option Addr)(n cap:Nat)(ls:List BS)(w:World)(h:Parts w a n cap ls)(hlen:(flat ls).length≤1048576):
  Calls Tryz.prog 70 #[.agg tc,.slice a n cap] w (SumRes (flat ls) w):=by
 subst htc
 exact rsum_walk a n cap ls w h hlen
theorem rsum1_tc{tc:Array Value}(htc:tc=(nums .u32 (H0++K0)).toArray)(G:Nat)(a:Option Addr)(n c:Nat)(xs:List Nat)(w:World)(hc:w.cell? ⟨G,0,none⟩=some (.slice a n c))(h:Sl .u8 w a n c xs)(hx:∀d∈xs,d<256)(hn:n≤1048576):
  Calls Tryz.prog 70 #[.agg tc,.slice (some ⟨G,0,none⟩) 1 1] w (SumRes xs w):=by
 have P:=parts1 hc h hx (by omega)
 have hl:=h.len
 have:=rsum_tc htc (some ⟨G,0,none⟩) 1 1 _ w P (by simp [flat];omega)
 simpa [flat] using this
theorem tc_info{tc:Array Value}(htc:tc=(nums .u32 (H0++K0)).toArray):(Tryz.prog.info? 50).map (·.size)=some tc.size:=by rw [htc,List.size_toArray,nums_length];exact infoTab
theorem sl_row{w:World}{g:Nat}{xs:List Nat}{T:TypeId}(h:w.heap[g]? = some (.cells (nums .u8 xs).toArray T (0,0))){n:Nat}(hn:xs.length=n)(hm:n≤maxLen):Sl .u8 w (some ⟨g,0,none⟩) n n xs:=
 sl_of_own (own_of_heap (B:=g) h (by simp) (by rw [nums_length,hn]) (Nat.le_refl _) hm)
theorem tagH_len'(s:ByteArray):(tagH s).length=64:=by simp [tagH,sha_len]
theorem tagH_lt'(s:ByteArray):∀d∈tagH s,d<256:=fun d hd=>by
 rcases List.mem_append.1 hd with h|h
 ·exact sha_lt _ d h
 ·exact sha_lt _ d h
set_option maxRecDepth 100000 in
set_option maxHeartbeats 4000000 in
theorem rtag_walk(s:ByteArray)(hs:s.size≤1048576)(a:Option Addr)(n cap:Nat)(ls:List BS)(w:World)(h:Parts w a n cap ls)(hlen:(flat ls).length≤1000000):
  Calls Tryz.prog 40 #[tabV,.string s,.slice a n cap] w (DigRes (sha (tagH s++flat ls)) w):=by
 have HI:=hid h
 have HL:=hid h.2.1
 have hnb:=Nat.le_trans h.1.2.1 h.1.2.2.1
 unfold maxLen at hnb
 obtain⟨tc,htc⟩:∃tc:Array Value,tc=(nums .u32 (H0++K0)).toArray:=⟨_,rfl⟩
 have hT:tabV = .agg tc:=by rw [htc];rfl
 rw [hT]
 have hTC:=hid htc
 have hiT:=hid (tc_info htc)
 clear hT htc
 have A2:=hid (alloc2 w (.cells tc 50) (.cells #[.int .u8 0,.int .u8 0,.int .u8 0,.int .u8 0,.int .u8 0,.int .u8 0,.int .u8 0,.int .u8 0,.int .u8 0,.int .u8 0,.int .u8 0,.int .u8 0,.int .u8 0,.int .u8 0,.int .u8 0,.int .u8 0,.int .u8 0,.int .u8 0,.int .u8 0,.int .u8 0,.int .u8 0,.int .u8 0,.int .u8 0,.int .u8 0,.int .u8 0,.int .u8 0,.int .u8 0,.int .u8 0,.int .u8 0,.int .u8 0,.int .u8 0,.int .u8 0] 42))
 clear h
 go_enter Tryz.func40,Tryz.ntmps40
 go_upto_region 1 with(fail)
 generalize ((w.alloc (.cells tc 50)).alloc (.cells #[.int .u8 0,.int .u8 0,.int .u8 0,.int .u8 0,.int .u8 0,.int .u8 0,.int .u8 0,.int .u8 0,.int .u8 0,.int .u8 0,.int .u8 0,.int .u8 0,.int .u8 0,.int .u8 0,.int .u8 0,.int .u8 0,.int .u8 0,.int .u8 0,.int .u8 0,.int .u8 0,.int .u8 0,.int .u8 0,.int .u8 0,.int .u8 0,.int .u8 0,.int .u8 0,.int .u8 0,.int .u8 0,.int .u8 0,.int .u8 0,.int .u8 0,.int .u8 0] 42))=W2 at *
 obtain⟨a1,a2,a3,a4⟩:=A2.out
 have H1:=hid a1
 have H2:=hid a2
 have BW:=hid a4
 have hw2:w.heap.size+1<W2.heap.size:=by omega
 clear A2 a1 a2 a3 a4
 obtain⟨R,hR⟩:∃R,R=w.heap.size+1:=⟨_,rfl⟩
 rw [← hR] at H2 hw2 ⊢
 have hcv:=fun(W:World)=>run_bytes_of_string (P:=Tryz.prog) W 9 28 5 s Tryz.underlying9 Tryz.underlying28 Tryz.underlying5
 have L1:=hid (str_part W2 s 5 28 ((bytesRow s (grownCap W2 s.size 0 5)).size,(bytesRow s (grownCap W2 s.size 0 5)).size+1) hs)
 have hRw:w.heap.size<R:=by omega
 clear hR
 go_wp2_with (refine wpList_load_row rfl _ _ rfl w.heap.size rfl _ tc _ _ H1.out Tryz.underlying50 rfl hiT.out ?_)
 refine(rsum1_tc hTC.out _ _ _ _ (bl s) _ L1.out.1 L1.out.2.1 (bl_lt s) (by omega)).mono ?_
 rintro e w3 ⟨rfl,b3⟩
 have B3:=hid (bstep L1.out.2.2 b3)
 have hdl:=sha_len (bl s)
 have hTH:=hid (show tagH s=sha (bl s)++sha (bl s) from rfl)
 generalize sha (bl s)=D at *
 have hiA:=hid (infoO' hdl)
 have h32:∀z:Array Value,z.size=32→z.size=(nums .u8 D).toArray.size:=fun z hz=>by rw [hz];simp [hdl]
 have hoA:=hid (all_oneCell_toArray (nums_oneCell .u8 D))
 unfold hv
 clear L1 b3 hcv
 go_upto_region 2 with(refine wpList_store_row rfl _ _ _ rfl w3.heap.size (nums .u8 D).toArray rfl rfl _ _ (heap_alloc_new w3 _) hiA.out (h32 _ rfl) hoA.out ?_)
 have LA:=fun z=>laid w3 z (nums .u8 D).toArray 42
 generalize hW:World.setRow _ _ _=w4
 replace LA:=hid (hW ▸ LA _)
 have B4:=hid (bstep B3.out LA.out.2)
 have KD:=hid LA.out.1
 have hk2:W2.heap.size≤w3.heap.size:=B3.out.size
 have hl4:=(Array.getElem?_eq_some_iff.1 LA.out.1).1
 clear hW LA B3 h32 hiA hoA
 generalize hK:w3.heap.size=K at *
 clear hK
 have BWW:=hid (BW.out.trans (B4.out.mono BW.out.size))
 have H24:=hid (heap_keep H2.out B4.out)
 have H14:=hid (heap_keep H1.out B4.out)
 have O1:=hid (World.ownsRow_made (base:=w4.heap.size) (e:=5) (size:=1) w4 #[] 0 (Nat.le_refl _) (by simp) (by simp))
 have B1:=hid ((Below.refl _ w4).alloc (Nat.le_refl _) (.cells #[] 5))
 have S1:=hid (sl_row (heap_keep KD.out B1.out) hdl (by decide))
 clear BW H1 H2 B4
 go_upto_region 3 with(at_builtin;refine wpList_cat rfl _ _ 28 rfl tyBs w4.heap.size O1.out rfl rfl S1.out (nums_oneCell _ _) (by omega) (by unfold maxLen;omega) (by simp) ?_)
 intro v5 w5 o5 b5 hs5 _
 have B5:=hid (B1.out.trans b5)
 have O5:=hid (show w5.ownsRow w4.heap.size 5 1 v5 32 (nums .u8 D) by simpa using o5)
 have S5:=hid (sl_row (heap_keep KD.out B5.out) hdl (by decide))
 have hs5':=B5.out.size
 clear o5 b5 hs5 O1 B1 S1
 go_upto_region 3 with(fail)
 go_upto_region 4 with(at_builtin;refine wpList_cat rfl _ _ 28 rfl tyBs w4.heap.size O5.out rfl rfl S5.out (nums_oneCell _ _) (by omega) (by unfold maxLen;omega) hs5' ?_)
 intro v6 w6 o6 b6 hs6 _
 have htl:=tagH_len' s
 rw [nums_append,← hTH.out] at o6
 have O6:=hid (show w6.ownsRow w4.heap.size 5 1 v6 (tagH s++flat (ls.take 0)).length (nums .u8 (tagH s++flat (ls.take 0))) by rw [List.take_zero,flat,List.flatMap_nil,List.append_nil,htl];exact o6)
 have B6:=hid (B5.out.trans b6)
 clear o6 b6 hs6 O5 B5 S5 hs5'
 go_wp2
 go_loopw [8,24] (fun x5 x11 wr=>∃(i:Nat) (v:Value),i≤n∧x11 = .int .i64 i∧v=x5∧wr.ownsRow w4.heap.size 5 1 v (tagH s++flat (ls.take i)).length (nums .u8 (tagH s++flat (ls.take i)))∧Below w4.heap.size w4 wr) (fun _ x11 _=>n - (intOf x11).toNat)
 case atStart=>exact⟨0,_,by omega,rfl,rfl,O6.out,B6.out⟩
 case round=>
  obtain⟨i,v,hi,rfl,rfl,ho,hb⟩:=hrel
  clear O6 B6
  have HO:=hid ho
  have HB:=hid hb
  have BEL:=hid (BWW.out.trans (hb.mono BWW.out.size))
  have HTL:=hid (show(tagH s++flat (ls.take i)).length=64+(flat (ls.take i)).length by rw [List.length_append,htl])
  clear ho hb
  have hfl:=flat_take_le ls i
  by_cases hlt:i<n
  ·obtain⟨l,hl⟩:=bget_some HL.out hlt
   obtain⟨b,off,rfl,c1,gd⟩:=(HI.out.below BEL.out).cells hl
   have HGD:=hid gd
   have HE:=hid (flat_take_succ hl)
   have hle:=flat_take_le ls (i+1)
   rw [HE.out,List.length_append] at hle
   have hBs:=HB.out.size
   clear gd hl
   go_wp2_with (at_builtin;refine wpList_cat rfl _ _ 28 rfl tyBs w4.heap.size HO.out rfl rfl HGD.out.1 (nums_oneCell _ _) ?c1 ?c2 ?c3 ?_)
   case c1=>rw [HTL.out];omega
   case c2=>rw [HTL.out];unfold maxLen;omega
   case c3=>exact hBs
   intro v6 w6 own6 b6 hs6 _
   rw [nums_append,List.append_assoc,← HE.out] at own6
   have O6:=hid (show w6.ownsRow w4.heap.size 5 1 v6 (tagH s++flat (ls.take (i+1))).length (nums .u8 (tagH s++flat (ls.take (i+1)))) by
    have e:(tagH s++flat (ls.take (i+1))).length=64+(flat (ls.take i)).length+l.v.length:=by rw [List.length_append,HE.out,List.length_append,htl];omega
    rw [e];exact own6)
   have B6:=hid (HB.out.trans b6)
   clear own6 b6 hs6 c1 hle
   go_wp2
   go_roundw
   case rel=>exact⟨i+1,v6,by omega,by go_num,rfl,O6.out,B6.out⟩
   case measure=>simp [intOf];omega
  ·have hge:n≤i:=by omega
   have et:ls.take i=ls:=List.take_of_length_le (by rw [HL.out];exact hge)
   rw [et] at HO HTL
   obtain⟨av,cv,rfl,rv⟩:=Rd.of_owns HO.out
   have h0:=hid (heap_keep H14.out HB.out)
   have h1:=hid (heap_keep H24.out HB.out)
   obtain⟨N,hN⟩:∃N,N=(tagH s++flat ls).length:=⟨_,rfl⟩
   rw [← hN] at rv HTL ⊢
   have hN1:N≤1048576:=by have:=HTL.out;omega
   have hsl:=hid (show Sl .u8 wr av N cv (tagH s++flat ls) from rv)
   have bN:=hid ((Below.refl wr.heap.size wr).alloc (Nat.le_refl _) (.cells #[.slice av N cv] 28))
   have BN:=hid (BEL.out.trans (bN.out.mono BEL.out.size))
   have HX:=hid (show ∀d∈tagH s++flat ls,d<256 from fun d hd=>by
    rcases List.mem_append.1 hd with h|h
    ·exact tagH_lt' s d h
    ·exact flat_lt (fun l hl=>(HI.out.2.2 l hl).2.1) d h)
   clear et rv hN
   go_wp2_with (refine wpList_load_row rfl _ _ rfl w.heap.size rfl _ tc _ _ h0.out Tryz.underlying50 rfl hiT.out ?_)
   refine(rsum1_tc hTC.out _ _ _ _ (tagH s++flat ls) _ (cellNew1 _ _ _) (hsl.out.below bN.out) HX.out hN1).mono ?_
   rintro e wA ⟨rfl,bA⟩
   have h0':=hid (heap_keep (heap_keep h1.out bN.out) bA)
   have B2:=hid (BN.out.trans (bA.mono BN.out.size))
   have hls:=sha_len (tagH s++flat ls)
   have hiH:=infoO' hls
   have h32:(#[Value.int .u8 0,Value.int .u8 0,Value.int .u8 0,Value.int .u8 0,Value.int .u8 0,Value.int .u8 0,Value.int .u8 0,Value.int .u8 0,Value.int .u8 0,Value.int .u8 0,Value.int .u8 0,Value.int .u8 0,Value.int .u8 0,Value.int .u8 0,Value.int .u8 0,Value.int .u8 0,Value.int .u8 0,Value.int .u8 0,Value.int .u8 0,Value.int .u8 0,Value.int .u8 0,Value.int .u8 0,Value.int .u8 0,Value.int .u8 0,Value.int .u8 0,Value.int .u8 0,Value.int .u8 0,Value.int .u8 0,Value.int .u8 0,Value.int .u8 0,Value.int .u8 0,Value.int .u8 0]:Array Value).size=(nums .u8 (sha (tagH s++flat ls))).toArray.size:=by show 32=_;rw [List.size_toArray,nums_length,hls]
   have h1c:(nums .u8 (sha (tagH s++flat ls))).toArray.all (·.oneCell')=true:=by simp [nums,Value.oneCell']
   clear bA h1
   unfold hv
   generalize hcs:(nums .u8 (sha (tagH s++flat ls))).toArray=cs at *
   have HCS:=hid hcs
   clear hcs
   go_wp2_with (refine wpList_store_row rfl _ _ _ rfl R cs rfl rfl _ _ h0'.out hiH h32 h1c ?_)
   (try simp only [Exit.inBlock,Exit.then])
   refine bodyPost_ret (results_cell_row rfl _ _ R _ cs _ _ rfl (setRow_heap wA R _ cs _ _ h0'.out) Tryz.underlying42 rfl hiH) rfl ?_
   exact⟨by rw [hv,HCS.out],below_setRow B2.out (by omega) _⟩
end Go.Proofs.YtnbmpgballopeaaGreatDoor

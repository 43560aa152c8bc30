/- The walk of sha.Sum. -/
import Derived.StillTailTactics
import Derived.Test.YtnbmpgballopeaaGreatDoorZParts
import Derived.Test.YtnbmpgballopeaaGreatDoorZPick
import Derived.Test.YtnbmpgballopeaaGreatDoorZShaS
import Derived.Test.YtnbmpgballopeaaGreatDoorZRt
namespace Go.Proofs.YtnbmpgballopeaaGreatDoor
open Go.RowKit
theorem alloc2(w:World)(a b:Obj):((w.alloc a).alloc b).heap[w.heap.size]? = some a∧((w.alloc a).alloc b).heap[w.heap.size+1]? = some b∧((w.alloc a).alloc b).heap.size=w.heap.size+1+1∧Below w.heap.size w ((w.alloc a).alloc b):=by
 have e1:(w.alloc a).heap.size=w.heap.size+1:=by simp
 have h0:=heap_alloc_new w a
 have h1:=heap_alloc_new (w.alloc a) b
 rw [e1] at h1
 exact⟨by rw [Below.heap_alloc _ _ _ (by omega)];exact h0,h1,by simp,((Below.refl w.heap.size w).alloc (Nat.le_refl _) a).alloc (by omega) b⟩
theorem infoHs:(Tryz.prog.info? 170).map (·.size)=some 74:=by kernel_rfl
theorem hs0_size:hs0.size=74:=by
 have:=congrArg List.length hs0_list
 rw [Array.length_toList] at this
 rw [this]
 simp
 rfl
theorem hs0_one:hs0.all (·.oneCell')=true:=by kernel_rfl
theorem z51_size:Tryz.zeroCells170.size=74:=by kernel_rfl
set_option maxRecDepth 100000 in
set_option maxHeartbeats 4000000 in
theorem sum_walk(a:Option Addr)(n cap:Nat)(ls:List BS)(w:World)(h:Parts w a n cap ls)(hlen:(flat ls).length<2305843009213693952)(ht:Tabs w):
  Calls Tryz.prog 66 #[.slice a n cap] w (SumRes (flat ls) w):=by
 have HI:=hid h
 have HL:=hid h.2.1
 have hnb:=Nat.le_trans h.1.2.1 h.1.2.2.1
 unfold maxLen at hnb
 have HT:=hid ht
 have A2:=hid (alloc2 w (.cells #[.int .u8 0,.int .u8 0,.int .u8 0,.int .u8 0,.int .u8 0,.int .u8 0,.int .u8 0,.int .u8 0,.int .u8 0,.int .u8 0,.int .u8 0,.int .u8 0,.int .u8 0,.int .u8 0,.int .u8 0,.int .u8 0,.int .u8 0,.int .u8 0,.int .u8 0,.int .u8 0,.int .u8 0,.int .u8 0,.int .u8 0,.int .u8 0,.int .u8 0,.int .u8 0,.int .u8 0,.int .u8 0,.int .u8 0,.int .u8 0,.int .u8 0,.int .u8 0] 43) (.cells Tryz.zeroCells170 170))
 have t0:w.cell? ⟨0,0,none⟩=some (.int .u32 1779033703):=ht.1 0 (by decide)
 have t1:w.cell? ⟨0,1,none⟩=some (.int .u32 3144134277):=ht.1 1 (by decide)
 have t2:w.cell? ⟨0,2,none⟩=some (.int .u32 1013904242):=ht.1 2 (by decide)
 have t3:w.cell? ⟨0,3,none⟩=some (.int .u32 2773480762):=ht.1 3 (by decide)
 have t4:w.cell? ⟨0,4,none⟩=some (.int .u32 1359893119):=ht.1 4 (by decide)
 have t5:w.cell? ⟨0,5,none⟩=some (.int .u32 2600822924):=ht.1 5 (by decide)
 have t6:w.cell? ⟨0,6,none⟩=some (.int .u32 528734635):=ht.1 6 (by decide)
 have t7:w.cell? ⟨0,7,none⟩=some (.int .u32 1541459225):=ht.1 7 (by decide)
 have hg0:0<w.heap.size:=World.block_lt_of_cell? w _ t0
 have hg0':¬ 0=w.heap.size:=by omega
 clear h ht
 go_enter Tryz.func66,Tryz.ntmps66
 have hi51:(Tryz.prog.info? 170).map (·.size)=some hs0.size:=by rw [hs0_size];exact infoHs
 have hz51:Tryz.zeroCells170.size=hs0.size:=by rw [hs0_size];exact z51_size
 have hW2:=hid (setRow_heap ((w.alloc (.cells #[.int .u8 0,.int .u8 0,.int .u8 0,.int .u8 0,.int .u8 0,.int .u8 0,.int .u8 0,.int .u8 0,.int .u8 0,.int .u8 0,.int .u8 0,.int .u8 0,.int .u8 0,.int .u8 0,.int .u8 0,.int .u8 0,.int .u8 0,.int .u8 0,.int .u8 0,.int .u8 0,.int .u8 0,.int .u8 0,.int .u8 0,.int .u8 0,.int .u8 0,.int .u8 0,.int .u8 0,.int .u8 0,.int .u8 0,.int .u8 0,.int .u8 0,.int .u8 0] 43)).alloc (.cells Tryz.zeroCells170 170)) (w.heap.size+1) _ hs0 _ _ A2.out.2.1)
 have hW0:=hid (show(((w.alloc (.cells #[.int .u8 0,.int .u8 0,.int .u8 0,.int .u8 0,.int .u8 0,.int .u8 0,.int .u8 0,.int .u8 0,.int .u8 0,.int .u8 0,.int .u8 0,.int .u8 0,.int .u8 0,.int .u8 0,.int .u8 0,.int .u8 0,.int .u8 0,.int .u8 0,.int .u8 0,.int .u8 0,.int .u8 0,.int .u8 0,.int .u8 0,.int .u8 0,.int .u8 0,.int .u8 0,.int .u8 0,.int .u8 0,.int .u8 0,.int .u8 0,.int .u8 0,.int .u8 0] 43)).alloc (.cells Tryz.zeroCells170 170)).setRow (w.heap.size+1) hs0).heap[w.heap.size]? = some (.cells #[.int .u8 0,.int .u8 0,.int .u8 0,.int .u8 0,.int .u8 0,.int .u8 0,.int .u8 0,.int .u8 0,.int .u8 0,.int .u8 0,.int .u8 0,.int .u8 0,.int .u8 0,.int .u8 0,.int .u8 0,.int .u8 0,.int .u8 0,.int .u8 0,.int .u8 0,.int .u8 0,.int .u8 0,.int .u8 0,.int .u8 0,.int .u8 0,.int .u8 0,.int .u8 0,.int .u8 0,.int .u8 0,.int .u8 0,.int .u8 0,.int .u8 0,.int .u8 0] 43 (0,0)) by
  rw [setRow_other _ _ _ _ (by omega)];exact A2.out.1)
 have hWB:=hid (below_setRow A2.out.2.2.2 (show w.heap.size≤w.heap.size+1 by omega) hs0)
 have hWs:=hid (show w.heap.size+1<(((w.alloc (.cells #[.int .u8 0,.int .u8 0,.int .u8 0,.int .u8 0,.int .u8 0,.int .u8 0,.int .u8 0,.int .u8 0,.int .u8 0,.int .u8 0,.int .u8 0,.int .u8 0,.int .u8 0,.int .u8 0,.int .u8 0,.int .u8 0,.int .u8 0,.int .u8 0,.int .u8 0,.int .u8 0,.int .u8 0,.int .u8 0,.int .u8 0,.int .u8 0,.int .u8 0,.int .u8 0,.int .u8 0,.int .u8 0,.int .u8 0,.int .u8 0,.int .u8 0,.int .u8 0] 43)).alloc (.cells Tryz.zeroCells170 170)).setRow (w.heap.size+1) hs0).heap.size from(Array.getElem?_eq_some_iff.1 hW2.out).1)
 go_wp2_with (refine wpList_store_row rfl _ _ _ rfl (w.heap.size+1) hs0 rfl rfl _ _ A2.out.2.1 hi51 hz51 hs0_one ?_)
 clear A2 t0 t1 t2 t3 t4 t5 t6 t7 hi51 hz51
 generalize ((w.alloc (.cells #[.int .u8 0,.int .u8 0,.int .u8 0,.int .u8 0,.int .u8 0,.int .u8 0,.int .u8 0,.int .u8 0,.int .u8 0,.int .u8 0,.int .u8 0,.int .u8 0,.int .u8 0,.int .u8 0,.int .u8 0,.int .u8 0,.int .u8 0,.int .u8 0,.int .u8 0,.int .u8 0,.int .u8 0,.int .u8 0,.int .u8 0,.int .u8 0,.int .u8 0,.int .u8 0,.int .u8 0,.int .u8 0,.int .u8 0,.int .u8 0,.int .u8 0,.int .u8 0] 43)).alloc (.cells Tryz.zeroCells170 170)).setRow (w.heap.size+1) hs0=W2 at *
 obtain⟨G1,hG1⟩:∃G1,G1=w.heap.size+1:=⟨_,rfl⟩
 rw [← hG1] at hW2 hWs ⊢
 have l01:w.heap.size<G1:=by omega
 have n0:=hid (show G1≠0 by omega)
 have n1:=hid (show G1≠1 by have:=World.block_lt_of_cell? w _ (HT.out.2 0 (by decide));simp at this;omega)
 clear hG1 hg0 hg0'
 go_wp2
 go_loopw [10] (fun x0 wr=>∃i:Nat,i≤n∧x0 = .int .i64 i∧Far G1 W2 wr ∧ ∃cur S R k,wr.heap[G1]? = some (.cells cur 170 (0,0))∧HsAt cur 0 S R k (flat (ls.take i)).length∧Took (flat (ls.take i)) S R k) (fun x0 _=>n - (intOf x0).toNat)
 case atStart=>exact⟨0,by omega,rfl,Far.refl _ _,hs0,H0,_,0,hW2.out,hs0_at,Took.start (by rw [List.length_replicate]) rep_lt⟩
 case round=>
  obtain⟨i,hi,rfl,hf,cur,S,R,k,hh,hA,hTk⟩:=hrel
  have HF:=hid hf
  have HH:=hid hh
  have HA:=hid hA
  have HTK:=hid hTk
  have BEL:=hid (hWB.out.trans (hf.below (show w.heap.size≤G1 by omega) hWB.out.size))
  have HTr:=hid ((HT.out.below hWB.out).far hf n0.out n1.out)
  clear hf hh hA hTk
  by_cases hlt:i<n
  ·obtain⟨l,hl⟩:=bget_some HL.out hlt
   obtain⟨b,off,rfl,c1,gd⟩:=(HI.out.below BEL.out).cells hl
   have gd0:=HI.out.2.2 l (List.mem_of_getElem? hl)
   have HAP:=hid (ApH.old gd0.1 (show w.heap.size≤G1 by omega))
   have HGD:=hid gd
   have HE:=hid (flat_take_succ hl)
   have hle:=flat_take_le ls (i+1)
   rw [HE.out,List.length_append] at hle
   clear gd gd0 hl
   go_wp2_with fail
   refine(write_walk G1 0 _ cur S R k (flat (ls.take i)) l.a l.v.length l.c l.v _ HH.out HA.out HTK.out HGD.out.1 HAP.out HGD.out.2.1 (by omega) HTr.out n0.out n1.out).mono ?_
   rintro e wA ⟨rfl,fA,cur',S',R',k',hh',_,hA',hTk'⟩
   rw [← HE.out] at hA' hTk'
   have FA:=hid (HF.out.trans fA)
   have H1:=hid hh'
   have H2:=hid hA'
   have H3:=hid hTk'
   clear hh' hA' hTk' fA c1 hle
   go_wp2
   go_roundw
   case rel=>exact⟨i+1,by omega,by go_num,FA.out,cur',S',R',k',H1.out,H2.out,H3.out⟩
   case measure=>simp [intOf];omega
  ·have hge:n≤i:=by omega
   have et:ls.take i=ls:=List.take_of_length_le (by rw [HL.out];exact hge)
   rw [et] at HA HTK
   have h0:=hid (show wr.heap[w.heap.size]? = some (.cells #[.int .u8 0,.int .u8 0,.int .u8 0,.int .u8 0,.int .u8 0,.int .u8 0,.int .u8 0,.int .u8 0,.int .u8 0,.int .u8 0,.int .u8 0,.int .u8 0,.int .u8 0,.int .u8 0,.int .u8 0,.int .u8 0,.int .u8 0,.int .u8 0,.int .u8 0,.int .u8 0,.int .u8 0,.int .u8 0,.int .u8 0,.int .u8 0,.int .u8 0,.int .u8 0,.int .u8 0,.int .u8 0,.int .u8 0,.int .u8 0,.int .u8 0,.int .u8 0] 43 (0,0)) by rw [HF.out.block _ (by have:=hWs.out;omega) (by simp;omega)];exact hW0.out)
   clear et
   go_wp2_with fail
   refine(hsum_walk G1 0 _ cur S R k (flat ls) _ HH.out HA.out HTK.out hlen HTr.out).mono ?_
   rintro e wA ⟨rfl,bA⟩
   have h0':=hid (show wA.heap[w.heap.size]? = some (.cells #[.int .u8 0,.int .u8 0,.int .u8 0,.int .u8 0,.int .u8 0,.int .u8 0,.int .u8 0,.int .u8 0,.int .u8 0,.int .u8 0,.int .u8 0,.int .u8 0,.int .u8 0,.int .u8 0,.int .u8 0,.int .u8 0,.int .u8 0,.int .u8 0,.int .u8 0,.int .u8 0,.int .u8 0,.int .u8 0,.int .u8 0,.int .u8 0,.int .u8 0,.int .u8 0,.int .u8 0,.int .u8 0,.int .u8 0,.int .u8 0,.int .u8 0,.int .u8 0] 43 (0,0)) by rw [bA.block _ (Array.getElem?_eq_some_iff.1 h0.out).1];exact h0.out)
   have B2:=hid (bstep BEL.out bA)
   have hiH:(Tryz.prog.info? 43).map (·.size)=some (nums .u8 (sha (flat ls))).toArray.size:=by rw [List.size_toArray,nums_length,sha_len];exact infoH
   have h32:(#[Value.int .u8 0,Value.int .u8 0,Value.int .u8 0,Value.int .u8 0,Value.int .u8 0,Value.int .u8 0,Value.int .u8 0,Value.int .u8 0,Value.int .u8 0,Value.int .u8 0,Value.int .u8 0,Value.int .u8 0,Value.int .u8 0,Value.int .u8 0,Value.int .u8 0,Value.int .u8 0,Value.int .u8 0,Value.int .u8 0,Value.int .u8 0,Value.int .u8 0,Value.int .u8 0,Value.int .u8 0,Value.int .u8 0,Value.int .u8 0,Value.int .u8 0,Value.int .u8 0,Value.int .u8 0,Value.int .u8 0,Value.int .u8 0,Value.int .u8 0,Value.int .u8 0,Value.int .u8 0]:Array Value).size=(nums .u8 (sha (flat ls))).toArray.size:=by rw [show(nums .u8 (sha (flat ls))).toArray.size=32 by rw [List.size_toArray,nums_length,sha_len]];rfl
   have h1c:(nums .u8 (sha (flat ls))).toArray.all (·.oneCell')=true:=by simp [nums,Value.oneCell']
   clear bA h0
   unfold hv
   generalize hcs:(nums .u8 (sha (flat ls))).toArray=cs at *
   have HCS:=hid hcs
   clear hcs
   go_wp2_with (refine wpList_store_row rfl _ _ _ rfl w.heap.size cs rfl rfl _ _ h0'.out hiH h32 h1c ?_)
   (try simp only [Exit.inBlock,Exit.then])
   refine bodyPost_ret (results_cell_row rfl _ _ w.heap.size _ cs _ _ rfl (setRow_heap wA w.heap.size _ cs _ _ h0'.out) Tryz.underlying43 rfl hiH) rfl ?_
   exact⟨by rw [hv,HCS.out],below_setRow B2.out (Nat.le_refl _) _⟩
end Go.Proofs.YtnbmpgballopeaaGreatDoor
/- sha.Sum of one part. -/
namespace Go.Proofs.YtnbmpgballopeaaGreatDoor
open Go.RowKit
theorem parts1{w:World}{G:Nat}{a:Option Addr}{n c:Nat}{xs:List Nat}(hc:w.cell? ⟨G,0,none⟩=some (.slice a n c))(h:Sl .u8 w a n c xs)(hx:∀d∈xs,d<256)(hn:n≤140737488351232):Parts w (some ⟨G,0,none⟩) 1 1 [⟨a,c,xs⟩]:=by
 have hl:=h.len
 subst hl
 refine⟨⟨rfl,Nat.le_refl _,by decide,(fun e=>by cases e),G,0,fun _=>rfl,fun j u hu=>?_⟩,rfl,fun l hl=>?_⟩
 ·match j,hu with
  | 0,hu=>simp [BS.cells] at hu;subst hu;exact hc
  | j+1,hu=>simp [BS.cells] at hu
 ·simp only [List.mem_singleton] at hl
  subst hl
  exact⟨h,hx,hn⟩
theorem sum1_walk(G:Nat)(a:Option Addr)(n c:Nat)(xs:List Nat)(w:World)(hc:w.cell? ⟨G,0,none⟩=some (.slice a n c))(h:Sl .u8 w a n c xs)(hx:∀d∈xs,d<256)(hn:n≤140737488351232)(ht:Tabs w):
  Calls Tryz.prog 66 #[.slice (some ⟨G,0,none⟩) 1 1] w (SumRes xs w):=by
 have P:=parts1 hc h hx hn
 have hl:=h.len
 have:=sum_walk (some ⟨G,0,none⟩) 1 1 _ w P (by simp [flat];omega) ht
 simpa [flat] using this
theorem cellNew1(Y:World)(v:Value)(T:TypeId):(Y.alloc (.cells #[v] T)).cell? ⟨Y.heap.size,0,none⟩=some v:=by rw [cell_of_row _ _ 0 _ _ (0,0) (heap_alloc_new Y _)];rfl
end Go.Proofs.YtnbmpgballopeaaGreatDoor
/- turn; plain facts for the walk of the reference's Hash. -/
namespace Go.Proofs.YtnbmpgballopeaaGreatDoor
open Go.RowKit
theorem rot_or2(n x:Nat)(hx:x<4294967296):bits .or .u32 ((x / 2 ^ n:Nat):Int) ((x*2 ^ (32 - n) % 4294967296:Nat):Int)=((rot n x:Nat):Int):=by
 rw [u32_or_nat _ _ (Nat.lt_of_le_of_lt (Nat.div_le_self _ _) hx) (Nat.mod_lt _ (by omega))]
 rfl
theorem turn2_walk(x:Nat)(hx:x<4294967296)(w:World):Calls Tryz.prog 89 #[.int .u32 (x:Int),.int .u64 2] w fun e w'=>e = .returned (.int .u32 ((rot 2 x:Nat):Int))∧w=w':=by
 have R:=hid (rot_or2 2 x hx)
 go_enter Tryz.func89,Tryz.ntmps89
 go_wp2
 go_ret
 exact⟨by rw [← R.out];rfl,rfl⟩
theorem turn6_walk(x:Nat)(hx:x<4294967296)(w:World):Calls Tryz.prog 89 #[.int .u32 (x:Int),.int .u64 6] w fun e w'=>e = .returned (.int .u32 ((rot 6 x:Nat):Int))∧w=w':=by
 have R:=hid (rot_or2 6 x hx)
 go_enter Tryz.func89,Tryz.ntmps89
 go_wp2
 go_ret
 exact⟨by rw [← R.out];rfl,rfl⟩
theorem turn7_walk(x:Nat)(hx:x<4294967296)(w:World):Calls Tryz.prog 89 #[.int .u32 (x:Int),.int .u64 7] w fun e w'=>e = .returned (.int .u32 ((rot 7 x:Nat):Int))∧w=w':=by
 have R:=hid (rot_or2 7 x hx)
 go_enter Tryz.func89,Tryz.ntmps89
 go_wp2
 go_ret
 exact⟨by rw [← R.out];rfl,rfl⟩
theorem turn11_walk(x:Nat)(hx:x<4294967296)(w:World):Calls Tryz.prog 89 #[.int .u32 (x:Int),.int .u64 11] w fun e w'=>e = .returned (.int .u32 ((rot 11 x:Nat):Int))∧w=w':=by
 have R:=hid (rot_or2 11 x hx)
 go_enter Tryz.func89,Tryz.ntmps89
 go_wp2
 go_ret
 exact⟨by rw [← R.out];rfl,rfl⟩
theorem turn13_walk(x:Nat)(hx:x<4294967296)(w:World):Calls Tryz.prog 89 #[.int .u32 (x:Int),.int .u64 13] w fun e w'=>e = .returned (.int .u32 ((rot 13 x:Nat):Int))∧w=w':=by
 have R:=hid (rot_or2 13 x hx)
 go_enter Tryz.func89,Tryz.ntmps89
 go_wp2
 go_ret
 exact⟨by rw [← R.out];rfl,rfl⟩
theorem turn17_walk(x:Nat)(hx:x<4294967296)(w:World):Calls Tryz.prog 89 #[.int .u32 (x:Int),.int .u64 17] w fun e w'=>e = .returned (.int .u32 ((rot 17 x:Nat):Int))∧w=w':=by
 have R:=hid (rot_or2 17 x hx)
 go_enter Tryz.func89,Tryz.ntmps89
 go_wp2
 go_ret
 exact⟨by rw [← R.out];rfl,rfl⟩
theorem turn18_walk(x:Nat)(hx:x<4294967296)(w:World):Calls Tryz.prog 89 #[.int .u32 (x:Int),.int .u64 18] w fun e w'=>e = .returned (.int .u32 ((rot 18 x:Nat):Int))∧w=w':=by
 have R:=hid (rot_or2 18 x hx)
 go_enter Tryz.func89,Tryz.ntmps89
 go_wp2
 go_ret
 exact⟨by rw [← R.out];rfl,rfl⟩
theorem turn19_walk(x:Nat)(hx:x<4294967296)(w:World):Calls Tryz.prog 89 #[.int .u32 (x:Int),.int .u64 19] w fun e w'=>e = .returned (.int .u32 ((rot 19 x:Nat):Int))∧w=w':=by
 have R:=hid (rot_or2 19 x hx)
 go_enter Tryz.func89,Tryz.ntmps89
 go_wp2
 go_ret
 exact⟨by rw [← R.out];rfl,rfl⟩
theorem turn22_walk(x:Nat)(hx:x<4294967296)(w:World):Calls Tryz.prog 89 #[.int .u32 (x:Int),.int .u64 22] w fun e w'=>e = .returned (.int .u32 ((rot 22 x:Nat):Int))∧w=w':=by
 have R:=hid (rot_or2 22 x hx)
 go_enter Tryz.func89,Tryz.ntmps89
 go_wp2
 go_ret
 exact⟨by rw [← R.out];rfl,rfl⟩
theorem turn25_walk(x:Nat)(hx:x<4294967296)(w:World):Calls Tryz.prog 89 #[.int .u32 (x:Int),.int .u64 25] w fun e w'=>e = .returned (.int .u32 ((rot 25 x:Nat):Int))∧w=w':=by
 have R:=hid (rot_or2 25 x hx)
 go_enter Tryz.func89,Tryz.ntmps89
 go_wp2
 go_ret
 exact⟨by rw [← R.out];rfl,rfl⟩
def zerosN(L:Nat):Nat:=if L % 64<56 then 55 - L % 64 else 119 - L % 64
theorem padN_eq{L:Nat}(h:L≤140737488355328):padN L=128::(List.replicate (zerosN L) 0++beN 8 (8*L)):=by
 unfold padN zerosN
 rw [Nat.mod_eq_of_lt (show L*8<18446744073709551616 by omega),Nat.mul_comm L 8]
theorem zeros_more{L z:Nat}(hz:z≤zerosN L):(L+1+z) % 64≠56 ↔ z<zerosN L:=by
 unfold zerosN at *
 split at hz <;> rename_i h
 ·rw [if_pos h];omega
 ·rw [if_neg h];omega
theorem chr_rule{e f g:Nat}(he:e<4294967296)(hf:f<4294967296)(hg:g<4294967296):bits .xor .u32 (bits .and .u32 (e:Int) (f:Int)) (bits .and .u32 (4294967295 - (e:Int)) (g:Int))=((chf e f g:Nat):Int):=by
 rw [show(4294967295:Int) - (e:Int)=((4294967295 - e:Nat):Int) by omega,u32_and_nat _ _ he hf,u32_and_nat _ _ (by omega) hg,u32_xor_nat _ _ (and_lt hf) (and_lt hg)];rfl
def addU(S T:List Nat):Nat→List Nat
 | 0=>S
 | i+1=>(addU S T i).set i ((S.getD i 0+T.getD i 0) % 4294967296)
theorem addU_len(S T:List Nat)(i:Nat):(addU S T i).length=S.length:=by
 induction i with
 | zero=>rfl
 | succ i ih=>simp [addU,ih]
theorem addU_get(S T:List Nat)(i j:Nat)(h:i≤j):(addU S T i).getD j 0=S.getD j 0:=by
 induction i with
 | zero=>rfl
 | succ i ih=>
  rw [addU,List.getD_eq_getElem?_getD,List.getElem?_set_ne (by omega),← List.getD_eq_getElem?_getD,ih (by omega)]
theorem addU_eq{S T:List Nat}(h:S.length=8)(h':T.length=8):addU S T 8=addL S T:=by
 match S,T,h,h' with
 | [a,b,c,d,e,f,g,k],[a',b',c',d',e',f',g',k'],_,_=>rfl
def outS(O:List Nat)(i x:Nat):Nat→List Nat
 | 0=>O
 | t+1=>(outS O i x t).set (4*i+(3 - t)) (x / 256 ^ t % 256)
theorem outS_len(O:List Nat)(i x t:Nat):(outS O i x t).length=O.length:=by
 induction t with
 | zero=>rfl
 | succ t ih=>simp [outS,ih]
end Go.Proofs.YtnbmpgballopeaaGreatDoor

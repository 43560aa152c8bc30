/- Slices cut in front, records that grow: for the walks of Decode. -/
import Derived.Test.YtnbmpgballopeaaGreatDoorZParts
import Derived.Test.YtnbmpgballopeaaGreatDoorZEncP
import Derived.Test.YtnbmpgballopeaaGreatDoorZEncR
import Derived.Test.YtnbmpgballopeaaGreatDoorZKeep
namespace Go.Proofs.YtnbmpgballopeaaGreatDoor
open Go.RowKit
theorem Sl.drop{k:IntKind}{w:World}{b off n cap m:Nat}{xs:List Nat}(h:Sl k w (some ⟨b,off,none⟩) n cap xs)(hm:m≤n):Sl k w (if cap=m then some ⟨b,off,none⟩ else some ⟨b,off+m,none⟩) (n - m) (cap - m) (xs.drop m):=by
 have hl:=h.len
 obtain⟨_,h2,h3,h4,b',off',ha,hc⟩:=h
 by_cases h0:n=m
 ·subst h0
  have e:xs.drop n=[]:=List.drop_eq_nil_of_le (by omega)
  rw [e]
  refine⟨by simp [nums],by omega,by omega,?_,0,0,by omega,by simp [nums]⟩
  split <;> simp
 ·have hb:=ha (by omega)
  simp only [Option.some.injEq,Addr.mk.injEq,and_true] at hb
  obtain⟨rfl,rfl⟩:=hb
  rw [if_neg (by omega)]
  refine⟨by simp;omega,by omega,by omega,(fun e=>by cases e),b,off+m,fun _=>rfl,fun j u hu=>?_⟩
  rw [nums,List.map_drop,List.getElem?_drop] at hu
  rw [Nat.add_assoc]
  exact hc _ _ hu
theorem own_nil'(w:World)(B:Nat)(e:TypeId)(size:Nat):w.ownsRow B e size (.slice none 0 0) 0 []:=⟨by simp,.inl ⟨rfl,rfl⟩⟩
theorem szU8(w:World):(sizeOf (Tryz.prog.elem 28)).run Tryz.prog w = .ok 1 w:=by
 have h:=infoU8
 have e:Tryz.prog.elem 28=5:=by kernel_rfl
 rw [e]
 cases hi:Tryz.prog.info? 5 with
 | none=>rw [hi] at h;cases h
 | some i=>
  rw [hi] at h
  simp only [Option.map_some,Option.some.injEq,Prod.mk.injEq] at h
  simp [sizeOf,typeInfo,hi,h.2.1]
theorem undU8:Tryz.prog.underlying 28=some (.slice (Tryz.prog.elem 28)):=by kernel_rfl
theorem wpList_dropS{w w0:World}{ops:Array Oper}{rest:List Oper}{o:Oper}{a:Act}{Q:Exit→Act→World→Prop}(hg:o.guard=none)(x lo:Operand)(hop:o.op=Op.slice 28 x (some lo) none none)
  {b off n c m:Nat} {xs:List Nat} (hS:Sl .u8 w0 (some ⟨b,off,none⟩) n c xs) (hx:a.eval x = .slice (some ⟨b,off,none⟩) n c) (hlo:a.eval lo = .int .i64 (m:Int)∨a.eval lo = .int .u64 (m:Int)) (hm:m≤n)
  (h:∀b' off',Sl .u8 w0 (some ⟨b',off',none⟩) (n - m) (c - m) (xs.drop m)→wpList Tryz.prog ops Q rest (a.put o.dst (.slice (some ⟨b',off',none⟩) (n - m) (c - m))) w):wpList Tryz.prog ops Q (o::rest) a w:=by
 refine wpList_plain hg fun K hK=>?_
 have hadd:(⟨b,off,none⟩:Addr).add m=⟨b,off+m,none⟩:=by unfold Addr.add;split <;> simp_all
 have hs:∀k,(Instr.sliceAt 28 (.slice (some ⟨b,off,none⟩) n c) (some (.int k (m:Int))) none none).run Tryz.prog w = .ok (.slice (if c=m then some (⟨b,off,none⟩:Addr) else some ⟨b,off+m,none⟩) (n - m) (c - m)) w:=by
  intro k
  rw [run_sliceAt_slice w _ _ _ _ _ undU8,run_slice_any w _ _ _ _ undU8]
  simp [Instr.sliceBounds,run_sliceBound w,szU8,Result.andThen,sliced,hadd,hm]
 have hd:=Sl.drop hS hm
 have fin:wpList Tryz.prog ops Q rest (a.put o.dst (.slice (if c=m then some (⟨b,off,none⟩:Addr) else some ⟨b,off+m,none⟩) (n - m) (c - m))) w:=by
  split at hd
  ·rename_i hc;rw [if_pos hc];exact h _ _ hd
  ·rename_i hc;rw [if_neg hc];exact h _ _ hd
 unfold Oper.wp execOp
 rcases hlo with hlo|hlo
 ·simp only [hop,hx,hlo,Option.map_some,Option.map_none,hs,Sem.run_bind,Result.andThen]
  exact hK _ _ fin
 ·simp only [hop,hx,hlo,Option.map_some,Option.map_none,hs,Sem.run_bind,Result.andThen]
  exact hK _ _ fin
theorem ApartSl.grew{w w':World}{v v':Value}{a:Option Addr}{n c:Nat}{zs:List Nat}(h:ApartSl w v a n c zs)(hg:w.grownBy w' v.ownBlock)(hv:v'.ownBlock=v.ownBlock∨v'.ownBlock=some w.heap.size):ApartSl w' v' a n c zs:=by
 obtain⟨h1,h2⟩:=h
 have cell:∀p:Addr,p.block<w.heap.size→v.ownBlock≠some p.block→w'.cell? p=w.cell? p:=fun p hp hne=>hg.cell_far p hp (Ne.symm hne)
 have h1':=h1
 refine⟨?_,fun h0 b off ha=>?_⟩
 ·obtain⟨q1,q2,q3,q4,b,off,ha,hc⟩:=h1
  refine⟨q1,q2,q3,q4,b,off,ha,fun j u hu=>?_⟩
  have hl:=h1'.len
  have hj:0<n:=by
   have:=(List.getElem?_eq_some_iff.1 hu).1
   rw [nums_length] at this;omega
  have hcu:=hc j u hu
  rw [cell _ (World.block_lt_of_cell? w _ hcu) (h2 hj b off (ha hj))]
  exact hcu
 ·rcases hv with hv|hv
  ·rw [hv];exact h2 h0 b off ha
  ·rw [hv]
   intro e
   simp at e
   obtain⟨b',off',ha',hc⟩:=h1'.opened
   have:=ha' h0
   rw [ha] at this
   simp only [Option.some.injEq,Addr.mk.injEq,and_true] at this
   obtain⟨rfl,rfl⟩:=this
   have:=World.block_lt_of_cell? w _ (hc 0 h0)
   simp at this
   omega
theorem wpList_pushG{P:Program}{ops:Array Oper}{rest:List Oper}{o:Oper}{a:Act}{Q:Exit→Act→World→Prop}{w:World}(hgd:o.guard=none)(s x:Operand)(t:TypeId)
  (ho:o.op = .call { callee:=.builtin .append,args:=#[s,x],argTypes:=#[t,t] })
  {e:TypeId} {size bytes:Nat} {z:Value} (ty:SliceTy P t e size bytes z) (B:Nat) {v:Value} {n:Nat} {xs:List Value} {us:Array Value} {et:TypeId} (hown:(w.alloc (.cells us et)).ownsRow B e size v n xs) (hs:a.eval s=v) (G:Nat) (hG:w.heap.size=G)
  (hx:a.eval x = .slice (some ⟨G,0,none⟩) 1 1) (hl:us.size=size) (h1:us.toList.all Value.oneCell'=true) (hn:n<4294967296) (hby:bytes≤16384) (hB:B≤w.heap.size)
  (h:∀v' w',w'.ownsRow B e size v' (n+1) (xs++us.toList)→(w.alloc (.cells us et)).grownBy w' v.ownBlock→(v'.ownBlock=v.ownBlock∨v'.ownBlock=some (w.alloc (.cells us et)).heap.size)→wpList P ops Q rest (a.put o.dst v') w'):wpList P ops Q (o::rest) a (w.alloc (.cells us et)):=by
 subst hG
 refine wpList_plain hgd fun K hK=>?_
 refine wp_cat s x t ho ty B hown hs hx ⟨by simp [hl],Nat.le_refl _,by unfold maxLen;omega,(fun e=>by cases e),w.heap.size,0,fun _=>rfl,fun j u hu=>?_⟩ (fun u hu=>List.all_eq_true.1 h1 u hu) ?_ ?_ (by simp;omega) fun v' w' h2 h3 h4=>hK _ _ (h v' w' h2 h3 h4)
 ·have:=cells_new w us et j u hu
  have hadd:(⟨w.heap.size,0,none⟩:Addr).add j=⟨w.heap.size,0+j,none⟩:=by unfold Addr.add;split <;> simp_all
  rwa [hadd] at this
 ·have:(n+1)*bytes≤4294967296*16384:=Nat.mul_le_mul (by omega) hby
  omega
 ·unfold maxLen;omega
theorem own_last{wr:World}{B:Nat}{e:TypeId}{v:Value}{ls:List LR}(hown:wr.ownsRow B e 2 v ls.length (ls.flatMap LR.cells)){j:Nat}(hj:ls.length=j+1):∃g c4 lt,v = .slice (some ⟨g,0,none⟩) (j+1) c4∧j+1≤c4∧(ls.getLast?.map LR.t)=some lt∧wr.cell? ⟨g,j*2,none⟩=some (.int .u64 (lt:Int)):=by
 have hown':=hown
 rcases hown.2 with⟨_,h0⟩|⟨g,c4,cur,rfl,_,_,hn,_⟩
 ·omega
 ·have hjl:j<ls.length:=by omega
  have hl:ls[j]? = some ls[j]:=List.getElem?_eq_getElem hjl
  refine⟨g,c4,ls[j].t,by rw [hj],by omega,?_,?_⟩
  ·rw [List.getLast?_eq_getElem?,hj,Nat.add_sub_cancel,hl];rfl
  ·rw [hown'.cellAt (j*2) (by omega)]
   exact(flat_get hl).1
def lenOf:Value→Nat
 | .slice _ l _=>l
 | _=>0
@[simp] theorem lenOf_slice(a:Option Addr)(l c:Nat):lenOf (.slice a l c)=l:=rfl
def RB(w:World)(B:Nat)(l:LR):Prop:=w.ownsRow B 5 1 (.slice l.a l.v.length l.c) l.v.length (nums .u8 l.v)
def RG(w:World)(B:Nat)(v:Value)(l:LR):Prop:=l.t<18446744073709551616∧ApartSl w v l.a l.v.length l.c l.v∧((∀d∈l.v,d<256)∧l.v.length≤140737488351232)∧RB w B l
def comb(ls:List LR)(t:List Pr × Nat):List Pr × Nat:=if t.2≠0 then ([],t.2) else (ls.map LR.pr++t.1,0)
def lastT(ls:List LR):Option Nat:=ls.getLast?.map LR.t
def DRel(w0:World)(n0:Nat)(bs0:List Nat)(e:TypeId)(x0 x4:Value)(wr:World):Prop:=
 ∃(a:Option Addr) (c:Nat) (bs:List Nat) (v:Value) (ls:List LR),.slice a bs.length c=x0∧v=x4∧Sl .u8 w0 a bs.length c bs∧(∀d∈bs,d<256)∧wr.ownsRow w0.heap.size e 2 v ls.length (ls.flatMap LR.cells)∧(∀l∈ls,RG wr w0.heap.size v l)∧Below w0.heap.size w0 wr∧ls.length≤256∧bs.length≤n0 ∧
  Hid (decS bs0=comb ls (decGo (bs.length+1) (lastT ls) ls.length bs))
def DecRes(w:World)(bs:List Nat)(e:Ending)(w':World):Prop:=∃v ls,e = .returned (.tuple #[v,.int .i64 (((decS bs).2:Nat):Int)])∧RecsV w' v ls∧ls.map LR.pr=(decS bs).1∧ls.length≤256∧Below w.heap.size w w'
def DecRes2(et:TypeId)(w:World)(bs:List Nat)(e:Ending)(w':World):Prop:=∃v ls,e = .returned (.tuple #[v,.int .i64 (((decS bs).2:Nat):Int)])∧RecsV w' v ls∧ls.map LR.pr=(decS bs).1∧ls.length≤256∧Below w.heap.size w w'∧w'.ownsRow w.heap.size et 2 v ls.length (ls.flatMap LR.cells) ∧ ∀l∈ls,RB w' w.heap.size l
theorem DecRes2.one{et:TypeId}{w w':World}{bs:List Nat}{e:Ending}(h:DecRes2 et w bs e w'):DecRes w bs e w':=by
 obtain⟨v,ls,h1,h2,h3,h4,h5,_⟩:=h
 exact⟨v,ls,h1,h2,h3,h4,h5⟩
theorem recsV_nil(w:World):RecsV w (.slice none 0 0) []:=⟨none,0,rfl,⟨by simp,by simp,by simp,fun _=>rfl,0,0,by simp,by simp⟩,rfl,by simp⟩
theorem DecRes2.bad{et:TypeId}{w w':World}{bs:List Nat}{z:Nat}{ls:List LR}{t:List Pr × Nat}(hd:decS bs=comb ls t)(ht:t=([],z))(h0:z≠0)(hb:Below w.heap.size w w'):DecRes2 et w bs (.returned (.tuple #[.slice none 0 0,.int .i64 (z:Int)])) w':=by
 have e:decS bs=([],z):=by rw [hd,ht,comb,if_pos h0]
 exact⟨_,[],by rw [e],recsV_nil _,by rw [e];rfl,by simp,hb,own_nil' _ _ _ _,by simp⟩
end Go.Proofs.YtnbmpgballopeaaGreatDoor
/- Slices cut on both sides: for the walk of the reference's Decode. -/
namespace Go.Proofs.YtnbmpgballopeaaGreatDoor
open Go.RowKit
end Go.Proofs.YtnbmpgballopeaaGreatDoor
/- The chain's reader of bytes: take, num. -/
namespace Go.Proofs.YtnbmpgballopeaaGreatDoor
open Go.RowKit
theorem Rd.kept{S:Nat→Prop}{w w':World}{size:Nat}{a:Option Addr}{n cap:Nat}{xs:List Value}(h:Rd w size a n cap xs)(k:Keep S w w')(hs:∀ad,a=some ad → ¬ S ad.block):Rd w' size a n cap xs:=by
 obtain⟨h1,h2,h3,h4,b,off,ha,hc⟩:=h
 refine⟨h1,h2,h3,h4,b,off,ha,fun j u hu=>?_⟩
 refine k.cell (hc j u hu) (hs ⟨b,off,none⟩ (ha ?_))
 rcases Nat.eq_zero_or_pos n with h0|h0
 ·subst h0
  have:xs=[]:=List.eq_nil_of_length_eq_zero (by simpa using h1)
  subst this
  simp at hu
 ·exact h0
theorem wp_mkZ{P:Program}{w:World}{o:Oper}{a:Act}{K:Act→World→Prop}{Q:Exit→Act→World→Prop}(l c:Operand)(t:TypeId)(hop:o.op=Op.makeSlice t l c)
  {e:TypeId} {bytes:Nat} {z:Value} (ty:SliceTy P t e 1 bytes z) (hz1:z.cells = #[z]) (B N:Nat) {kl kc:IntKind} (hl:a.eval l = .int kl (N:Int)) (hc:a.eval c = .int kc (N:Int))
  (hN:N<4294967296) (hby:bytes≤16384) (hB:B≤w.heap.size)
  (h:∀w',w'.ownsRow B e 1 (.slice (some ⟨w.heap.size,0,none⟩) N N) N (List.replicate N z)→Below B w w'→K (a.put o.dst (.slice (some ⟨w.heap.size,0,none⟩) N N)) w'):o.wp P a w K Q:=by
 obtain⟨i,ht,hi,hz,hsz,hb⟩:=ty.ex
 have b2:i.bytes*N≤281474976710656:=by
  rw [hb]
  have:bytes*N≤16384*4294967296:=Nat.mul_le_mul hby (by omega)
  omega
 obtain⟨w',hrun,r1,r2⟩:=run_make_full (P:=P) w B t e i z 1 ht hi hz hsz kl kc N b2 (by unfold maxLen;omega) hB
 unfold Oper.wp
 simp [execOp,hop,hl,hc,hrun,Result.andThen]
 rw [madeCells_one z hz1] at r1
 exact h w' r1 ((Below.refl B w).grown r2 hB (fun k hk=>by cases hk))
theorem wp_headS{w w0:World}{o:Oper}{a:Act}{K:Act→World→Prop}{Q:Exit→Act→World→Prop}(x hi:Operand)(hop:o.op=Op.slice 28 x none (some hi) none)
  {ad:Option Addr} {n c h:Nat} {xs:List Nat} (hS:Sl .u8 w0 ad n c xs) (hx:a.eval x = .slice ad n c) (hhi:a.eval hi = .int .i64 (h:Int)) (h0:0<h) (hh:h≤n)
  (hK:Sl .u8 w0 ad h c (xs.take h)→K (a.put o.dst (.slice ad h c)) w):o.wp Tryz.prog a w K Q:=by
 have hc:n≤c:=hS.2.1
 obtain⟨ad',rfl⟩:∃ad',ad=some ad':=by
  obtain⟨_,_,_,h4,b,off,ha,_⟩:=hS
  exact⟨_,ha (by omega)⟩
 have hadd:ad'.add 0=ad':=by unfold Addr.add;split <;> simp_all
 have hs:(Instr.sliceAt 28 (.slice (some ad') n c) none (some (.int .i64 (h:Int))) none).run Tryz.prog w = .ok (.slice (some ad') h c) w:=by
  rw [run_sliceAt_slice w _ _ _ _ _ undU8,run_slice_h w _ _ _ _ undU8 _ _ (by omega) (by omega)]
  simp [szU8,Result.andThen,sliced,hadd]
 have fin:=hK (hS.take (m:=h) (by omega))
 unfold Oper.wp execOp
 simp only [hop,hx,hhi,Option.map_some,Option.map_none,hs,Sem.run_bind,Result.andThen]
 exact fin
theorem wp_dropS{w w0:World}{o:Oper}{a:Act}{K:Act→World→Prop}{Q:Exit→Act→World→Prop}(x lo:Operand)(hop:o.op=Op.slice 28 x (some lo) none none)
  {b off n c m:Nat} {xs:List Nat} (hS:Sl .u8 w0 (some ⟨b,off,none⟩) n c xs) (hx:a.eval x = .slice (some ⟨b,off,none⟩) n c) (hlo:a.eval lo = .int .i64 (m:Int)) (hm:m≤n)
  (hK:∀off',Sl .u8 w0 (some ⟨b,off',none⟩) (n - m) (c - m) (xs.drop m)→K (a.put o.dst (.slice (some ⟨b,off',none⟩) (n - m) (c - m))) w):o.wp Tryz.prog a w K Q:=by
 have hadd:(⟨b,off,none⟩:Addr).add m=⟨b,off+m,none⟩:=by unfold Addr.add;split <;> simp_all
 have hs:(Instr.sliceAt 28 (.slice (some ⟨b,off,none⟩) n c) (some (.int .i64 (m:Int))) none none).run Tryz.prog w = .ok (.slice (if c=m then some (⟨b,off,none⟩:Addr) else some ⟨b,off+m,none⟩) (n - m) (c - m)) w:=by
  rw [run_sliceAt_slice w _ _ _ _ _ undU8,run_slice_any w _ _ _ _ undU8]
  simp [Instr.sliceBounds,run_sliceBound w,szU8,Result.andThen,sliced,hadd,hm]
 have hd:=Sl.drop hS hm
 have fin:K (a.put o.dst (.slice (if c=m then some (⟨b,off,none⟩:Addr) else some ⟨b,off+m,none⟩) (n - m) (c - m))) w:=by
  split at hd
  ·rename_i hc;rw [if_pos hc];exact hK _ hd
  ·rename_i hc;rw [if_neg hc];exact hK _ hd
 unfold Oper.wp execOp
 simp only [hop,hx,hlo,Option.map_some,Option.map_none,hs,Sem.run_bind,Result.andThen]
 exact fin
structure Rdr (w:World) (g B:Nat) (bs:List Nat) (sh:Bool):Prop where
 bd:∀d∈bs,d<256
 len:bs.length≤140737488351232
 at':∃a c,w.heap[g]? = some (.cells [Value.slice a bs.length c,.bool sh].toArray 116 (0,0))∧Sl .u8 w a bs.length c bs ∧ ∀ad,a=some ad→ad.block≠g∧ad.block<B
def tkL(n:Nat)(bs:List Nat):List Nat:=if n≤bs.length then bs.drop n else bs
def tkS(n:Nat)(bs:List Nat)(sh:Bool):Bool:=if n≤bs.length then sh else true
def tkY(n:Nat)(bs:List Nat):List Nat:=if n≤bs.length then bs.take n else List.replicate n 0
theorem tkY_len(n:Nat)(bs:List Nat):(tkY n bs).length=n:=by
 unfold tkY
 split
 ·rw [List.length_take];omega
 ·simp
theorem tkY_lt{n:Nat}{bs:List Nat}(h:∀d∈bs,d<256):∀d∈tkY n bs,d<256:=by
 unfold tkY
 intro d hd
 split at hd
 ·exact h d (List.mem_of_mem_take hd)
 ·have:=(List.mem_replicate.1 hd).2;omega
theorem Rdr.keep{w w':World}{g B:Nat}{bs:List Nat}{sh:Bool}(h:Rdr w g B bs sh)(k:Below w.heap.size w w'):Rdr w' g B bs sh:=by
 obtain⟨h1,h2,a,c,hg,hs,hn⟩:=h
 exact⟨h1,h2,a,c,heap_keep hg k,hs.below k,hn⟩
def TakeR(w:World)(g B n:Nat)(bs:List Nat)(sh:Bool)(e:Ending)(w':World):Prop:=
 ∃a c,e = .returned (.slice a n c)∧Sl .u8 w' a n c (tkY n bs)∧(∀ad,a=some ad→ad.block≠g∧(ad.block<B∨w.heap.size≤ad.block))∧Rdr w' g B (tkL n bs) (tkS n bs sh)∧Keep (fun i=>i=g) w w'
set_option maxRecDepth 100000 in
set_option maxHeartbeats 2000000 in
theorem take_walk(g B n:Nat)(bs:List Nat)(sh:Bool)(h0:0<n)(h1:n≤1000)(w:World)(h:Rdr w g B bs sh):
  Calls Tryz.prog 45 #[.pointer (some ⟨g,0,none⟩),.int .i64 (n:Int)] w (TakeR w g B n bs sh):=by
 have BD:=hid h.bd
 have LE:=hid h.len
 obtain⟨a,c,hg,hs,hn⟩:=h.at'
 have HG:=hid hg
 have HS:=hid hs
 have HN:=hid hn
 obtain⟨N,hN⟩:∃N,N=bs.length:=⟨_,rfl⟩
 have NN:=hid hN
 have c0:w.cell? ⟨g,0,none⟩=some (.slice a N c):=by rw [hN];exact gen_cell (j:=0) (row_range hg) rfl
 have c1:w.cell? ⟨g,1,none⟩=some (.bool sh):=gen_cell (j:=1) (row_range hg) rfl
 have z0:w.frozen? ⟨g,0,none⟩=false:=frozen_of_row _ _ _ _ _ hg
 have z1:w.frozen? ⟨g,1,none⟩=false:=frozen_of_row _ _ _ _ _ hg
 have N0:=hid (And.intro h0 h1)
 rw [← hN] at hs HS HG
 clear h hg hs hn hN h0 h1
 by_cases hl:N<n
 case pos=>
  have u1:decide ((N:Int)<(n:Int))=true:=decide_eq_true (by omega)
  have u2:decide (N<n)=true:=decide_eq_true (by omega)
  have HL:=hid hl
  clear hl
  go_enter Tryz.func45,Tryz.ntmps45
  go_upto_region 2 with(fail)
  go_upto_region 3 with(fail)
  have h3:=hid (heap_set (i:=1) (.bool true) HG.out)
  have f3:=hid (show Far g w (w.setCell ⟨g,1,none⟩ (.bool true)) from Far.set _)
  clear c0 c1 z0 z1 u1 u2
  generalize w.setCell ⟨g,1,none⟩ (.bool true)=w1 at *
  go_wp2_with (at_make;go_loud (refine wpList_when (by rfl) (fun K hK=>wp_mkZ _ _ _ rfl tyBs rfl _ n rfl rfl (by have:=N0.out;omega) (by decide) (Nat.le_refl _) (fun w4 o4 b4=>hK _ _ ?_)));clear hK K;have O4:=hid o4;have B4:=hid b4;clear b4 o4)
  go_ret
  have hy:tkY n bs=List.replicate n 0:=by unfold tkY;rw [if_neg (by have:=HL.out;have:=NN.out;omega)]
  have hL:tkL n bs=bs:=by unfold tkL;rw [if_neg (by have:=HL.out;have:=NN.out;omega)]
  have hS:tkS n bs sh=true:=by unfold tkS;rw [if_neg (by have:=HL.out;have:=NN.out;omega)]
  obtain⟨a5,c5,e5,rd5⟩:=Rd.of_owns O4.out
  cases e5
  refine⟨_,_,rfl,?_,?_,?_,?_⟩
  ·rw [hy];show Rd _ _ _ _ _ (nums .u8 _);rw [nums_replicate];exact rd5
  ·intro ad ha
   cases ha
   have:=(Array.getElem?_eq_some_iff.1 h3.out).1
   have h9:=f3.out.size
   refine⟨?_,.inr ?_⟩
   ·show w1.heap.size≠g
    omega
   ·show w.heap.size≤w1.heap.size
    exact h9
  ·rw [hL,hS]
   have k1:Keep (fun i=>i=g) w w1:=Keep.far' f3.out
   refine⟨BD.out,LE.out,a,c,?_,?_,HN.out⟩
   ·rw [← NN.out];exact heap_keep h3.out B4.out
   ·rw [← NN.out];exact Sl.below (Rd.kept HS.out k1 (fun ad ha hh=>(HN.out ad ha).1 hh)) B4.out
  ·exact(Keep.far' f3.out).trans (Keep.of B4.out)
 have u1:decide ((N:Int)<(n:Int))=false:=decide_eq_false (by omega)
 have u2:decide (N<n)=false:=decide_eq_false (by omega)
 have HL:=hid (show n≤N by omega)
 clear hl
 obtain⟨ad,rfl⟩:∃ad,a=some ad:=by
  obtain⟨_,_,_,h4,b,off,ha,_⟩:=HS.out
  exact⟨_,ha (by have:=HL.out;have:=N0.out;omega)⟩
 obtain⟨b,off,rfl⟩:∃b off,ad=⟨b,off,none⟩:=by
  obtain⟨_,_,_,h4,b,off,ha,_⟩:=HS.out
  exact⟨b,off,by have:=ha (by have:=HL.out;have:=N0.out;omega);cases this;rfl⟩
 go_enter Tryz.func45,Tryz.ntmps45
 go_wp2_with (first|(refine wpList_when (by rfl) (fun K hK=>wp_headS _ _ rfl HS.out rfl rfl N0.out.1 HL.out (fun h5=>hK _ _ ?_));clear hK K;have H5:=hid h5;clear h5)|(refine wpList_headS rfl _ _ rfl HS.out rfl rfl N0.out.1 HL.out ?_;intro h5;have H5:=hid h5;clear h5)|(refine wpList_when (by rfl) (fun K hK=>wp_dropS _ _ rfl HS.out rfl rfl HL.out (fun o6 h6=>hK _ _ ?_));clear hK K;have H6:=hid h6;clear h6))
 go_ret
 have hy:tkY n bs=bs.take n:=by unfold tkY;rw [if_pos (by have:=HL.out;have:=NN.out;omega)]
 have hL:tkL n bs=bs.drop n:=by unfold tkL;rw [if_pos (by have:=HL.out;have:=NN.out;omega)]
 have hS:tkS n bs sh=sh:=by unfold tkS;rw [if_pos (by have:=HL.out;have:=NN.out;omega)]
 have hd:(bs.drop n).length=N - n:=by rw [List.length_drop,NN.out]
 have f3:Far g w (w.setCell ⟨g,0,none⟩ (.slice (some ⟨b,o6,none⟩) (N - n) (c - n))):=Far.set _
 refine⟨_,_,rfl,?_,fun ad ha=>⟨(HN.out ad ha).1,.inl (HN.out ad ha).2⟩,?_,Keep.far' f3⟩
 ·rw [hy];exact Rd.kept H5.out (Keep.far' f3) (fun ad ha hh=>(HN.out ad ha).1 hh)
 ·rw [hL,hS]
  refine⟨fun d hd=>BD.out d (List.mem_of_mem_drop hd),by rw [hd];have:=LE.out;have:=NN.out;omega,some ⟨b,o6,none⟩,c - n,?_,?_,fun ad ha=>?_⟩
  ·rw [hd];exact heap_set (i:=0) _ HG.out
  ·rw [hd];exact Rd.kept H6.out (Keep.far' f3) (fun ad ha hh=>by cases ha;exact(HN.out ⟨b,off,none⟩ rfl).1 hh)
  ·cases ha;exact HN.out ⟨b,off,none⟩ rfl
end Go.Proofs.YtnbmpgballopeaaGreatDoor
/- The chain's reader of bytes: num. -/
namespace Go.Proofs.YtnbmpgballopeaaGreatDoor
open Go.RowKit
def NumR(w:World)(g B n:Nat)(bs:List Nat)(sh:Bool)(e:Ending)(w':World):Prop:=
 e = .returned (.int .u64 ((beVal (tkY n bs):Nat):Int))∧Rdr w' g B (tkL n bs) (tkS n bs sh)∧Keep (fun i=>i=g) w w'
set_option maxRecDepth 100000 in
set_option maxHeartbeats 2000000 in
theorem tnum_walk(g B n:Nat)(bs:List Nat)(sh:Bool)(h0:0<n)(h1:n≤8)(w:World)(h:Rdr w g B bs sh):
  Calls Tryz.prog 46 #[.pointer (some ⟨g,0,none⟩),.int .i64 (n:Int)] w (NumR w g B n bs sh):=by
 have TK:=hid (take_walk g B n bs sh h0 (by omega) w h)
 have YL:=hid (tkY_len n bs)
 have YB:=hid (tkY_lt (n:=n) h.bd)
 have N0:=hid (And.intro h0 h1)
 clear h h0 h1
 go_enter Tryz.func46,Tryz.ntmps46
 go_wp2_with (fail)
 refine TK.out.mono ?_
 rintro e w1 ⟨a,c,rfl,hs,_,hr,hk⟩
 have HR:=hid hr
 have HK:=hid hk
 obtain⟨t,ht⟩:∃t,t=tkY n bs:=⟨_,rfl⟩
 have HT:=hid ht
 rw [← ht] at hs YL YB
 obtain⟨b,off,ha,hc⟩:=hs.opened
 obtain rfl:=ha N0.out.1
 clear hr hk ht hs TK ha
 go_wp2_with (fail)
 go_loopw [5,12] (fun x0 i0 wr=>∃k:Nat,k≤n∧i0 = .int .i64 k∧x0 = .int .u64 ((beVal (t.take k):Nat):Int)∧wr=w1) (fun _ i0 _=>n - (intOf i0).toNat)
 case atStart=>exact⟨0,by omega,rfl,rfl,rfl⟩
 case round=>
  obtain⟨k,hk,rfl,rfl,rfl⟩:=hrel
  by_cases hlt:k<n
  ·have u1:decide ((k:Int)<(n:Int))=true:=decide_eq_true (by omega)
   have u2:decide (k<n)=true:=decide_eq_true (by omega)
   have hkt:k<t.length:=by have:=YL.out;omega
   have st:=hid (beVal_step hkt)
   have hd:=getD_ltM YB.out (by decide) k
   have bx:=beVal_take_lt YB.out (k:=k) (by have:=N0.out;omega)
   have hor:=or256 bx hd
   have hcx:=hc k hlt
   have kn:k<8:=by have:=N0.out;omega
   generalize t.getD k 0=d at *
   generalize beVal (t.take k)=x at *
   clear hc
   go_wp2
   go_roundw
   case rel=>exact⟨k+1,by omega,by go_num,by rw [st.out];go_num,trivial⟩
   case measure=>simp [intOf];omega
  ·obtain rfl:k=n:=by omega
   have u1:decide ((k:Int)<(k:Int))=false:=decide_eq_false (by omega)
   have u2:decide (k<k)=false:=decide_eq_false (by omega)
   have e:t.take k=t:=List.take_of_length_le (by rw [YL.out];exact Nat.le_refl _)
   rw [e]
   have RT:=hid HT.out
   generalize hx:beVal t=x at *
   have HX:=hid hx
   clear hc hx
   go_wp2
   go_ret
   exact⟨by rw [← RT.out,HX.out];rfl,HR.out,HK.out⟩
end Go.Proofs.YtnbmpgballopeaaGreatDoor

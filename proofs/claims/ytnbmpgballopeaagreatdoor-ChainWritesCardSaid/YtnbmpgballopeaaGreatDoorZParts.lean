/- Slices of bytes: their type's rows, strings made of them. -/
import Derived.Laws.BytesArg
import Derived.Maps.AppendAt
import Derived.Deep.AppendLies
import Derived.Deep.RegionHeld3
import Derived.Deep.MidRow
import Derived.Stop.BytesEq
import Derived.Laws.Tables
import Derived.Laws.CopyOwn
import Derived.Deep.RegionLaw
import Derived.Test.YtnbmpgballopeaaGreatDoorZOnce
namespace Go.Proofs.YtnbmpgballopeaaGreatDoor
open Go.RowKit
theorem infoU8:(Tryz.prog.info? 5).map (fun i=>(i.zero,i.size,i.bytes))=some (some (.int .u8 0),1,1):=by kernel_rfl
theorem tyBs:SliceTy Tryz.prog 28 5 1 1 (.int .u8 0):=.mk' Tryz.underlying28 infoU8 rfl (by decide)
def bytesOf(xs:List Nat):ByteArray:=strOfNums (xs.map (fun(d:Nat)=>(d:Int)))
theorem conv_bytes{P:Program}{w:World}{a:Option Addr}{n cap:Nat}{xs:List Nat}(h:Sl .u8 w a n cap xs){src e dst:TypeId}(hs:P.underlying src=some (.slice e))(he:P.underlying e=some (.int .u8))(hd:P.underlying dst=some .string):
  (convert src dst (.slice a n cap)).run P w = .ok (.string (bytesOf xs)) w:=by
 have hl:=h.len
 have h2:=h.2.1
 have h4:=h.2.2.2.1
 obtain⟨b,off,ha,hc⟩:=h.opened
 cases a with
 | none=>
  have:=h4 rfl
  obtain rfl:n=0:=by omega
  have hx:xs=[]:=List.eq_nil_of_length_eq_zero hl
  subst hx
  exact run_convert_bytes_nil w src e hs he 0 cap dst hd
 | some x=>
  rcases Nat.eq_zero_or_pos n with h0|h0
  ·subst h0
   have hx:xs=[]:=List.eq_nil_of_length_eq_zero hl
   subst hx
   have hld:=run_loadCells_list (P:=P) w x [] (fun j v hj=>by simp at hj)
   rw [run_convert_bytes_string w src dst e _ 0 cap hs he hd,run_bytesToString w x 0 cap [] hld]
   rfl
  ·have:=ha h0
   simp only [Option.some.injEq] at this
   subst this
   refine run_convert_bytes_arg w src e hs he b off n cap _ (by simpa using hl) (fun i hi=>?_) dst hd
   rw [hc i hi]
   simp [List.getElem?_eq_getElem (show i<xs.length by omega)]
theorem bytesOf_toList(xs:List Nat):(bytesOf xs).toList=xs.map (fun d=>UInt8.ofNat d):=by
 rw [ByteArray.toList_eq]
 simp [bytesOf,strOfNums,List.map_map]
theorem map_u8_inj{xs ys:List Nat}(hx:∀d∈xs,d<256)(hy:∀d∈ys,d<256)(h:xs.map (fun d=>UInt8.ofNat d)=ys.map (fun d=>UInt8.ofNat d)):xs=ys:=by
 induction xs generalizing ys with
 | nil=>cases ys with
  | nil=>rfl
  | cons y r=>simp at h
 | cons x r ih=>cases ys with
  | nil=>simp at h
  | cons y t=>
   simp only [List.map_cons,List.cons.injEq] at h
   have h1:=hx x (by simp)
   have h2:=hy y (by simp)
   have h3:x=y:=by
    have:=congrArg UInt8.toNat h.1
    simp at this
    omega
   rw [h3,ih (fun d hd=>hx d (by simp [hd])) (fun d hd=>hy d (by simp [hd])) h.2]
theorem bytesOf_eq{xs ys:List Nat}(hx:∀d∈xs,d<256)(hy:∀d∈ys,d<256):((bytesOf xs).toList == (bytesOf ys).toList)=decide (xs=ys):=by
 rw [bytesOf_toList,bytesOf_toList,Bool.eq_iff_iff,beq_iff_eq,decide_eq_true_eq]
 exact⟨map_u8_inj hx hy,fun h=>by rw [h]⟩
theorem same_walk(a a':Option Addr)(n cap m cap':Nat)(xs ys:List Nat)(hx:∀d∈xs,d<256)(hy:∀d∈ys,d<256)(w:World)(h:Sl .u8 w a n cap xs)(h':Sl .u8 w a' m cap' ys):
  Calls Tryz.prog 11 #[.slice a n cap,.slice a' m cap'] w fun e w'=>e = .returned (.bool (decide (xs=ys)))∧w=w':=by
 have c1:=conv_bytes h Tryz.underlying28 Tryz.underlying5 Tryz.underlying9
 have c2:=conv_bytes h' Tryz.underlying28 Tryz.underlying5 Tryz.underlying9
 have e:=hid (bytesOf_eq hx hy)
 clear h h'
 go_enter Tryz.func11,Tryz.ntmps11
 go_wp2
 go_ret
 exact⟨by rw [← e.out];rfl,rfl⟩
theorem same_self(a a':Option Addr)(n cap m cap':Nat)(xs:List Nat)(hx:∀d∈xs,d<256)(w:World)(h:Sl .u8 w a n cap xs)(h':Sl .u8 w a' m cap' xs):
  Calls Tryz.prog 11 #[.slice a n cap,.slice a' m cap'] w fun e w'=>e = .returned (.bool true)∧w=w':=by
 refine(same_walk a a' n cap m cap' xs xs hx hx w h h').mono ?_
 rintro e w' ⟨rfl,rfl⟩
 exact⟨by rw [decide_eq_true rfl],rfl⟩
end Go.Proofs.YtnbmpgballopeaaGreatDoor
/- What a slice of records (a number, bytes) reads as. -/
namespace Go.Proofs.YtnbmpgballopeaaGreatDoor
open Go.RowKit
structure LR where
 t:Nat
 a:Option Addr
 c:Nat
 v:List Nat
def LR.cells(l:LR):List Value:=[.int .u64 (l.t:Int),.slice l.a l.v.length l.c]
def LR.good(w:World)(l:LR):Prop:=l.t<18446744073709551616∧Sl .u8 w l.a l.v.length l.c l.v∧(∀d∈l.v,d<256)∧l.v.length≤140737488351232
def LR.pr(l:LR):Nat × List Nat:=(l.t,l.v)
def Recs(w:World)(a:Option Addr)(n cap:Nat)(ls:List LR):Prop:=Rd w 2 a n cap (ls.flatMap LR.cells)∧ls.length=n ∧ ∀l∈ls,l.good w
theorem LR.good.below{w w':World}{l:LR}(h:l.good w)(hb:Below w.heap.size w w'):l.good w':=⟨h.1,h.2.1.below hb,h.2.2⟩
theorem Recs.below{w w':World}{a:Option Addr}{n cap:Nat}{ls:List LR}(h:Recs w a n cap ls)(hb:Below w.heap.size w w'):Recs w' a n cap ls:=
 ⟨h.1.below hb,h.2.1,fun l hl=>(h.2.2 l hl).below hb⟩
theorem flat_get{ls:List LR}{j:Nat}{l:LR}(h:ls[j]? = some l):(ls.flatMap LR.cells)[j*2]? = some (.int .u64 (l.t:Int))∧(ls.flatMap LR.cells)[j*2+1]? = some (.slice l.a l.v.length l.c):=by
 induction ls generalizing j with
 | nil=>simp at h
 | cons x r ih=>
  cases j with
  | zero=>
   simp only [List.getElem?_cons_zero,Option.some.injEq] at h
   subst h
   exact⟨rfl,rfl⟩
  | succ j=>
   rw [List.getElem?_cons_succ] at h
   have:=ih h
   rw [show(j+1)*2=j*2+2 by omega]
   exact this
theorem Recs.cells{w:World}{a:Option Addr}{n cap j:Nat}{ls:List LR}{l:LR}(h:Recs w a n cap ls)(hj:ls[j]? = some l):
  ∃b off,a=some ⟨b,off,none⟩∧w.cell? ⟨b,off+j*2,none⟩=some (.int .u64 (l.t:Int))∧w.cell? ⟨b,off+j*2+1,none⟩=some (.slice l.a l.v.length l.c)∧l.good w:=by
 obtain⟨⟨_,_,_,_,b,off,ha,hc⟩,hl,hg⟩:=h
 have hjl:j<ls.length:=(List.getElem?_eq_some_iff.1 hj).1
 obtain⟨f1,f2⟩:=flat_get hj
 exact⟨b,off,ha (by omega),hc _ _ f1,by rw [Nat.add_assoc];exact hc _ _ f2,hg l (List.mem_of_getElem? hj)⟩
theorem get_some{α:Type}{ls:List α}{j n:Nat}(hl:ls.length=n)(h:j<n):∃l,ls[j]? = some l:=⟨ls[j]'(by omega),List.getElem?_eq_getElem (by omega)⟩
theorem take_succ_some{α:Type}{ls:List α}{j:Nat}{l:α}(h:ls[j]? = some l):ls.take (j+1)=ls.take j++[l]:=by
 rw [List.take_add_one,h];rfl
def BxR(w:World)(b:Nat)(t:Nat)(s:Value):Prop:=w.cell? ⟨b,0,none⟩=some (.int .u64 (t:Int))∧w.cell? ⟨b,1,none⟩=some s
theorem BxR.below{w w':World}{b t:Nat}{s:Value}(h:BxR w b t s)(hb:Below w.heap.size w w'):BxR w' b t s:=by
 have hlt:b<w.heap.size:=World.block_lt_of_cell? w _ h.1
 exact⟨(hb.cell (p:=⟨b,0,none⟩) hlt).trans h.1,(hb.cell (p:=⟨b,1,none⟩) hlt).trans h.2⟩
theorem BxR.new(w:World)(t:Nat)(s:Value)(e:TypeId):BxR (w.alloc (.cells #[.int .u64 (t:Int),s] e)) w.heap.size t s:=
 ⟨by rw [cell_of_row _ w.heap.size _ _ e (0,0) (heap_alloc_new w _)];rfl,by rw [cell_of_row _ w.heap.size _ _ e (0,0) (heap_alloc_new w _)];rfl⟩
end Go.Proofs.YtnbmpgballopeaaGreatDoor
/- Appends at an operation, and at a step of a region that draws its order. -/
namespace Go.Proofs.YtnbmpgballopeaaGreatDoor
open Go.RowKit
theorem wp_cat{P:Program}{w:World}{o:Oper}{a:Act}{K:Act→World→Prop}{Q:Exit→Act→World→Prop}(s x:Operand)(t:TypeId)
  (ho:o.op = .call { callee:=.builtin .append,args:=#[s,x],argTypes:=#[t,t] })
  {e:TypeId} {size bytes:Nat} {z:Value} (ty:SliceTy P t e size bytes z) (B:Nat) {v:Value} {n:Nat} {xs:List Value} (hown:w.ownsRow B e size v n xs) (hs:a.eval s=v)
  {ad:Option Addr} {m c:Nat} {news:List Value} (hx:a.eval x = .slice ad m c) (hrd:Rd w size ad m c news) (h1:∀u∈news,u.oneCell'=true) (hn:(n+m)*bytes≤140737488355328) (hn':n+m≤maxLen) (hB:B≤w.heap.size)
  (h:∀v' w',w'.ownsRow B e size v' (n+m) (xs++news)→w.grownBy w' v.ownBlock→(v'.ownBlock=v.ownBlock∨v'.ownBlock=some w.heap.size)→K (a.put o.dst v') w'):o.wp P a w K Q:=by
 obtain⟨i,ht,hi,hz,hsz,hb⟩:=ty.ex
 obtain⟨r1,r2,r3,r4,b,off,ha,hc⟩:=hrd
 cases ad with
 | none=>
  have hc0:=r4 rfl
  subst hc0
  obtain rfl:m=0:=by omega
  have hnil:news=[]:=List.eq_nil_of_length_eq_zero (by simpa using r1)
  subst hnil
  have hrun:=run_append_owned_none (P:=P) (w:=w) B t o.type e i size ht hi v n xs hown
  unfold Oper.wp
  simp [execOp,ho,resolve,invoke,builtin,hs,hx,hrun,Result.andThen]
  exact h v w (by simpa using hown) ⟨rfl,rfl,rfl,Nat.le_refl _,fun _ _ _=>rfl⟩ (.inl rfl)
 | some ad=>
  obtain⟨v',w',hr,h2,h3,_,h5⟩:=run_append_own_at (P:=P) w B t o.type e i z size bytes ht hi hz hsz hb ty.zs ty.pos v n xs hown ad m c news r1 (by
   intro j u hu
   have hm:0<m:=by
    rcases Nat.eq_zero_or_pos m with h0|h0
    ·subst h0
     have hnil:news=[]:=List.eq_nil_of_length_eq_zero (by simpa using r1)
     subst hnil
     simp at hu
    ·exact h0
   have:=ha hm
   simp only [Option.some.injEq] at this
   subst this
   have hadd:(⟨b,off,none⟩:Addr).add j=⟨b,off+j,none⟩:=by unfold Addr.add;split <;> simp_all
   rw [hadd]
   exact hc j u hu) h1 hn' hn hB
  unfold Oper.wp execOp
  simp only [ho,resolve,invoke,builtin,Sem.run_bind,Sem.run_pure,Result.andThen_ok,List.map_toArray,List.map_cons,List.map_nil,hs,hx,hr]
  exact h v' w' h2 h3 h5
theorem step_cat{P:Program}{w:World}{ops:Array Oper}{o:Oper}{a:Act}{K:Act→World→Prop}{Q:Exit→Act→World→Prop}{E:Prop}(hgd:o.guard=none)(s x:Operand)(t:TypeId)
  (ho:o.op = .call { callee:=.builtin .append,args:=#[s,x],argTypes:=#[t,t] })
  {e:TypeId} {size bytes:Nat} {z:Value} (ty:SliceTy P t e size bytes z) (B:Nat) {v:Value} {n:Nat} {xs:List Value} (hown:w.ownsRow B e size v n xs) (hs:a.eval s=v)
  {ad:Option Addr} {m c:Nat} {news:List Value} (hx:a.eval x = .slice ad m c) (hrd:Rd w size ad m c news) (h1:∀u∈news,u.oneCell'=true) (hn:(n+m)*bytes≤140737488355328) (hn':n+m≤maxLen) (hB:B≤w.heap.size)
  (h:∀v' w',w'.ownsRow B e size v' (n+m) (xs++news)→w.grownBy w' v.ownBlock→(v'.ownBlock=v.ownBlock∨v'.ownBlock=some w.heap.size)→K (a.put o.dst v') w'):
  if Region.wanted o (yielded ops a.tmps)=true then Oper.wp P o a w K Q else E:=by
 have hw:Region.wanted o (yielded ops a.tmps)=true:=by simp [Region.wanted,hgd]
 rw [if_pos hw]
 exact wp_cat s x t ho ty B hown hs hx hrd h1 hn hn' hB h
theorem rd_new1(Y:World)(v:Value)(T:TypeId):Rd (Y.alloc (.cells #[v] T)) 1 (some ⟨Y.heap.size,0,none⟩) 1 1 [v]:=by
 refine⟨rfl,Nat.le_refl _,by decide,(fun e=>by cases e),Y.heap.size,0,fun _=>rfl,fun j u hu=>?_⟩
 match j,hu with
 | 0,hu=>
  simp at hu
  subst hu
  rw [cell_of_row _ _ _ _ _ (0,0) (heap_alloc_new Y _)];rfl
 | j+1,hu=>simp at hu
end Go.Proofs.YtnbmpgballopeaaGreatDoor
/- Slices of records as values. -/
namespace Go.Proofs.YtnbmpgballopeaaGreatDoor
open Go.RowKit
theorem infoRec:(Tryz.prog.info? 82).map (fun i=>(i.zero,i.size,i.bytes))=some (some (.agg #[.int .u64 0,.slice none 0 0]),2,32):=by kernel_rfl
theorem tyRec:SliceTy Tryz.prog 84 82 2 32 (.agg #[.int .u64 0,.slice none 0 0]):=.mk' Tryz.underlying84 infoRec rfl (by decide)
def RecsV(w:World)(v:Value)(ls:List LR):Prop:=∃a c,v = .slice a ls.length c∧Recs w a ls.length c ls
theorem recs_lit'{w:World}{us:Array Value}{e:TypeId}{n:Nat}(ls:List LR)(hn:ls.length=n)(hu:us.toList=ls.flatMap LR.cells)(hz:us.size=n*2)(hm:n≤maxLen)(hg:∀l∈ls,l.good w):
  Recs (w.alloc (.cells us e)) (some ⟨w.heap.size,0,none⟩) n n ls:=by
 obtain⟨a',cap',he,hr⟩:=Rd.of_owns (own_new w us e (B:=w.heap.size) hz (Nat.le_refl _) hm)
 simp only [Value.slice.injEq,true_and] at he
 obtain⟨rfl,rfl⟩:=he
 rw [hu] at hr
 exact⟨hr,hn,fun l hl=>(hg l hl).below ((Below.refl _ _).alloc (Nat.le_refl _) _)⟩
end Go.Proofs.YtnbmpgballopeaaGreatDoor
/- Contracts of package asset: Fits; the walk of the statement AssetFits. -/
namespace Go.Proofs.YtnbmpgballopeaaGreatDoor
open Go.RowKit
def Bx(w:World)(b:Nat)(cs:List Value):Prop:=w.rangeAt b 0 cs
theorem Bx.cell{w:World}{b:Nat}{cs:List Value}(h:Bx w b cs){j:Nat}{v:Value}(hj:cs[j]? = some v):w.cell? ⟨b,j,none⟩=some v:=by
 have:=h j v hj
 rwa [Nat.zero_add] at this
theorem Bx.below{w w':World}{b:Nat}{cs:List Value}(h:Bx w b cs)(hb:Below w.heap.size w w'):Bx w' b cs:=by
 intro j v hj
 have:=h j v hj
 exact(hb.cell (World.block_lt_of_cell? w _ this)).trans this
end Go.Proofs.YtnbmpgballopeaaGreatDoor
/- Contracts of package asset: PutPoint, GetPoint. -/
namespace Go.Proofs.YtnbmpgballopeaaGreatDoor
open Go.RowKit
theorem rd_newN(Y:World)(us:Array Value)(T:TypeId){n:Nat}(hn:us.size=n)(hm:n≤maxLen):Rd (Y.alloc (.cells us T)) 1 (some ⟨Y.heap.size,0,none⟩) n n us.toList:=by
 obtain⟨a,c,he,hr⟩:=Rd.of_owns (own_new Y us T (size:=1) (n:=n) (B:=0) (by omega) (Nat.zero_le _) hm)
 simp only [Value.slice.injEq,true_and] at he
 obtain⟨rfl,rfl⟩:=he
 exact hr
theorem u8w{o:Nat}(h:o<256):IntKind.u8.wrap (o:Int)=(o:Int):=by simp [IntKind.wrap,IntKind.bits,IntKind.signed];omega
def ptv(tx:List Nat)(o:Nat):Array Value:=(nums .u8 tx++[Value.int .i64 (o:Int)]).toArray
def ptb(tx:List Nat)(o:Nat):List Nat:=tx++[0,0,0,o]
def PutRes(w:World)(bs:List Nat)(e:Ending)(w':World):Prop:=∃v,e = .returned v∧v ≠ .slice none 0 0∧w'.ownsRow w.heap.size 5 1 v bs.length (nums .u8 bs)∧Below w.heap.size w w'
theorem put_fin{w:World}{B:Nat}{v:Value}{tx:List Nat}{o:Nat}(ht:tx.length=32)(h:w.ownsRow B 5 1 v (0+32+4) ([]++nums .u8 tx ++ #[Value.int .u8 0,Value.int .u8 0,Value.int .u8 0,Value.int .u8 (o:Int)].toList)):
  v ≠ .slice none 0 0∧w.ownsRow B 5 1 v (ptb tx o).length (nums .u8 (ptb tx o)):=by
 have e:([]++nums .u8 tx ++ #[Value.int .u8 0,Value.int .u8 0,Value.int .u8 0,Value.int .u8 (o:Int)].toList)=nums .u8 (ptb tx o):=by simp [ptb,nums]
 have e2:(ptb tx o).length=0+32+4:=by simp [ptb,ht]
 rw [e] at h
 rw [e2]
 refine⟨fun hv=>?_,h⟩
 subst hv
 have h1:=h.1
 rcases h.2 with⟨_,h2⟩|⟨g,cap,cur,h2,_⟩
 ·omega
 ·simp at h2
end Go.Proofs.YtnbmpgballopeaaGreatDoor
/- Arrays of bytes as values; whether two are the same. -/
namespace Go.Proofs.YtnbmpgballopeaaGreatDoor
open Go.RowKit
open Extern.Stop (cell)
def hv(xs:List Nat):Value:=.agg (nums .u8 xs).toArray
theorem nums_cell{xs:List Nat}(h:∀d∈xs,d<256):nums .u8 xs=(xs.map (fun d=>UInt8.ofNat d)).map cell:=by
 rw [nums,List.map_map]
 apply List.map_congr_left
 intro d hd
 have:=h d hd
 simp only [Function.comp_apply,cell]
 congr 1
 simp
 omega
theorem szU8'(w:World):(sizeOf 5).run Tryz.prog w = .ok 1 w:=by
 have h:=infoU8
 cases hi:Tryz.prog.info? 5 with
 | none=>rw [hi] at h;cases h
 | some i=>
  rw [hi] at h
  simp only [Option.map_some,Option.some.injEq,Prod.mk.injEq] at h
  simp [sizeOf,typeInfo,hi,h.2.1]
theorem u8s_eq{xs ys:List Nat}(hx:∀d∈xs,d<256)(hy:∀d∈ys,d<256):((xs.map (fun d=>UInt8.ofNat d)) == (ys.map (fun d=>UInt8.ofNat d)))=decide (xs=ys):=by
 rw [Bool.eq_iff_iff,beq_iff_eq,decide_eq_true_eq]
 exact⟨map_u8_inj hx hy,fun h=>by rw [h]⟩
theorem run_eqIn_hv{t:TypeId}{n:Nat}(ht:Tryz.prog.underlying t=some (.array n 5))(w:World)(d:Nat){xs ys:List Nat}(lx:xs.length=n)(ly:ys.length=n)(hx:∀d∈xs,d<256)(hy:∀d∈ys,d<256):
  (Op.equalIn (d+2) t (hv xs) (hv ys)).run Tryz.prog w = .ok (decide (xs=ys)) w:=by
 unfold hv
 rw [nums_cell hx,nums_cell hy,run_equalIn_bytes w d t 5 n ht Tryz.underlying5 szU8' _ _ (by simpa using lx) (by simpa using ly),u8s_eq hx hy]
theorem run_neq_hv{t:TypeId}{n:Nat}(ht:Tryz.prog.underlying t=some (.array n 5))(w:World){xs ys:List Nat}(lx:xs.length=n)(ly:ys.length=n)(hx:∀d∈xs,d<256)(hy:∀d∈ys,d<256):
  (binOp .neq t (hv xs) (hv ys)).run Tryz.prog w = .ok (.bool (!decide (xs=ys))) w:=by
 unfold hv
 rw [run_neq_struct]
 have:=run_eqIn_hv ht w 9998 lx ly hx hy
 unfold hv at this
 rw [this]
 rfl
theorem guardH:Tryz.prog.eqGuardType Tryz.prog.depth 43=false:=by kernel_rfl
theorem infoH:(Tryz.prog.info? 43).map (·.size)=some 32:=by kernel_rfl
theorem guard_hv(xs ys:List Nat):∀(op:BinOp) (x y:Operand) (w:World),(eqGuard op 43 x y (hv xs) (hv ys)).run Tryz.prog w = .ok () w:=by
 intro op x y w
 exact run_eqGuard_agg w op 43 x y _ _ guardH
theorem neq_hv{xs ys:List Nat}(lx:xs.length=32)(ly:ys.length=32)(hx:∀d∈xs,d<256)(hy:∀d∈ys,d<256):∀w:World,(binOp .neq 43 (hv xs) (hv ys)).run Tryz.prog w = .ok (.bool (!decide (xs=ys))) w:=
 fun w=>run_neq_hv Tryz.underlying43 w lx ly hx hy
end Go.Proofs.YtnbmpgballopeaaGreatDoor
/- Slices of bytes cut in front, wherever they lie; the builtin copy into a block, all other blocks left alone. -/
namespace Go.Proofs.YtnbmpgballopeaaGreatDoor
open Go.RowKit
theorem szBs(w:World):(sizeOf (Tryz.prog.elem 28)).run Tryz.prog w = .ok 1 w:=by
 have h:=infoU8
 have e:Tryz.prog.elem 28=5:=by kernel_rfl
 rw [e]
 cases hi:Tryz.prog.info? 5 with
 | none=>rw [hi] at h;cases h
 | some i=>
  rw [hi] at h
  simp only [Option.map_some,Option.some.injEq,Prod.mk.injEq] at h
  simp [sizeOf,typeInfo,hi,h.2.1]
theorem undBs:Tryz.prog.underlying 28=some (.slice (Tryz.prog.elem 28)):=by kernel_rfl
def ApH(H:Nat)(a:Option Addr)(n:Nat):Prop:=0<n → ∀b off,a=some ⟨b,off,none⟩→b≠H
theorem Sl.cut{k:IntKind}{w:World}{a:Option Addr}{n cap m:Nat}{xs:List Nat}(h:Sl k w a n cap xs)(hm:m≤n):
  Sl k w (if cap=m then a else a.map (·.add (m*1))) (n - m) (cap - m) (xs.drop m) ∧ ∀H,ApH H a n→ApH H (if cap=m then a else a.map (·.add (m*1))) (n - m):=by
 have hl:=h.len
 obtain⟨_,h2,h3,h4,b,off,ha,hc⟩:=h
 by_cases h0:n=m
 ·subst h0
  have e:xs.drop n=[]:=List.drop_eq_nil_of_le (by omega)
  rw [e]
  refine⟨⟨by simp [nums],by omega,by omega,?_,0,0,by omega,by simp [nums]⟩,fun H _ h=>by omega⟩
  intro hn
  split at hn
  ·have:=h4 hn;omega
  ·cases a with
   | none=>have:=h4 rfl;omega
   | some a=>simp at hn
 ·obtain rfl:=ha (by omega)
  have hadd:(⟨b,off,none⟩:Addr).add (m*1)=⟨b,off+m,none⟩:=by unfold Addr.add;split <;> simp_all
  rw [if_neg (by omega)]
  simp only [Option.map_some,hadd]
  refine⟨⟨by simp;omega,by omega,by omega,(fun e=>by cases e),b,off+m,fun _=>rfl,fun j u hu=>?_⟩,fun H hH _ b' off' he=>?_⟩
  ·rw [nums,List.map_drop,List.getElem?_drop] at hu
   rw [Nat.add_assoc]
   exact hc _ _ hu
  ·simp only [Option.some.injEq,Addr.mk.injEq,and_true] at he
   exact hH (by omega) b' off (by rw [he.1])
theorem wpList_cutG{w w0:World}{ops:Array Oper}{rest:List Oper}{o:Oper}{a:Act}{Q:Exit→Act→World→Prop}(hg:o.guard=none)(x lo:Operand)(hop:o.op=Op.slice 28 x (some lo) none none)
  {ad:Option Addr} {n c m:Nat} {xs:List Nat} (hS:Sl .u8 w0 ad n c xs) (hx:a.eval x = .slice ad n c) (hlo:a.eval lo = .int .i64 (m:Int)) (hm:m≤n)
  (h:∀ad',Sl .u8 w0 ad' (n - m) (c - m) (xs.drop m)→(∀H,ApH H ad n→ApH H ad' (n - m))→wpList Tryz.prog ops Q rest (a.put o.dst (.slice ad' (n - m) (c - m))) w):wpList Tryz.prog ops Q (o::rest) a w:=by
 refine wpList_plain hg fun K hK=>?_
 have hc:=hS.2.1
 have hs:(Instr.sliceAt 28 (.slice ad n c) (some (.int .i64 (m:Int))) none none).run Tryz.prog w = .ok (.slice (if c=m then ad else ad.map (·.add (m*1))) (n - m) (c - m)) w:=by
  rw [run_sliceAt_slice w _ _ _ _ _ undBs,run_slice_any w _ _ _ _ undBs]
  simp [Instr.sliceBounds,run_sliceBound w,szBs,Result.andThen,sliced,hm]
 obtain⟨h1,h2⟩:=Sl.cut hS hm
 unfold Oper.wp execOp
 simp only [hop,hx,hlo,Option.map_some,Option.map_none,hs,Sem.run_bind,Result.andThen]
 exact hK _ _ (h _ h1 h2)
theorem szU8m:(Tryz.prog.info? 5).map (·.size)=some 1:=by
 have h:=infoU8
 cases hi:Tryz.prog.info? 5 with
 | none=>rw [hi] at h;cases h
 | some i=>
  rw [hi] at h
  simp only [Option.map_some,Option.some.injEq,Prod.mk.injEq] at h
  simp [h.2.1]
theorem splice_get{α:Type}(L:List α)(off:Nat)(cs:List α)(h:off+cs.length≤L.length)(j:Nat):(splice L off cs)[j]? = if j<off then L[j]? else if j<off+cs.length then cs[j - off]? else L[j]?:=by
 unfold splice
 by_cases h1:j<off
 ·rw [if_pos h1,List.getElem?_append_left (by rw [List.length_take];omega),List.getElem?_take,if_pos h1]
 ·rw [if_neg h1,List.getElem?_append_right (by rw [List.length_take];omega),List.length_take,Nat.min_eq_left (by omega)]
  by_cases h2:j<off+cs.length
  ·rw [if_pos h2,List.getElem?_append_left (by omega)]
  ·rw [if_neg h2,List.getElem?_append_right (by omega),List.getElem?_drop]
   congr 1
   omega
theorem copy_far{P:Program}{w:World}{o:Oper}{a:Act}{K:Act→World→Prop}{Q:Exit→Act→World→Prop}(d s:Operand)(dT sT:TypeId)
  (ho:o.op = .call { callee:=.builtin .copy,args:=#[d,s],argTypes:=#[dT,sT] }) {elem:TypeId} (hu:P.underlying dT=some (.slice elem)) (hsz:(P.info? elem).map (·.size)=some 1)
  {g off dLen dCap sLen sCap:Nat} {ad:Option Addr} (hd:a.eval d = .slice (some ⟨g,off,none⟩) dLen dCap) (hs:a.eval s = .slice ad sLen sCap)
  {cur:Array Value} {t:TypeId} (hg:w.heap[g]? = some (.cells cur t (0,0))) {cs:List Value} (hr:Rd w 1 ad sLen sCap cs) (h1:∀v∈cs,v.oneCell'=true) (hfit:off+dLen≤cur.size)
  (h:∀w',w'.heap[g]? = some (.cells (splice cur.toList off (cs.take (Nat.min sLen dLen))).toArray t (0,0))→Far g w w'→K (a.put o.dst (.int .i64 ((Nat.min sLen dLen:Nat):Int))) w'):Oper.wp P o a w K Q:=by
 obtain⟨r1,r2,r3,r4,b,off',ha,hc⟩:=hr
 have hlen:(cs.take (Nat.min sLen dLen)).length=Nat.min sLen dLen:=by
  have:Nat.min sLen dLen≤sLen:=Nat.min_le_left _ _
  rw [List.length_take];omega
 have hmd:Nat.min sLen dLen≤dLen:=Nat.min_le_right _ _
 have hms:Nat.min sLen dLen≤sLen:=Nat.min_le_left _ _
 by_cases h0:Nat.min sLen dLen=0
 ·have hrun:=run_copy_none (P:=P) w dT sT o.type elem (some ⟨g,off,none⟩) ad dLen dCap sLen sCap hu hsz h0
  unfold Oper.wp
  simp [execOp,ho,resolve,invoke,builtin,hd,hs,hrun,Result.andThen]
  have:=h w (by rw [h0];simpa [splice] using hg) (Far.refl g w)
  rw [h0] at this
  exact this
 ·obtain rfl:=ha (by omega)
  have hrun:=run_copy_row (P:=P) w dT sT o.type elem g off dLen dCap ⟨b,off',none⟩ sLen sCap cur t (cs.take (Nat.min sLen dLen)) hu hsz hg hlen (fun j v hj=>by
   have hadd:(⟨b,off',none⟩:Addr).add j=⟨b,off'+j,none⟩:=by unfold Addr.add;split <;> simp_all
   rw [hadd]
   rw [List.getElem?_take] at hj
   split at hj
   ·exact hc j v hj
   ·cases hj) (by rw [hlen];omega) (fun v hv=>h1 v (List.mem_of_mem_take hv))
  rw [hlen] at hrun
  have hf:=h (w.setRow g (cur.toList.take off++cs.take (Nat.min sLen dLen)++cur.toList.drop (off+Nat.min sLen dLen)).toArray)
   (by rw [setRow_heap w g _ _ t _ hg,splice,hlen,List.append_assoc]) ⟨rfl,rfl,rfl,by simp [World.setRow],fun k _ hk=>setRow_other w g k _ (by simpa using hk)⟩
  clear h hlen hmd hms h0
  generalize cs.take (Nat.min sLen dLen)=ds at *
  generalize Nat.min sLen dLen=M at *
  unfold Oper.wp
  simp only [execOp,ho,resolve,invoke,builtin,List.map_toArray,List.map_cons,List.map_nil,hd,hs]
  simp [hrun,Result.andThen]
  simp only [List.append_assoc] at hf
  exact hf
theorem wpList_copyF{P:Program}{w:World}{ops:Array Oper}{rest:List Oper}{o:Oper}{a:Act}{Q:Exit→Act→World→Prop}(hgd:o.guard=none)(d s:Operand)(dT sT:TypeId)
  (ho:o.op = .call { callee:=.builtin .copy,args:=#[d,s],argTypes:=#[dT,sT] }) {elem:TypeId} (hu:P.underlying dT=some (.slice elem)) (hsz:(P.info? elem).map (·.size)=some 1)
  {g off dLen dCap sLen sCap:Nat} {ad:Option Addr} (hd:a.eval d = .slice (some ⟨g,off,none⟩) dLen dCap) (hs:a.eval s = .slice ad sLen sCap)
  {cur:Array Value} {t:TypeId} (hg:w.heap[g]? = some (.cells cur t (0,0))) {cs:List Value} (hr:Rd w 1 ad sLen sCap cs) (h1:∀v∈cs,v.oneCell'=true) (hfit:off+dLen≤cur.size)
  (h:∀w',w'.heap[g]? = some (.cells (splice cur.toList off (cs.take (Nat.min sLen dLen))).toArray t (0,0))→Far g w w'→wpList P ops Q rest (a.put o.dst (.int .i64 ((Nat.min sLen dLen:Nat):Int))) w'):wpList P ops Q (o::rest) a w:=
 wpList_plain hgd fun _ hK=>copy_far d s dT sT ho hu hsz hd hs hg hr h1 hfit fun w' h2 h3=>hK _ _ (h w' h2 h3)
theorem step_copyF{P:Program}{ops:Array Oper}{o:Oper}{a:Act}{w:World}{K:Act→World→Prop}{Q:Exit→Act→World→Prop}{E:Prop}(hgd:o.guard=none)(d s:Operand)(dT sT:TypeId)
  (ho:o.op = .call { callee:=.builtin .copy,args:=#[d,s],argTypes:=#[dT,sT] }) {elem:TypeId} (hu:P.underlying dT=some (.slice elem)) (hsz:(P.info? elem).map (·.size)=some 1)
  {g off dLen dCap sLen sCap:Nat} {ad:Option Addr} (hd:a.eval d = .slice (some ⟨g,off,none⟩) dLen dCap) (hs:a.eval s = .slice ad sLen sCap)
  {cur:Array Value} {t:TypeId} (hg:w.heap[g]? = some (.cells cur t (0,0))) {cs:List Value} (hr:Rd w 1 ad sLen sCap cs) (h1:∀v∈cs,v.oneCell'=true) (hfit:off+dLen≤cur.size)
  (h:∀w',w'.heap[g]? = some (.cells (splice cur.toList off (cs.take (Nat.min sLen dLen))).toArray t (0,0))→Far g w w'→K (a.put o.dst (.int .i64 ((Nat.min sLen dLen:Nat):Int))) w'):
  if Region.wanted o (yielded ops a.tmps)=true then Oper.wp P o a w K Q else E:=by
 have hw:Region.wanted o (yielded ops a.tmps)=true:=by simp [Region.wanted,hgd]
 rw [if_pos hw]
 exact copy_far d s dT sT ho hu hsz hd hs hg hr h1 hfit h
end Go.Proofs.YtnbmpgballopeaaGreatDoor
/- What a slice of slices of bytes reads as. -/
namespace Go.Proofs.YtnbmpgballopeaaGreatDoor
open Go.RowKit
structure BS where
 a:Option Addr
 c:Nat
 v:List Nat
def BS.cells(l:BS):List Value:=[.slice l.a l.v.length l.c]
def BS.good(w:World)(l:BS):Prop:=Sl .u8 w l.a l.v.length l.c l.v∧(∀d∈l.v,d<256)∧l.v.length≤140737488351232
def Parts(w:World)(a:Option Addr)(n cap:Nat)(ls:List BS):Prop:=Rd w 1 a n cap (ls.flatMap BS.cells)∧ls.length=n ∧ ∀l∈ls,l.good w
def flat(ls:List BS):List Nat:=ls.flatMap BS.v
theorem BS.good.below{w w':World}{l:BS}(h:l.good w)(hb:Below w.heap.size w w'):l.good w':=⟨h.1.below hb,h.2⟩
theorem Parts.below{w w':World}{a:Option Addr}{n cap:Nat}{ls:List BS}(h:Parts w a n cap ls)(hb:Below w.heap.size w w'):Parts w' a n cap ls:=
 ⟨h.1.below hb,h.2.1,fun l hl=>(h.2.2 l hl).below hb⟩
theorem bflat_eq(r:List BS):r.flatMap BS.cells=r.map (fun l=>Value.slice l.a l.v.length l.c):=by
 induction r with
 | nil=>rfl
 | cons x r ih=>simp only [List.flatMap_cons,List.map_cons,BS.cells,ih];rfl
theorem bflat_get{ls:List BS}{j:Nat}{l:BS}(h:ls[j]? = some l):(ls.flatMap BS.cells)[j]? = some (.slice l.a l.v.length l.c):=by
 rw [bflat_eq,List.getElem?_map,h];rfl
theorem Parts.cells{w:World}{a:Option Addr}{n cap j:Nat}{ls:List BS}{l:BS}(h:Parts w a n cap ls)(hj:ls[j]? = some l):
  ∃b off,a=some ⟨b,off,none⟩∧w.cell? ⟨b,off+j,none⟩=some (.slice l.a l.v.length l.c)∧l.good w:=by
 obtain⟨⟨_,_,_,_,b,off,ha,hc⟩,hl,hg⟩:=h
 have hjl:j<ls.length:=(List.getElem?_eq_some_iff.1 hj).1
 exact⟨b,off,ha (by omega),hc _ _ (bflat_get hj),hg l (List.mem_of_getElem? hj)⟩
theorem ApH.old{k:IntKind}{w:World}{a:Option Addr}{n cap H:Nat}{xs:List Nat}(h:Sl k w a n cap xs)(hH:w.heap.size≤H):ApH H a n:=by
 intro hn b off ha hb
 obtain⟨b',off',ha',hc⟩:=h.opened
 have:=ha' hn
 rw [ha] at this
 simp only [Option.some.injEq,Addr.mk.injEq,and_true] at this
 obtain⟨rfl,rfl⟩:=this
 have:=World.block_lt_of_cell? w _ (hc 0 hn)
 simp at this
 omega
theorem bget_some{α:Type}{ls:List α}{j n:Nat}(hl:ls.length=n)(h:j<n):∃l,ls[j]? = some l:=⟨ls[j]'(by omega),List.getElem?_eq_getElem (by omega)⟩
theorem flat_take_succ{ls:List BS}{j:Nat}{l:BS}(h:ls[j]? = some l):flat (ls.take (j+1))=flat (ls.take j)++l.v:=by
 unfold flat
 rw [List.take_add_one,h,List.flatMap_append]
 simp
theorem flat_take_le(ls:List BS)(j:Nat):(flat (ls.take j)).length≤(flat ls).length:=by
 unfold flat
 conv=>rhs;rw [← List.take_append_drop j ls,List.flatMap_append,List.length_append]
 omega
theorem flat_lt{ls:List BS}(h:∀l∈ls,∀d∈l.v,d<256):∀d∈flat ls,d<256:=by
 intro d hd
 obtain⟨l,hl,hd⟩:=List.mem_flatMap.1 hd
 exact h l hl d hd
end Go.Proofs.YtnbmpgballopeaaGreatDoor

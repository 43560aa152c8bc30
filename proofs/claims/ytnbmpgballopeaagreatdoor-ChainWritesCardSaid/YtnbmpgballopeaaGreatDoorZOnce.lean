/- What a slice of numbers reads as; small facts that the walks want. -/
import Derived.Test.YtnbmpgballopeaaGreatDoorChecked
import Derived.WalkKit
import Derived.WalkSpells
import Derived.WalkLawsBesides
import Derived.Deep.QuietTactic
import Derived.BigQuiet
import Derived.Laws.AppendOwnNone
import Derived.RegionTactic
import Derived.BigRegion
import Derived.Tactics
import Derived.Tactics2
import Derived.Defers
import Derived.Laws.Pointers
import Derived.Laws.LoneSync
import Derived.RegionCalls
import Derived.ChangeAlike
import Derived.Laws.NewBlocks
namespace Go.Proofs.YtnbmpgballopeaaGreatDoor
open Go.RowKit
theorem hid{p:Prop}(h:p):Hid p:=h
def Qt(w w':World):Prop:=∃q,w'=w.drewN q
theorem Qt.refl(w:World):Qt w w:=⟨0,rfl⟩
theorem Qt.dN{w v:World}(h:Qt w v)(n:Nat):Qt w (v.drewN n):=by obtain⟨q,rfl⟩:=h;exact⟨q+n,World.drewN_drewN _ _ _⟩
theorem Qt.d{w v:World}(h:Qt w v):Qt w v.drew:=h.dN 1
theorem Qt.trans{u v w:World}(h:Qt u v)(k:Qt v w):Qt u w:=by obtain⟨q,rfl⟩:=k;exact h.dN q
theorem Qt.below{w w':World}(h:Qt w w')(B:Nat):Below B w w':=by obtain⟨q,rfl⟩:=h;exact below_drewN (Below.refl _ _) q
theorem quiet_same{P:Program}{f:FuncId}{args:Array Value}{w:World}{n:Nat}{v:Value}
  (h:Calls P f args (w.drewN n) fun e w'=>e = .returned v∧w.drewN n=w'):Calls P f args (w.drewN n) fun e w''=>e = .returned v ∧ ∃m,w''=w.drewN m:=
 h.mono fun _ _ ⟨he,hm⟩=>⟨he,n,hm.symm⟩
theorem bstep{u v w:World}(h:Below u.heap.size u v)(k:Below v.heap.size v w):Below u.heap.size u w:=h.trans (k.mono h.size)
def Rd(w:World)(size:Nat)(a:Option Addr)(n cap:Nat)(news:List Value):Prop:=
 news.length=n*size∧n≤cap∧cap≤maxLen∧(a=none→cap=0) ∧ ∃b off,(0<n→a=some ⟨b,off,none⟩) ∧ ∀j u,news[j]? = some u→w.cell? ⟨b,off+j,none⟩=some u
def RdV(w:World)(size:Nat)(v:Value)(news:List Value):Prop:=∃a n cap,v = .slice a n cap∧Rd w size a n cap news
def nums(k:IntKind)(xs:List Nat):List Value:=xs.map (fun(d:Nat)=>Value.int k (d:Int))
@[simp] theorem nums_length(k:IntKind)(xs:List Nat):(nums k xs).length=xs.length:=by simp [nums]
theorem nums_snoc(k:IntKind){xs:List Nat}{z:Int}{d:Nat}(h:z=(d:Int)):nums k xs++[Value.int k z]=nums k (xs++[d]):=by subst h;simp [nums]
theorem nums_append(k:IntKind)(xs ys:List Nat):nums k xs++nums k ys=nums k (xs++ys):=by simp [nums]
theorem nums_get(k:IntKind){xs:List Nat}{j:Nat}(h:j<xs.length):(nums k xs)[j]? = some (.int k ((xs.getD j 0:Nat):Int)):=by simp [nums,List.getElem?_eq_getElem h]
theorem nums_replicate(k:IntKind)(n:Nat):nums k (List.replicate n 0)=List.replicate n (.int k 0):=by simp [nums]
def Sl(k:IntKind)(w:World)(a:Option Addr)(n cap:Nat)(xs:List Nat):Prop:=Rd w 1 a n cap (nums k xs)
def SlV(k:IntKind)(w:World)(v:Value)(xs:List Nat):Prop:=∃a cap,v = .slice a xs.length cap∧Sl k w a xs.length cap xs
theorem Sl.len{k:IntKind}{w:World}{a:Option Addr}{n cap:Nat}{xs:List Nat}(h:Sl k w a n cap xs):xs.length=n:=by have:=h.1;simpa using this
theorem Sl.opened{k:IntKind}{w:World}{a:Option Addr}{n cap:Nat}{xs:List Nat}(h:Sl k w a n cap xs):
  ∃b off,(0<n→a=some ⟨b,off,none⟩) ∧ ∀j,j<n→w.cell? ⟨b,off+j,none⟩=some (.int k ((xs.getD j 0:Nat):Int)):=by
 have hl:=h.len
 obtain⟨_,_,_,_,b,off,ha,hc⟩:=h
 exact⟨b,off,ha,fun j hj=>hc j _ (nums_get k (by omega))⟩
theorem Rd.below{w w':World}{size:Nat}{a:Option Addr}{n cap:Nat}{xs:List Value}(h:Rd w size a n cap xs)(hb:Below w.heap.size w w'):Rd w' size a n cap xs:=by
 obtain⟨h1,h2,h3,h4,b,off,ha,hc⟩:=h
 refine⟨h1,h2,h3,h4,b,off,ha,fun j u hu=>?_⟩
 have:=hc j u hu
 rw [hb.cell (World.block_lt_of_cell? w _ this)]
 exact this
theorem Sl.below{k:IntKind}{w w':World}{a:Option Addr}{n cap:Nat}{xs:List Nat}(h:Sl k w a n cap xs)(hb:Below w.heap.size w w'):Sl k w' a n cap xs:=Rd.below h hb
theorem SlV.below{k:IntKind}{w w':World}{v:Value}{xs:List Nat}(h:SlV k w v xs)(hb:Below w.heap.size w w'):SlV k w' v xs:=by
 obtain⟨a,cap,rfl,h1⟩:=h
 exact⟨a,cap,rfl,h1.below hb⟩
theorem RdV.below{w w':World}{size:Nat}{v:Value}{xs:List Value}(h:RdV w size v xs)(hb:Below w.heap.size w w'):RdV w' size v xs:=by
 obtain⟨a,n,cap,rfl,h1⟩:=h
 exact⟨a,n,cap,rfl,h1.below hb⟩
theorem Sl.toV{k:IntKind}{w:World}{a:Option Addr}{n cap:Nat}{xs:List Nat}(h:Sl k w a n cap xs):SlV k w (.slice a n cap) xs:=⟨a,cap,by rw [h.len],by rw [h.len];exact h⟩
theorem Rd.of_owns{w:World}{B:Nat}{e:TypeId}{size:Nat}{v:Value}{n:Nat}{xs:List Value}(h:w.ownsRow B e size v n xs):∃a cap,v = .slice a n cap∧Rd w size a n cap xs:=by
 rcases h.2 with⟨rfl,rfl⟩|⟨g,cap,cur,rfl,_,hg,hn,hm,hs,ht⟩
 ·have:xs=[]:=List.eq_nil_of_length_eq_zero (by simpa using h.1)
  subst this
  exact⟨none,0,rfl,by simp,by simp,by simp,fun _=>rfl,0,0,by simp,by simp⟩
 ·refine⟨_,cap,rfl,h.1,hn,hm,(fun e=>by cases e),g,0,fun _=>rfl,fun j u hj=>?_⟩
  have:=h.cells (g:=g) rfl j u hj
  have hadd:(⟨g,0,none⟩:Addr).add j=⟨g,j,none⟩:=by unfold Addr.add;split <;> simp_all
  rw [hadd] at this
  simpa using this
theorem SlV.of_owns{k:IntKind}{w:World}{B:Nat}{e:TypeId}{v:Value}{n:Nat}{xs:List Nat}(h:w.ownsRow B e 1 v n (nums k xs)):SlV k w v xs:=by
 have hl:xs.length=n:=by have:=h.1;simpa using this
 subst hl
 obtain⟨a,cap,rfl,hr⟩:=Rd.of_owns h
 exact⟨a,cap,rfl,hr⟩
theorem Sl.nilS(k:IntKind)(w:World){a:Option Addr}{cap:Nat}(h:cap≤maxLen)(h':a=none→cap=0):Sl k w a 0 cap []:=⟨rfl,by omega,h,h',0,0,by simp,by simp [nums]⟩
theorem Sl.take{k:IntKind}{w:World}{a:Option Addr}{n cap m:Nat}{xs:List Nat}(h:Sl k w a n cap xs)(hm:m≤n):Sl k w a m cap (xs.take m):=by
 have hl:=h.len
 obtain⟨_,h2,h3,h4,b,off,ha,hc⟩:=h
 refine⟨by simp;omega,by omega,h3,h4,b,off,fun h=>ha (by omega),fun j u hu=>hc j u ?_⟩
 rw [nums,List.map_take,List.getElem?_take] at hu
 split at hu
 ·exact hu
 ·cases hu
theorem own_new(w:World)(us:Array Value)(e:TypeId){size n B:Nat}(hn:us.size=n*size)(hB:B≤w.heap.size)(hm:n≤maxLen):(w.alloc (.cells us e)).ownsRow B e size (.slice (some ⟨w.heap.size,0,none⟩) n n) n us.toList:=
 ⟨by simpa using hn,.inr ⟨w.heap.size,n,us,rfl,hB,heap_alloc_new w _,Nat.le_refl _,hm,hn,List.take_of_length_le (by rw [Array.length_toList,hn];exact Nat.le_refl _)⟩⟩
theorem sl_of_own{k:IntKind}{e:TypeId}{w:World}{B:Nat}{a:Option Addr}{n cap:Nat}{os:List Nat}(h:w.ownsRow B e 1 (.slice a n cap) n (nums k os)):Sl k w a n cap os:=by
 obtain⟨a',cap',he,hr⟩:=Rd.of_owns h
 simp only [Value.slice.injEq,true_and] at he
 obtain⟨rfl,rfl⟩:=he
 exact hr
theorem own_lit(k:IntKind)(w:World)(us:Array Value)(e:TypeId){n B:Nat}(xs:List Nat)(hn:us.size=n)(hus:us.toList=nums k xs)(hB:B≤w.heap.size)(hm:n≤maxLen):(w.alloc (.cells us e)).ownsRow B e 1 (.slice (some ⟨w.heap.size,0,none⟩) n n) n (nums k xs):=by
 rw [← hus];exact own_new w us e (by omega) hB hm
theorem own_snoc{k:IntKind}{e:TypeId}{w:World}{B:Nat}{v:Value}{xs:List Nat}{z:Int}{d:Nat}(h:w.ownsRow B e 1 v (xs.length+1) (nums k xs++[Value.int k z]))(hz:z=(d:Int)):w.ownsRow B e 1 v (xs++[d]).length (nums k (xs++[d])):=by
 rw [nums_snoc k hz] at h;simpa using h
theorem own_cell{k:IntKind}{e:TypeId}{w:World}{B:Nat}{g n cap:Nat}{os:List Nat}(h:w.ownsRow B e 1 (.slice (some ⟨g,0,none⟩) n cap) n (nums k os))(j:Nat)(hj:j<n):w.cell? ⟨g,j,none⟩=some (.int k ((os.getD j 0:Nat):Int)):=by
 have hl:os.length=n:=by have:=h.1;simpa using this
 rw [h.cellAt j (by omega)]
 exact nums_get k (by omega)
theorem own_store{k:IntKind}{e:TypeId}{w:World}{B:Nat}{g n cap:Nat}{os:List Nat}(h:w.ownsRow B e 1 (.slice (some ⟨g,0,none⟩) n cap) n (nums k os))(j:Nat){z:Int}{d:Nat}(hz:z=(d:Int)):
  (w.setCell ⟨g,j,none⟩ (.int k z)).ownsRow B e 1 (.slice (some ⟨g,0,none⟩) n cap) n (nums k (os.set j d))∧Below B w (w.setCell ⟨g,j,none⟩ (.int k z)):=by
 subst hz
 have:=h.stored j (.int k (d:Int))
 refine⟨by simpa [nums,List.map_set] using this.1,(Below.refl B w).setCell ?_ _⟩
 exact(h.lt g rfl).1
structure SliceTy (P:Program) (t e:TypeId) (size bytes:Nat) (z:Value):Prop where
 ex:∃i,P.underlying t=some (.slice e)∧P.info? e=some i∧i.zero=some z∧i.size=size∧i.bytes=bytes
 zs:z.cells.size=size
 pos:0<size
theorem SliceTy.mk'{P:Program}{t e:TypeId}{z:Value}{size bytes:Nat}(ht:P.underlying t=some (.slice e))(h:(P.info? e).map (fun i=>(i.zero,i.size,i.bytes))=some (some z,size,bytes))(zs:z.cells.size=size)(pos:0<size):SliceTy P t e size bytes z:=by
 obtain⟨i,h1,h2,h3,h4⟩:=info_parts h
 exact⟨⟨i,ht,h1,h2,h3,h4⟩,zs,pos⟩
theorem cells_new(w:World)(us:Array Value)(e:TypeId):∀j u,us.toList[j]? = some u→(w.alloc (.cells us e)).cell? ((⟨w.heap.size,0,none⟩:Addr).add j)=some u:=by
 intro j u hu
 have hadd:(⟨w.heap.size,0,none⟩:Addr).add j=⟨w.heap.size,j,none⟩:=by unfold Addr.add;split <;> simp_all
 rw [hadd,cell_of_row (w.alloc (.cells us e)) w.heap.size j us e (0,0) (heap_alloc_new w _)]
 simpa using hu
theorem wpList_push{P:Program}{ops:Array Oper}{rest:List Oper}{o:Oper}{a:Act}{Q:Exit→Act→World→Prop}{w:World}(hgd:o.guard=none)(s x:Operand)(t:TypeId)
  (ho:o.op = .call { callee:=.builtin .append,args:=#[s,x],argTypes:=#[t,t] })
  {e:TypeId} {size bytes:Nat} {z:Value} (ty:SliceTy P t e size bytes z) (B:Nat) {v:Value} {n:Nat} {xs:List Value} (hown:w.ownsRow B e size v n xs) (hs:a.eval s=v)
  {us:Array Value} {et:TypeId} (hx:a.eval x = .slice (some ⟨w.heap.size,0,none⟩) 1 1) (hl:us.size=size) (h1:us.toList.all Value.oneCell'=true) (hn:n<4294967296) (hby:bytes≤16384) (hB:B≤w.heap.size)
  (h:∀v' w',w'.ownsRow B e size v' (n+1) (xs++us.toList)→Below B w w'→w.heap.size<w'.heap.size→v' ≠ .slice none 0 0→wpList P ops Q rest (a.put o.dst v') w'):wpList P ops Q (o::rest) a (w.alloc (.cells us et)):=by
 obtain⟨i,ht,hi,hz,hsz,hb⟩:=ty.ex
 refine wpList_append_own _ hgd s x t ho B e i z size bytes ht hi hz hsz hb ty.zs ty.pos v n xs hs (hown.alloc _) ⟨w.heap.size,0,none⟩ 1 1 us.toList hx (by simp [hl]) (cells_new w us et) (fun u hu=>List.all_eq_true.1 h1 u hu) ?_ ?_ (by simp;omega) ?_
 ·unfold maxLen;omega
 ·have:(n+1)*bytes≤4294967296*16384:=Nat.mul_le_mul (by omega) hby
  omega
 ·intro v' w' h2 h3 h4
  have hsz:=h3.size
  simp at hsz
  refine h v' w' h2 ?_ (by omega) (fun hv=>by have:=h4.1 hv;simp at this)
  exact((Below.refl B w).alloc hB _).grown h3 (by simp;omega) (fun k hk=>(hown.lt k hk).1)
theorem madeCells_one(z:Value)(hz:z.cells = #[z])(N:Nat):(madeCells z.cells (N*1)).toList=List.replicate N z:=by
 rw [hz,Nat.mul_one]
 simp [madeCells,List.eq_replicate_iff,Nat.mod_one]
theorem wpList_mk{P:Program}{w:World}{ops:Array Oper}{rest:List Oper}{o:Oper}{a:Act}{Q:Exit→Act→World→Prop}(hg:o.guard=none)(l c:Operand)(t:TypeId)(hop:o.op=Op.makeSlice t l c)
  {e:TypeId} {bytes:Nat} {z:Value} (ty:SliceTy P t e 1 bytes z) (hz1:z.cells = #[z]) (B N:Nat) {kl kc:IntKind} {L C:Int} (hl:a.eval l = .int kl L) (hc:a.eval c = .int kc C) (hL:L=(N:Int)) (hC:C=(N:Int))
  (hN:N<4294967296) (hby:bytes≤16384) (hB:B≤w.heap.size)
  (hK:∀w',w'.ownsRow B e 1 (.slice (some ⟨w.heap.size,0,none⟩) N N) N (List.replicate N z)→Below B w w'→w.heap.size<w'.heap.size→wpList P ops Q rest (a.put o.dst (.slice (some ⟨w.heap.size,0,none⟩) N N)) w'):
  wpList P ops Q (o::rest) a w:=by
 obtain⟨i,ht,hi,hz,hsz,hb⟩:=ty.ex
 refine wpList_make_full w hg l c t hop B e i z 1 ht hi hz hsz kl kc L C N hl hc hL hC ?_ ?_ hB ?_
 ·rw [hb]
  have:bytes*N≤16384*4294967296:=Nat.mul_le_mul hby (by omega)
  omega
 ·unfold maxLen;omega
 ·intro w' h1 h2
  rw [madeCells_one z hz1] at h1
  exact hK w' h1 ((Below.refl B w).grown h2 hB (fun k hk=>by cases hk)) ((h1.lt _ rfl).2)
theorem wpList_cat{P:Program}{ops:Array Oper}{rest:List Oper}{o:Oper}{a:Act}{Q:Exit→Act→World→Prop}{w:World}(hgd:o.guard=none)(s x:Operand)(t:TypeId)
  (ho:o.op = .call { callee:=.builtin .append,args:=#[s,x],argTypes:=#[t,t] })
  {e:TypeId} {size bytes:Nat} {z:Value} (ty:SliceTy P t e size bytes z) (B:Nat) {v:Value} {n:Nat} {xs:List Value} (hown:w.ownsRow B e size v n xs) (hs:a.eval s=v)
  {ad:Option Addr} {m c:Nat} {news:List Value} (hx:a.eval x = .slice ad m c) (hrd:Rd w size ad m c news) (h1:∀u∈news,u.oneCell'=true) (hn:(n+m)*bytes≤140737488355328) (hn':n+m≤maxLen) (hB:B≤w.heap.size)
  (h:∀v' w',w'.ownsRow B e size v' (n+m) (xs++news)→Below B w w'→w.heap.size≤w'.heap.size→(v ≠ .slice none 0 0→v' ≠ .slice none 0 0)→wpList P ops Q rest (a.put o.dst v') w'):wpList P ops Q (o::rest) a w:=by
 obtain⟨i,ht,hi,hz,hsz,hb⟩:=ty.ex
 obtain⟨r1,r2,r3,r4,b,off,ha,hc⟩:=hrd
 cases ad with
 | none=>
  have hc0:=r4 rfl
  subst hc0
  obtain rfl:m=0:=by omega
  have hnil:news=[]:=List.eq_nil_of_length_eq_zero (by simpa using r1)
  subst hnil
  refine wpList_append_own_none hgd s x t ho B e i size ht hi v n xs hs hown hx ?_
  exact h v w (by simpa using hown) (Below.refl _ _) (Nat.le_refl _) id
 | some ad=>
  refine wpList_append_own _ hgd s x t ho B e i z size bytes ht hi hz hsz hb ty.zs ty.pos v n xs hs hown ad m c news hx r1 ?_ h1 hn' hn hB ?_
  ·intro j u hu
   have hm:0<m:=by
    rcases Nat.eq_zero_or_pos m with h0|h0
    ·subst h0
     have hnil:news=[]:=List.eq_nil_of_length_eq_zero (by simpa using r1)
     subst hnil
     simp at hu
    ·exact h0
   have:=ha hm
   simp only [Option.some.injEq] at this
   subst this
   have hadd:(⟨b,off,none⟩:Addr).add j=⟨b,off+j,none⟩:=by unfold Addr.add;split <;> simp_all
   rw [hadd]
   exact hc j u hu
  ·intro v' w' h2 h3 h4
   exact h v' w' h2 ((Below.refl B w).grown h3 hB (fun k hk=>(hown.lt k hk).1)) h3.size (fun hv hv'=>hv (h4.1 hv').1)
theorem nums_oneCell(k:IntKind)(xs:List Nat):∀u∈nums k xs,u.oneCell'=true:=by
 intro u hu
 simp only [nums,List.mem_map] at hu
 obtain⟨d,_,rfl⟩:=hu
 rfl
theorem own_below{w w':World}{B:Nat}{e:TypeId}{size:Nat}{v:Value}{n:Nat}{xs:List Value}(h:w.ownsRow B e size v n xs)(hb:Below w.heap.size w w'):w'.ownsRow B e size v n xs:=by
 refine⟨h.1,?_⟩
 rcases h.2 with hn|⟨g,cap,cur,rfl,hb0,hg,rest⟩
 ·exact .inl hn
 ·exact .inr ⟨g,cap,cur,rfl,hb0,by rw [hb.block g (Array.getElem?_eq_some_iff.1 hg).1];exact hg,rest⟩
theorem own_mono{w:World}{B B':Nat}{e:TypeId}{size:Nat}{v:Value}{n:Nat}{xs:List Value}(h:w.ownsRow B e size v n xs)(hB:B'≤B):w.ownsRow B' e size v n xs:=by
 refine⟨h.1,?_⟩
 rcases h.2 with hn|⟨g,cap,cur,rfl,hb0,rest⟩
 ·exact .inl hn
 ·exact .inr ⟨g,cap,cur,rfl,by omega,rest⟩
theorem own_grew{w w':World}{B B':Nat}{e e':TypeId}{size size':Nat}{v v':Value}{n n':Nat}{xs xs':List Value}(h:w.ownsRow B e size v n xs)(k:w.ownsRow B' e' size' v' n' xs')(he:e≠e')(hg:w.grownBy w' v'.ownBlock):w'.ownsRow B e size v n xs:=by
 refine⟨h.1,?_⟩
 rcases h.2 with hn|⟨g,cap,cur,rfl,hb0,hgc,rest⟩
 ·exact .inl hn
 ·refine .inr ⟨g,cap,cur,rfl,hb0,?_,rest⟩
  rw [hg.block g (Array.getElem?_eq_some_iff.1 hgc).1]
  ·exact hgc
  ·intro hb
   rcases k.2 with⟨rfl,_⟩|⟨g',cap',cur',rfl,_,hgc',_⟩
   ·simp [Value.ownBlock] at hb
   ·simp [Value.ownBlock] at hb
    subst hb
    rw [hgc] at hgc'
    simp at hgc'
    exact he hgc'.2
theorem own_addr{w:World}{B:Nat}{e:TypeId}{size n m cap:Nat}{a:Option Addr}{xs:List Value}(h:w.ownsRow B e size (.slice a n cap) m xs)(hn:0<n):∃g,a=some ⟨g,0,none⟩∧n≤cap:=by
 rcases h.2 with⟨h',_⟩|⟨g,cap',cur,h',_,_,hnc,_⟩
 ·simp at h';omega
 ·simp at h'
  obtain⟨rfl,rfl,rfl⟩:=h'
  exact⟨g,rfl,hnc⟩
theorem own_of_heap{w:World}{g n B:Nat}{arr:Array Value}{e:TypeId}{L:List Value}(h:w.heap[g]? = some (.cells arr e (0,0)))(hl:arr.toList=L)(hn:L.length=n)(hB:B≤g)(hm:n≤maxLen):w.ownsRow B e 1 (.slice (some ⟨g,0,none⟩) n n) n L:=
 ⟨by omega,.inr ⟨g,n,arr,rfl,hB,h,Nat.le_refl _,hm,by rw [← Array.length_toList,hl];omega,by rw [hl];exact List.take_of_length_le (by omega)⟩⟩
def Far(H:Nat)(w w':World):Prop:=w.grownBy w' (some H)
theorem Far.refl(H:Nat)(w:World):Far H w w:=⟨rfl,rfl,rfl,Nat.le_refl _,fun _ _ _=>rfl⟩
theorem Far.trans{H:Nat}{u v w:World}(h:Far H u v)(k:Far H v w):Far H u w:=
 ⟨k.os.trans h.os,k.tape.trans h.tape,k.output.trans h.output,Nat.le_trans h.size k.size,fun i hi hn=>(k.block i (Nat.lt_of_lt_of_le hi h.size) hn).trans (h.block i hi hn)⟩
theorem Far.of{H:Nat}{w w':World}(h:Below w.heap.size w w'):Far H w w':=⟨h.os,h.tape,h.output,h.size,fun i hi _=>h.block i hi⟩
theorem Far.set{H j:Nat}{w:World}(u:Value):Far H w (w.setCell ⟨H,j,none⟩ u):=
 have h:=(Below.refl 0 w).setCell (p:=⟨H,j,none⟩) (Nat.zero_le _) u
 ⟨h.os,h.tape,h.output,h.size,fun i _ hn=>Below.heap_setCell w _ u i (by simpa using hn)⟩
theorem Far.below{H B:Nat}{w w':World}(h:Far H w w')(hB:B≤H)(hB':B≤w.heap.size):Below B w w':=⟨h.os,h.tape,h.output,h.size,fun i hi=>h.block i (by omega) (by simp;omega)⟩
theorem Far.rd{H:Nat}{w w':World}{size:Nat}{a:Option Addr}{n cap:Nat}{xs:List Value}(h:Rd w size a n cap xs)(hf:Far H w w')(hne:∀b off,a=some ⟨b,off,none⟩→b≠H):Rd w' size a n cap xs:=by
 obtain⟨h1,h2,h3,h4,b,off,ha,hc⟩:=h
 refine⟨h1,h2,h3,h4,b,off,ha,fun j u hu=>?_⟩
 have hc':=hc j u hu
 have hj:0<n:=by
  rcases Nat.eq_zero_or_pos n with h0|h0
  ·subst h0
   have:=(List.getElem?_eq_some_iff.1 hu).1
   omega
  ·exact h0
 rw [World.cell?_of_block (hf.block b (World.block_lt_of_cell? w _ hc') (by simpa using hne b off (ha hj)))]
 exact hc'
theorem Far.own{H:Nat}{w w':World}{B:Nat}{e:TypeId}{size:Nat}{v:Value}{n:Nat}{xs:List Value}(h:w.ownsRow B e size v n xs)(hf:Far H w w')(hne:v.ownBlock≠some H):w'.ownsRow B e size v n xs:=by
 refine⟨h.1,?_⟩
 rcases h.2 with hn|⟨g,cap,cur,rfl,hb0,hg,rest⟩
 ·exact .inl hn
 ·refine .inr ⟨g,cap,cur,rfl,hb0,?_,rest⟩
  rw [hf.block g (Array.getElem?_eq_some_iff.1 hg).1 (by simpa [Value.ownBlock] using hne)]
  exact hg
end Go.Proofs.YtnbmpgballopeaaGreatDoor
/- sync.Once, sync.Mutex, sync/atomic in one goroutine: the parts of a Once's slow road; a counter. -/
namespace Go.Proofs.YtnbmpgballopeaaGreatDoor
open Go.RowKit
theorem disable(w:World):(callFunc 94 #[]).run Tryz.prog w = .ok (.value (.tuple #[])) w:=run_call_mark0 Tryz.func94 (by kernel_rfl) (by kernel_rfl) (by kernel_rfl) .disable (by kernel_rfl) w
theorem enable(w:World):(callFunc 96 #[]).run Tryz.prog w = .ok (.value (.tuple #[])) w:=run_call_mark0 Tryz.func96 (by kernel_rfl) (by kernel_rfl) (by kernel_rfl) .enable (by kernel_rfl) w
theorem acquire(a:Addr)(w:World):(callFunc 97 #[.pointer (some a)]).run Tryz.prog w = .ok (.value (.tuple #[])) w:=run_call_marked Tryz.func97 (by kernel_rfl) (by kernel_rfl) (by kernel_rfl) .acquire (by kernel_rfl) a w
theorem releaseMerge(a:Addr)(w:World):(callFunc 99 #[.pointer (some a)]).run Tryz.prog w = .ok (.value (.tuple #[])) w:=run_call_marked Tryz.func99 (by kernel_rfl) (by kernel_rfl) (by kernel_rfl) .releaseMerge (by kernel_rfl) a w
set_option maxRecDepth 100000 in
set_option maxHeartbeats 1600000 in
theorem store_deferred(a:Addr)(x:Value)(u:FrameMode)(w:World)(hc:w.cell? a=some x)(hz:w.frozen? a=false):
  CallsD Tryz.prog 87 #[.pointer (some a),.bool true] u w fun e u' w'=>u'=u∧(e = .returned (.tuple #[])∧w'=w.drew.setCell a (.int .u32 1)):=by
 have hc':w.drew.cell? a=some x:=by go_simp
 have hz':w.drew.frozen? a=false:=by go_simp
 have hst:=run_call_store (P:=Tryz.prog) Tryz.func92 (by kernel_rfl) (by kernel_rfl) (by kernel_rfl) (by kernel_rfl) (k:=.u32) (y:=1) hc' hz'
 go_enter_d Tryz.func87,Tryz.ntmps87
 go_wp2
 go_region_calls
 all_goals (go_end0;exact⟨rfl,rfl⟩)
set_option maxRecDepth 100000 in
set_option maxHeartbeats 1600000 in
theorem unlock_deferred(a:Addr)(u:FrameMode)(w:World)(hc:w.cell? a=some (.int .i32 1))(hz:w.frozen? a=false):
  CallsD Tryz.prog 86 #[.pointer (some a)] u w fun e u' w'=>u'=u∧(e = .returned (.tuple #[])∧w'=w.setCell a (.int .i32 0)):=by
 have hd:=disable
 have he:=enable
 have hr:=releaseMerge
 have hadd:=run_call_add (P:=Tryz.prog) Tryz.func100 (by kernel_rfl) (by kernel_rfl) (by kernel_rfl) .i32 (by kernel_rfl) (y:=-1) (s:=0) hc hz (by simp [go_sem];rfl)
 have hcv:=run_convert_to_unsafe (P:=Tryz.prog) (src:=207) (dst:=211) Tryz.underlying207 Tryz.underlying211 (by kernel_rfl) hc
 go_enter_d Tryz.func86,Tryz.ntmps86
 go_wp2
 go_end0
 go_wp2
 go_end0
 exact⟨rfl,rfl⟩
set_option maxRecDepth 100000 in
set_option maxHeartbeats 1600000 in
theorem lock_free(a:Addr)(w:World)(hc:w.cell? a=some (.int .i32 0))(hz:w.frozen? a=false):
  Calls Tryz.prog 85 #[.pointer (some a)] w fun e w'=>e = .returned (.tuple #[])∧w'=w.setCell a (.int .i32 1):=by
 have hd:=disable
 have he:=enable
 have ha:=acquire
 have hcas:=run_call_cas_hit (P:=Tryz.prog) Tryz.func95 (by kernel_rfl) (by kernel_rfl) (by kernel_rfl) .i32 (by kernel_rfl) (y:=1) hc hz
 have hc':(w.setCell a (.int .i32 1)).cell? a=some (.int .i32 1):=World.cell?_setCell_same w a _ hc
 have hcv:=run_convert_to_unsafe (P:=Tryz.prog) (src:=207) (dst:=211) Tryz.underlying207 Tryz.underlying211 (by kernel_rfl) hc'
 go_enter Tryz.func85,Tryz.ntmps85
 go_wp2
 first|go_end0|(simp only [Exit.inBlock,Exit.then];refine bodyPost_ret (results_none rfl _ _ _) rfl ?_)|refine bodyPost_ret (results_none rfl _ _ _) rfl ?_
 go_wp2
 go_end0
 exact⟨rfl,rfl⟩
theorem addI_walk(a:Addr)(x y s:Int)(w:World)(hc:w.cell? a=some (.int .i64 x))(hz:w.frozen? a=false)(hs:IntKind.i64.wrap (x+y)=s):
  Calls Tryz.prog 51 #[.pointer (some a),.int .i64 y] w fun e w'=>e = .returned (.int .i64 s)∧w'=w.setCell a (.int .i64 s):=by
 have hadd:=run_call_add (P:=Tryz.prog) Tryz.func75 (by kernel_rfl) (by kernel_rfl) (by kernel_rfl) .i64 (by kernel_rfl) (y:=y) (s:=s) hc hz (by simp [go_sem];exact hs)
 go_enter Tryz.func51,Tryz.ntmps51
 go_wp2
 go_ret
 exact⟨rfl,rfl⟩
end Go.Proofs.YtnbmpgballopeaaGreatDoor

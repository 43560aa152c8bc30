/- Variables: blocks of cells, whole and in part; steps of a walk at them. -/
import Derived.Deep.MidRow
import Derived.OrdersHeld
import Derived.Laws.Tables
import Derived.Lib.LazyBuf
import Derived.Laws.CopyOwn
import Derived.Deep.Cut
import Derived.Deep.RegionHeld3
import Derived.Great.BuildSlice
import Derived.Deep.RegionHeld
import Derived.Test.YtnbmpgballopeaaGreatDoorZOnce
namespace Go.Proofs.YtnbmpgballopeaaGreatDoor
open Go.RowKit
theorem results_cell_tmp{P:Program}{fn:Func}{p q:Tmp}{ty:TypeId}(h:fn.results = #[.cell p ty,.tmp q])(tmps:Array Value)(w:World)(g:Nat)(t:TypeId)(cs:Array Value)(fr:Nat × Nat)(d:TypeDesc)(v:Value)
  (hp:tmps.getD p undef = .pointer (some ⟨g,0,none⟩)) (hq:tmps.getD q undef=v) (hg:w.heap[g]? = some (.cells cs t fr))
  (hu:P.underlying ty=some d) (hd:(match d with|.struct _|.array _ _=>true|_=>false)=true) (hi:(P.info? ty).map (·.size)=some cs.size):
  (results fn tmps).run P w = .ok (.tuple #[.agg cs,v]) w:=by
 have hp':tmps[p]?.getD undef = .pointer (some ⟨g,0,none⟩):=by simpa using hp
 have hq':tmps[q]?.getD undef=v:=by simpa using hq
 simp [results,h,hp',hq',asAddr,run_loadVar_row w g t ty cs fr d hg hu hd hi]
theorem wpList_build2{P:Program}{ops:Array Oper}{rest:List Oper}{o:Oper}{a:Act}{w:World}{Q:Exit→Act→World→Prop}(hg:o.guard=none)(t:TypeId)(x y:Operand)(ho:o.op = .build t #[(0,x),(1,y)])
  {v0 v1:Value} {cells:Array Value} (hb:P.built t [(0,v0),(1,v1)]=some cells) (hx:a.eval x=v0) (hy:a.eval y=v1)
  (h:wpList P ops Q rest (a.put o.dst (.agg cells)) w):wpList P ops Q (o::rest) a w:=by
 have hv:((#[(0,x),(1,y)]:Array (Nat × Operand)).map fun(i,x)=>(i,a.eval x)).toList=[(0,v0),(1,v1)]:=by simp [hx,hy]
 exact wpList_build hg t _ ho (by rw [hv,hb];rfl) (by rw [hv,hb];exact h)
theorem wpList_mv{P:Program}{ops:Array Oper}{rest:List Oper}{o:Oper}{a:Act}{w:World}{Q:Exit→Act→World→Prop}(hg:o.guard=none)(x:Operand)(ho:o.op = .move x)
  (h:wpList P ops Q rest (a.put o.dst (a.eval x)) w):wpList P ops Q (o::rest) a w:=
 wpList_plain hg fun K hK=>by
  unfold Oper.wp execOp
  simp only [ho]
  exact hK _ _ h
theorem alloc2p(w:World)(a b:Obj):((w.alloc a).alloc b).heap[w.heap.size]? = some a∧((w.alloc a).alloc b).heap[w.heap.size+1]? = some b∧((w.alloc a).alloc b).heap.size=w.heap.size+1+1∧Below w.heap.size w ((w.alloc a).alloc b):=by
 have e1:(w.alloc a).heap.size=w.heap.size+1:=by simp
 have h0:=heap_alloc_new w a
 have h1:=heap_alloc_new (w.alloc a) b
 rw [e1] at h1
 exact⟨by rw [Below.heap_alloc _ _ _ (by omega)];exact h0,h1,by simp,((Below.refl w.heap.size w).alloc (Nat.le_refl _) a).alloc (by omega) b⟩
theorem results_cellH{P:Program}{fn:Func}{p:Tmp}{ty:TypeId}(h:fn.results = #[.cell p ty])(tmps:Array Value)(w:World)(g:Nat)(t:TypeId)(cs:Array Value)(fr:Nat × Nat)(d:TypeDesc)
  (hp:tmps.getD p undef = .pointer (some ⟨g,0,none⟩)) (hg:w.heap[g]? = some (.cells cs t fr))
  (hu:P.underlying ty=some d) (hd:(match d with|.struct _|.array _ _=>true|_=>false)=true) (hi:(P.info? ty).map (·.size)=some cs.size):
  (results fn tmps).run P w = .ok (.agg cs) w:=by
 have hp':tmps[p]?.getD undef = .pointer (some ⟨g,0,none⟩):=by simpa using hp
 simp [results,h,hp',asAddr,run_loadVar_row w g t ty cs fr d hg hu hd hi]
theorem wpList_when{P:Program}{ops:Array Oper}{rest:List Oper}{o:Oper}{a:Act}{w:World}{Q:Exit→Act→World→Prop}(hw:Region.wanted o (yielded ops a.tmps)=true)
  (h:∀K:Act→World→Prop,(∀a w,wpList P ops Q rest a w→K a w)→o.wp P a w K Q):wpList P ops Q (o::rest) a w:=
 wpList_step fun K hK=>by rw [if_pos hw];exact h K hK
theorem wpList_load_midG{P:Program}{ops:Array Oper}{rest:List Oper}{op:Oper}{a:Act}{w:World}{Q:Exit→Act→World→Prop}(hw:Region.wanted op (yielded ops a.tmps)=true)(ty:TypeId)(x:Operand)(ho:op.op = .load ty x)
  (b o:Nat) (hx:a.eval x = .pointer (some ⟨b,o,none⟩)) (cs:List Value) (d:TypeDesc) (hc:w.rangeAt b o cs)
  (hu:P.underlying ty=some d) (hd:d.isRow=true) (hi:(P.info? ty).map (·.size)=some cs.length)
  (h:wpList P ops Q rest (a.put op.dst (.agg cs.toArray)) w):wpList P ops Q (op::rest) a w:=
 wpList_when hw fun _ hK=>wp_load_mid ty x ho b o hx cs d hc hu hd hi (hK _ _ h)
theorem wpList_build2G{P:Program}{ops:Array Oper}{rest:List Oper}{o:Oper}{a:Act}{w:World}{Q:Exit→Act→World→Prop}(hw:Region.wanted o (yielded ops a.tmps)=true)(t:TypeId)(x y:Operand)(ho:o.op = .build t #[(0,x),(1,y)])
  {v0 v1:Value} {cells:Array Value} (hb:P.built t [(0,v0),(1,v1)]=some cells) (hx:a.eval x=v0) (hy:a.eval y=v1)
  (h:wpList P ops Q rest (a.put o.dst (.agg cells)) w):wpList P ops Q (o::rest) a w:=by
 have hv:((#[(0,x),(1,y)]:Array (Nat × Operand)).map fun(i,x)=>(i,a.eval x)).toList=[(0,v0),(1,v1)]:=by simp [hx,hy]
 exact wpList_when hw fun _ hK=>wp_build t _ ho (by rw [hv,hb];rfl) (hK _ _ (by rw [hv,hb];exact h))
theorem row_range{w:World}{g:Nat}{t:TypeId}{L:List Value}(h:w.heap[g]? = some (.cells L.toArray t (0,0))):w.rangeAt g 0 L:=fun j v hj=>by
 rw [Nat.zero_add,cell_of_row _ g _ _ t (0,0) h,List.getElem?_toArray];exact hj
theorem heap_keep{w w':World}{g:Nat}{x:Obj}(h:w.heap[g]? = some x)(b:Below w.heap.size w w'):w'.heap[g]? = some x:=(b.block g (Array.getElem?_eq_some_iff.1 h).1).trans h
theorem heap_far{w w':World}{g H:Nat}{x:Obj}(h:w.heap[g]? = some x)(hf:Far H w w')(hne:g≠H):w'.heap[g]? = some x:=by rw [hf.block g (Array.getElem?_eq_some_iff.1 h).1 (by simpa using hne)];exact h
theorem tag_there{w:World}{g:Nat}{cur:Array Value}{t:TypeId}{o n:Nat}(h:w.heap[g]? = some (.cells cur t (0,0)))(hn:o+n≤cur.size):w.there g o n:=fun j hj=>
 ⟨by rw [cell_of_row _ g _ _ t (0,0) h,Array.getElem?_eq_getElem (by omega)];rfl,frozen_of_row _ _ _ _ _ h⟩
def setMs(cur:Array Value):Nat→List Value→Array Value
 | _,[]=>cur
 | o,v::r=>setMs (cur.setIfInBounds o v) (o+1) r
theorem setMs_size:∀(vs:List Value) (o:Nat) (cur:Array Value),(setMs cur o vs).size=cur.size
 | [],_,_=>rfl
 | v::r,o,cur=>by rw [setMs,setMs_size r];simp
theorem setMs_get:∀(vs:List Value) (o:Nat) (cur:Array Value) (j:Nat),o+vs.length≤cur.size→(setMs cur o vs)[j]? = if o≤j∧j<o+vs.length then vs[j - o]? else cur[j]?
 | [],o,cur,j,_=>by simp [setMs];omega
 | v::r,o,cur,j,h=>by
  rw [List.length_cons] at h
  rw [setMs,setMs_get r (o+1) _ j (by simp;omega),List.length_cons]
  by_cases h1:o+1≤j∧j<o+1+r.length
  ·rw [if_pos h1,if_pos (by omega),show j - o=(j - (o+1))+1 by omega,List.getElem?_cons_succ]
  ·rw [if_neg h1]
   by_cases h2:j=o
   ·subst h2
    rw [if_pos (by omega),Nat.sub_self,List.getElem?_cons_zero,Array.getElem?_setIfInBounds_self_of_lt (by omega)]
   ·rw [if_neg (by omega),Array.getElem?_setIfInBounds_ne (by omega)]
theorem heap_setCells{g:Nat}{t:TypeId}:∀(vs:List Value) (o:Nat) (w:World) (cur:Array Value),w.heap[g]? = some (.cells cur t (0,0))→(w.setCells g o vs).heap[g]? = some (.cells (setMs cur o vs) t (0,0))
 | [],_,_,_,h=>h
 | v::r,o,w,cur,h=>heap_setCells r (o+1) _ _ (by simp [World.setCell,Array.getElem?_modify,h])
theorem far_setCells{g:Nat}:∀(vs:List Value) (o:Nat) (w:World),Far g w (w.setCells g o vs)
 | [],_,_=>Far.refl _ _
 | v::r,o,_=>(Far.set v).trans (far_setCells r (o+1) _)
theorem far_cell'{w w':World}{H:Nat}{a:Addr}{v:Value}(h:w.cell? a=some v)(hf:Far H w w')(hne:a.block≠H):w'.cell? a=some v:=by
 rw [World.cell?_of_block (hf.block _ (World.block_lt_of_cell? w _ h) (by simpa using hne))];exact h
theorem range_keep{w w':World}{g o:Nat}{L:List Value}(b:Below w.heap.size w w')(h:w.rangeAt g o L):w'.rangeAt g o L:=fun j v hj=>by
 have:=h j v hj
 rw [b.cell (World.block_lt_of_cell? w _ this)];exact this
theorem cell_keep{w w':World}{a:Addr}{v:Value}(b:Below w.heap.size w w')(h:w.cell? a=some v):w'.cell? a=some v:=by
 rw [b.cell (World.block_lt_of_cell? w _ h)];exact h
theorem laid(w:World)(z c:Array Value)(t:TypeId):((w.alloc (.cells z t)).setRow w.heap.size c).heap[w.heap.size]? = some (.cells c t (0,0))∧Below w.heap.size w ((w.alloc (.cells z t)).setRow w.heap.size c):=
 ⟨setRow_heap _ _ _ _ _ _ (heap_alloc_new w (.cells z t)),below_setRow ((Below.refl w.heap.size w).alloc (Nat.le_refl _) _) (Nat.le_refl _) c⟩
theorem gen_range{w:World}{b:Nat}{L:List Value}(h:w.rangeAt b 0 L)(o n:Nat):w.rangeAt b o ((L.drop o).take n):=fun j v hj=>by
 rw [List.getElem?_take] at hj
 split at hj
 ·rw [List.getElem?_drop] at hj
  have:=h _ v hj
  rwa [Nat.zero_add] at this
 ·cases hj
theorem gen_cell{w:World}{b j:Nat}{L:List Value}{v:Value}(h:w.rangeAt b 0 L)(hj:L[j]? = some v):w.cell? ⟨b,j,none⟩=some v:=by
 have:=h j v hj
 rwa [Nat.zero_add] at this
theorem newZ{K:Act→World→Prop}{A:Act}{W:World}{T:TypeId}{Z:Array Value}(h:∀W',Hid (W'.heap[W.heap.size]? = some (.cells Z T (0,0)))→Hid (Below W.heap.size W W')→K A W'):K A (W.alloc (.cells Z T)):=
 h _ (heap_alloc_new W _) ((Below.refl _ _).alloc (Nat.le_refl _) _)
theorem newZd{K:Act→World→Prop}{A:Act}{W:World}{T:TypeId}{Z:Array Value}(h:∀W',Hid (W'.heap[W.heap.size]? = some (.cells Z T (0,0)))→Hid (Below W.heap.size W W')→K A W'):K A (W.alloc (.cells Z T)).drew:=
 h _ (heap_alloc_new W _) ((Below.refl _ _).alloc (Nat.le_refl _) _).drew
theorem sl_range{w:World}{b off n c:Nat}{xs:List Nat}(h:Sl .u8 w (some ⟨b,off,none⟩) n c xs)(hn:0<n):w.rangeAt b off (nums .u8 xs):=by
 obtain⟨_,_,_,_,b',off',ha,hc⟩:=h
 have:=ha hn
 simp only [Option.some.injEq,Addr.mk.injEq,and_true] at this
 obtain⟨rfl,rfl⟩:=this
 exact hc
theorem far_row(w:World)(R:Nat)(cs:Array Value):Far R w (w.setRow R cs):=⟨rfl,rfl,rfl,by simp [World.setRow],fun k _ hk=>setRow_other w R k _ (by simpa using hk)⟩
theorem wpList_build5{P:Program}{ops:Array Oper}{rest:List Oper}{o:Oper}{a:Act}{w:World}{Q:Exit→Act→World→Prop}(hg:o.guard=none)(t:TypeId)(x0 x1 x2 x3 x4:Operand)(ho:o.op = .build t #[(0,x0),(1,x1),(2,x2),(3,x3),(4,x4)])
  {v0 v1 v2 v3 v4:Value} {cells:Array Value} (hb:P.built t [(0,v0),(1,v1),(2,v2),(3,v3),(4,v4)]=some cells) (h0:a.eval x0=v0) (h1:a.eval x1=v1) (h2:a.eval x2=v2) (h3:a.eval x3=v3) (h4:a.eval x4=v4)
  (h:wpList P ops Q rest (a.put o.dst (.agg cells)) w):wpList P ops Q (o::rest) a w:=by
 have hv:((#[(0,x0),(1,x1),(2,x2),(3,x3),(4,x4)]:Array (Nat × Operand)).map fun(i,x)=>(i,a.eval x)).toList=[(0,v0),(1,v1),(2,v2),(3,v3),(4,v4)]:=by simp [h0,h1,h2,h3,h4]
 exact wpList_build hg t _ ho (by rw [hv,hb];rfl) (by rw [hv,hb];exact h)
theorem run_buildN{P:Program}{w:World}{o:Oper}{ev:Operand→Value}{t:TypeId}{parts:Array (Nat × Operand)}{cells:Array Value}(ho:o.op = .build t parts)(hb:P.built t (parts.map fun(i,x)=>(i,ev x)).toList=some cells):
  (execOp ev o).run P w = .ok (.value (.agg cells)) w:=by
 unfold execOp
 simp only [ho,Sem.run_bind,run_build w t _ cells hb,Result.andThen_ok]
 rfl
theorem run_build5{P:Program}{w:World}{o:Oper}{ev:Operand→Value}{t:TypeId}{x0 x1 x2 x3 x4:Operand}{v0 v1 v2 v3 v4:Value}{cells:Array Value}(ho:o.op = .build t #[(0,x0),(1,x1),(2,x2),(3,x3),(4,x4)])
  (h0:ev x0=v0) (h1:ev x1=v1) (h2:ev x2=v2) (h3:ev x3=v3) (h4:ev x4=v4) (hb:P.built t [(0,v0),(1,v1),(2,v2),(3,v3),(4,v4)]=some cells):(execOp ev o).run P w = .ok (.value (.agg cells)) w:=
 run_buildN ho (by simpa [h0,h1,h2,h3,h4] using hb)
theorem heap_set{w:World}{g i:Nat}{L:List Value}{t:TypeId}(v:Value)(h:w.heap[g]? = some (.cells L.toArray t (0,0))):(w.setCell ⟨g,i,none⟩ v).heap[g]? = some (.cells (L.set i v).toArray t (0,0)):=by
 simp [World.setCell,Array.getElem?_modify,h]
theorem range_far{w w':World}{H g o:Nat}{L:List Value}(hf:Far H w w')(h:w.rangeAt g o L)(hne:g≠H):w'.rangeAt g o L:=fun j v hj=>by
 have:=h j v hj
 rw [World.cell?_of_block (hf.block _ (World.block_lt_of_cell? w _ this) (by simpa using hne))];exact this
theorem setW{K:Act→World→Prop}{A:Act}{W:World}{g i:Nat}{v:Value}{L:List Value}{t:TypeId}(hg:W.heap[g]? = some (.cells L.toArray t (0,0)))(h:∀W',Hid (W'.heap[g]? = some (.cells (L.set i v).toArray t (0,0)))→Hid (Far g W W')→K A W'):K A (W.setCell ⟨g,i,none⟩ v):=
 h _ (heap_set v hg) (Far.set v)
theorem wpList_lit1{P:Program}{ops:Array Oper}{rest:List Oper}{o:Oper}{a:Act}{w:World}{Q:Exit→Act→World→Prop}(hg:o.guard=none)(t e:TypeId)(x:Operand)(ho:o.op = .buildSlice t 1 #[(0,x)])
  {cells:Array Value} (hx:a.eval x = .agg cells) (hu:P.underlying t=some (.slice e)) {size:Nat} (hi:(P.info? e).map (·.size)=some size) (hz:((P.info? e).bind (·.zero)).isSome=true) (hs:cells.size=size) (hp:0<size) (hle:size≤16777216)
  (h:wpList P ops Q rest (a.put o.dst (.slice (some ⟨w.heap.size,0,none⟩) 1 1)) (w.alloc (.cells cells e))):wpList P ops Q (o::rest) a w:=by
 cases hie:P.info? e with
 | none=>simp [hie] at hi
 | some ie=>
  simp only [hie,Option.map_some,Option.some.injEq,Option.bind_some] at hi hz
  obtain⟨z,hzz⟩:=Option.isSome_iff_exists.1 hz
  refine wpList_buildSlice hg t e 1 _ ho cells ie z hu hie hzz (by rw [hi];omega) (by rw [hi];omega) ?_ h
  have:=Great.fill_whole (s:=size) hp [.agg cells] ((Array.range (1*size)).map (z.cells[· % z.cells.size]!)) (by intro v hv;simp at hv;subst hv;exact hs) (by simp)
  rw [hi]
  simpa [hx,Value.cells] using this
theorem Far.newer{H r:Nat}{u v w:World}(h:Far H u v)(k:Far r v w)(hr:u.heap.size≤r):Far H u w:=
 ⟨k.os.trans h.os,k.tape.trans h.tape,k.output.trans h.output,Nat.le_trans h.size k.size,fun i hi hn=>(k.block i (Nat.lt_of_lt_of_le hi h.size) (by simp;omega)).trans (h.block i hi hn)⟩
theorem alloc3p(w:World)(a b c:Obj):(((w.alloc a).alloc b).alloc c).heap[w.heap.size]? = some a∧(((w.alloc a).alloc b).alloc c).heap[w.heap.size+1]? = some b∧(((w.alloc a).alloc b).alloc c).heap[w.heap.size+1+1]? = some c ∧
  Below w.heap.size w (((w.alloc a).alloc b).alloc c):=by
 have A:=alloc2p w a b
 have hz:((w.alloc a).alloc b).heap.size=w.heap.size+1+1:=A.2.2.1
 have h2:=heap_alloc_new ((w.alloc a).alloc b) c
 rw [hz] at h2
 refine⟨by rw [Below.heap_alloc _ _ _ (by omega)];exact A.1,by rw [Below.heap_alloc _ _ _ (by omega)];exact A.2.1,h2,A.2.2.2.alloc (by omega) c⟩
structure Far2 (H G:Nat) (w w':World):Prop where
 os:w'.os=w.os
 tape:w'.tape=w.tape
 output:w'.output=w.output
 size:w.heap.size≤w'.heap.size
 block:∀i,i<w.heap.size→i≠H→i≠G→w'.heap[i]? = w.heap[i]?
theorem Far2.refl(H G:Nat)(w:World):Far2 H G w w:=⟨rfl,rfl,rfl,Nat.le_refl _,fun _ _ _ _=>rfl⟩
theorem Far2.trans{H G:Nat}{u v w:World}(h:Far2 H G u v)(k:Far2 H G v w):Far2 H G u w:=
 ⟨k.os.trans h.os,k.tape.trans h.tape,k.output.trans h.output,Nat.le_trans h.size k.size,fun i hi h1 h2=>(k.block i (Nat.lt_of_lt_of_le hi h.size) h1 h2).trans (h.block i hi h1 h2)⟩
theorem Far.l2{H:Nat}(G:Nat){w w':World}(h:Far H w w'):Far2 H G w w':=⟨h.os,h.tape,h.output,h.size,fun i hi h1 _=>h.block i hi (by simpa using h1)⟩
theorem Far.r2{G:Nat}(H:Nat){w w':World}(h:Far G w w'):Far2 H G w w':=⟨h.os,h.tape,h.output,h.size,fun i hi _ h2=>h.block i hi (by simpa using h2)⟩
theorem Far2.below{H G B:Nat}{w w':World}(h:Far2 H G w w')(h1:B≤H)(h2:B≤G)(h3:B≤w.heap.size):Below B w w':=⟨h.os,h.tape,h.output,h.size,fun i hi=>h.block i (by omega) (by omega) (by omega)⟩
theorem Far2.heap{H G g:Nat}{w w':World}{x:Obj}(h:Far2 H G w w')(hx:w.heap[g]? = some x)(h1:g≠H)(h2:g≠G):w'.heap[g]? = some x:=by rw [h.block g (Array.getElem?_eq_some_iff.1 hx).1 h1 h2];exact hx
theorem Far2.newer{H G r:Nat}{u v w:World}(h:Far2 H G u v)(k:Far r v w)(hr:u.heap.size≤r):Far2 H G u w:=
 ⟨k.os.trans h.os,k.tape.trans h.tape,k.output.trans h.output,Nat.le_trans h.size k.size,fun i hi h1 h2=>(k.block i (Nat.lt_of_lt_of_le hi h.size) (by simp;omega)).trans (h.block i hi h1 h2)⟩
theorem s0{α:Type}(l:List α)(i:Nat)(a:α):l.toArray.setIfInBounds i a=(l.set i a).toArray:=List.setIfInBounds_toArray ..
theorem s1{α:Type}(x a:α)(r:List α):(x::r).set 0 a=a::r:=rfl
theorem s2{α:Type}(x a:α)(r:List α)(n:Nat):(x::r).set (n+1) a=x::r.set n a:=rfl
theorem yi{P:Program}{ops:Array Oper}{S:World→Prop}{o:Oper}{v:Value}{a:Act}(h:∀w,S w→(execOp a.eval o).run P w = .ok (.value v) w)(hw:Region.wanted o (yielded ops a.tmps)=true:=by rfl):YieldsIf P ops S o v a:=.inl ⟨hw,h⟩
theorem tkH{P:Program}{md:Region.Mode}{ops:Array Oper}{Q:Exit→Act→World→Prop}{S:World→Prop}{i:Nat}{oi:Oper}{v:Value}{fuel:Nat}{listed:Array Bool}{a:Act}{w:World}(hi:ops[i]? = some oi)(hy:YieldsIf P ops S oi v a)(hS:S w)
  (h:wpAnyH P md ops Q S fuel (listed.setIfInBounds i true) (a.put oi.dst v) w) (hs:Region.noSelect ops=true:=by kernel_rfl) (hf:Region.free md ops listed i=true:=by kernel_rfl) (hr:(Region.ready md ops listed).contains i=true:=by kernel_rfl)
  (hQ:∀c a w,Q (.panic c) (a.put oi.dst v) w→Q (.panic c) a w:=by exact fun _ _ _ h=>h):wpAnyH P md ops Q S (fuel+1) listed a w:=
 wpAnyH_take hi hs hf hr hQ hy hS h
end Go.Proofs.YtnbmpgballopeaaGreatDoor
/- A region that draws its order, with a condition that holds till one operation has come (a store), and another behind it. -/
namespace Go.Proofs.YtnbmpgballopeaaGreatDoor
section
variable {P:Program} {ops:Array Oper} {Q:Exit→Act→World→Prop} {md:Region.Mode} {S:Bool→World→Prop} {l:Nat}
def wpAnyX(P:Program)(md:Region.Mode)(ops:Array Oper)(Q:Exit→Act→World→Prop)(S:Bool→World→Prop)(l:Nat):Nat→Array Bool→Act→World→Prop
 | 0,listed,a,w=>Region.ready md ops listed=[]∧Q .normal a w
 | fuel+1,listed,a,w=>
  (Region.ready md ops listed=[]→Q .normal a w) ∧
  ∀i∈Region.ready md ops listed,wpOp P ops Q i (fun a' w'=>S ((listed.setIfInBounds i true).getD l true) w'∧wpAnyX P md ops Q S l fuel (listed.setIfInBounds i true) a' w') a w
theorem wpAny_of_X:∀(fuel:Nat) (listed:Array Bool) (a:Act) (w:World),wpAnyX P md ops Q S l fuel listed a w→wpAny P md ops Q fuel listed a w
 | 0,_,_,_,h=>h
 | fuel+1,_,_,_,h=>⟨h.1,fun _ hi=>wpOp_mono (fun a' w' h'=>wpAny_of_X fuel _ a' w' h'.2) (h.2 _ hi)⟩
theorem wpAnyX_first{T:World→Prop}{i:Nat}{oi ol:Oper}{v:Value}(hi:ops[i]? = some oi)(hsel:∀(j:Nat) (o:Oper) cs b,ops[j]? = some o→o.op ≠ .select cs b)
  (hQ:∀c a w,Q (.panic c) (a.put oi.dst v) w→Q (.panic c) a w) (hol:ops[l]? = some ol) (hil:i≠l) (hT:(∀w,S false w→T w)∧((∃e∈ol.after,Region.binds md e=true∧e.on=i) ∨ ∀w,S true w→T w)):
  ∀(fuel:Nat) (listed:Array Bool) (a:Act) (w:World),
   (∀j oj,ops[j]? = some oj→j≠i→listed.getD j true=false→(∀e∈oj.after,Region.binds md e=true→e.on≠i)→oi.apart ops oj=true) →
   i∈Region.ready md ops listed→(listed.getD l true=false ∨ ∀w,S true w→T w)→YieldsIf P ops T oi v a→S (listed.getD l true) w →
   wpAnyX P md ops Q S l fuel (listed.setIfInBounds i true) (a.put oi.dst v) w→wpAnyX P md ops Q S l (fuel+1) listed a w:=by
 have toT:∀(listed:Array Bool) w,(listed.getD l true=false ∨ ∀w,S true w→T w)→S (listed.getD l true) w→T w:=fun listed w hd hS=>by
  rcases hd with e|e
  ·rw [e] at hS;exact hT.1 w hS
  ·cases hb:listed.getD l true with
   | false=>rw [hb] at hS;exact hT.1 w hS
   | true=>rw [hb] at hS;exact e w hS
 intro fuel
 induction fuel with
 | zero=>
  intro listed a w _ hr hd hy hS H
  refine⟨fun h=>(by rw [h] at hr;cases hr),fun j hj=>?_⟩
  by_cases hji:j=i
  ·subst hji
   exact hy.wpOp hi (toT listed w hd hS) ⟨by rw [getD_set_ne true hil];exact hS,H⟩
  ·have:=ready_mono hj hji
   rw [H.1] at this
   cases this
 | succ fuel ih=>
  intro listed a w hfree hr hd hy hS H
  refine⟨fun h=>(by rw [h] at hr;cases hr),fun j hj=>?_⟩
  by_cases hji:j=i
  ·subst hji
   exact hy.wpOp hi (toT listed w hd hS) ⟨by rw [getD_set_ne true hil];exact hS,H⟩
  ·have h1:=H.2 j (ready_mono hj hji)
   obtain⟨hjun,oj,hoj,hall⟩:=mem_ready.1 hj
   have hnot:∀e∈oj.after,Region.binds md e=true→e.on≠i:=fun e he hb heq=>by
    have h1:=hall e he hb
    have h0:=(mem_ready.1 hr).1
    rw [heq] at h1
    rcases Nat.lt_or_ge i listed.size with h'|h'
    ·simp [h'] at h0 h1;rw [h0] at h1;cases h1
    ·simp [Array.getElem?_eq_none h'] at h1
   have h2:=wpOp_putIf hoj (hfree j oj hoj hji hjun hnot) (fun cs b=>hsel i oi cs b hi) (fun cs b=>hsel j oj cs b hoj) hQ hy h1
   have hfree':∀k ok,ops[k]? = some ok→k≠i→(listed.setIfInBounds j true).getD k true=false →
     (∀e∈ok.after,Region.binds md e=true→e.on≠i)→oi.apart ops ok=true:=fun k ok hk hki hun hno=>by
    refine hfree k ok hk hki ?_ hno
    by_cases hjk:j=k
    ·subst hjk;exact hjun
    ·rw [getD_set_ne true hjk] at hun;exact hun
   have hd':(listed.setIfInBounds j true).getD l true=false ∨ ∀w,S true w→T w:=by
    rcases hT.2 with⟨e,he,hb,hei⟩|h
    ·rcases hd with hd|hd
     ·refine .inl ?_
      rw [getD_set_ne true (fun ejl=>?_)]
      ·exact hd
      ·subst ejl
       rw [hol] at hoj
       cases hoj
       exact hnot e he hb hei
     ·exact .inr hd
    ·exact .inr h
   have hl2:((listed.setIfInBounds i true).setIfInBounds j true).getD l true=(listed.setIfInBounds j true).getD l true:=by
    rw [Array.setIfInBounds_comm _ _ (Ne.symm hji),getD_set_ne true hil]
   refine wpOp_mono (fun a' w' h3=>⟨by rw [← hl2];exact h3.2.1,ih (listed.setIfInBounds j true) a' w' hfree' (ready_mono hr (Ne.symm hji)) hd' h3.1 (by rw [← hl2];exact h3.2.1) ?_⟩) h2
   rw [Array.setIfInBounds_comm _ _ hji]
   exact h3.2.2
theorem wpAnyX_takeE{i:Nat}{oi ol:Oper}{v:Value}{fuel:Nat}{listed:Array Bool}{a:Act}{w:World}(hi:ops[i]? = some oi)
  (hs:Region.noSelect ops=true) (hf:Region.free md ops listed i=true) (hr:(Region.ready md ops listed).contains i=true)
  (hQ:∀c a w,Q (.panic c) (a.put oi.dst v) w→Q (.panic c) a w) (hol:ops[l]? = some ol) (hil:(i == l)=false) (he:ol.after.any (fun e=>Region.binds md e && e.on == i)=true) (hb:listed.getD l true=false) (hy:YieldsIf P ops (S false) oi v a) (hS:S false w)
  (h:wpAnyX P md ops Q S l fuel (listed.setIfInBounds i true) (a.put oi.dst v) w):wpAnyX P md ops Q S l (fuel+1) listed a w:=by
 obtain⟨k,hk,hk2⟩:=Array.any_eq_true.1 he
 rw [Bool.and_eq_true,beq_iff_eq] at hk2
 exact wpAnyX_first (T:=S false) hi (Region.noSelect_spec hs) hQ hol (by simpa using hil) ⟨fun _ h=>h,.inl ⟨_,Array.getElem_mem hk,hk2.1,hk2.2⟩⟩ fuel listed a w (Region.free_spec hi hf) (by simpa using hr) (.inl hb) hy (by rw [hb];exact hS) h
theorem wpAnyX_takeA{i:Nat}{oi ol:Oper}{v:Value}{fuel:Nat}{listed:Array Bool}{a:Act}{w:World}{b:Bool}(hi:ops[i]? = some oi)
  (hs:Region.noSelect ops=true) (hf:Region.free md ops listed i=true) (hr:(Region.ready md ops listed).contains i=true)
  (hQ:∀c a w,Q (.panic c) (a.put oi.dst v) w→Q (.panic c) a w) (hol:ops[l]? = some ol) (hil:(i == l)=false) (hm:∀w,S false w→S true w) (hb:listed.getD l true=b) (hy:YieldsIf P ops (S true) oi v a) (hS:S b w)
  (h:wpAnyX P md ops Q S l fuel (listed.setIfInBounds i true) (a.put oi.dst v) w):wpAnyX P md ops Q S l (fuel+1) listed a w:=
 wpAnyX_first (T:=S true) hi (Region.noSelect_spec hs) hQ hol (by simpa using hil) ⟨hm,.inr (fun _ h=>h)⟩ fuel listed a w (Region.free_spec hi hf) (by simpa using hr) (.inr (fun _ h=>h)) hy (by rw [hb];exact hS) h
theorem tkE{i:Nat}{oi ol:Oper}{v:Value}{fuel:Nat}{listed:Array Bool}{a:Act}{w:World}(hi:ops[i]? = some oi)(hy:YieldsIf P ops (S false) oi v a)(hS:S false w)
  (h:wpAnyX P md ops Q S l fuel (listed.setIfInBounds i true) (a.put oi.dst v) w) (hs:Region.noSelect ops=true:=by kernel_rfl) (hf:Region.free md ops listed i=true:=by kernel_rfl) (hr:(Region.ready md ops listed).contains i=true:=by kernel_rfl)
  (hQ:∀c a w,Q (.panic c) (a.put oi.dst v) w→Q (.panic c) a w:=by exact fun _ _ _ h=>h) (hol:ops[l]? = some ol:=by rfl) (hil:(i == l)=false:=by kernel_rfl) (he:ol.after.any (fun e=>Region.binds md e && e.on == i)=true:=by kernel_rfl) (hb:listed.getD l true=false:=by kernel_rfl):wpAnyX P md ops Q S l (fuel+1) listed a w:=
 wpAnyX_takeE hi hs hf hr hQ hol hil he hb hy hS h
theorem tkA{i:Nat}{oi ol:Oper}{v:Value}{fuel:Nat}{listed:Array Bool}{a:Act}{w:World}{b:Bool}(hi:ops[i]? = some oi)(hy:YieldsIf P ops (S true) oi v a)(hS:S b w)
  (h:wpAnyX P md ops Q S l fuel (listed.setIfInBounds i true) (a.put oi.dst v) w) (hs:Region.noSelect ops=true:=by kernel_rfl) (hf:Region.free md ops listed i=true:=by kernel_rfl) (hr:(Region.ready md ops listed).contains i=true:=by kernel_rfl)
  (hQ:∀c a w,Q (.panic c) (a.put oi.dst v) w→Q (.panic c) a w:=by exact fun _ _ _ h=>h) (hol:ops[l]? = some ol:=by rfl) (hil:(i == l)=false:=by kernel_rfl) (hm:∀w,S false w→S true w:=by exact fun _ h=>⟨h.1,nofun⟩) (hb:listed.getD l true=b:=by kernel_rfl):wpAnyX P md ops Q S l (fuel+1) listed a w:=
 wpAnyX_takeA hi hs hf hr hQ hol hil hm hb hy hS h
def AllReadyX(P:Program)(md:Region.Mode)(ops:Array Oper)(Q:Exit→Act→World→Prop)(S:Bool→World→Prop)(l:Nat)(fuel:Nat)(listed:Array Bool)(a:Act)(w:World)(rs:List Nat):Prop:=
 ∀i∈rs,wpOp P ops Q i (fun a' w'=>S ((listed.setIfInBounds i true).getD l true) w'∧wpAnyX P md ops Q S l fuel (listed.setIfInBounds i true) a' w') a w
theorem AllReadyX.nil{fuel:Nat}{listed:Array Bool}{a:Act}{w:World}:AllReadyX P md ops Q S l fuel listed a w []:=fun _ h=>by cases h
theorem AllReadyX.cons{fuel:Nat}{listed:Array Bool}{a:Act}{w:World}{i:Nat}{o:Oper}{rs:List Nat}{b:Bool}(ho:ops[i]? = some o)(hb:(listed.setIfInBounds i true).getD l true=b)
  (h:∀K':Act→World→Prop,Shut (∀a w,S b w→(S b w→wpAnyX P md ops Q S l fuel (listed.setIfInBounds i true) a w)→K' a w)→if Region.wanted o (yielded ops a.tmps)=true then Oper.wp P o a w K' Q else K' (a.put o.dst undef) w)
  (hs:AllReadyX P md ops Q S l fuel listed a w rs):AllReadyX P md ops Q S l fuel listed a w (i::rs):=fun j hj=>by
 rcases List.mem_cons.1 hj with rfl|hj
 ·refine wpOp_step ho (fun K' hK=>h K' (fun a w hS hW=>hK a w ⟨?_,hW hS⟩))
  rw [hb];exact hS
 ·exact hs j hj
theorem wpAnyX_ready{rs:List Nat}{fuel:Nat}{listed:Array Bool}{a:Act}{w:World}(hr:Region.ready md ops listed=rs)(hne:rs≠[])
  (h:AllReadyX P md ops Q S l fuel listed a w rs):wpAnyX P md ops Q S l (fuel+1) listed a w:=⟨fun h0=>absurd (hr ▸ h0) hne,hr ▸ h⟩
theorem wpAnyX_done{listed:Array Bool}{a:Act}{w:World}(hr:Region.ready md ops listed=[])(h:Q .normal a w):∀fuel,wpAnyX P md ops Q S l fuel listed a w
 | 0=>⟨hr,h⟩
 | _+1=>⟨fun _=>h,by rw [hr];simp⟩
theorem wp_region_X{id:Nat}{a:Act}{w:World}(hm:P.follows .mixedOrders=true)(hS:S false w.drew)
  (h:S false w.drew→wpAnyX P .any ops Q S l ops.size (Array.replicate ops.size false) a w.drew):(Code.region id ops true).wp P Q a w:=
 wp_region_any hm (wpAny_of_X _ _ _ _ (h hS))
end
end Go.Proofs.YtnbmpgballopeaaGreatDoor
/- In a region that draws its order the condition on worlds may be made stronger midway. -/
namespace Go.Proofs.YtnbmpgballopeaaGreatDoor
open Go.RowKit
theorem wpAnyX_strong{P:Program}{md:Region.Mode}{ops:Array Oper}{Q:Exit→Act→World→Prop}{S T:Bool→World→Prop}{l:Nat}(h:∀b w,T b w→S b w):∀(fuel:Nat) (listed:Array Bool) (a:Act) (w:World),wpAnyX P md ops Q T l fuel listed a w→wpAnyX P md ops Q S l fuel listed a w
 | 0,_,_,_,k=>k
 | fuel+1,_,_,_,k=>⟨k.1,fun i hi=>wpOp_mono (fun a' w' x=>⟨h _ w' x.1,wpAnyX_strong h fuel _ a' w' x.2⟩) (k.2 i hi)⟩
end Go.Proofs.YtnbmpgballopeaaGreatDoor

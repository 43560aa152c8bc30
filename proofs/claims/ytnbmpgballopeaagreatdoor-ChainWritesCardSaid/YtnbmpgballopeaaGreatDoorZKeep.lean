/- Values that can be compared and be keys of maps, whatever their shape: numbers, bools, arrays, structs. -/
import Derived.Maps.OwnSet
import Derived.Maps.AppendAt
import Derived.Test.YtnbmpgballopeaaGreatDoorZParts
import Derived.Test.YtnbmpgballopeaaGreatDoorZStr
namespace Go.Proofs.YtnbmpgballopeaaGreatDoor
open Go.RowKit
def KL(d:Nat)(t:TypeId)(cs:List Value):Prop:=∃ls,Tryz.prog.keyLits d t cs=some ls
theorem KL.int{d:Nat}{t:TypeId}{k:IntKind}{n:Int}(ht:Tryz.prog.underlying t=some (.int k))(hw:(Lit.int k n).wf=true):KL (d+1) t [.int k n]:=by
 refine⟨[.int k n],?_⟩
 simp [Program.keyLits,ht,hw]
theorem KL.bool{d:Nat}{t:TypeId}{b:Bool}(ht:Tryz.prog.underlying t=some .bool):KL (d+1) t [.bool b]:=by
 refine⟨[.bool b],?_⟩
 simp [Program.keyLits,ht]
theorem mapM_some'{α β:Type}{f:α→Option β}:∀ {l:List α},(∀x∈l,∃y,f x=some y) → ∃ys,l.mapM f=some ys
 | [],_=>⟨[],rfl⟩
 | x::r,h=>by
  obtain⟨y,hy⟩:=h x (by simp)
  obtain⟨ys,hys⟩:=mapM_some' (l:=r) (fun z hz=>h z (by simp [hz]))
  exact⟨y::ys,by simp [List.mapM_cons,hy,hys]⟩
theorem KL.array{d:Nat}{t e:TypeId}{n:Nat}{cs:List Value}(ht:Tryz.prog.underlying t=some (.array n e))(hl:cs.length=Tryz.prog.cellsOf t)
  (h:∀i,i<n→KL d e ((cs.drop (i*Tryz.prog.cellsOf e)).take (Tryz.prog.cellsOf e))):KL (d+1) t cs:=by
 obtain⟨ys,hy⟩:=mapM_some' (f:=fun i=>Tryz.prog.keyLits d e ((cs.drop (i*Tryz.prog.cellsOf e)).take (Tryz.prog.cellsOf e))) (l:=List.range n) (fun i hi=>h i (by simpa using hi))
 refine⟨ys.flatten,?_⟩
 simp only [Program.keyLits,ht,hl,if_true,hy,Option.map_some]
theorem KL.struct{d:Nat}{t:TypeId}{fs:Array Field}{cs:List Value}(ht:Tryz.prog.underlying t=some (.struct fs))(hl:cs.length=Tryz.prog.cellsOf t)(hn:fs.all (·.name != "_")=true)
  (h:∀f∈fs.toList,KL d f.type ((cs.drop f.offset).take (Tryz.prog.cellsOf f.type))):KL (d+1) t cs:=by
 obtain⟨ys,hy⟩:=mapM_some' (f:=fun f:Field=>Tryz.prog.keyLits d f.type ((cs.drop f.offset).take (Tryz.prog.cellsOf f.type))) (l:=fs.toList) h
 refine⟨ys.flatten,?_⟩
 simp only [Program.keyLits,ht,hl,hn,and_self,if_true,hy,Option.map_some]
theorem cellsU8:Tryz.prog.cellsOf 5=1:=by kernel_rfl
theorem u8_wf{n:Nat}(h:n<256):(Lit.int .u8 (n:Int)).wf=true:=by
 simp [Lit.wf,IntKind.min,IntKind.max,IntKind.signed,IntKind.bits];omega
theorem KL.bytes{d n:Nat}{t:TypeId}(ht:Tryz.prog.underlying t=some (.array n 5))(hc:Tryz.prog.cellsOf t=n){xs:List Nat}(hl:xs.length=n)(hb:∀d∈xs,d<256):KL (d+2) t (nums .u8 xs):=by
 refine KL.array ht (by rw [nums_length,hl,hc]) fun i hi=>?_
 have h1:(List.drop (i*Tryz.prog.cellsOf 5) (nums .u8 xs)).take (Tryz.prog.cellsOf 5)=[.int .u8 ((xs.getD i 0:Nat):Int)]:=by
  rw [cellsU8,Nat.mul_one]
  have hi':i<(nums .u8 xs).length:=by rw [nums_length];omega
  rw [List.drop_eq_getElem_cons hi',List.take_succ_cons,List.take_zero]
  have:=nums_get .u8 (show i<xs.length by omega)
  rw [List.getElem?_eq_getElem hi'] at this
  rw [Option.some.inj this]
 rw [h1]
 refine KL.int Tryz.underlying5 (u8_wf ?_)
 rw [List.getD_eq_getElem?_getD,List.getElem?_eq_getElem (by omega)]
 exact hb _ (List.getElem_mem _)
def KV(t:TypeId)(v:Value):Prop:=∃l,keyOf Tryz.prog t v=some l
theorem tsz:∃m,Tryz.prog.types.size=m+8:=⟨Tryz.prog.types.size - 8,by have:8≤Tryz.prog.types.size:=of_decide_eq_true (by kernel_rfl);omega⟩
noncomputable def isWide (t:TypeId):Bool:=match Tryz.prog.underlying t with|some (.array _ _)|some (.struct _)=>true|_=>false
theorem KV.mk{t:TypeId}{cs:List Value}(hw:isWide t=true)(hk:Tryz.prog.keyType t=true)(hl:cs.length=Tryz.prog.cellsOf t)(h:∀d,KL (d+8) t cs):KV t (.agg cs.toArray):=by
 obtain⟨m,hm⟩:=tsz
 obtain⟨ls,hls⟩:=h (m+1)
 have e1:Tryz.prog.types.size+1=m+1+8:=by omega
 have hf:(Value.agg cs.toArray).formed Tryz.prog t=true:=by
  unfold isWide at hw
  unfold Value.formed
  split at hw <;> simp_all
 refine⟨.string (keyBytes ls),?_⟩
 unfold isWide at hw
 unfold keyOf
 split at hw
 ·rename_i hu
  simp only [hu,hk,hf,Bool.and_self,if_true]
  rw [e1,show(Value.agg cs.toArray).cells.toList=cs from rfl,hls]
  rfl
 ·rename_i hu
  simp only [hu,hk,hf,Bool.and_self,if_true]
  rw [e1,show(Value.agg cs.toArray).cells.toList=cs from rfl,hls]
  rfl
 ·cases hw
theorem isWide_cases{t:TypeId}(h:isWide t=true):(∃n e,Tryz.prog.underlying t=some (.array n e)) ∨ ∃fs,Tryz.prog.underlying t=some (.struct fs):=by
 unfold isWide at h
 split at h
 ·rename_i n e hu;exact .inl ⟨n,e,hu⟩
 ·rename_i fs hu;exact .inr ⟨fs,hu⟩
 ·cases h
structure KeyT (t:TypeId) (m:Nat):Prop where
 wide:isWide t=true
 at':Tryz.prog.keyTypeAt m t=true
 tiled:Tryz.prog.tiled m t=true
 small:m+1≤10000
 guard:Tryz.prog.eqGuardType Tryz.prog.depth t=false
theorem KeyT.law{t:TypeId}{m:Nat}(h:KeyT t m):Go.Maps.Keyed Tryz.prog t:=Go.Maps.Keyed.of_law (deep_law h.small h.at' h.tiled (by rcases isWide_cases h.wide with⟨_,_,hu⟩|⟨_,hu⟩ <;> simp [hu]))
theorem KeyT.inj{t:TypeId}{m:Nat}(h:KeyT t m){a b:Value}{l:Lit}(ha:keyOf Tryz.prog t a=some l)(hb:keyOf Tryz.prog t b=some l):a=b:=keyOf_inj_deep h.tiled (by rcases isWide_cases h.wide with⟨_,_,hu⟩|⟨_,hu⟩ <;> simp [hu]) ha hb
theorem KeyT.eq{t:TypeId}{m:Nat}(h:KeyT t m){a b:Value}(ha:KV t a)(hb:KV t b):∃r:Bool,(r=true ↔ a=b) ∧ ∀w:World,(Op.equalIn 10000 t a b).run Tryz.prog w = .ok r w:=by
 obtain⟨la,ha⟩:=ha
 obtain⟨lb,hb⟩:=hb
 haveI:=Classical.propDecidable (la=lb)
 refine⟨decide (la=lb),?_,fun w=>?_⟩
 ·rw [decide_eq_true_eq]
  constructor
  ·intro e;subst e;exact h.inj ha hb
  ·intro e;subst e;rw [ha] at hb;exact Option.some.inj hb
 ·obtain⟨r,hr,hi⟩:=run_equal_deep w (by have:=h.small;omega) h.at' (by rcases isWide_cases h.wide with⟨_,_,hu⟩|⟨_,hu⟩ <;> simp [hu]) ha hb
  have:r=decide (la=lb):=by rw [Bool.eq_iff_iff,decide_eq_true_eq];exact hi
  rw [← this]
  exact hr
theorem KeyT.eql{t:TypeId}{m:Nat}(h:KeyT t m){xs ys:Array Value}(ha:KV t (.agg xs))(hb:KV t (.agg ys)){p:Prop}[Decidable p](hp:Value.agg xs = .agg ys ↔ p):
  ∀w:World,(binOp .eql t (.agg xs) (.agg ys)).run Tryz.prog w = .ok (.bool (decide p)) w:=by
 intro w
 obtain⟨r,hi,hr⟩:=h.eq ha hb
 rw [run_eql_struct,hr w]
 have:r=decide p:=by rw [Bool.eq_iff_iff,decide_eq_true_eq,← hp];exact hi
 rw [this]
 rfl
theorem KeyT.neq{t:TypeId}{m:Nat}(h:KeyT t m){xs ys:Array Value}(ha:KV t (.agg xs))(hb:KV t (.agg ys)){p:Prop}[Decidable p](hp:Value.agg xs = .agg ys ↔ p):
  ∀w:World,(binOp .neq t (.agg xs) (.agg ys)).run Tryz.prog w = .ok (.bool (!decide p)) w:=by
 intro w
 obtain⟨r,hi,hr⟩:=h.eq ha hb
 rw [run_neq_struct,hr w]
 have:r=decide p:=by rw [Bool.eq_iff_iff,decide_eq_true_eq,← hp];exact hi
 rw [this]
 rfl
theorem KeyT.guarded{t:TypeId}{m:Nat}(h:KeyT t m)(xs ys:Array Value):∀(op:BinOp) (x y:Operand) (w:World),(eqGuard op t x y (.agg xs) (.agg ys)).run Tryz.prog w = .ok () w:=
 fun op x y w=>run_eqGuard_agg w op t x y _ _ h.guard
theorem keyHash:KeyT 43 2:=⟨by kernel_rfl,by kernel_rfl,by kernel_rfl,by decide,by kernel_rfl⟩
theorem kv_hash{xs:List Nat}(hl:xs.length=32)(hb:∀d∈xs,d<256):KV 43 (hv xs):=
 KV.mk keyHash.wide (by kernel_rfl) (by rw [nums_length,hl];kernel_rfl) (fun d=>KL.bytes (d:=d+6) Tryz.underlying43 (by kernel_rfl) hl hb)
theorem keyPoint:KeyT 60 3:=⟨by kernel_rfl,by kernel_rfl,by kernel_rfl,by decide,by kernel_rfl⟩
end Go.Proofs.YtnbmpgballopeaaGreatDoor
/- Maps keyed by whatever can be compared, their elements whatever: what a block holds, told by a function of the keys. -/
namespace Go.Proofs.YtnbmpgballopeaaGreatDoor
open Go.RowKit Go.Maps
def tokR:Value→Option (DataW Value × List MemPlace):=fun v=>some (.held v,[])
structure KeyE (k:TypeId) (α:Type) where
 enc:α→Value
 ok:α→Prop
 kv:∀x,ok x→KV k (enc x)
 inj:∀x y,ok x→ok y→enc x=enc y→x=y
 law:Keyed Tryz.prog k
 kinj:∀ {a b:Value} {l:Lit},keyOf Tryz.prog k a=some l→keyOf Tryz.prog k b=some l→a=b
def MapIs{k:TypeId}{α:Type}(E:KeyE k α)(w:World)(b:Nat)(M:α→Option Value)(n:Nat):Prop:=
 ∃D,w.ownsMap Tryz.prog k tokR b n D∧size D=n∧(∀x l,E.ok x→keyOf Tryz.prog k (E.enc x)=some l→has D l=(M x).isSome ∧ ∀v,M x=some v → ∀z,D.atKey l z = .held v) ∧ ∀l,has D l=true → ∃x,E.ok x∧keyOf Tryz.prog k (E.enc x)=some l
section
variable {k:TypeId} {α:Type} {E:KeyE k α} {w:World} {b n:Nat} {M:α→Option Value}
theorem MapIs.made(w:World):MapIs E (w.alloc (.map #[] 0)) w.heap.size (fun _=>none) 0:=
 ⟨.map [],World.ownsMap_made w _ _ _,rfl,fun x l _ _=>⟨rfl,fun v hv=>by cases hv⟩,fun l hl=>by cases hl⟩
theorem MapIs.lt(h:MapIs E w b M n):b<w.heap.size:=by obtain⟨D,h1,_⟩:=h;exact h1.lt
theorem MapIs.kept{w':World}{row:Option Nat}(h:MapIs E w b M n)(hg:w.grownBy w' row)(hne:some b≠row):MapIs E w' b M n:=by
 obtain⟨D,h1,h2,h3,h4⟩:=h
 exact⟨D,h1.kept hg hne,h2,h3,h4⟩
theorem MapIs.far{w':World}{H:Nat}(h:MapIs E w b M n)(hf:Far H w w')(hne:b≠H):MapIs E w' b M n:=h.kept hf (by simpa using hne)
theorem MapIs.below{w':World}(h:MapIs E w b M n)(hb:Below w.heap.size w w'):MapIs E w' b M n:=
 h.kept (row:=none) ⟨hb.os,hb.tape,hb.output,hb.size,fun i hi _=>hb.block i hi⟩ (by simp)
theorem MapIs.congr{M':α→Option Value}{n':Nat}(h:MapIs E w b M n)(hM:∀x,E.ok x→M x=M' x)(hn:n=n'):MapIs E w b M' n':=by
 subst hn
 obtain⟨D,h1,h2,h3,h4⟩:=h
 exact⟨D,h1,h2,fun x l hx hl=>by rw [← hM x hx];exact h3 x l hx hl,h4⟩
theorem MapIs.get(h:MapIs E w b M n){t e:TypeId}(ht:Tryz.prog.underlying t=some (.map k e)){z:Value}(hz:(zeroValue e).run Tryz.prog w = .ok z w)(x:α)(hx:E.ok x)(c:Bool):
  (Instr.lookup t (.map (some b)) (E.enc x) c).run Tryz.prog w = .ok (if c then .tuple #[(M x).getD z,.bool (M x).isSome] else (M x).getD z) w:=by
 obtain⟨D,h1,_,h3,_⟩:=h
 obtain⟨l,hl⟩:=E.kv x hx
 obtain⟨g1,g2⟩:=h3 x l hx hl
 cases c with
 | true=>
  obtain⟨v,ps,hrun,hv⟩:=h1.look_ok E.law ht hz (zd:=.held z) (zp:=[]) rfl hl
  rw [hrun,g1]
  have hv':DataW.held v=D.atKey l (.held z):=by
   simp only [tokR,Option.some.injEq,Prod.mk.injEq] at hv
   exact hv.1
  cases hM:M x with
  | none=>
   rw [hM] at g1
   rw [atKey_of_not_has g1] at hv'
   simp only [DataW.held.injEq] at hv'
   simp [hv']
  | some u=>
   rw [g2 u hM] at hv'
   simp only [DataW.held.injEq] at hv'
   simp [hv']
 | false=>
  obtain⟨v,ps,hrun,hv⟩:=h1.lookup E.law ht hz (zd:=.held z) (zp:=[]) rfl hl
  rw [hrun]
  have hv':DataW.held v=D.atKey l (.held z):=by
   simp only [tokR,Option.some.injEq,Prod.mk.injEq] at hv
   exact hv.1
  cases hM:M x with
  | none=>
   rw [hM] at g1
   rw [atKey_of_not_has g1] at hv'
   simp only [DataW.held.injEq] at hv'
   simp [hv']
  | some u=>
   rw [g2 u hM] at hv'
   simp only [DataW.held.injEq] at hv'
   simp [hv']
theorem MapIs.put(h:MapIs E w b M n){t e:TypeId}(ht:Tryz.prog.underlying t=some (.map k e))(hn:n<maxLen)(x:α)(hx:E.ok x)(v:Value)[DecidableEq α]:
  ∃w',(Instr.mapUpdate t (.map (some b)) (E.enc x) v).run Tryz.prog w = .ok () w'∧MapIs E w' b (fun y=>if y=x then some v else M y) (if (M x).isSome then n else n+1)∧Far b w w':=by
 obtain⟨D,h1,h2,h3,h4⟩:=h
 obtain⟨l,hl⟩:=E.kv x hx
 have hk:=E.law.one.key ⟨_,hl⟩
 obtain⟨w',hrun,g1,g2⟩:=h1.update E.law ht hn hl (d:=.held v) (ps:=[]) rfl
 obtain⟨q1,_⟩:=h3 x l hx hl
 have hsz:size (D.put l (.held v))=if (M x).isSome then n else n+1:=by
  rw [size_put (h1.tidy E.law),h2,q1]
 refine⟨w',hrun,⟨D.put l (.held v),?_,hsz,fun y ly hy hly=>?_,fun l' hl'=>?_⟩,g2⟩
 ·obtain⟨es,clock,a1,a2,_,a4⟩:=g1
  refine⟨es,clock,a1,a2,?_,a4⟩
  rw [← hsz,a4,size_eq,length_sorted];simp
 ·by_cases hyx:y=x
  ·subst hyx
   rw [hl] at hly
   cases hly
   dsimp only
   rw [if_pos rfl]
   exact⟨has_put_same h1.isMap hk _,fun u hu z=>by cases hu;exact atKey_put_same h1.isMap hk _ z⟩
  ·dsimp only
   rw [if_neg hyx]
   have hne:ly≠l:=fun e=>hyx (E.inj _ _ hy hx (E.kinj (by rw [e] at hly;exact hly) hl))
   obtain⟨r1,r2⟩:=h3 y ly hy hly
   exact⟨by rw [has_put_other hne];exact r1,fun u hu z=>by rw [atKey_put_other hne];exact r2 u hu z⟩
 ·by_cases hll:l'=l
  ·subst hll;exact⟨x,hx,hl⟩
  ·rw [has_put_other hll] at hl';exact h4 l' hl'
theorem MapIs.del(h:MapIs E w b M n){t e:TypeId}(ht:Tryz.prog.underlying t=some (.map k e))(x:α)(hx:E.ok x)(ty:TypeId)[DecidableEq α]:
  ∃w',(Builtin.delete_ #[t,k] ty #[.map (some b),E.enc x]).run Tryz.prog w = .ok (.tuple #[]) w'∧MapIs E w' b (fun y=>if y=x then none else M y) (if (M x).isSome then n - 1 else n)∧Far b w w':=by
 obtain⟨D,h1,h2,h3,h4⟩:=h
 obtain⟨l,hl⟩:=E.kv x hx
 obtain⟨w',hrun,g1,g2⟩:=h1.drop E.law ht hl ty
 obtain⟨q1,_⟩:=h3 x l hx hl
 have hsz:size (D.del l)=if (M x).isSome then n - 1 else n:=by
  have:=size_del (k:=l) (h1.tidy E.law)
  rw [h2,q1] at this
  split
  ·rename_i hh;rw [if_pos hh] at this;omega
  ·rename_i hh;rw [if_neg hh] at this;omega
 refine⟨w',hrun,⟨D.del l,?_,hsz,fun y ly hy hly=>?_,fun l' hl'=>?_⟩,g2.grown⟩
 ·obtain⟨es,clock,a1,a2,_,a4⟩:=g1
  refine⟨es,clock,a1,a2,?_,a4⟩
  rw [← hsz,a4,size_eq,length_sorted];simp
 ·by_cases hyx:y=x
  ·subst hyx
   rw [hl] at hly
   cases hly
   dsimp only
   rw [if_pos rfl]
   exact⟨has_del_same,fun u hu z=>by cases hu⟩
  ·dsimp only
   rw [if_neg hyx]
   have hne:ly≠l:=fun e=>hyx (E.inj _ _ hy hx (E.kinj (by rw [e] at hly;exact hly) hl))
   obtain⟨r1,r2⟩:=h3 y ly hy hly
   exact⟨by rw [has_del_other hne];exact r1,fun u hu z=>by rw [atKey_del_other hne];exact r2 u hu z⟩
 ·by_cases hll:l'=l
  ·subst hll;rw [has_del_same] at hl';cases hl'
  ·rw [has_del_other hll] at hl';exact h4 l' hl'
theorem MapIs.len(h:MapIs E w b M n){t e:TypeId}(ht:Tryz.prog.underlying t=some (.map k e))(ty:TypeId):(Builtin.len_ #[t] ty #[.map (some b)]).run Tryz.prog w = .ok (.int .i64 (n:Int)) w:=by
 obtain⟨D,h1,h2,_⟩:=h
 rw [h1.len ht ty,h2]
end
section
variable {k:TypeId} {α:Type} {E:KeyE k α} {w:World} {b n:Nat} {M:α→Option Value} {ops:Array Oper} {rest:List Oper} {o:Oper} {a:Act} {Q:Exit→Act→World→Prop}
theorem wp_put{K:Act→World→Prop}(m x v:Operand)(t:TypeId)(hop:o.op=Op.mapUpdate t m x v){e:TypeId}(ht:Tryz.prog.underlying t=some (.map k e))(h:MapIs E w b M n)(hn:n<maxLen)
  (hm:a.eval m = .map (some b)) (y:α) (hy:E.ok y) (hx:a.eval x=E.enc y) {val:Value} (hv:a.eval v=val) [DecidableEq α]
  (hK:∀w',MapIs E w' b (fun z=>if z=y then some val else M z) (if (M y).isSome then n else n+1)→Far b w w'→K (a.put o.dst undef) w'):o.wp Tryz.prog a w K Q:=by
 obtain⟨w',hrun,r1,r2⟩:=h.put ht hn y hy val
 unfold Oper.wp
 simp [execOp,hop,hm,hx,hv,hrun,Result.andThen]
 exact hK w' r1 r2
theorem run_look{ev:Operand→Value}(m x:Operand)(t:TypeId)(c:Bool)(hop:o.op=Op.lookup t m x c){e:TypeId}(ht:Tryz.prog.underlying t=some (.map k e)){z:Value}(hz:(zeroValue e).run Tryz.prog w = .ok z w)(h:MapIs E w b M n)
  (hm:ev m = .map (some b)) (y:α) (hy:E.ok y) (hx:ev x=E.enc y):(execOp ev o).run Tryz.prog w = .ok (.value (if c then .tuple #[(M y).getD z,.bool (M y).isSome] else (M y).getD z)) w:=by
 have hrun:=h.get ht hz y hy c
 simp [execOp,hop,hm,hx,hrun,Result.andThen]
end
theorem nums_inj{k:IntKind}:∀ {xs ys:List Nat},nums k xs=nums k ys→xs=ys
 | [],[],_=>rfl
 | [],_::_,h=>by simp [nums] at h
 | _::_,[],h=>by simp [nums] at h
 | x::xs,y::ys,h=>by
  have h1:Value.int k (x:Int) = .int k (y:Int)∧nums k xs=nums k ys:=by simpa [nums] using h
  have h2:=nums_inj h1.2
  have h3:=h1.1
  simp only [Value.int.injEq,true_and] at h3
  rw [h2,show x=y by omega]
def EH:KeyE 43 (List Nat) where
 enc:=hv
 ok:=fun xs=>xs.length=32 ∧ ∀d∈xs,d<256
 kv:=fun _ h=>kv_hash h.1 h.2
 inj:=fun x y _ _ e=>by
  unfold hv at e
  have h:=congrArg Array.toList (Value.agg.inj e)
  exact nums_inj h
 law:=keyHash.law
 kinj:=keyHash.inj
end Go.Proofs.YtnbmpgballopeaaGreatDoor
/- All but some blocks is as it was. -/
namespace Go.Proofs.YtnbmpgballopeaaGreatDoor
open Go.RowKit
structure Keep (S:Nat→Prop) (w w':World):Prop where
 os:w'.os=w.os
 tape:w'.tape=w.tape
 output:w'.output=w.output
 size:w.heap.size≤w'.heap.size
 block:∀i,i<w.heap.size → ¬ S i→w'.heap[i]? = w.heap[i]?
section
variable {S R:Nat→Prop} {u v w w':World}
theorem Keep.refl(S:Nat→Prop)(w:World):Keep S w w:=⟨rfl,rfl,rfl,Nat.le_refl _,fun _ _ _=>rfl⟩
theorem Keep.trans(h:Keep S u v)(k:Keep S v w):Keep S u w:=⟨k.os.trans h.os,k.tape.trans h.tape,k.output.trans h.output,Nat.le_trans h.size k.size,fun i hi hn=>(k.block i (Nat.lt_of_lt_of_le hi h.size) hn).trans (h.block i hi hn)⟩
theorem Keep.mono(h:Keep S u v)(hs:∀i,S i→R i):Keep R u v:=⟨h.os,h.tape,h.output,h.size,fun i hi hn=>h.block i hi (fun hh=>hn (hs i hh))⟩
theorem Keep.then(h:Keep S u v)(k:Keep R v w)(hs:∀i,i<u.heap.size→R i→S i):Keep S u w:=⟨k.os.trans h.os,k.tape.trans h.tape,k.output.trans h.output,Nat.le_trans h.size k.size,fun i hi hn=>(k.block i (Nat.lt_of_lt_of_le hi h.size) (fun hh=>hn (hs i hi hh))).trans (h.block i hi hn)⟩
theorem Keep.of(h:Below w.heap.size w w'):Keep S w w':=⟨h.os,h.tape,h.output,h.size,fun i hi _=>h.block i hi⟩
theorem Keep.far{H:Nat}(h:Far H w w')(hs:S H):Keep S w w':=⟨h.os,h.tape,h.output,h.size,fun i hi hn=>h.block i hi (fun e=>hn (by cases e;exact hs))⟩
theorem Keep.far'{H:Nat}(h:Far H w w'):Keep (fun i=>i=H) w w':=Keep.far h rfl
theorem Keep.grown{row:Option Nat}(h:w.grownBy w' row)(hs:∀i,row=some i→S i):Keep S w w':=⟨h.os,h.tape,h.output,h.size,fun i hi hn=>h.block i hi (fun e=>hn (hs i e.symm))⟩
theorem Keep.below{B:Nat}(h:Keep S w w')(hs:∀i,S i→B≤i)(hB:B≤w.heap.size):Below B w w':=⟨h.os,h.tape,h.output,h.size,fun i hi=>h.block i (by omega) (fun hh=>by have:=hs i hh;omega)⟩
theorem Keep.heap{g:Nat}{x:Obj}(h:Keep S w w')(hx:w.heap[g]? = some x)(hn:¬ S g):w'.heap[g]? = some x:=by rw [h.block g (Array.getElem?_eq_some_iff.1 hx).1 hn];exact hx
theorem Keep.cell{a:Addr}{x:Value}(h:Keep S w w')(hx:w.cell? a=some x)(hn:¬ S a.block):w'.cell? a=some x:=by
 rw [World.cell?_of_block (h.block _ (World.block_lt_of_cell? w _ hx) hn)];exact hx
theorem Keep.range{g o:Nat}{L:List Value}(h:Keep S w w')(hr:w.rangeAt g o L)(hn:¬ S g):w'.rangeAt g o L:=fun j x hj=>h.cell (hr j x hj) hn
theorem Keep.own{B:Nat}{e:TypeId}{size:Nat}{x:Value}{n:Nat}{xs:List Value}(h:Keep S w w')(ho:w.ownsRow B e size x n xs)(hn:∀g,x.ownBlock=some g → ¬ S g):w'.ownsRow B e size x n xs:=by
 refine⟨ho.1,?_⟩
 rcases ho.2 with hv|⟨g,cap,cur,rfl,hb0,hg,rest⟩
 ·exact .inl hv
 ·exact .inr ⟨g,cap,cur,rfl,hb0,by rw [h.block g (Array.getElem?_eq_some_iff.1 hg).1 (hn g rfl)];exact hg,rest⟩
theorem MapIs.keep{k:TypeId}{α:Type}{E:KeyE k α}{b n:Nat}{M:α→Option Value}(h:MapIs E w b M n)(hk:Keep S w w')(hn:¬ S b):MapIs E w' b M n:=by
 have hl:=h.lt
 obtain⟨D,⟨es,clock,hb1,rest⟩,k2⟩:=h
 exact⟨D,⟨es,clock,(hk.block b hl hn).trans hb1,rest⟩,k2⟩
end
theorem wpList_pushK{P:Program}{ops:Array Oper}{rest:List Oper}{o:Oper}{a:Act}{Q:Exit→Act→World→Prop}{w:World}(hgd:o.guard=none)(s x:Operand)(t:TypeId)
  (ho:o.op = .call { callee:=.builtin .append,args:=#[s,x],argTypes:=#[t,t] })
  {e:TypeId} {size bytes:Nat} {z:Value} (ty:SliceTy P t e size bytes z) (B:Nat) {v:Value} {n:Nat} {xs:List Value} (hown:w.ownsRow B e size v n xs) (hs:a.eval s=v)
  {us:Array Value} {et:TypeId} (hx:a.eval x = .slice (some ⟨w.heap.size,0,none⟩) 1 1) (hl:us.size=size) (h1:us.toList.all Value.oneCell'=true) (hn:n<4294967296) (hby:bytes≤16384) (hB:B≤w.heap.size)
  (h:∀v' w',w'.ownsRow B e size v' (n+1) (xs++us.toList)→Keep (fun i=>v.ownBlock=some i) w w'→(v'.ownBlock=v.ownBlock∨v'.ownBlock=some (w.heap.size+1))→wpList P ops Q rest (a.put o.dst v') w'):wpList P ops Q (o::rest) a (w.alloc (.cells us et)):=by
 obtain⟨i,ht,hi,hz,hsz,hb⟩:=ty.ex
 refine wpList_append_own_at _ hgd s x t ho B e i z size bytes ht hi hz hsz hb ty.zs ty.pos v n xs hs (hown.alloc _) ⟨w.heap.size,0,none⟩ 1 1 us.toList hx (by simp [hl]) (cells_new w us et) (fun u hu=>List.all_eq_true.1 h1 u hu) ?_ ?_ (by simp;omega) ?_
 ·unfold maxLen;omega
 ·have:(n+1)*bytes≤4294967296*16384:=Nat.mul_le_mul (by omega) hby
  omega
 ·intro v' w' h2 h3 _ h5
  refine h v' w' h2 ?_ (by simpa using h5)
  exact(Keep.of (S:=fun i=>v.ownBlock=some i) ((Below.refl w.heap.size w).alloc (Nat.le_refl _) _)).trans (Keep.grown h3 (fun i hi=>hi))
theorem wp_pushK{P:Program}{o:Oper}{a:Act}{K:Act→World→Prop}{Q:Exit→Act→World→Prop}{w:World}(s x:Operand)(t:TypeId)
  (ho:o.op = .call { callee:=.builtin .append,args:=#[s,x],argTypes:=#[t,t] })
  {e:TypeId} {size bytes:Nat} {z:Value} (ty:SliceTy P t e size bytes z) (B:Nat) {v:Value} {n:Nat} {xs:List Value} (hown:w.ownsRow B e size v n xs) (hs:a.eval s=v)
  {g:Nat} {us:List Value} {et:TypeId} (hx:a.eval x = .slice (some ⟨g,0,none⟩) 1 1) (hg:w.heap[g]? = some (.cells us.toArray et (0,0))) (hl:us.length=size) (h1:∀u∈us,u.oneCell'=true) (hn:n<4294967296) (hby:bytes≤16384) (hB:B≤w.heap.size)
  (h:∀v' w',w'.ownsRow B e size v' (n+1) (xs++us)→Keep (fun i=>v.ownBlock=some i) w w'→(v'.ownBlock=v.ownBlock∨v'.ownBlock=some w.heap.size)→K (a.put o.dst v') w'):o.wp P a w K Q:=by
 obtain⟨i,ht,hi,hz,hsz,hb⟩:=ty.ex
 have hadd:∀q,(⟨g,0,none⟩:Addr).add q=⟨g,q,none⟩:=fun q=>by unfold Addr.add;split <;> simp_all
 have hnews:∀j y,us[j]? = some y→w.cell? ((⟨g,0,none⟩:Addr).add j)=some y:=by
  intro j y hj
  rw [hadd,cell_of_row _ g _ _ et (0,0) hg,List.getElem?_toArray];exact hj
 have hbytes:(n+1)*bytes≤140737488355328:=by
  have:(n+1)*bytes≤4294967296*16384:=Nat.mul_le_mul (by omega) hby
  omega
 obtain⟨v',w',hr,h2,h3,_,h5⟩:=run_append_own_at (P:=P) w B t o.type e i z size bytes ht hi hz hsz hb ty.zs ty.pos v n xs hown ⟨g,0,none⟩ 1 1 us (by simp [hl]) hnews h1 (by unfold maxLen;omega) hbytes hB
 unfold Oper.wp execOp
 simp only [ho,resolve,invoke,builtin,Sem.run_bind,Sem.run_pure,Result.andThen_ok,List.map_toArray,List.map_cons,List.map_nil,hs,hx,hr]
 exact h v' w' h2 (Keep.grown h3 (fun i hi=>hi)) h5
theorem wp_lit1{P:Program}{o:Oper}{a:Act}{w:World}{K:Act→World→Prop}{Q:Exit→Act→World→Prop}(t e:TypeId)(x:Operand)(ho:o.op = .buildSlice t 1 #[(0,x)])
  {cells:Array Value} (hx:a.eval x = .agg cells) (hu:P.underlying t=some (.slice e)) {size:Nat} (hi:(P.info? e).map (·.size)=some size) (hz:((P.info? e).bind (·.zero)).isSome=true) (hs:cells.size=size) (hp:0<size) (hle:size≤16777216)
  (h:K (a.put o.dst (.slice (some ⟨w.heap.size,0,none⟩) 1 1)) (w.alloc (.cells cells e))):o.wp P a w K Q:=by
 cases hie:P.info? e with
 | none=>simp [hie] at hi
 | some ie=>
  simp only [hie,Option.map_some,Option.some.injEq,Option.bind_some] at hi hz
  obtain⟨z,hzz⟩:=Option.isSome_iff_exists.1 hz
  refine wp_buildSlice t e 1 _ ho cells ie z hu hie hzz (by rw [hi];omega) (by rw [hi];omega) ?_ h
  have:=Great.fill_whole (s:=size) hp [.agg cells] ((Array.range (1*size)).map (z.cells[· % z.cells.size]!)) (by intro v hv;simp at hv;subst hv;exact hs) (by simp)
  rw [hi]
  simpa [hx,Value.cells] using this
end Go.Proofs.YtnbmpgballopeaaGreatDoor

/- Contracts of math/bits: Mul64, Add64, Sub64, for every uint64. -/
import Derived.Test.YtnbmpgballopeaaGreatDoorChecked
import Derived.WalkKit
import Derived.WalkSpells
import Derived.WalkLawsBesides
import Derived.Lib.Mul64
import Derived.Laws.Bits64b
import Derived.Shelf.Spec.BitsCarry
import Derived.Test.YtnbmpgballopeaaGreatDoorZOnce
import Derived.Test.YtnbmpgballopeaaGreatDoorZStr
import Derived.Test.YtnbmpgballopeaaGreatDoorZRf1
import Derived.Test.YtnbmpgballopeaaGreatDoorZOpenT
namespace Go.Proofs.YtnbmpgballopeaaGreatDoor
open Go.RowKit
namespace Mul64
end Mul64
end Go.Proofs.YtnbmpgballopeaaGreatDoor
/- Contracts of package sums: Covers, Mul. -/
namespace Go.Proofs.YtnbmpgballopeaaGreatDoor
open Go.RowKit
theorem mul_lt64{x y:Nat}(hx:x<18446744073709551616)(hy:y<18446744073709551616):x*y / 18446744073709551616<18446744073709551616:=by
 rw [Nat.div_lt_iff_lt_mul (by omega)]
 exact Nat.mul_lt_mul_of_lt_of_lt hx hy
def U64E(z:Nat)(er:Int):Value:=.tuple #[.int .u64 (z:Int),.int .i64 er]
def addV(a b:Nat):Value:=if a+b<18446744073709551616 then U64E (a+b) 0 else U64E 0 10
theorem addV_yes{a b:Nat}(h:a+b<18446744073709551616):addV a b = .tuple #[.int .u64 ((a+b:Nat):Int),.int .i64 0]:=if_pos h
theorem addV_no{a b:Nat}(h:¬ a+b<18446744073709551616):addV a b = .tuple #[.int .u64 0,.int .i64 10]:=if_neg h
theorem run_badd(x y:Nat)(w:World):(callFunc 78 #[.int .u64 x,.int .u64 y,.int .u64 0]).run Tryz.prog w = .ok (.value (.tuple #[.int .u64 (((x+y) % 18446744073709551616:Nat):Int),.int .u64 (((x+y) / 18446744073709551616:Nat):Int)])) w:=by
 rw [run_callFunc_extern Tryz.func78 (by kernel_rfl) (by kernel_rfl) (by kernel_rfl) (e:=add64Entry) (by kernel_rfl),run_add64 x y 0 (by omega) (by omega) (by omega) (by omega)]
 simp only [Result.andThen]
 congr 5 <;> omega
set_option maxHeartbeats 400000 in
theorem sadd_walk(a b:Nat)(ha:a<18446744073709551616)(hb:b<18446744073709551616)(w:World):
  Calls Tryz.prog 60 #[.int .u64 a,.int .u64 b] w fun e w'=>e = .returned (addV a b)∧w=w':=by
 have r:=run_badd a b
 by_cases h:a+b<18446744073709551616
 ·rw [addV_yes h]
  rw [show(a+b) % 18446744073709551616=a+b from Nat.mod_eq_of_lt h,show(a+b) / 18446744073709551616=0 from Nat.div_eq_of_lt h] at r
  go_enter Tryz.func60,Tryz.ntmps60
  go_wp2
  go_ret2
  exact⟨rfl,rfl⟩
 ·rw [addV_no h]
  rw [show(a+b) / 18446744073709551616=1 from by omega] at r
  go_enter Tryz.func60,Tryz.ntmps60
  go_wp2
  go_ret2
  exact⟨rfl,rfl⟩
def totV(xs:List Nat):Value:=if xs.sum<18446744073709551616 then U64E xs.sum 0 else U64E 0 10
theorem totV_yes{xs:List Nat}(h:xs.sum<18446744073709551616):totV xs = .tuple #[.int .u64 (xs.sum:Int),.int .i64 0]:=if_pos h
theorem totV_no{xs:List Nat}(h:¬ xs.sum<18446744073709551616):totV xs = .tuple #[.int .u64 0,.int .i64 10]:=if_neg h
theorem sum_take_succ{xs:List Nat}{k:Nat}(h:k<xs.length):(xs.take (k+1)).sum=(xs.take k).sum+xs.getD k 0:=by
 rw [List.take_succ_eq_append_getElem h,List.sum_append];simp [List.getElem?_eq_getElem h]
theorem sum_take_le(xs:List Nat)(k:Nat):(xs.take k).sum≤xs.sum:=by
 have:=List.take_append_drop k xs
 have h2:((xs.take k)++(xs.drop k)).sum=xs.sum:=by rw [this]
 rw [List.sum_append] at h2
 omega
theorem getD_mem_lt{xs:List Nat}{M:Nat}(h:∀d∈xs,d<M)(hM:0<M)(k:Nat):xs.getD k 0<M:=by
 by_cases hk:k<xs.length
 ·have:=h (xs[k]) (List.getElem_mem hk);simp [List.getElem?_eq_getElem hk,this]
 ·simp [List.getElem?_eq_none (Nat.le_of_not_lt hk),hM]
set_option maxHeartbeats 400000 in
theorem stotal_walk(a:Option Addr)(n cap:Nat)(xs:List Nat)(hb:∀d∈xs,d<18446744073709551616)(w:World)(h:Sl .u64 w a n cap xs):
  Calls Tryz.prog 34 #[.slice a n cap] w fun e w'=>e = .returned (totV xs)∧w=w':=by
 have HL:=hid h.len
 have hcap:=h.2.1
 have hm':cap≤9223372036854775807:=by have h2:=h.2.2.1;unfold maxLen at h2;omega
 obtain⟨b,off,ha,hc⟩:=h.opened
 go_enter Tryz.func34,Tryz.ntmps34
 go_wp2
 go_loop [4,11] (fun s0 i0=>∃(k s:Nat),k≤n∧i0 = .int .i64 k∧s0 = .int .u64 s∧s<18446744073709551616∧Hid (s=(xs.take k).sum)) (fun _ i0=>n - (intOf i0).toNat)
 case atStart=>exact⟨0,0,by omega,rfl,rfl,by omega,hid rfl⟩
 case round=>
  obtain⟨k,s,hk,rfl,rfl,hs,hsum⟩:=hrel
  by_cases hlt:k<n
  ·have hcx:=hc k hlt
   obtain rfl:=ha (by omega)
   have hd:=getD_mem_lt hb (by omega) k
   have hst:=hid (sum_take_succ (xs:=xs) (k:=k) (by rw [HL.out];exact hlt))
   have hle:=hid (sum_take_le xs (k+1))
   generalize hdd:xs.getD k 0=d at *
   have HD:=hid hdd
   clear hdd hc h
   by_cases hf:s+d<18446744073709551616
   ·go_wp2_with fail
    refine(sadd_walk s d hs hd _).mono ?_
    rintro e w' ⟨rfl,rfl⟩
    rw [addV_yes hf]
    go_wp2
    go_round
    case rel=>exact⟨k+1,s+d,by omega,by go_num,rfl,hf,hid (by rw [hst.out,hsum.out])⟩
    case measure=>simp [intOf];omega
   ·have hno:=hid (totV_no (xs:=xs) (by have:=hle.out;rw [hst.out,← hsum.out] at this;omega))
    go_wp2_with fail
    refine(sadd_walk s d hs hd _).mono ?_
    rintro e w' ⟨rfl,rfl⟩
    rw [addV_no hf]
    go_wp2
    go_ret2
    exact⟨by rw [hno.out];rfl,rfl⟩
  ·obtain rfl:n=k:=by omega
   have hyes:=hid (totV_yes (xs:=xs) (by have:=hsum.out;rw [List.take_of_length_le (by rw [HL.out];omega)] at this;omega))
   have hs2:=hid (show s=xs.sum by have:=hsum.out;rw [List.take_of_length_le (by rw [HL.out];omega)] at this;exact this)
   go_wp2
   go_ret2
   exact⟨by rw [hyes.out,← hs2.out];rfl,rfl⟩
end Go.Proofs.YtnbmpgballopeaaGreatDoor
/- The chain, plain: paths, outputs, inputs, transactions; when one is none. -/
namespace Go.Proofs.YtnbmpgballopeaaGreatDoor
open Go.RowKit
def H32b(x:List Nat):Prop:=x.length=32 ∧ ∀d∈x,d<256
def i64ok(n:Int):Prop:=-9223372036854775808≤n∧n≤9223372036854775807
structure PathD where
 own:List Nat
 also:List Nat
 lock:List Nat
 wait:Int
 till:Int
def PathD.cells(p:PathD):List Value:=nums .u8 p.own++(nums .u8 p.also++(nums .u8 p.lock++[.int .i64 p.wait,.int .i64 p.till]))
structure PathD.ok (p:PathD):Prop where
 own:H32b p.own
 also:H32b p.also
 lock:H32b p.lock
 wait:i64ok p.wait
 till:i64ok p.till
theorem PathD.len{p:PathD}(h:p.ok):p.cells.length=98:=by simp [PathD.cells,h.own.1,h.also.1,h.lock.1]
def PathD.bad(p:PathD):Bool:=decide (p.wait<0∨1073741824<p.wait∨p.till<0∨1073741824<p.till)
structure OutD where
 coins:Nat
 pa:Option Addr
 pc:Nat
 paths:List PathD
 anchor:List Nat
def OutD.cells(o:OutD):List Value:=.int .u64 (o.coins:Int) :: .slice o.pa o.paths.length o.pc::nums .u8 o.anchor
structure OutD.good (w:World) (o:OutD):Prop where
 coins:o.coins<18446744073709551616
 anchor:H32b o.anchor
 paths:Rd w 98 o.pa o.paths.length o.pc (o.paths.flatMap PathD.cells)
 ok:∀p∈o.paths,p.ok
theorem OutD.len{w:World}{o:OutD}(h:o.good w):o.cells.length=34:=by simp [OutD.cells,h.anchor.1]
theorem OutD.good.below{w w':World}{o:OutD}(h:o.good w)(b:Below w.heap.size w w'):o.good w':=⟨h.coins,h.anchor,h.paths.below b,h.ok⟩
def OutD.code(o:OutD):Nat:=if o.paths.length=0∨4<o.paths.length then 1 else if o.paths.any PathD.bad then 1 else 0
structure InD where
 tx:List Nat
 out:Int
 path:Int
 token:List Nat
 more:List Nat
 secret:List Nat
def InD.cells(i:InD):List Value:=nums .u8 i.tx++(.int .i64 i.out :: .int .i64 i.path::(nums .u8 i.token++(nums .u8 i.more++nums .u8 i.secret)))
structure InD.ok (i:InD):Prop where
 tx:H32b i.tx
 out:i64ok i.out
 path:i64ok i.path
 token:H32b i.token
 more:H32b i.more
 secret:H32b i.secret
theorem InD.len{i:InD}(h:i.ok):i.cells.length=130:=by simp [InD.cells,h.tx.1,h.token.1,h.more.1,h.secret.1]
def InD.bad(i:InD):Bool:=decide (i.out<0∨256≤i.out∨i.path<0∨4≤i.path)
def InD.meets(i j:InD):Bool:=decide (j.tx=i.tx∧j.out=i.out)
structure TxD where
 ia:Option Addr
 ic:Nat
 ins:List InD
 oa:Option Addr
 oc:Nat
 outs:List OutD
def TxD.cells(t:TxD):List Value:=[.slice t.ia t.ins.length t.ic,.slice t.oa t.outs.length t.oc]
structure TxD.good (w:World) (t:TxD):Prop where
 ins:Rd w 130 t.ia t.ins.length t.ic (t.ins.flatMap InD.cells)
 iok:∀i∈t.ins,i.ok
 outs:Rd w 34 t.oa t.outs.length t.oc (t.outs.flatMap OutD.cells)
 ook:∀o∈t.outs,o.good w
theorem TxD.good.below{w w':World}{t:TxD}(h:t.good w)(b:Below w.heap.size w w'):t.good w':=⟨h.ins.below b,h.iok,h.outs.below b,fun o ho=>(h.ook o ho).below b⟩
theorem flatB_at{α:Type}{f:α→List Value}{size:Nat}:∀ {xs:List α},(∀x∈xs,(f x).length=size) → ∀ {i:Nat} {x:α},xs[i]? = some x → ∀ {k:Nat},k<size→(xs.flatMap f)[i*size+k]? = (f x)[k]?
 | [],_,i,x,h,_,_=>by simp at h
 | y::r,hs,0,x,h,k,hk=>by
  simp only [List.getElem?_cons_zero,Option.some.injEq] at h
  subst h
  rw [List.flatMap_cons,Nat.zero_mul,Nat.zero_add,List.getElem?_append_left (by rw [hs _ (by simp)];exact hk)]
 | y::r,hs,i+1,x,h,k,hk=>by
  simp only [List.getElem?_cons_succ] at h
  rw [List.flatMap_cons,List.getElem?_append_right (by rw [hs _ (by simp),Nat.succ_mul];omega),hs y (by simp)]
  have e:(i+1)*size+k - size=i*size+k:=by rw [Nat.succ_mul];omega
  rw [e]
  exact flatB_at (fun z hz=>hs z (by simp [hz])) h hk
theorem rd_row{w:World}{α:Type}{f:α→List Value}{size n cap:Nat}{a:Option Addr}{xs:List α}(hs:∀x∈xs,(f x).length=size)(h:Rd w size a n cap (xs.flatMap f)){i:Nat}{x:α}(hx:xs[i]? = some x)(hi:i<n):∃b off,a=some ⟨b,off,none⟩∧w.rangeAt b (off+i*size) (f x):=by
 obtain⟨_,_,_,_,b,off,ha,hc⟩:=h
 refine⟨b,off,ha (by omega),fun k v hv=>?_⟩
 have hk:k<size:=by rw [← hs x (List.mem_of_getElem? hx)];exact(List.getElem?_eq_some_iff.1 hv).1
 rw [Nat.add_assoc]
 exact hc _ _ (by rw [flatB_at hs hx hk];exact hv)
def insC:List InD→List InD→Nat
 | _,[]=>0
 | pre,i::r=>if i.bad then 1 else if pre.any i.meets then 6 else insC (pre++[i]) r
def outsC:List OutD→Nat
 | []=>0
 | o::r=>if o.code=0 then outsC r else o.code
def TxD.code(t:TxD):Nat:=
 if 256<t.ins.length∨256<t.outs.length then 4 else if t.ins.length=0∨t.outs.length=0 then 1 else
 if insC [] t.ins≠0 then insC [] t.ins else if outsC t.outs≠0 then outsC t.outs else
 if (t.outs.map OutD.coins).sum<18446744073709551616 then 0 else 10
def InD.other(i:InD)(h:List Nat)(p:Int):InD:=⟨i.tx,i.out,p,h,h,h⟩
end Go.Proofs.YtnbmpgballopeaaGreatDoor
/- The reference's numbers as digits: Num, Sub. -/
namespace Go.Proofs.YtnbmpgballopeaaGreatDoor
open Go.RowKit
def NumRes(w:World)(x:Nat)(e:Ending)(w':World):Prop:=
 e = .returned (.tuple #[.int .u64 ((if x<18446744073709551616 then x else 0:Nat):Int),.bool (decide (x<18446744073709551616))])∧w=w'
theorem num_big{w:World}{x:Nat}{xs:List Nat}(hx:Dig xs x)(h:8<xs.length):NumRes w x (.returned (.tuple #[.int .u64 0,.bool false])) w:=by
 have h1:=hx.ge (by omega)
 have h2:256 ^ 8≤256 ^ (xs.length - 1):=pow256_le (by omega)
 have h3:¬ x<18446744073709551616:=by omega
 exact⟨by simp [h3],rfl⟩
theorem num_small{w:World}{x:Nat}{xs:List Nat}(hx:Dig xs x)(h:xs.length≤8){z:Int}(hz:z=(val xs:Int)):NumRes w x (.returned (.tuple #[.int .u64 z,.bool true])) w:=by
 have h1:=hx.lt
 have h2:256 ^ xs.length≤256 ^ 8:=pow256_le h
 have h3:x<18446744073709551616:=by omega
 rw [hx.1] at hz
 subst hz
 exact⟨by simp [h3],rfl⟩
theorem num_step{xs:List Nat}{n j:Nat}(h:Dg xs)(hl:xs.length=n)(hn:n≤8)(hj:j<n):
  val (xs.drop j)=xs.getD j 0+256*val (xs.drop (j+1))∧256*val (xs.drop (j+1))<18446744073709551616∧xs.getD j 0+256*val (xs.drop (j+1))<18446744073709551616:=by
 have e:val (xs.drop j)=xs.getD j 0+256*val (xs.drop (j+1)):=by rw [drop_eq_cons (by omega)];rfl
 have h1:=val_drop_lt h j
 have h2:256 ^ (xs.length - j)≤256 ^ 8:=pow256_le (by omega)
 omega
set_option maxHeartbeats 1000000 in
theorem num_walk(a:Option Addr)(n cap x:Nat)(xs:List Nat)(w:World)(h:Sl .i64 w a n cap xs)(hx:Dig xs x)(hn:n≤4294967296):
  Calls Tryz.prog 63 #[.slice a n cap] w (NumRes w x):=by
 have HL:=hid h.len
 have gx:=hx.2.1
 obtain⟨b,off,ha,hc⟩:=h.opened
 by_cases h8:8<n
 ·have fin:=num_big (w:=w) hx (by rw [HL.out];exact h8)
  have FIN:=hid fin;clear fin
  go_enter Tryz.func63,Tryz.ntmps63
  go_wp2
  go_ret2
  exact FIN.out
 ·have fin:=fun(z:Int) (hz:z=(val xs:Int))=>num_small (w:=w) hx (by rw [HL.out];omega) hz
  have stp:=fun j hj=>num_step gx HL.out (by omega) (j:=j) hj
  have FIN:=hid fin;clear fin
  clear h gx hx
  go_enter Tryz.func63,Tryz.ntmps63
  go_wp2
  go_loop [4,5] (fun x0 i0=>∃(k v:Nat),k≤n∧i0 = .int .i64 ((k:Int) - 1)∧x0 = .int .u64 v∧Hid (v=val (xs.drop k))) (fun _ i0=>(intOf i0+1).toNat)
  case atStart=>exact⟨n,0,by omega,rfl,rfl,hid (by rw [List.drop_of_length_le (by rw [HL.out];omega)];rfl)⟩
  case round=>
   obtain⟨k,v,hk,rfl,rfl,hv⟩:=hrel
   by_cases h0:0<k
   ·obtain⟨j,rfl⟩:∃j,k=j+1:=⟨k - 1,by omega⟩
    obtain rfl:=ha (by omega)
    have hcx:=hc j (by omega)
    obtain⟨e1,e2,e3⟩:=stp j (by omega)
    rw [← hv.out] at e1 e2 e3
    generalize hd:xs.getD j 0=d at *
    have E1:=hid e1
    clear e1 hd hc stp
    have ej:(((j+1:Nat):Int) - 1)=(j:Int):=by omega
    rw [ej]
    clear ej
    go_wp2
    go_round
    case rel=>exact⟨j,d+256*v,by omega,rfl,by go_num,hid E1.out.symm⟩
    case measure=>simp [intOf]
   ·obtain rfl:k=0:=by omega
    go_wp2
    go_ret2
    exact FIN.out _ (by rw [hv.out];rfl)
theorem Dig.len8{xs:List Nat}{x:Nat}(h:Dig xs x)(hx:x<18446744073709551616):xs.length≤8:=h.len_le (by omega)
end Go.Proofs.YtnbmpgballopeaaGreatDoor
/- The walks of the statements SumsCovers, SumsMuls. -/
namespace Go.Proofs.YtnbmpgballopeaaGreatDoor
open Go.RowKit
end Go.Proofs.YtnbmpgballopeaaGreatDoor
/- The walks of the statements SumsTotals, SumsOrder, SumsAdds. -/
namespace Go.Proofs.YtnbmpgballopeaaGreatDoor
open Go.RowKit
theorem sum_le_len{xs:List Nat}{M:Nat}(h:∀d∈xs,d<M):xs.sum≤xs.length*M:=by
 induction xs with
 | nil=>simp
 | cons d r ih=>
  have h1:=h d (by simp)
  have h2:=ih (fun e he=>h e (by simp [he]))
  simp only [List.sum_cons,List.length_cons,Nat.add_mul,Nat.one_mul]
  omega
def TotB(w:World)(xs:List Nat)(e:Ending)(w':World):Prop:=e = .returned (totV xs)∧Below w.heap.size w w'
theorem tot_bd{xs:List Nat}{n k:Nat}(hb:∀d∈xs,d<18446744073709551616)(hl:xs.length=n)(hn:n≤1048576):(xs.take k).sum≤19342813113834066795298816:=by
 have h1:=sum_take_le xs k
 have h2:=sum_le_len hb
 omega
theorem Dig.len11{xs:List Nat}{x:Nat}(h:Dig xs x)(hx:x≤19342813113834066795298816):xs.length≤11:=h.len_le (by omega)
set_option maxHeartbeats 1000000 in
theorem rtotal_walk(a:Option Addr)(n cap:Nat)(xs:List Nat)(hb:∀d∈xs,d<18446744073709551616)(hn:n≤1048576)(w:World)(h:Sl .u64 w a n cap xs):
  Calls Tryz.prog 36 #[.slice a n cap] w (TotB w xs):=by
 have HL:=hid h.len
 have TB:=fun k=>hid (tot_bd (k:=k) hb HL.out hn)
 have S0:SlV .i64 (w.alloc (.cells #[] 3)) (.slice (some ⟨w.heap.size,0,none⟩) 0 0) []:=(Sl.nilS _ _ (by omega) (fun e=>by cases e)).toV
 go_enter Tryz.func36,Tryz.ntmps36
 go_wp2
 go_loopw [4,12] (fun v i0 wr=>∃(k:Nat) (ys:List Nat),k≤n∧i0 = .int .i64 k∧Dig ys (xs.take k).sum∧SlV .i64 wr v ys∧Below w.heap.size w wr) (fun _ i0 _=>n - (intOf i0).toNat)
 case atStart=>exact⟨0,[],by omega,rfl,Dig.nil,S0,(Below.refl _ _).alloc (by simp) _⟩
 case round=>
  obtain⟨k,ys,hk,rfl,D,⟨a1,c1,rfl,s1⟩,hbw⟩:=hrel
  have tb:=(TB k).out
  have l1:=D.len11 tb
  by_cases hlt:k<n
  ·have hst:=hid (sum_take_succ (xs:=xs) (k:=k) (by rw [HL.out];exact hlt))
   obtain⟨b,off,ha,hc⟩:=(h.below hbw).opened
   have hcx:=hc k hlt
   obtain rfl:=ha (by omega)
   have hd:=getD_mem_lt hb (by omega) k
   generalize hdd:xs.getD k 0=d at *
   clear hdd hc
   have HB:=hid h
   clear h
   go_wp2_with fail
   refine(of_walk d hd _).mono ?_
   rintro e w2 ⟨v2,x2,rfl,d2,⟨a2,c2,rfl,s2⟩,b2⟩
   have l2:=d2.len8 hd
   go_wp2_with fail
   refine(add_walk a1 a2 _ _ _ _ _ _ ys x2 (by omega) (by omega) _ (s1.below b2) D s2 d2).mono ?_
   rintro e w3 ⟨v3,x3,rfl,d3,s3,b3⟩
   rw [← hst.out] at d3
   go_wp2
   go_roundw
   case rel=>exact⟨k+1,x3,by omega,by go_num,d3,s3,bstep (bstep hbw b2) b3⟩
   case measure=>simp [intOf];omega
  ·obtain rfl:n=k:=by omega
   have hs2:=hid (show(xs.take n).sum=xs.sum by rw [List.take_of_length_le (by rw [HL.out];omega)])
   rw [hs2.out] at D
   by_cases hf:xs.sum<18446744073709551616
   ·have fin:=hid (totV_yes hf)
    go_wp2_with fail
    refine(num_walk a1 _ _ xs.sum ys _ s1 D (by omega)).mono ?_
    rintro e w4 ⟨rfl,rfl⟩
    rw [if_pos hf,decide_eq_true hf]
    generalize xs.sum=sm at *
    go_wp2
    go_ret2
    exact⟨by rw [fin.out];rfl,hbw⟩
   ·have fin:=hid (totV_no hf)
    go_wp2_with fail
    refine(num_walk a1 _ _ xs.sum ys _ s1 D (by omega)).mono ?_
    rintro e w4 ⟨rfl,rfl⟩
    rw [if_neg hf,decide_eq_false hf]
    go_wp2
    go_ret2
    exact⟨by rw [fin.out];rfl,hbw⟩
end Go.Proofs.YtnbmpgballopeaaGreatDoor
/- What an argument reads as, whatever its type's shape: numbers, bools, slices, arrays, structs. -/
namespace Go.Proofs.YtnbmpgballopeaaGreatDoor
open Go.ChangeShapes Go.WideShapes Go.ChangeAt Go.RowKit
section
variable {H:Type} {enc:TypeId × Value→H} {P:Program} {W:World}
def Opens(enc:TypeId × Value→H)(P:Program)(W:World)(t:TypeId){α:Type}(cells:α→List Value)(good:α→Prop):Prop:=
 ∀fuel cs d p,DataW.trod enc P W 0 (fun _=>true) true fuel t cs=some (d,p)→(∀n∈DataW.weights P t d,n≤reachBytes) → ∃x,cs=cells x∧good x
theorem Opens.map{t:TypeId}{α β:Type}{cells:α→List Value}{good:α→Prop}(h:Opens enc P W t cells good)(f:α→β){cells':β→List Value}{good':β→Prop}
  (hc:∀x,cells' (f x)=cells x) (hg:∀x,good x→good' (f x)):Opens enc P W t cells' good':=by
 intro fuel cs d p ht hw
 obtain⟨x,rfl,hx⟩:=h fuel cs d p ht hw
 exact⟨f x,(hc x).symm,hg x hx⟩
theorem opens_int{t:TypeId}{k:IntKind}(h:P.underlying t=some (.int k)):Opens enc P W t (fun z:Int=>[Value.int k z]) (fun z=>(Lit.int k z).wf=true):=by
 intro fuel cs d p ht _
 obtain⟨n,rfl,_,hn⟩:=DataW.trod_int h ht
 exact⟨n,rfl,hn⟩
theorem opens_nat{t:TypeId}{k:IntKind}{M:Nat}(hk:∀a:Int,(Lit.int k a).wf=true → ∃n:Nat,a=(n:Int)∧n<M)(h:P.underlying t=some (.int k)):Opens enc P W t (fun z:Nat=>[Value.int k (z:Int)]) (fun z=>z<M):=by
 intro fuel cs d p ht _
 obtain⟨n,rfl,_,hn⟩:=DataW.trod_int h ht
 obtain⟨m,rfl,hm⟩:=hk n hn
 exact⟨m,rfl,hm⟩
theorem many{α:Type}{n:Nat}{Q:Nat→α→Prop}(h:∀i,i<n → ∃x,Q i x):∃xs:List α,xs.length=n ∧ ∀i x,xs[i]? = some x→Q i x:=by
 induction n with
 | zero=>exact⟨[],rfl,by simp⟩
 | succ n ih=>
  obtain⟨xs,hl,hq⟩:=ih (fun i hi=>h i (by omega))
  obtain⟨x,hx⟩:=h n (by omega)
  refine⟨xs++[x],by simp [hl],fun i y hy=>?_⟩
  rw [List.getElem?_append] at hy
  split at hy
  ·exact hq i y hy
  ·rename_i hi
   have:i - xs.length=0:=by
    have:=(List.getElem?_eq_some_iff.1 hy).1
    simp at this;omega
   rw [this] at hy
   simp at hy
   subst hy
   obtain rfl:i=n:=by omega
   exact hx
theorem flat_len{α:Type}{cells:α→List Value}{size:Nat}(hs:∀x,(cells x).length=size)(xs:List α):(xs.flatMap cells).length=xs.length*size:=by
 induction xs with
 | nil=>simp
 | cons x r ih=>rw [List.flatMap_cons,List.length_append,ih,hs,List.length_cons,Nat.add_mul];omega
theorem flat_at{α:Type}{cells:α→List Value}{size:Nat}(hs:∀x,(cells x).length=size){xs:List α}{i:Nat}{x:α}(h:xs[i]? = some x){k:Nat}(hk:k<size):(xs.flatMap cells)[i*size+k]? = (cells x)[k]?:=by
 induction xs generalizing i with
 | nil=>simp at h
 | cons y r ih=>
  cases i with
  | zero=>
   simp only [List.getElem?_cons_zero,Option.some.injEq] at h
   subst h
   rw [Nat.zero_mul,Nat.zero_add,List.flatMap_cons,List.getElem?_append_left (by rw [hs];exact hk)]
  | succ i=>
   rw [List.getElem?_cons_succ] at h
   rw [List.flatMap_cons,List.getElem?_append_right (by rw [hs,Nat.add_mul];omega),hs,← ih h]
   congr 1
   rw [Nat.add_mul];omega
theorem weights_slice{t e:TypeId}(h:P.underlying t=some (.slice e)){elems spare:List (DataW H)}{d:DataW H}(hd:d∈elems){n:Nat}(hn:n∈DataW.weights P e d):n∈DataW.weights P t (.slice elems spare):=by
 simp only [DataW.weights,h,List.mem_cons,List.mem_append]
 refine .inr (.inl ?_)
 induction elems with
 | nil=>cases hd
 | cons y r ih=>
  simp only [DataW.weightsAll,List.mem_append]
  rcases List.mem_cons.1 hd with rfl|hd
  ·exact .inl hn
  ·exact .inr (ih hd)
theorem weights_array{t e:TypeId}{m:Nat}(h:P.underlying t=some (.array m e)){elems:List (DataW H)}{d:DataW H}(hd:d∈elems){n:Nat}(hn:n∈DataW.weights P e d):n∈DataW.weights P t (.agg elems):=by
 simp only [DataW.weights,h]
 induction elems with
 | nil=>cases hd
 | cons y r ih=>
  simp only [DataW.weightsAll,List.mem_append]
  rcases List.mem_cons.1 hd with rfl|hd
  ·exact .inl hn
  ·exact .inr (ih hd)
structure SLo (α:Type) where
 a:Option Addr
 c:Nat
 xs:List α
def SLo.cells{α:Type}(s:SLo α):List Value:=[.slice s.a s.xs.length s.c]
def SLo.good{α:Type}(W:World)(size bytes:Nat)(cells:α→List Value)(good:α→Prop)(s:SLo α):Prop:=
 Rd W size s.a s.xs.length s.c (s.xs.flatMap cells)∧(∀x∈s.xs,good x)∧s.xs.length*bytes≤140737488351232
theorem opens_slice{t e:TypeId}{α:Type}{cells:α→List Value}{good:α→Prop}{size bytes:Nat}(ht:P.underlying t=some (.slice e))(h:Opens enc P W e cells good)(hz:P.cellsOf e=size)(hby:P.bytesOf e=bytes)(hs:∀x,(cells x).length=size)(hp:0<size):
  Opens enc P W t SLo.cells (SLo.good W size bytes cells good):=by
 intro fuel cs d p hf hw
 rcases DataW.trod_slice ht hf with⟨rfl,hx⟩|⟨a,len,cap,elems,rest,m,_,rfl,hx,_,hl,hm,hlen,hel,hsp,_⟩
 ·exact⟨⟨none,0,[]⟩,rfl,⟨by simp,by simp,by simp,fun _=>rfl,0,0,by simp,by simp⟩,by simp,by simp⟩
 ·simp only [Prod.mk.injEq] at hx
  have key:∀i,i<len → ∃x,good x ∧ ∀k,k<size→W.cell? (a.add (i*size+k))=(cells x)[k]?:=by
   intro i hi
   have he:=hel i hi
   have hil:i<elems.length:=by omega
   rw [List.getElem?_eq_getElem hil] at he
   obtain⟨cs',hc,ht'⟩:=Option.bind_eq_some_iff.1 he
   obtain⟨_,hcl,hat⟩:=World.cells?_some hc
   have hwe:∀n∈DataW.weights P e (elems[i]).1,n≤reachBytes:=fun n hn=>hw n (by rw [hx.1];exact weights_slice ht (List.mem_map.2 ⟨elems[i],List.getElem_mem hil,rfl⟩) hn)
   obtain⟨x,rfl,hg⟩:=h m cs' (elems[i]).1 (elems[i]).2 ht' hwe
   refine⟨x,hg,fun k hk=>?_⟩
   have:=hat k (by omega)
   rw [hz,Addr.add_add] at this
   exact this
  obtain⟨xs,hxl,hq⟩:=many key
  have hb:(elems.length+rest.length)*P.bytesOf e≤reachBytes:=hw _ (by rw [hx.1];simp [DataW.weights,ht])
  refine⟨⟨some a,cap,xs⟩,by simp [SLo.cells,hxl],⟨flat_len hs xs,by simpa [hxl] using hl,hm,(fun e=>by cases e),?_⟩,fun x hx=>?_,?_⟩
  ·by_cases h0:0<len
   ·obtain⟨x0,hx0⟩:∃x,xs[0]? = some x:=⟨xs[0]'(by omega),List.getElem?_eq_getElem (by omega)⟩
    have hc0:=(hq 0 x0 hx0).2 0 hp
    obtain⟨b,off,spot⟩:=a
    have hspot:spot=none:=by
     have hlt:0<(cells x0).length:=by rw [hs];exact hp
     rw [List.getElem?_eq_getElem hlt] at hc0
     simpa [Addr.add] using World.cell?_spot hc0
    subst hspot
    refine⟨b,off,fun _=>rfl,fun j u hu=>?_⟩
    have hj:j<xs.length*size:=by rw [← flat_len hs xs];exact(List.getElem?_eq_some_iff.1 hu).1
    have hjd:j / size<xs.length:=by rw [Nat.div_lt_iff_lt_mul hp];exact hj
    obtain⟨x,hxx⟩:∃x,xs[j / size]? = some x:=⟨xs[j / size],List.getElem?_eq_getElem hjd⟩
    have hjm:j % size<size:=Nat.mod_lt _ hp
    have h1:=(hq _ x hxx).2 (j % size) hjm
    have h2:=flat_at hs hxx hjm
    have h3:j / size*size+j % size=j:=by rw [Nat.mul_comm];exact Nat.div_add_mod j size
    rw [h3] at h1 h2
    have hadd:(⟨b,off,none⟩:Addr).add j=⟨b,off+j,none⟩:=by unfold Addr.add;split <;> simp_all
    rw [hadd] at h1
    rw [h1,← h2];exact hu
   ·have:xs=[]:=List.eq_nil_of_length_eq_zero (by omega)
    subst this
    exact⟨0,0,by simp,by simp⟩
  ·obtain⟨i,hi⟩:=List.mem_iff_getElem?.1 hx
   exact(hq i x hi).1
  ·rw [hby] at hb
   have:xs.length*bytes≤(elems.length+rest.length)*bytes:=Nat.mul_le_mul_right _ (by omega)
   have hr:reachBytes=140737488351232:=by decide
   show xs.length*bytes≤_
   omega
theorem opens_array{t e:TypeId}{α:Type}{cells:α→List Value}{good:α→Prop}{size n:Nat}(ht:P.underlying t=some (.array n e))(h:Opens enc P W e cells good)(hz:P.cellsOf e=size)(hs:∀x,(cells x).length=size)(htz:P.cellsOf t=n*size):
  Opens enc P W t (fun xs:List α=>xs.flatMap cells) (fun xs=>xs.length=n ∧ ∀x∈xs,good x):=by
 intro fuel cs d p hf hw
 obtain⟨ys,m,_,hx,hcl,hyl,hel⟩:=DataW.trod_array ht hf
 simp only [Prod.mk.injEq] at hx
 have key:∀i,i<n → ∃x,good x∧(cs.drop (i*size)).take size=cells x:=by
  intro i hi
  have he:=hel i hi
  rw [List.getElem?_eq_getElem (by omega),hz] at he
  obtain⟨x,h1,h2⟩:=h m _ (ys[i]).1 (ys[i]).2 he (fun n hn=>hw n (by rw [hx.1];exact weights_array ht (List.mem_map.2 ⟨ys[i],List.getElem_mem _,rfl⟩) hn))
  exact⟨x,h2,h1⟩
 obtain⟨xs,hxl,hq⟩:=many key
 refine⟨xs,?_,hxl,fun x hx=>?_⟩
 ·apply List.ext_getElem?
  intro j
  show cs[j]? = (xs.flatMap cells)[j]?
  rcases Nat.eq_zero_or_pos size with h0|h0
  ·subst h0
   have h1:cs.length=0:=by omega
   have h2:=flat_len hs xs
   rw [List.getElem?_eq_none (by omega),List.getElem?_eq_none (by omega)]
  ·by_cases hj:j<n*size
   ·have hjd:j / size<xs.length:=by rw [hxl,Nat.div_lt_iff_lt_mul h0];exact hj
    obtain⟨x,hxx⟩:∃x,xs[j / size]? = some x:=⟨xs[j / size],List.getElem?_eq_getElem hjd⟩
    have hjm:j % size<size:=Nat.mod_lt _ h0
    have h2:=flat_at hs hxx hjm
    have h3:j / size*size+j % size=j:=by rw [Nat.mul_comm];exact Nat.div_add_mod j size
    rw [h3] at h2
    rw [h2,← (hq _ x hxx).2,List.getElem?_take,if_pos hjm,List.getElem?_drop,h3]
   ·have h2:=flat_len hs xs
    rw [List.getElem?_eq_none (by omega),List.getElem?_eq_none (by rw [h2,hxl];omega)]
 ·obtain⟨i,hi⟩:=List.mem_iff_getElem?.1 hx
  exact(hq i x hi).1
theorem opens_struct2{t:TypeId}{f0 f1:Field}{α0 α1:Type}{c0:α0→List Value}{g0:α0→Prop}{s0:Nat}{c1:α1→List Value}{g1:α1→Prop}{s1:Nat}(ht:P.underlying t=some (.struct #[f0,f1]))(h0:Opens enc P W f0.type c0 g0)(z0:P.cellsOf f0.type=s0)(h1:Opens enc P W f1.type c1 g1)(z1:P.cellsOf f1.type=s1)(o0:f0.offset=0)(o1:f1.offset=s0)(hz:P.cellsOf t=s0+s1):
  Opens enc P W t (fun x:α0 × α1=>c0 x.1++c1 x.2) (fun x=>g0 x.1∧g1 x.2):=by
 intro fuel cs d p hf hw
 obtain⟨ys,m,_,hx,hl,hlen,hg⟩:=DataW.trod_struct ht hf
 rw [hz] at hl
 match ys,hlen with
 | [y0,y1],_=>
  simp only [Prod.mk.injEq] at hx
  have hw':∀k∈DataW.weightsEach P [f0.type,f1.type] [y0.1,y1.1],k≤reachBytes:=fun k hk=>hw k (by rw [hx.1];simpa [DataW.weights,ht] using hk)
  simp only [DataW.weightsEach,List.mem_append,List.append_nil] at hw'
  have e0:=hg 0 f0 rfl
  rw [o0,z0] at e0
  obtain⟨x0,k0,q0⟩:=h0 m _ y0.1 y0.2 (by simpa using e0) (fun k hk=>hw' k (.inl hk))
  have e1:=hg 1 f1 rfl
  rw [o1,z1] at e1
  obtain⟨x1,k1,q1⟩:=h1 m _ y1.1 y1.2 (by simpa using e1) (fun k hk=>hw' k (.inr hk))
  refine⟨(x0,x1),?_,q0,q1⟩
  show cs=c0 x0++c1 x1
  rw [← k0,← k1]
  rw [← List.take_add]
  exact(List.take_of_length_le (by omega)).symm
theorem opens_struct3{t:TypeId}{f0 f1 f2:Field}{α0 α1 α2:Type}{c0:α0→List Value}{g0:α0→Prop}{s0:Nat}{c1:α1→List Value}{g1:α1→Prop}{s1:Nat}{c2:α2→List Value}{g2:α2→Prop}{s2:Nat}(ht:P.underlying t=some (.struct #[f0,f1,f2]))(h0:Opens enc P W f0.type c0 g0)(z0:P.cellsOf f0.type=s0)(h1:Opens enc P W f1.type c1 g1)(z1:P.cellsOf f1.type=s1)(h2:Opens enc P W f2.type c2 g2)(z2:P.cellsOf f2.type=s2)(o0:f0.offset=0)(o1:f1.offset=s0)(o2:f2.offset=s0+s1)(hz:P.cellsOf t=s0+s1+s2):
  Opens enc P W t (fun x:α0 × α1 × α2=>c0 x.1++c1 x.2.1++c2 x.2.2) (fun x=>g0 x.1∧g1 x.2.1∧g2 x.2.2):=by
 intro fuel cs d p hf hw
 obtain⟨ys,m,_,hx,hl,hlen,hg⟩:=DataW.trod_struct ht hf
 rw [hz] at hl
 match ys,hlen with
 | [y0,y1,y2],_=>
  simp only [Prod.mk.injEq] at hx
  have hw':∀k∈DataW.weightsEach P [f0.type,f1.type,f2.type] [y0.1,y1.1,y2.1],k≤reachBytes:=fun k hk=>hw k (by rw [hx.1];simpa [DataW.weights,ht] using hk)
  simp only [DataW.weightsEach,List.mem_append,List.append_nil] at hw'
  have e0:=hg 0 f0 rfl
  rw [o0,z0] at e0
  obtain⟨x0,k0,q0⟩:=h0 m _ y0.1 y0.2 (by simpa using e0) (fun k hk=>hw' k (.inl hk))
  have e1:=hg 1 f1 rfl
  rw [o1,z1] at e1
  obtain⟨x1,k1,q1⟩:=h1 m _ y1.1 y1.2 (by simpa using e1) (fun k hk=>hw' k (.inr (.inl hk)))
  have e2:=hg 2 f2 rfl
  rw [o2,z2] at e2
  obtain⟨x2,k2,q2⟩:=h2 m _ y2.1 y2.2 (by simpa using e2) (fun k hk=>hw' k (.inr (.inr hk)))
  refine⟨(x0,x1,x2),?_,q0,q1,q2⟩
  show cs=c0 x0++c1 x1++c2 x2
  rw [← k0,← k1,← k2]
  rw [← List.take_add,← List.take_add]
  exact(List.take_of_length_le (by omega)).symm
theorem opens_struct5{t:TypeId}{f0 f1 f2 f3 f4:Field}{α0 α1 α2 α3 α4:Type}{c0:α0→List Value}{g0:α0→Prop}{s0:Nat}{c1:α1→List Value}{g1:α1→Prop}{s1:Nat}{c2:α2→List Value}{g2:α2→Prop}{s2:Nat}{c3:α3→List Value}{g3:α3→Prop}{s3:Nat}{c4:α4→List Value}{g4:α4→Prop}{s4:Nat}(ht:P.underlying t=some (.struct #[f0,f1,f2,f3,f4]))(h0:Opens enc P W f0.type c0 g0)(z0:P.cellsOf f0.type=s0)(h1:Opens enc P W f1.type c1 g1)(z1:P.cellsOf f1.type=s1)(h2:Opens enc P W f2.type c2 g2)(z2:P.cellsOf f2.type=s2)(h3:Opens enc P W f3.type c3 g3)(z3:P.cellsOf f3.type=s3)(h4:Opens enc P W f4.type c4 g4)(z4:P.cellsOf f4.type=s4)(o0:f0.offset=0)(o1:f1.offset=s0)(o2:f2.offset=s0+s1)(o3:f3.offset=s0+s1+s2)(o4:f4.offset=s0+s1+s2+s3)(hz:P.cellsOf t=s0+s1+s2+s3+s4):
  Opens enc P W t (fun x:α0 × α1 × α2 × α3 × α4=>c0 x.1++c1 x.2.1++c2 x.2.2.1++c3 x.2.2.2.1++c4 x.2.2.2.2) (fun x=>g0 x.1∧g1 x.2.1∧g2 x.2.2.1∧g3 x.2.2.2.1∧g4 x.2.2.2.2):=by
 intro fuel cs d p hf hw
 obtain⟨ys,m,_,hx,hl,hlen,hg⟩:=DataW.trod_struct ht hf
 rw [hz] at hl
 match ys,hlen with
 | [y0,y1,y2,y3,y4],_=>
  simp only [Prod.mk.injEq] at hx
  have hw':∀k∈DataW.weightsEach P [f0.type,f1.type,f2.type,f3.type,f4.type] [y0.1,y1.1,y2.1,y3.1,y4.1],k≤reachBytes:=fun k hk=>hw k (by rw [hx.1];simpa [DataW.weights,ht] using hk)
  simp only [DataW.weightsEach,List.mem_append,List.append_nil] at hw'
  have e0:=hg 0 f0 rfl
  rw [o0,z0] at e0
  obtain⟨x0,k0,q0⟩:=h0 m _ y0.1 y0.2 (by simpa using e0) (fun k hk=>hw' k (.inl hk))
  have e1:=hg 1 f1 rfl
  rw [o1,z1] at e1
  obtain⟨x1,k1,q1⟩:=h1 m _ y1.1 y1.2 (by simpa using e1) (fun k hk=>hw' k (.inr (.inl hk)))
  have e2:=hg 2 f2 rfl
  rw [o2,z2] at e2
  obtain⟨x2,k2,q2⟩:=h2 m _ y2.1 y2.2 (by simpa using e2) (fun k hk=>hw' k (.inr (.inr (.inl hk))))
  have e3:=hg 3 f3 rfl
  rw [o3,z3] at e3
  obtain⟨x3,k3,q3⟩:=h3 m _ y3.1 y3.2 (by simpa using e3) (fun k hk=>hw' k (.inr (.inr (.inr (.inl hk)))))
  have e4:=hg 4 f4 rfl
  rw [o4,z4] at e4
  obtain⟨x4,k4,q4⟩:=h4 m _ y4.1 y4.2 (by simpa using e4) (fun k hk=>hw' k (.inr (.inr (.inr (.inr hk)))))
  refine⟨(x0,x1,x2,x3,x4),?_,q0,q1,q2,q3,q4⟩
  show cs=c0 x0++c1 x1++c2 x2++c3 x3++c4 x4
  rw [← k0,← k1,← k2,← k3,← k4]
  rw [← List.take_add,← List.take_add,← List.take_add,← List.take_add]
  exact(List.take_of_length_le (by omega)).symm
theorem open_agg_arg{t:TypeId}{α:Type}{cells:α→List Value}{good:α→Prop}(h:Opens enc P W t cells good){cs:Array Value}{d:DataW H}{p:List MemPlace}(hd:DataW.Trod enc P W 0 (fun _=>true) true t (.agg cs) d p)(hw:∀n∈DataW.weights P t d,n≤reachBytes):
  ∃x,(Value.agg cs) = .agg (cells x).toArray∧good x:=by
 obtain⟨fuel,hf⟩:=hd
 obtain⟨x,hx,hg⟩:=h fuel _ d p hf hw
 refine⟨x,?_,hg⟩
 rw [← hx]
 simp [Value.cells]
theorem weights_arg{ts:List TypeId}{ds:List (DataW H)}(h:(DataW.weightsEach P ts ds).all (· ≤ reachBytes)=true){j:Nat}{t:TypeId}{d:DataW H}(ht:ts[j]? = some t)(hd:ds[j]? = some d):∀n∈DataW.weights P t d,n≤reachBytes:=fun n hn=>by
 simpa using List.all_eq_true.1 h n (DataW.weights_mem_each ht hd n hn)
theorem flat_nums{k:IntKind}(xs:List Nat):xs.flatMap (fun z:Nat=>[Value.int k (z:Int)])=nums k xs:=by
 induction xs with
 | nil=>rfl
 | cons x r ih=>rw [List.flatMap_cons,ih];rfl
theorem SLo.nums{k:IntKind}{W:World}{bytes M:Nat}{s:SLo Nat}(h:SLo.good W 1 bytes (fun z:Nat=>[Value.int k (z:Int)]) (fun z=>z<M) s):Sl k W s.a s.xs.length s.c s.xs∧(∀x∈s.xs,x<M)∧s.xs.length*bytes≤140737488351232:=by
 obtain⟨h1,h2,h3⟩:=h
 rw [flat_nums] at h1
 exact⟨h1,h2,h3⟩
end
end Go.Proofs.YtnbmpgballopeaaGreatDoor
/- What arguments of transactions and outputs read as. -/
namespace Go.Proofs.YtnbmpgballopeaaGreatDoor
open Go.ChangeShapes Go.WideShapes Go.ChangeAt Go.RowKit
theorem opens_hashC{H:Type}{enc:TypeId × Value→H}{W:World}:Opens enc Tryz.prog W 43 (fun xs:List Nat=>nums .u8 xs) H32b:=
 (opens_array Tryz.underlying43 (opens_nat (fun _=>u8_nat) Tryz.underlying5) (size:=1) (by kernel_rfl) (fun _=>rfl) (by kernel_rfl)).map id (fun xs=>(flat_nums xs).symm) (fun _ h=>h)
theorem opens_i64C{H:Type}{enc:TypeId × Value→H}{W:World}:Opens enc Tryz.prog W 3 (fun z:Int=>[Value.int .i64 z]) i64ok:=by
 intro fuel cs d p ht hw
 obtain⟨x,h1,h2⟩:=opens_int Tryz.underlying3 fuel cs d p ht hw
 refine⟨x,h1,?_⟩
 have e1:IntKind.i64.min = -9223372036854775808:=by decide
 have e2:IntKind.i64.max=9223372036854775807:=by decide
 simp [Lit.wf,e1,e2] at h2
 exact⟨by omega,by omega⟩
theorem opens_pointC{H:Type}{enc:TypeId × Value→H}{W:World}:Opens enc Tryz.prog W 60 (fun x:List Nat × Int=>nums .u8 x.1++[Value.int .i64 x.2]) (fun x=>H32b x.1∧i64ok x.2):=
 opens_struct2 Tryz.underlying60 opens_hashC (s0:=32) (by kernel_rfl) opens_i64C (s1:=1) (by kernel_rfl) rfl rfl (by kernel_rfl)
def PS:={ p:PathD // p.ok }
def PS.cells(p:PS):List Value:=p.1.cells
theorem opens_path{H:Type}{enc:TypeId × Value→H}{W:World}:Opens enc Tryz.prog W 121 PS.cells (fun _=>True):=by
 intro fuel cs d p ht hw
 obtain⟨x,rfl,h⟩:=opens_struct5 Tryz.underlying121 opens_hashC (s0:=32) (by kernel_rfl) opens_hashC (s1:=32) (by kernel_rfl) opens_hashC (s2:=32) (by kernel_rfl) opens_i64C (s3:=1) (by kernel_rfl) opens_i64C (s4:=1) (by kernel_rfl) rfl rfl rfl rfl rfl (by kernel_rfl) fuel cs d p ht hw
 refine⟨⟨⟨x.1,x.2.1,x.2.2.1,x.2.2.2.1,x.2.2.2.2⟩,⟨h.1,h.2.1,h.2.2.1,h.2.2.2.1,h.2.2.2.2⟩⟩,?_,trivial⟩
 simp [PS.cells,PathD.cells]
theorem opens_paths{H:Type}{enc:TypeId × Value→H}{W:World}:Opens enc Tryz.prog W 64 SLo.cells (SLo.good W 98 112 PS.cells (fun _=>True)):=
 opens_slice Tryz.underlying64 opens_path (by kernel_rfl) (by kernel_rfl) (fun x=>PathD.len x.2) (by decide)
theorem ps_flat(xs:List PS):xs.flatMap PS.cells=(xs.map (·.1)).flatMap PathD.cells:=by
 induction xs with
 | nil=>rfl
 | cons x r ih=>rw [List.flatMap_cons,ih,List.map_cons,List.flatMap_cons];rfl
def OS:={ o:OutD // o.anchor.length=32 }
def OS.cells(o:OS):List Value:=o.1.cells
theorem OS.len(o:OS):o.cells.length=34:=by
 show o.1.cells.length=34
 simp [OutD.cells,o.2]
theorem opens_outS{H:Type}{enc:TypeId × Value→H}{W:World}:Opens enc Tryz.prog W 66 OS.cells (fun o=>o.1.good W):=by
 intro fuel cs d p ht hw
 obtain⟨x,rfl,h⟩:=opens_struct3 Tryz.underlying66 (opens_nat (fun _=>u64_nat) Tryz.underlying63) (s0:=1) (by kernel_rfl) opens_paths (s1:=1) (by kernel_rfl) opens_hashC (s2:=32) (by kernel_rfl) rfl rfl rfl (by kernel_rfl) fuel cs d p ht hw
 obtain⟨c,s,an⟩:=x
 refine⟨⟨⟨c,s.a,s.c,s.xs.map (·.1),an⟩,h.2.2.1⟩,?_,⟨h.1,h.2.2,?_,fun q hq=>?_⟩⟩
 ·simp [OS.cells,OutD.cells,SLo.cells]
 ·have:=h.2.1.1
  rw [ps_flat] at this
  simpa using this
 ·obtain⟨y,_,rfl⟩:=List.mem_map.1 hq
  exact y.2
theorem opens_outsC{H:Type}{enc:TypeId × Value→H}{W:World}:Opens enc Tryz.prog W 23 SLo.cells (SLo.good W 34 64 OS.cells (fun o=>o.1.good W)):=
 opens_slice Tryz.underlying23 opens_outS (by kernel_rfl) (by kernel_rfl) OS.len (by decide)
theorem os_flat(xs:List OS):xs.flatMap OS.cells=(xs.map (·.1)).flatMap OutD.cells:=by
 induction xs with
 | nil=>rfl
 | cons x r ih=>rw [List.flatMap_cons,ih,List.map_cons,List.flatMap_cons];rfl
def IS:={ i:InD // i.ok }
def IS.cells(i:IS):List Value:=i.1.cells
theorem opens_inS{H:Type}{enc:TypeId × Value→H}{W:World}:Opens enc Tryz.prog W 69 IS.cells (fun _=>True):=by
 intro fuel cs d p ht hw
 obtain⟨x,rfl,h⟩:=opens_struct5 Tryz.underlying69 opens_pointC (s0:=33) (by kernel_rfl) opens_i64C (s1:=1) (by kernel_rfl) opens_hashC (s2:=32) (by kernel_rfl) opens_hashC (s3:=32) (by kernel_rfl) opens_hashC (s4:=32) (by kernel_rfl) rfl rfl rfl rfl rfl (by kernel_rfl) fuel cs d p ht hw
 refine⟨⟨⟨x.1.1,x.1.2,x.2.1,x.2.2.1,x.2.2.2.1,x.2.2.2.2⟩,⟨h.1.1,h.1.2,h.2.1,h.2.2.1,h.2.2.2.1,h.2.2.2.2⟩⟩,?_,trivial⟩
 simp [IS.cells,InD.cells]
theorem opens_insC{H:Type}{enc:TypeId × Value→H}{W:World}:Opens enc Tryz.prog W 22 SLo.cells (SLo.good W 130 144 IS.cells (fun _=>True)):=
 opens_slice Tryz.underlying22 opens_inS (by kernel_rfl) (by kernel_rfl) (fun x=>InD.len x.2) (by decide)
theorem is_flat(xs:List IS):xs.flatMap IS.cells=(xs.map (·.1)).flatMap InD.cells:=by
 induction xs with
 | nil=>rfl
 | cons x r ih=>rw [List.flatMap_cons,ih,List.map_cons,List.flatMap_cons];rfl
theorem opens_txC{H:Type}{enc:TypeId × Value→H}{W:World}:Opens enc Tryz.prog W 25 TxD.cells (TxD.good W):=by
 intro fuel cs d p ht hw
 obtain⟨x,rfl,h⟩:=opens_struct2 Tryz.underlying25 opens_insC (s0:=1) (by kernel_rfl) opens_outsC (s1:=1) (by kernel_rfl) rfl rfl (by kernel_rfl) fuel cs d p ht hw
 obtain⟨s1,s2⟩:=x
 refine⟨⟨s1.a,s1.c,s1.xs.map (·.1),s2.a,s2.c,s2.xs.map (·.1)⟩,?_,⟨?_,fun i hi=>?_,?_,fun o ho=>?_⟩⟩
 ·simp [TxD.cells,SLo.cells]
 ·have:=h.1.1
  rw [is_flat] at this
  simpa using this
 ·obtain⟨y,_,rfl⟩:=List.mem_map.1 hi
  exact y.2
 ·have:=h.2.1
  rw [os_flat] at this
  simpa using this
 ·obtain⟨y,hy,rfl⟩:=List.mem_map.1 ho
  exact h.2.2.1 y hy
end Go.Proofs.YtnbmpgballopeaaGreatDoor

/- Plain facts on numbers as lists of digits below 256, the lowest first. No program in sight. -/
import Derived.WalkKit
import Derived.RegionTactic
import Derived.BigRegion
import Derived.Test.YtnbmpgballopeaaGreatDoorZOnce
namespace Go.Proofs.YtnbmpgballopeaaGreatDoor
def val:List Nat→Nat
 | []=>0
 | d::r=>d+256*val r
def Dg(xs:List Nat):Prop:=∀d∈xs,d<256
def Dig(xs:List Nat)(x:Nat):Prop:=val xs=x∧Dg xs ∧ ∀ys d,xs=ys++[d]→d≠0
theorem val_append(xs ys:List Nat):val (xs++ys)=val xs+256 ^ xs.length*val ys:=by
 induction xs with
 | nil=>simp [val]
 | cons d r ih=>simp [val,ih,Nat.mul_add,Nat.pow_succ,Nat.mul_assoc,Nat.mul_left_comm,Nat.add_assoc]
theorem val_snoc(xs:List Nat)(d:Nat):val (xs++[d])=val xs+256 ^ xs.length*d:=by simp [val_append,val]
theorem val_lt(xs:List Nat)(h:Dg xs):val xs<256 ^ xs.length:=by
 induction xs with
 | nil=>simp [val]
 | cons d r ih=>
  have h1:=h d (by simp)
  have h2:=ih (fun e he=>h e (by simp [he]))
  simp only [val,List.length_cons,Nat.pow_succ]
  have:256*(val r+1)≤256*256 ^ r.length:=Nat.mul_le_mul_left _ h2
  rw [Nat.mul_comm _ 256]
  omega
theorem Dg_snoc{xs:List Nat}{d:Nat}(h:Dg xs)(hd:d<256):Dg (xs++[d]):=by
 intro e he
 rcases List.mem_append.1 he with h1|h1
 ·exact h e h1
 ·simp at h1;omega
theorem Dg_take{xs:List Nat}(h:Dg xs)(n:Nat):Dg (xs.take n):=fun d hd=>h d (List.mem_of_mem_take hd)
theorem Dig.ge{xs:List Nat}{x:Nat}(h:Dig xs x)(hl:0<xs.length):256 ^ (xs.length - 1)≤x:=by
 rcases List.eq_nil_or_concat xs with rfl|⟨ys,d,rfl⟩
 ·simp at hl
 ·obtain⟨rfl,h2,h3⟩:=h
  rw [List.concat_eq_append,val_snoc]
  have hd:=h3 ys d (by simp)
  have:256 ^ ys.length*1≤256 ^ ys.length*d:=Nat.mul_le_mul_left _ (by omega)
  simp
  omega
theorem Dig.lt{xs:List Nat}{x:Nat}(h:Dig xs x):x<256 ^ xs.length:=by obtain⟨rfl,h2,_⟩:=h;exact val_lt xs h2
theorem pow256_le{a b:Nat}(h:a≤b):256 ^ a≤256 ^ b:=Nat.pow_le_pow_right (by omega) h
theorem Dig.len_le{xs:List Nat}{x k:Nat}(h:Dig xs x)(hx:x<256 ^ k):xs.length≤k:=by
 apply Nat.le_of_not_lt;intro hk
 have h1:=h.ge (by omega)
 have h2:256 ^ k≤256 ^ (xs.length - 1):=pow256_le (by omega)
 omega
theorem Dig.len_mono{xs ys:List Nat}{x y:Nat}(h:Dig xs x)(k:Dig ys y)(hl:xs.length<ys.length):x<y:=by
 have h1:=h.lt
 have h2:=k.ge (by omega)
 have h3:256 ^ xs.length≤256 ^ (ys.length - 1):=pow256_le (by omega)
 omega
theorem Dig.nil:Dig [] 0:=⟨rfl,fun _ h=>by simp at h,fun ys d h=>by simp at h⟩
theorem Dig.zero{xs:List Nat}(h:Dig xs 0):xs=[]:=by
 have:=h.len_le (k:=0) (by simp)
 exact List.eq_nil_of_length_eq_zero (by omega)
theorem Dig_of_step{xs:List Nat}(x k:Nat)(h:val xs+256 ^ xs.length*k=x):
  val (xs++[k % 256])+256 ^ (xs++[k % 256]).length*(k / 256)=x:=by
 rw [val_snoc,List.length_append]
 simp only [List.length_singleton,Nat.pow_succ]
 have:256 ^ xs.length*k=256 ^ xs.length*(k % 256)+256 ^ xs.length*256*(k / 256):=by
  rw [Nat.mul_assoc,← Nat.mul_add,Nat.mod_add_div]
 omega
def cmpI(x y:Nat):Int:=if x<y then -1 else if y<x then 1 else 0
theorem drop_eq_cons{xs:List Nat}{k:Nat}(h:k<xs.length):xs.drop k=xs.getD k 0::xs.drop (k+1):=by
 rw [List.drop_eq_getElem_cons h];simp [List.getElem?_eq_getElem h]
theorem val_split(xs:List Nat)(k:Nat)(h:k≤xs.length):val xs=val (xs.take k)+256 ^ k*val (xs.drop k):=by
 have:=val_append (xs.take k) (xs.drop k)
 rw [List.take_append_drop,List.length_take,Nat.min_eq_left h] at this
 exact this
theorem val_lt_at{xs ys:List Nat}{j:Nat}(hx:Dg xs)(hl:xs.length=ys.length)(hj:j<xs.length)(he:xs.drop (j+1)=ys.drop (j+1))(h:xs.getD j 0<ys.getD j 0):val xs<val ys:=by
 rw [val_split xs j (by omega),val_split ys j (by omega),drop_eq_cons hj,drop_eq_cons (xs:=ys) (by omega),he]
 have h1:=val_lt (xs.take j) (Dg_take hx j)
 rw [List.length_take,Nat.min_eq_left (by omega)] at h1
 simp only [val]
 have h2:256 ^ j*(xs.getD j 0+256*val (ys.drop (j+1))+1)≤256 ^ j*(ys.getD j 0+256*val (ys.drop (j+1))):=Nat.mul_le_mul_left _ (by omega)
 rw [Nat.mul_add _ _ 1] at h2
 omega
theorem cmpI_lt{x y:Nat}(h:x<y):cmpI x y = -1:=by simp [cmpI,h]
theorem cmpI_gt{x y:Nat}(h:y<x):cmpI x y=1:=by unfold cmpI;rw [if_neg (by omega),if_pos h]
theorem cmpI_eq(x:Nat):cmpI x x=0:=by simp [cmpI]
theorem val_take_succ(xs:List Nat)(k:Nat):val (xs.take (k+1))=val (xs.take k)+256 ^ k*xs.getD k 0:=by
 by_cases h:k<xs.length
 ·rw [List.take_succ_eq_append_getElem h,val_snoc]
  simp [List.getElem?_eq_getElem h,Nat.min_eq_left (Nat.le_of_lt h)]
 ·rw [List.take_of_length_le (by omega),List.take_of_length_le (by omega)]
  simp [List.getElem?_eq_none (Nat.le_of_not_lt h)]
theorem getD_out{xs:List Nat}{k:Nat}(h:¬ k<xs.length):xs.getD k 0=0:=by simp [List.getElem?_eq_none (Nat.le_of_not_lt h)]
theorem getD_lt{xs:List Nat}(h:Dg xs)(k:Nat):xs.getD k 0<256:=by
 by_cases hk:k<xs.length
 ·have:=h (xs[k]) (List.getElem_mem hk);simp [List.getElem?_eq_getElem hk,this]
 ·rw [getD_out hk];omega
def AddSt(xs ys os:List Nat)(k c:Nat):Prop:=
 os.length=k∧Dg os∧c≤1∧val os+256 ^ k*c=val (xs.take k)+val (ys.take k)∧k≤max xs.length ys.length+1∧(max xs.length ys.length<k→c=0)
theorem AddSt.step{xs ys os:List Nat}{k c:Nat}(h:AddSt xs ys os k c)(hx:Dg xs)(hy:Dg ys)(hgo:k<xs.length∨k<ys.length∨0<c):
  AddSt xs ys (os++[(c+xs.getD k 0+ys.getD k 0) % 256]) (k+1) ((c+xs.getD k 0+ys.getD k 0) / 256):=by
 obtain⟨h1,h2,h3,h4,h5,h6⟩:=h
 have dx:=getD_lt hx k
 have dy:=getD_lt hy k
 have hkm:k≤max xs.length ys.length:=by
  apply Nat.le_of_not_lt;intro hlt
  have:=h6 hlt
  omega
 refine⟨by simp [h1],Dg_snoc h2 (by omega),by omega,?_,by omega,?_⟩
 ·rw [val_snoc,val_take_succ,val_take_succ,h1,Nat.pow_succ,Nat.mul_assoc]
  have e:=Nat.mod_add_div (c+xs.getD k 0+ys.getD k 0) 256
  have e2:256 ^ k*((c+xs.getD k 0+ys.getD k 0) % 256)+256 ^ k*(256*((c+xs.getD k 0+ys.getD k 0) / 256))=256 ^ k*c+256 ^ k*xs.getD k 0+256 ^ k*ys.getD k 0:=by
   rw [← Nat.mul_add,e,Nat.mul_add,Nat.mul_add]
  omega
 ·intro hlt
  have e1:=getD_out (xs:=xs) (k:=k) (by omega)
  have e2:=getD_out (xs:=ys) (k:=k) (by omega)
  omega
theorem AddSt.fin{xs ys os:List Nat}{k:Nat}(h:AddSt xs ys os k 0)(h1:xs.length≤k)(h2:ys.length≤k):val os=val xs+val ys:=by
 obtain⟨_,_,_,h4,_,_⟩:=h
 rw [List.take_of_length_le h1,List.take_of_length_le h2] at h4
 omega
theorem AddSt.nil(xs ys:List Nat):AddSt xs ys [] 0 0:=⟨rfl,fun _ h=>by simp at h,by omega,by simp [val],by omega,by omega⟩
theorem val_set{os:List Nat}{j p:Nat}(h:j<os.length):val (os.set j (os.getD j 0+p))=val os+256 ^ j*p:=by
 induction os generalizing j with
 | nil=>simp at h
 | cons d r ih=>
  cases j with
  | zero=>simp [val];omega
  | succ j=>
   have:=ih (j:=j) (by simpa using h)
   simp only [List.getD_cons_succ] at *
   simp only [List.set_cons_succ,val,this,Nat.pow_succ]
   rw [Nat.mul_add,Nat.mul_comm (256 ^ j) 256,Nat.mul_assoc];omega
theorem val_replicate(n:Nat):val (List.replicate n 0)=0:=by
 induction n with
 | zero=>rfl
 | succ n ih=>simp [List.replicate_succ,val,ih]
theorem mem_set_le{os:List Nat}{j v b:Nat}(h:∀d∈os,d≤b)(hv:v≤b):∀d∈os.set j v,d≤b:=by
 intro d hd
 rcases List.mem_or_eq_of_mem_set hd with h1|h1
 ·exact h d h1
 ·omega
theorem getD_le{os:List Nat}{b:Nat}(h:∀d∈os,d≤b)(k:Nat):os.getD k 0≤b:=by
 by_cases hk:k<os.length
 ·have:=h (os[k]) (List.getElem_mem hk);simp [List.getElem?_eq_getElem hk,this]
 ·rw [getD_out hk];omega
def MulSt(xs ys os:List Nat)(i k:Nat):Prop:=
 os.length=xs.length+ys.length+4∧val os=val (xs.take i)*val ys+256 ^ i*(xs.getD i 0*val (ys.take k)) ∧ ∀d∈os,d≤(i*ys.length+k)*65025
theorem MulSt.step{xs ys os:List Nat}{i k:Nat}(h:MulSt xs ys os i k)(hx:Dg xs)(hy:Dg ys)(hi:i<xs.length)(hk:k<ys.length):
  MulSt xs ys (os.set (i+k) (os.getD (i+k) 0+xs.getD i 0*ys.getD k 0)) i (k+1):=by
 obtain⟨h1,h2,h3⟩:=h
 have dx:=getD_lt hx i
 have dy:=getD_lt hy k
 have hp:xs.getD i 0*ys.getD k 0≤255*255:=Nat.mul_le_mul (by omega) (by omega)
 have hg:=getD_le h3 (i+k)
 refine⟨by simp [h1],?_,?_⟩
 ·rw [val_set (by omega),val_take_succ,h2,Nat.pow_add,Nat.mul_add (xs.getD i 0),Nat.mul_add (256 ^ i),Nat.mul_assoc,Nat.mul_left_comm (256 ^ k) (xs.getD i 0)]
  omega
 ·refine mem_set_le (fun d hd=>Nat.le_trans (h3 d hd) ?_) ?_
  ·exact Nat.mul_le_mul_right _ (by omega)
  ·have:(i*ys.length+(k+1))*65025=(i*ys.length+k)*65025+65025:=by rw [← Nat.add_assoc,Nat.add_mul (i*ys.length+k) 1]
   omega
theorem MulSt.next{xs ys os:List Nat}{i:Nat}(h:MulSt xs ys os i ys.length):MulSt xs ys os (i+1) 0:=by
 obtain⟨h1,h2,h3⟩:=h
 refine⟨h1,?_,fun d hd=>?_⟩
 ·rw [List.take_length] at h2
  simp only [List.take_zero,val,Nat.mul_zero,Nat.add_zero]
  rw [val_take_succ,Nat.add_mul,h2,Nat.mul_assoc]
 ·have:=h3 d hd
  rw [show(i+1)*ys.length+0=i*ys.length+ys.length from by rw [Nat.add_mul];omega];exact this
theorem MulSt.start(xs ys:List Nat):MulSt xs ys (List.replicate (xs.length+ys.length+4) 0) 0 0:=by
 refine⟨by simp,by simp [val_replicate,val],fun d hd=>?_⟩
 rw [List.eq_of_mem_replicate hd];omega
def CarSt(L N:Nat)(os:List Nat)(k c b:Nat):Prop:=
 os.length=L∧Dg (os.take k)∧val (os.take k)+256 ^ k*(c+val (os.drop k))=N∧c≤b ∧ ∀d∈os,d≤b
theorem CarSt.step{L N k c b:Nat}{os:List Nat}(h:CarSt L N os k c b)(hk:k<L)(hb:256≤b):
  CarSt L N (os.set k ((c+os.getD k 0) % 256)) (k+1) ((c+os.getD k 0) / 256) b:=by
 obtain⟨h1,h2,h3,h4,h5⟩:=h
 have hg:=getD_le h5 k
 have e1:(os.set k ((c+os.getD k 0) % 256)).take (k+1)=os.take k++[(c+os.getD k 0) % 256]:=by
  rw [List.take_succ_eq_append_getElem (by simp;omega)]
  simp [List.take_set_of_le]
 have e2:(os.set k ((c+os.getD k 0) % 256)).drop (k+1)=os.drop (k+1):=List.drop_set_of_lt (by omega)
 have hl:(os.take k).length=k:=by simp;omega
 refine⟨by simp [h1],?_,?_,by omega,mem_set_le h5 (by omega)⟩
 ·rw [e1];exact Dg_snoc h2 (by omega)
 ·rw [e1,e2,val_snoc,hl,← h3,drop_eq_cons (xs:=os) (k:=k) (by omega),val,Nat.pow_succ,Nat.mul_assoc]
  have e:=Nat.mod_add_div (c+os.getD k 0) 256
  generalize (c+os.getD k 0) % 256=r at *
  generalize (c+os.getD k 0) / 256=q at *
  rw [Nat.add_assoc,← Nat.mul_add]
  congr 2
  omega
theorem CarSt.fin{L N c b:Nat}{os:List Nat}(h:CarSt L N os L c b)(hN:N<256 ^ L):val os=N∧Dg os:=by
 obtain⟨h1,h2,h3,_,_⟩:=h
 rw [List.take_of_length_le (by omega)] at h2 h3
 rw [List.drop_of_length_le (by omega)] at h3
 simp only [val,Nat.add_zero] at h3
 have:c=0:=by
  rcases Nat.eq_zero_or_pos c with h|h
  ·exact h
  ·have:256 ^ L*1≤256 ^ L*c:=Nat.mul_le_mul_left _ h
   omega
 subst this
 exact⟨by omega,h2⟩
theorem mul_lt_pow{xs ys:List Nat}(hx:Dg xs)(hy:Dg ys):val xs*val ys<256 ^ (xs.length+ys.length+4):=by
 have h1:=val_lt xs hx
 have h2:=val_lt ys hy
 have h3:256 ^ (xs.length+ys.length)≤256 ^ (xs.length+ys.length+4):=pow256_le (by omega)
 have h4:val xs*val ys≤256 ^ xs.length*val ys:=Nat.mul_le_mul_right _ (by omega)
 have h5:256 ^ xs.length*(val ys+1)≤256 ^ xs.length*256 ^ ys.length:=Nat.mul_le_mul_left _ h2
 have h6:0<256 ^ xs.length:=Nat.pow_pos (by omega)
 rw [Nat.pow_add] at h3
 rw [Nat.mul_add] at h5
 omega
theorem MulSt.car{xs ys os:List Nat}(h:MulSt xs ys os xs.length 0)(h1:xs.length≤1048576)(h2:ys.length≤1048576):CarSt (xs.length+ys.length+4) (val xs*val ys) os 0 0 72057594037927936:=by
 obtain⟨g1,g2,g3⟩:=h
 refine⟨g1,fun d hd=>by simp at hd,?_,by omega,fun d hd=>?_⟩
 ·rw [List.take_length] at g2
  simp only [List.take_zero,val,Nat.mul_zero,Nat.add_zero,Nat.pow_zero,Nat.zero_add,List.drop_zero,Nat.one_mul] at *
  exact g2
 ·have a1:=g3 d hd
  have a2:xs.length*ys.length≤1048576*1048576:=Nat.mul_le_mul h1 h2
  omega
def SubSt(xs ys os:List Nat)(k c:Nat):Prop:=
 os.length=k∧Dg os∧c≤1∧val os+val (ys.take k)=val (xs.take k)+256 ^ k*c
def subDig(d e c:Nat):Nat:=if d<e+c then d+256 - e - c else d - e - c
def subOwe(d e c:Nat):Nat:=if d<e+c then 1 else 0
theorem SubSt.step{xs ys os:List Nat}{k c:Nat}(h:SubSt xs ys os k c)(hx:Dg xs)(hy:Dg ys):
  SubSt xs ys (os++[subDig (xs.getD k 0) (ys.getD k 0) c]) (k+1) (subOwe (xs.getD k 0) (ys.getD k 0) c):=by
 obtain⟨h1,h2,h3,h4⟩:=h
 have dx:=getD_lt hx k
 have dy:=getD_lt hy k
 generalize hd:xs.getD k 0=d at *
 generalize he:ys.getD k 0=e at *
 have e0:subDig d e c+e+c=d+256*subOwe d e c∧subDig d e c<256∧subOwe d e c≤1:=by
  unfold subDig subOwe;split <;> omega
 obtain⟨e1,e2,e3⟩:=e0
 refine⟨by simp [h1],Dg_snoc h2 e2,e3,?_⟩
 rw [val_snoc,val_take_succ,val_take_succ,hd,he,h1,Nat.pow_succ,Nat.mul_assoc]
 have e4:256 ^ k*(subDig d e c)+256 ^ k*e+256 ^ k*c=256 ^ k*d+256 ^ k*(256*subOwe d e c):=by
  rw [← Nat.mul_add,← Nat.mul_add,← Nat.mul_add,e1]
 omega
theorem SubSt.nil(xs ys:List Nat):SubSt xs ys [] 0 0:=⟨rfl,fun _ h=>by simp at h,by omega,by simp [val]⟩
theorem SubSt.fin{xs ys os:List Nat}{k c:Nat}(h:SubSt xs ys os k c)(h1:xs.length≤k)(h2:ys.length≤k)(hle:val ys≤val xs):val os=val xs - val ys:=by
 obtain⟨g1,g2,g3,h4⟩:=h
 rw [List.take_of_length_le h1,List.take_of_length_le h2] at h4
 have:=val_lt os g2
 rw [g1] at this
 rcases Nat.eq_zero_or_pos c with h0|h0
 ·subst h0;omega
 ·have:c=1:=by omega
  subst this
  omega
theorem val_drop_lt{xs:List Nat}(h:Dg xs)(k:Nat):val (xs.drop k)<256 ^ (xs.length - k):=by
 have:=val_lt (xs.drop k) (fun d hd=>h d (List.mem_of_mem_drop hd))
 simpa using this
end Go.Proofs.YtnbmpgballopeaaGreatDoor
/- The reference's numbers as digits: Of. The reference's numbers as digits: Cmp. The reference's numbers as digits: Add. The reference's numbers as digits: Mul. -/
namespace Go.Proofs.YtnbmpgballopeaaGreatDoor
open Go.RowKit
theorem infoInt:(Tryz.prog.info? 3).map (fun i=>(i.zero,i.size,i.bytes))=some (some (.int .i64 0),1,8):=by kernel_rfl
theorem tyD:SliceTy Tryz.prog 154 3 1 8 (.int .i64 0):=.mk' Tryz.underlying154 infoInt rfl (by decide)
def ResD(w:World)(x:Nat)(e:Ending)(w':World):Prop:=∃v xs,e = .returned v∧Dig xs x∧SlV .i64 w' v xs∧Below w.heap.size w w'
def RdD(w:World)(x:Nat)(e:Ending)(w':World):Prop:=(∃v ys,e = .returned v∧Dig ys x∧SlV .i64 w v ys)∧w=w'
def OfRel(_B x:Nat)(k:Nat)(xs:List Nat):Prop:=
 k≤x∧val xs+256 ^ xs.length*k=x∧Dg xs∧(xs=[]∨256 ^ (xs.length - 1)≤x)∧(∀ys d,xs=ys++[d]→k=0→d≠0)
theorem OfRel.step{B x k:Nat}{xs:List Nat}(h:OfRel B x k xs)(hk:0<k):OfRel B x (k / 256) (xs++[k % 256]):=by
 obtain⟨h0,h1,h2,h3,h4⟩:=h
 refine⟨by omega,Dig_of_step x k h1,Dg_snoc h2 (by omega),.inr ?_,?_⟩
 ·simp
  have:256 ^ xs.length*1≤256 ^ xs.length*k:=Nat.mul_le_mul_left _ hk
  omega
 ·intro ys d he hz
  have:=List.append_inj' he rfl
  simp at this
  omega
theorem OfRel.fin{B x:Nat}{xs:List Nat}(h:OfRel B x 0 xs):Dig xs x:=by
 obtain⟨_,h1,h2,_,h4⟩:=h
 exact⟨by simpa using h1,h2,fun ys d he=>h4 ys d he rfl⟩
theorem OfRel.len{B x k:Nat}{xs:List Nat}(h:OfRel B x k xs)(hx:x<18446744073709551616):xs.length≤8:=by
 obtain⟨_,_,_,h3,_⟩:=h
 rcases h3 with rfl|h3
 ·simp
 ·apply Nat.le_of_not_lt;intro hl
  have:256 ^ 8≤256 ^ (xs.length - 1):=pow256_le (by omega)
  omega
set_option maxHeartbeats 400000 in
theorem of_walk(x:Nat)(hx:x<18446744073709551616)(w:World):
  Calls Tryz.prog 62 #[.int .u64 x] w (ResD w x):=by
 go_enter Tryz.func62,Tryz.ntmps62
 go_wp2
 go_loopw [0,3] (fun x0 v wr=>∃(k:Nat) (xs:List Nat),x0 = .int .u64 k∧OfRel 0 x k xs∧wr.ownsRow w.heap.size 3 1 v xs.length (nums .i64 xs)∧Below w.heap.size w wr) (fun x0 _ _=>(intOf x0).toNat)
 case atStart=>exact⟨x,[],rfl,⟨by omega,by simp [val],by simp [Dg],by simp,by simp⟩,World.ownsRow_made _ _ _ (by simp) (by simp) (by simp),(Below.refl _ _).alloc (by simp) _⟩
 case round=>
  obtain⟨k,xs,rfl,R,hown,hb⟩:=hrel
  have hB:=hb.size
  have hl:=R.len hx
  by_cases hk:0<k
  ·have hkx:k≤x:=R.1
   go_wp2_with (at_builtin;refine wpList_push rfl _ _ 154 rfl tyD w.heap.size hown rfl rfl rfl rfl ?c2 (by decide) hB ?_)
   case c2=>omega
   intro v' w1 hown' hb' _ _
   go_wp2
   go_roundw
   case rel=>exact⟨k / 256,xs++[k % 256],rfl,R.step hk,own_snoc hown' (by omega),hb.trans hb'⟩
   case measure=>simp [intOf];omega
  ·go_wp2
   go_ret
   obtain rfl:k=0:=by omega
   exact⟨_,xs,rfl,R.fin,SlV.of_owns hown,hb⟩
theorem take_step{xs:List Nat}{n k d:Nat}(hd:d=xs.getD (k - 1) 0)(hl:xs.length=n)(hk:k≤n)(h0:0<k):xs.take k=xs.take (k - 1)++[d]:=by
 obtain⟨j,rfl⟩:∃j,k=j+1:=⟨k - 1,by omega⟩
 rw [List.take_succ_eq_append_getElem (by omega)]
 simp at hd
 rw [List.getElem?_eq_getElem (by omega)] at hd
 simp [hd]
theorem trim_step{xs:List Nat}{n k:Nat}(hd:0=xs.getD (k - 1) 0)(hl:xs.length=n)(hk:k≤n)(h0:0<k)(hv:Hid (val (xs.take k)=val xs)):Hid (val (xs.take (k - 1))=val xs):=by
 have h:=hv.out
 rw [take_step hd hl hk h0,val_snoc] at h
 exact hid (by omega)
theorem trim_end{xs:List Nat}{n k d:Nat}(hd:d=xs.getD (k - 1) 0)(hl:xs.length=n)(hk:k≤n)(h0:0<k)(hz:¬ d=0)(hv:Hid (val (xs.take k)=val xs))(hg:Dg xs):Dig (xs.take k) (val xs):=by
 refine⟨hv.out,Dg_take hg k,fun ys e he=>?_⟩
 rw [take_step hd hl hk h0] at he
 have:=List.append_inj' he rfl
 simp at this
 omega
theorem trim_nil{xs:List Nat}(hv:Hid (val (xs.take 0)=val xs)):Dig [] (val xs):=by
 rw [← hv.out];exact Dig.nil
set_option maxHeartbeats 400000 in
theorem trim_walk(a:Option Addr)(n cap:Nat)(xs:List Nat)(w:World)(h:Sl .i64 w a n cap xs)(hd:Dg xs):
  Calls Tryz.prog 79 #[.slice a n cap] w (RdD w (val xs)):=by
 have HS:=hid h
 have HL:=hid h.len
 have hcap:=h.2.1
 have hm':cap≤9223372036854775807:=by have h2:=h.2.2.1;unfold maxLen at h2;omega
 obtain⟨b,off,ha,hc⟩:=h.opened
 go_enter Tryz.func79,Tryz.ntmps79
 go_wp2
 go_loop [0] (fun v=>∃k:Nat,k≤n∧v = .slice a k cap∧Hid (val (xs.take k)=val xs)) (fun v=>match v with|.slice _ k _=>k|_=>0)
 case atStart=>exact⟨n,by omega,rfl,by rw [← HL.out,List.take_length];rfl⟩
 case round=>
  obtain⟨k,hk,rfl,hv⟩:=hrel
  by_cases h0:0<k
  ·obtain rfl:=ha (by omega)
   obtain⟨d,hdd⟩:∃d,d=xs.getD (k - 1) 0:=⟨_,rfl⟩
   have hcell:=hc (k - 1) (by omega)
   rw [← hdd] at hcell
   have HD:=hid hdd;clear hdd hc
   have hk1:((k:Int) - 1).toNat=k - 1:=by omega
   by_cases hz:d=0
   ·subst hz
    go_wp2
    go_round
    case rel=>exact⟨k - 1,by omega,rfl,trim_step HD.out HL.out (by omega) h0 hv⟩
    case measure=>simp;omega
   ·have hz':((d:Int) == 0)=false:=by simp;omega
    go_wp2
    go_ret
    exact⟨⟨_,xs.take k,rfl,trim_end HD.out HL.out hk h0 hz hv hd,(HS.out.take hk).toV⟩,rfl⟩
  ·obtain rfl:k=0:=by omega
   go_wp2
   go_ret
   exact⟨⟨_,[],rfl,trim_nil hv,(Sl.nilS _ _ HS.out.2.2.1 HS.out.2.2.2.1).toV⟩,rfl⟩
end Go.Proofs.YtnbmpgballopeaaGreatDoor
namespace Go.Proofs.YtnbmpgballopeaaGreatDoor
open Go.RowKit
def IntQ(w:World)(r:Int)(e:Ending)(w':World):Prop:=e = .returned (.int .i64 r)∧Qt w w'
theorem cmp_fin{xs ys:List Nat}{n x y j d d':Nat}(hx:Dig xs x)(hy:Dig ys y)(hl:xs.length=n)(hl':ys.length=n)(hj:(j:Int)<n)(hd:d=xs.getD j 0)(hd':d'=ys.getD j 0)
  (he:Hid (Hid (xs.drop ((j:Int)+1).toNat=ys.drop ((j:Int)+1).toNat))):
  Hid (d<d'→cmpI x y = -1)∧Hid (((d:Int) != (d':Int))=true → ¬ d<d'→cmpI x y=1)∧Hid (((d:Int) != (d':Int))=false→xs.drop ((j:Int) - 1+1).toNat=ys.drop ((j:Int) - 1+1).toNat):=by
 have he':=he.out.out
 rw [show((j:Int)+1).toNat=j+1 from by omega] at he'
 obtain⟨rfl,gx,_⟩:=hx
 obtain⟨rfl,gy,_⟩:=hy
 subst hd hd'
 refine⟨fun h=>cmpI_lt (val_lt_at gx (by omega) (by omega) he' h),fun h1 h2=>cmpI_gt (val_lt_at gy (by omega) (by omega) he'.symm (by simp only [bne_iff_ne] at h1;omega)),fun h=>?_⟩
 simp only [bne_eq_false_iff_eq] at h
 have h:=Int.ofNat.inj h
 rw [show((j:Int) - 1+1).toNat=j from by omega,drop_eq_cons (by omega),drop_eq_cons (xs:=ys) (by omega),h,he']
theorem cmp_same{xs ys:List Nat}{x y:Nat}(hx:Dig xs x)(hy:Dig ys y)(he:xs.drop ((-1:Int)+1).toNat=ys.drop ((-1:Int)+1).toNat):cmpI x y=0:=by
 simp at he
 subst he
 rw [← hx.1,← hy.1]
 exact cmpI_eq _
set_option maxHeartbeats 400000 in
theorem cmp_walk(a a':Option Addr)(n m cap cap' x y:Nat)(xs ys:List Nat)(hn:n≤4294967296)(hm:m≤4294967296)(w:World)(h:Sl .i64 w a n cap xs)(hx:Dig xs x)(h':Sl .i64 w a' m cap' ys)(hy:Dig ys y):
  Calls Tryz.prog 72 #[.slice a n cap,.slice a' m cap'] w (IntQ w (cmpI x y)):=by
 have HL:=hid h.len
 have HL':=hid h'.len
 obtain⟨b,off,ha,hc⟩:=h.opened
 obtain⟨b',off',ha',hc'⟩:=h'.opened
 clear h h'
 by_cases h1:n<m
 ·have hlt:cmpI x y = -1:=cmpI_lt (hx.len_mono hy (by rw [HL.out,HL'.out];exact h1))
  rw [hlt]
  go_enter Tryz.func72,Tryz.ntmps72
  go_wp2
  go_ret
  exact⟨rfl,Qt.refl _⟩
 by_cases h2:m<n
 ·have hlt:cmpI x y=1:=cmpI_gt (hy.len_mono hx (by rw [HL.out,HL'.out];exact h2))
  rw [hlt]
  go_enter Tryz.func72,Tryz.ntmps72
  go_wp2
  go_ret
  exact⟨rfl,Qt.refl _⟩
 obtain rfl:n=m:=by omega
 go_enter Tryz.func72,Tryz.ntmps72
 go_wp2
 go_loopw [5] (fun v wr=>∃i:Int,-1≤i∧i<n∧v = .int .i64 i∧Hid (xs.drop (i+1).toNat=ys.drop (i+1).toNat)∧Qt w wr) (fun v _=>(intOf v+1).toNat)
 case atStart=>exact⟨(n:Int) - 1,by omega,by omega,rfl,hid (by rw [List.drop_of_length_le (by rw [HL.out];omega),List.drop_of_length_le (by rw [HL'.out];omega)]),Qt.refl _⟩
 case round=>
  obtain⟨i,hi1,hi2,rfl,hdr,q,rfl⟩:=hrel
  have hq:Qt w (w.drewN q):=⟨q,rfl⟩
  by_cases hi:0≤i
  ·obtain⟨j,rfl⟩:=Int.eq_ofNat_of_zero_le hi
   obtain rfl:=ha (by omega)
   obtain rfl:=ha' (by omega)
   have hcx:=hc j (by omega)
   have hcy:=hc' j (by omega)
   obtain⟨d,hd⟩:∃d,d=xs.getD j 0:=⟨_,rfl⟩
   obtain⟨d',hd'⟩:∃d,d=ys.getD j 0:=⟨_,rfl⟩
   rw [← hd] at hcx
   rw [← hd'] at hcy
   have HD:=hid hd;clear hd hc
   have HD':=hid hd';clear hd' hc'
   have fin:=cmp_fin hx hy HL.out HL'.out hi2 HD.out HD'.out (hid hdr)
   go_wp2
   go_quiet (fail)
   go_wp2
   ·go_quiet (fail)
    go_wp2
    ·go_ret
     rw [fin.1.out ‹_›]
     exact⟨rfl,(hq.dN _).dN _⟩
    ·go_ret
     rw [fin.2.1.out ‹_› ‹_›]
     exact⟨rfl,(hq.dN _).dN _⟩
   ·go_roundw
    case rel=>exact⟨(j:Int) - 1,by omega,by omega,rfl,hid (fin.2.2.out ‹_›),_,rfl⟩
    case measure=>simp [intOf]
  ·obtain rfl:i = -1:=by omega
   go_wp2
   go_ret
   rw [cmp_same hx hy hdr.out]
   exact⟨rfl,hq⟩
end Go.Proofs.YtnbmpgballopeaaGreatDoor
namespace Go.Proofs.YtnbmpgballopeaaGreatDoor
open Go.RowKit
set_option maxHeartbeats 1000000 in
theorem add_walk(a a':Option Addr)(n m cap cap' x y:Nat)(xs ys:List Nat)(hn:n≤1048576)(hm:m≤1048576)(w:World)(h:Sl .i64 w a n cap xs)(hx:Dig xs x)(h':Sl .i64 w a' m cap' ys)(hy:Dig ys y):
  Calls Tryz.prog 61 #[.slice a n cap,.slice a' m cap'] w (ResD w (x+y)):=by
 have gx:=hx.2.1
 have gy:=hy.2.1
 go_enter Tryz.func61,Tryz.ntmps61
 go_wp2
 go_loopw [5,6,7] (fun v c0 i0 wr=>∃(k c:Nat) (os:List Nat),i0 = .int .i64 k∧c0 = .int .i64 c∧AddSt xs ys os k c∧wr.ownsRow w.heap.size 3 1 v os.length (nums .i64 os)∧Below w.heap.size w wr) (fun _ _ i0 _=>n+m+2 - (intOf i0).toNat)
 case atStart=>exact⟨0,0,[],rfl,rfl,AddSt.nil xs ys,World.ownsRow_made _ _ _ (by simp) (by simp) (by simp),(Below.refl _ _).alloc (by simp) _⟩
 case round=>
  obtain⟨k,c,os,rfl,rfl,S,hown,hb⟩:=hrel
  have hB:=hb.size
  have hol:os.length<4294967296:=by have:=S.1;have:=S.2.2.2.2.1;have:=h.len;have:=h'.len;omega
  have S3:c≤1:=S.2.2.1
  have S5:=S.2.2.2.2.1
  have hl:xs.length≤n:=Nat.le_of_eq h.len
  have hl':ys.length≤m:=Nat.le_of_eq h'.len
  have hl2:n≤xs.length:=Nat.le_of_eq h.len.symm
  have hl2':m≤ys.length:=Nat.le_of_eq h'.len.symm
  have hkm:k≤1048577:=by omega
  have hmu:k<n+m+2:=by omega
  have SS:k<n∨k<m∨0<c→AddSt xs ys (os++[(c+xs.getD k 0+ys.getD k 0) % 256]) (k+1) ((c+xs.getD k 0+ys.getD k 0) / 256):=fun hg=>S.step gx gy (by omega)
  obtain⟨b,off,ha,hc⟩:=(h.below hb).opened
  obtain⟨b',off',ha',hc'⟩:=(h'.below hb).opened
  have hcx:=hc k
  have hcy:=hc' k
  have dx:=getD_lt gx k
  have dy:=getD_lt gy k
  have ox:¬ k<n→xs.getD k 0=0:=fun hk=>getD_out (by omega)
  have oy:¬ k<m→ys.getD k 0=0:=fun hk=>getD_out (by omega)
  generalize xs.getD k 0=d at *
  generalize ys.getD k 0=e at *
  have HS:=hid SS;clear SS hc hc' gx gy
  by_cases hgo:k<n∨k<m∨0<c
  ·have hs:=hid (HS.out hgo);clear HS
   by_cases h1:k<n
   ·obtain rfl:=ha (by omega)
    have hcx:=hcx h1
    clear ha ox
    by_cases h2:k<m
    ·obtain rfl:=ha' (by omega)
     have hcy:=hcy h2
     clear ha' oy
     go_wp2_with (at_builtin;refine wpList_push rfl _ _ 154 rfl tyD w.heap.size hown rfl rfl rfl rfl hol (by decide) hB ?_)
     intro v' w1 hown' hb' _ _
     go_wp2
     go_roundw
     case rel=>exact⟨k+1,(c+d+e) / 256,os++[(c+d+e) % 256],by go_num,by go_num,hs.out,own_snoc hown' (by omega),hb.trans hb'⟩
     case measure=>simp [intOf];omega
    ·obtain rfl:=oy h2
     clear hcy
     go_wp2_with (at_builtin;refine wpList_push rfl _ _ 154 rfl tyD w.heap.size hown rfl rfl rfl rfl hol (by decide) hB ?_)
     intro v' w1 hown' hb' _ _
     go_wp2
     go_roundw
     case rel=>exact⟨k+1,(c+d+0) / 256,os++[(c+d+0) % 256],by go_num,by go_num,hs.out,own_snoc hown' (by omega),hb.trans hb'⟩
     case measure=>simp [intOf];omega
   ·obtain rfl:=ox h1
    clear hcx
    by_cases h2:k<m
    ·obtain rfl:=ha' (by omega)
     have hcy:=hcy h2
     clear ha' oy
     go_wp2_with (at_builtin;refine wpList_push rfl _ _ 154 rfl tyD w.heap.size hown rfl rfl rfl rfl hol (by decide) hB ?_)
     intro v' w1 hown' hb' _ _
     go_wp2
     go_roundw
     case rel=>exact⟨k+1,(c+0+e) / 256,os++[(c+0+e) % 256],by go_num,by go_num,hs.out,own_snoc hown' (by omega),hb.trans hb'⟩
     case measure=>simp [intOf];omega
    ·obtain rfl:=oy h2
     clear hcy
     have h3:0<c:=by omega
     go_wp2_with (at_builtin;refine wpList_push rfl _ _ 154 rfl tyD w.heap.size hown rfl rfl rfl rfl hol (by decide) hB ?_)
     intro v' w1 hown' hb' _ _
     go_wp2
     go_roundw
     case rel=>exact⟨k+1,(c+0+0) / 256,os++[(c+0+0) % 256],by go_num,by go_num,hs.out,own_snoc hown' (by omega),hb.trans hb'⟩
     case measure=>simp [intOf];omega
  ·obtain rfl:c=0:=by omega
   clear hcx hcy HS
   have fin:=hid (S.fin (by omega) (by omega))
   have hv:=SlV.of_owns hown
   have ho:=S.2.1
   have hbs:=hb.size
   obtain⟨a1,cap1,rfl,h3⟩:=hv
   go_wp2_with fail
   refine(trim_walk a1 _ cap1 os _ h3 ho).mono ?_
   rintro e w' ⟨⟨v,ys',rfl,hd,hsl⟩,rfl⟩
   rw [fin.out,hx.1,hy.1] at hd
   go_wp2
   go_ret
   exact⟨_,ys',rfl,hd,hsl,hb⟩
end Go.Proofs.YtnbmpgballopeaaGreatDoor
namespace Go.Proofs.YtnbmpgballopeaaGreatDoor
open Go.RowKit
theorem mul_start{n m:Nat}{xs ys:List Nat}(h:xs.length=n)(h':ys.length=m):MulSt xs ys (List.replicate (n+m+4) 0) 0 0:=by
 subst h h';exact MulSt.start xs ys
theorem MulSt.le{xs ys os:List Nat}{n m i k:Nat}(S:MulSt xs ys os i k)(_:xs.length≤n)(h':ys.length≤m)(hn:n≤1048576)(hm:m≤1048576)(hi:i≤n)(hk:k≤m):os.getD (i+k) 0≤72127962782105600:=by
 have h1:=getD_le S.2.2 (i+k)
 have h2:i*ys.length≤1048576*1048576:=Nat.mul_le_mul (by omega) (by omega)
 omega
theorem mul_next{xs ys os:List Nat}{i m:Nat}(S:MulSt xs ys os i m)(h:ys.length=m):MulSt xs ys os (i+1) 0:=by subst h;exact S.next
theorem mul_car{xs ys os:List Nat}{n m:Nat}(S:MulSt xs ys os n 0)(h:xs.length=n)(h':ys.length=m)(hn:n≤1048576)(hm:m≤1048576):CarSt (n+m+4) (val xs*val ys) os 0 0 72057594037927936:=by
 subst h h';exact S.car hn hm
theorem mul_lim{xs ys:List Nat}{n m:Nat}(gx:Dg xs)(gy:Dg ys)(h:xs.length=n)(h':ys.length=m):val xs*val ys<256 ^ (n+m+4):=by
 subst h h';exact mul_lt_pow gx gy
theorem digit_mul{d e:Nat}(h:d<256)(k:e<256):0≤(d:Int)*(e:Int)∧(d:Int)*(e:Int)≤65025:=by
 have h1:d*e≤255*255:=Nat.mul_le_mul (by omega) (by omega)
 rw [← Int.natCast_mul]
 omega
set_option maxHeartbeats 1000000 in
theorem mul_walk(a a':Option Addr)(n m cap cap' x y:Nat)(xs ys:List Nat)(hn:n≤1048576)(hm:m≤1048576)(w:World)(h:Sl .i64 w a n cap xs)(hx:Dig xs x)(h':Sl .i64 w a' m cap' ys)(hy:Dig ys y):
  Calls Tryz.prog 71 #[.slice a n cap,.slice a' m cap'] w (ResD w (x*y)):=by
 have gx:=hx.2.1
 have gy:=hy.2.1
 have hl:xs.length≤n:=Nat.le_of_eq h.len
 have hl':ys.length≤m:=Nat.le_of_eq h'.len
 have hl2:n≤xs.length:=Nat.le_of_eq h.len.symm
 have hl2':m≤ys.length:=Nat.le_of_eq h'.len.symm
 go_enter Tryz.func71,Tryz.ntmps71
 go_wp2_with (at_make;refine wpList_mk rfl (.tmp 15) (.tmp 15) 154 rfl tyD rfl w.heap.size (n+m+4) rfl rfl (by omega) (by omega) (by omega) (by decide) (Nat.le_refl _) ?_)
 intro w0 hown0 hb0 hs0
 rw [← nums_replicate] at hown0
 go_wp2
 go_loopw [19] (fun i0 wr=>∃(i:Nat) (os:List Nat),i≤n∧i0 = .int .i64 i∧MulSt xs ys os i 0∧wr.ownsRow w.heap.size 3 1 (.slice (some ⟨w.heap.size,0,none⟩) (n+m+4) (n+m+4)) (n+m+4) (nums .i64 os)∧Below w.heap.size w wr) (fun i0 _=>n - (intOf i0).toNat)
 case atStart=>exact⟨0,_,by omega,rfl,mul_start h.len h'.len,hown0,hb0⟩
 case round=>
  obtain⟨i,os,hi,rfl,S,hown,hb⟩:=hrel
  by_cases hlt:i<n
  ·go_wp2
   go_loopw [24] (fun k0 wr=>∃(k:Nat) (os:List Nat),k≤m∧k0 = .int .i64 k∧MulSt xs ys os i k∧wr.ownsRow w.heap.size 3 1 (.slice (some ⟨w.heap.size,0,none⟩) (n+m+4) (n+m+4)) (n+m+4) (nums .i64 os)∧Below w.heap.size w wr) (fun k0 _=>m - (intOf k0).toNat)
   case atStart=>exact⟨0,_,by omega,rfl,S,hown,hb⟩
   case round=>
    clear S hown hb os
    obtain⟨k,os,hk,rfl,S,hown,hb⟩:=hrel
    by_cases hlk:k<m
    ·have SS:=hid (S.step gx gy (by omega) (by omega))
     have hg:=S.le hl hl' hn hm hi hk
     have hoc:=own_cell hown (i+k) (by omega)
     have hof:=hown.frozenAt (i+k)
     obtain⟨b,off,ha,hc⟩:=(h.below hb).opened
     obtain⟨b',off',ha',hc'⟩:=(h'.below hb).opened
     obtain rfl:=ha (by omega)
     obtain rfl:=ha' (by omega)
     have hcx:=hc i hlt
     have hcy:=hc' k hlk
     have dx:=getD_lt gx i
     have dy:=getD_lt gy k
     clear ha ha' hc hc'
     have hst:=fun(z:Int) (d:Nat) (hz:z=(d:Int))=>own_store hown (i+k) hz
     have hbs:=hb.size
     generalize hd:xs.getD i 0=d at *
     generalize he:ys.getD k 0=e at *
     generalize ho:os.getD (i+k) 0=t at *
     obtain⟨hp0,hp1⟩:=digit_mul dx dy
     have HST:=hid hst
     clear hst S gx gy h h' hx hy hd he ho hown
     go_wp2
     go_region
     go_wp2
     have hs:=HST.out ((t:Int)+(d:Int)*(e:Int)) (t+d*e) (by rw [Int.natCast_add,Int.natCast_mul])
     go_roundw
     case rel=>exact⟨k+1,_,by omega,by go_num,SS.out,hs.1.drew,hb.trans hs.2.drew⟩
     case measure=>simp [intOf];omega
    ·obtain rfl:k=m:=by omega
     have S2:=mul_next S h'.len
     go_wp2
     go_roundw
     case rel=>exact⟨i+1,_,by omega,by go_num,S2,hown,hb⟩
     case measure=>simp [intOf];omega
  ·obtain rfl:n=i:=by omega
   have S2:=mul_car S h.len h'.len hn hm
   have hlim:=hid (mul_lim gx gy h.len h'.len)
   clear S h h' hl hl' hl2 hl2'
   go_wp2
   go_loopw [8,48] (fun c0 k0 wr=>∃(k c:Nat) (os:List Nat),k≤n+m+4∧k0 = .int .i64 k∧c0 = .int .i64 c∧CarSt (n+m+4) (val xs*val ys) os k c 72057594037927936∧wr.ownsRow w.heap.size 3 1 (.slice (some ⟨w.heap.size,0,none⟩) (n+m+4) (n+m+4)) (n+m+4) (nums .i64 os)∧Below w.heap.size w wr) (fun _ k0 _=>n+m+4 - (intOf k0).toNat)
   case atStart=>exact⟨0,0,os,by omega,rfl,rfl,S2,hown,hb⟩
   case round=>
    clear S2 hown hb os
    obtain⟨k,c,os,hk,rfl,rfl,S,hown,hb⟩:=hrel
    by_cases hlk:k<n+m+4
    ·have SS:=hid (S.step hlk (by decide))
     have hoc:=own_cell hown k hlk
     have hof:=hown.frozenAt k
     have hg:=getD_le S.2.2.2.2 k
     have hc:=S.2.2.2.1
     have hst:=fun(z:Int) (d:Nat) (hz:z=(d:Int))=>own_store hown k hz
     generalize ho:os.getD k 0=t at *
     have HST:=hid hst
     clear hst S gx gy hx hy ho hown
     go_wp2
     have hs:=HST.out (((c:Int)+t) % 256) ((c+t) % 256) (by omega)
     go_roundw
     case rel=>exact⟨k+1,(c+t) / 256,_,by omega,by go_num,by go_num,SS.out,hs.1,hb.trans hs.2⟩
     case measure=>simp [intOf];omega
    ·obtain rfl:k=n+m+4:=by omega
     have hf:=S.fin hlim.out
     clear S
     have hsl:Sl .i64 wr (some ⟨w.heap.size,0,none⟩) (n+m+4) (n+m+4) os:=sl_of_own hown
     go_wp2_with fail
     refine(trim_walk _ (n+m+4) (n+m+4) os _ hsl hf.2).mono ?_
     rintro e w' ⟨⟨v,ys',rfl,hd,hsl⟩,rfl⟩
     rw [hf.1,hx.1,hy.1] at hd
     go_wp2
     go_ret
     exact⟨_,ys',rfl,hd,hsl,hb⟩
end Go.Proofs.YtnbmpgballopeaaGreatDoor

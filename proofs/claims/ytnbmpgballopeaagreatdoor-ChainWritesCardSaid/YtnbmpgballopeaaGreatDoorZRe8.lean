/- Plain: what bytes' records are, their bytes are again. No program in sight. -/
import Derived.Test.YtnbmpgballopeaaGreatDoorZDec
import Derived.Test.YtnbmpgballopeaaGreatDoorZChv
import Derived.Test.YtnbmpgballopeaaGreatDoorZPointR
namespace Go.Proofs.YtnbmpgballopeaaGreatDoor
theorem dig_mod(x i j:Nat):x % 256 ^ (i+(j+1)) / 256 ^ i % 256=x / 256 ^ i % 256:=by
 rw [Nat.pow_add,Nat.mod_mul_right_div_self,Nat.mod_mod_of_dvd]
 exact⟨256 ^ j,by rw [Nat.pow_succ,Nat.mul_comm]⟩
theorem be_mod:∀(n m x:Nat),n≤m→be n (x % 256 ^ m)=be n x:=by
 intro n
 induction n with
 | zero=>intros;rfl
 | succ n ih=>
  intro m x h
  obtain⟨j,rfl⟩:∃j,m=n+(j+1):=⟨m - n - 1,by omega⟩
  rw [be,be,dig_mod,ih _ _ (by omega)]
theorem beVal_cons(y:Nat)(r:List Nat):beVal (y::r)=y*256 ^ r.length+beVal r:=by
 have key:∀(l:List Nat) (s:Nat),l.foldl (fun x c=>x*256+c) s=s*256 ^ l.length+l.foldl (fun x c=>x*256+c) 0:=by
  intro l
  induction l with
  | nil=>simp
  | cons c r ih=>
   intro s
   simp only [List.foldl_cons,List.length_cons]
   rw [ih (s*256+c),ih (0*256+c),Nat.pow_succ]
   generalize 256 ^ r.length=p
   rw [Nat.add_mul,Nat.zero_mul,Nat.zero_add,Nat.mul_assoc,Nat.mul_comm 256 p,Nat.add_assoc]
 show List.foldl _ _ (y::r)=_
 rw [List.foldl_cons,key]
 simp [beVal]
theorem be_beVal(ys:List Nat)(h:∀d∈ys,d<256):be ys.length (beVal ys)=ys:=by
 induction ys with
 | nil=>rfl
 | cons y r ih=>
  have hy:=h y (by simp)
  have hr:=beVal_lt r (fun d hd=>h d (by simp [hd]))
  have ihr:=ih (fun d hd=>h d (by simp [hd]))
  rw [beVal_cons,List.length_cons,be]
  have e1:(y*256 ^ r.length+beVal r) / 256 ^ r.length=y:=by
   rw [Nat.mul_comm,Nat.mul_add_div (Nat.pow_pos (by omega)),Nat.div_eq_of_lt hr,Nat.add_zero]
  rw [e1,Nat.mod_eq_of_lt hy]
  congr 1
  rw [← be_mod _ _ (y*256 ^ r.length+beVal r) (Nat.le_refl _)]
  have e2:(y*256 ^ r.length+beVal r) % 256 ^ r.length=beVal r:=by
   rw [Nat.mul_comm,Nat.mul_add_mod,Nat.mod_eq_of_lt hr]
  rw [e2]
  exact ihr
theorem readS_canon{xs:List Nat}{t m:Nat}(h:readS xs=(t,m,0))(hx:∀d∈xs,d<256):xs=size t++xs.drop m:=by
 cases xs with
 | nil=>simp [readS] at h
 | cons x r=>
  have hr:∀n,∀d∈r.take n,d<256:=fun n d hd=>hx d (by simp [List.mem_of_mem_take hd])
  have hx1:=hx x (by simp)
  unfold readS at h
  simp only at h
  by_cases h0:folN x=0
  ·rw [if_pos h0] at h
   simp only [Prod.mk.injEq] at h
   obtain⟨rfl,rfl,_⟩:=h
   have hlt:x<253:=by
    unfold folN at h0
    (repeat' split at h0) <;> omega
   simp [size,hlt]
  ·rw [if_neg h0] at h
   by_cases h1:r.length<folN x
   ·rw [if_pos h1] at h;simp at h
   ·rw [if_neg h1] at h
    by_cases h2:beVal (r.take (folN x))<folL x
    ·rw [if_pos h2] at h;simp at h
    ·rw [if_neg h2] at h
     simp only [Prod.mk.injEq] at h
     obtain⟨rfl,rfl,_⟩:=h
     have hl:(r.take (folN x)).length=folN x:=by simp;omega
     have hb:=be_beVal _ (hr (folN x))
     have hv:=beVal_lt _ (hr (folN x))
     rw [hl] at hb hv
     rw [List.drop_succ_cons]
     have e:r=r.take (folN x)++r.drop (folN x):=(List.take_append_drop _ _).symm
     have key:size (beVal (r.take (folN x)))=x::be (folN x) (beVal (r.take (folN x))):=by
      generalize beVal (r.take (folN x))=z at *
      unfold folN folL at *
      by_cases q1:x=253
      ·subst q1;simp at *;unfold size;rw [if_neg (by omega),if_pos (by omega)]
      ·by_cases q2:x=254
       ·subst q2;simp at *;unfold size;rw [if_neg (by omega),if_neg (by omega),if_pos (by omega)]
       ·by_cases q3:x=255
        ·subst q3;simp at *;unfold size;rw [if_neg (by omega),if_neg (by omega),if_neg (by omega)]
        ·simp [q1,q2,q3] at h0
     rw [key,hb,List.cons_append]
     rw [← e]
theorem dec_enc:∀(f:Nat) (p:Option Nat) (n:Nat) (xs:List Nat),xs.length<f→(∀d∈xs,d<256)→(decGo f p n xs).2=0→encErr p (decGo f p n xs).1=0∧encAll (decGo f p n xs).1=xs∧(n≤256→(decGo f p n xs).1.length+n≤256):=by
 intro f
 induction f with
 | zero=>intro p n xs h;omega
 | succ f ih=>
  intro p n xs hf hx hz
  cases hxs:xs with
  | nil=>simp [decGo,encErr,encAll]
  | cons x r=>
   rw [← hxs]
   have hne:xs≠[]:=by rw [hxs];simp
   rw [decGo_fuel (f+1) (xs.length+1) p n xs hf (Nat.lt_succ_self _)] at hz ⊢
   rw [decGo_cons p n hne] at hz ⊢
   obtain⟨⟨t,m,e⟩,hR⟩:∃R,readS xs=R:=⟨_,rfl⟩
   rw [hR] at hz ⊢
   simp only at hz ⊢
   by_cases h1:e≠0
   ·rw [if_pos h1] at hz;exact absurd hz h1
   ·rw [if_neg h1] at hz ⊢
    have he:e=0:=by simpa using h1
    subst he
    by_cases h2:p.any (fun q=>decide (t≤q))=true
    ·rw [if_pos h2] at hz;simp at hz
    ·rw [if_neg h2] at hz ⊢
     have c1:=readS_canon hR hx
     have l1:=readS_len (bs:=xs) (by rw [hR])
     rw [hR] at l1
     have hx2:∀d∈xs.drop m,d<256:=fun d hd=>hx d (List.mem_of_mem_drop hd)
     obtain⟨⟨sz,k,e2⟩,hS⟩:∃R,readS (xs.drop m)=R:=⟨_,rfl⟩
     rw [hS] at hz ⊢
     simp only at hz ⊢
     by_cases h3:e2≠0
     ·rw [if_pos h3] at hz;exact absurd hz h3
     ·rw [if_neg h3] at hz ⊢
      have he2:e2=0:=by simpa using h3
      subst he2
      have c2:=readS_canon hS hx2
      by_cases h4:65536<sz
      ·rw [if_pos h4] at hz;simp at hz
      ·rw [if_neg h4] at hz ⊢
       by_cases h5:((xs.drop m).drop k).length<sz
       ·rw [if_pos h5] at hz;simp at hz
       ·rw [if_neg h5] at hz ⊢
        by_cases h6:256≤n
        ·rw [if_pos h6] at hz;simp at hz
        ·rw [if_neg h6] at hz ⊢
         have hx3:∀d∈((xs.drop m).drop k).drop sz,d<256:=fun d hd=>hx2 d (List.mem_of_mem_drop (List.mem_of_mem_drop hd))
         have hlt:(((xs.drop m).drop k).drop sz).length<f:=by
          have:1≤m∧m≤xs.length:=l1
          simp;omega
         have IH:=ih (some t) (n+1) (((xs.drop m).drop k).drop sz) hlt hx3
         rw [decGo_fuel f ((((xs.drop m).drop k).drop sz).length+1) _ _ _ hlt (Nat.lt_succ_self _)] at IH
         generalize hu:decGo ((((xs.drop m).drop k).drop sz).length+1) (some t) (n+1) (((xs.drop m).drop k).drop sz)=u at *
         by_cases h7:u.2≠0
         ·rw [if_pos h7] at hz;exact absurd hz h7
         ·rw [if_neg h7]
          obtain⟨i1,i2,i3⟩:=IH (by simpa using h7)
          have htk:(((xs.drop m).drop k).take sz).length=sz:=by rw [List.length_take];omega
          refine⟨?_,?_,fun hn=>?_⟩
          ·rw [encErr,if_neg h2,if_neg (by show ¬ 65536<(((xs.drop m).drop k).take sz).length;rw [htk];exact h4)]
           exact i1
          ·show encR (t,((xs.drop m).drop k).take sz)++encAll u.1=xs
           rw [i2,encR]
           simp only
           rw [htk]
           conv=>rhs;rw [c1,c2]
           rw [List.append_assoc,List.append_assoc,List.take_append_drop]
          ·have:=i3 (by omega)
           simp only [List.length_cons];omega
theorem decS_enc{bs:List Nat}(hx:∀d∈bs,d<256)(h:(decS bs).2=0):encE (decS bs).1=0∧encAll (decS bs).1=bs:=by
 obtain⟨h1,h2,h3⟩:=dec_enc (bs.length+1) none 0 bs (Nat.lt_succ_self _) hx h
 refine⟨?_,h2⟩
 have h3':=h3 (by omega)
 unfold encE
 rw [if_neg (by show ¬ 256<(decGo (bs.length+1) none 0 bs).1.length;omega)]
 exact h1
end Go.Proofs.YtnbmpgballopeaaGreatDoor
/- Plain: records' bytes read again are they. No program in sight. -/
namespace Go.Proofs.YtnbmpgballopeaaGreatDoor
theorem size_pos(x:Nat):1≤(size x).length:=by rw [size_len];(repeat' split) <;> omega
theorem encAll_cons(r:Pr)(s:List Pr):encAll (r::s)=size r.1++(size r.2.length++(r.2++encAll s)):=by simp [encAll,encR]
theorem enc_dec:∀(rs:List Pr) (p:Option Nat) (n:Nat),encErr p rs=0→n+rs.length≤256→(∀r∈rs,r.1<18446744073709551616)→decGo ((encAll rs).length+1) p n (encAll rs)=(rs,0):=by
 intro rs
 induction rs with
 | nil=>intros;rfl
 | cons r s ih=>
  intro p n he hn ht
  unfold encErr at he
  by_cases h1:p.any (fun q=>decide (r.1≤q))=true
  ·rw [if_pos h1] at he;simp at he
  ·rw [if_neg h1] at he
   by_cases h2:65536<r.2.length
   ·rw [if_pos h2] at he;simp at he
   ·rw [if_neg h2] at he
    have IH:=ih (some r.1) (n+1) he (by simp at hn;omega) (fun q hq=>ht q (by simp [hq]))
    have hr:=ht r (by simp)
    have e1:=readS_size r.1 hr (size r.2.length++(r.2++encAll s))
    have e2:=readS_size r.2.length (by omega) (r.2++encAll s)
    have hne:encAll (r::s)≠[]:=by
     rw [encAll_cons]
     intro h
     have:=congrArg List.length h
     have h3:=size_pos r.1
     simp at this
     rw [this.1] at h3
     simp at h3
    rw [decGo_cons p n hne,encAll_cons,e1]
    simp only [ne_eq,not_true_eq_false,if_false,if_neg h1,List.drop_left,e2,if_neg h2]
    rw [if_neg (by simp),if_neg (by simp at hn;omega),IH]
    simp
theorem encAll_len:∀(rs:List Pr) (p:Option Nat),encErr p rs=0→(encAll rs).length≤rs.length*65554:=by
 intro rs
 induction rs with
 | nil=>intros;simp [encAll]
 | cons r s ih=>
  intro p he
  unfold encErr at he
  by_cases h1:p.any (fun q=>decide (r.1≤q))=true
  ·rw [if_pos h1] at he;simp at he
  ·rw [if_neg h1] at he
   by_cases h2:65536<r.2.length
   ·rw [if_pos h2] at he;simp at he
   ·rw [if_neg h2] at he
    have:=ih _ he
    have l1:=(size_len_bd r.1).2
    have l2:=(size_len_bd r.2.length).2
    rw [encAll_cons]
    simp only [List.length_append,List.length_cons]
    omega
theorem encE_zero{rs:List Pr}(h:encE rs=0)(ht:∀r∈rs,r.1<18446744073709551616):decS (encAll rs)=(rs,0)∧(encAll rs).length≤16781824:=by
 unfold encE at h
 by_cases h1:256<rs.length
 ·rw [if_pos h1] at h;simp at h
 ·rw [if_neg h1] at h
  refine⟨enc_dec rs none 0 h (by omega) ht,?_⟩
  have:=encAll_len rs none h
  omega
theorem encAll_lt{rs:List Pr}(h:∀r∈rs,∀d∈r.2,d<256):∀d∈encAll rs,d<256:=by
 intro d hd
 simp only [encAll,List.mem_flatMap,encR,List.mem_append] at hd
 obtain⟨r,hr,(h1|h1)|h1⟩:=hd
 ·exact size_lt _ d h1
 ·exact size_lt _ d h1
 ·exact h r hr d h1
end Go.Proofs.YtnbmpgballopeaaGreatDoor
/- Plain: the transaction that bytes are; its bytes are just these; a transaction's bytes read again are it. No program in sight. -/
namespace Go.Proofs.YtnbmpgballopeaaGreatDoor
def inQ(i:InD):List Nat:=i.tx++(f4 i.out++((i.path % 256).toNat::(i.token++(i.more++i.secret))))
def OutD.bare(o:OutD):OutD:=⟨o.coins,none,0,o.paths,o.anchor⟩
def rdIn(v:List Nat):InD:=⟨v.take 32,((v.getD 35 0:Nat):Int),((v.getD 36 0:Nat):Int),(v.drop 37).take 32,(v.drop 69).take 32,(v.drop 101).take 32⟩
def joinI{α:Type}(l:List α)(t:List α × Nat):List α × Nat:=if t.2≠0 then ([],t.2) else (l++t.1,0)
theorem joinI_nil{α:Type}(t:List α × Nat)(h:t.2≠0→t.1=[]):joinI [] t=t:=by
 unfold joinI
 split
 ·rename_i h0;rw [← h h0]
 ·rename_i h0
  have:t.2=0:=by simpa using h0
  rw [← this];rfl
theorem joinI_join{α:Type}(a b:List α)(t:List α × Nat):joinI a (joinI b t)=joinI (a++b) t:=by
 unfold joinI
 by_cases h:t.2≠0
 ·simp [h]
 ·simp at h;simp [h]
def insD:Nat→List Nat→List InD × Nat
 | 0,_=>([],0)
 | f+1,v=>if v=[] then ([],0) else if v.length<36 then ([],20) else if (getP (v.take 36)).2.2≠0 then ([],(getP (v.take 36)).2.2)
  else if v.length<133 then ([],20) else joinI [rdIn v] (insD f (v.drop 133))
def insR(v:List Nat):List InD × Nat:=insD (v.length+1) v
def rdPath(v:List Nat):PathD:=⟨v.take 32,(v.drop 32).take 32,(v.drop 64).take 32,((beVal ((v.drop 96).take 4):Nat):Int),((beVal ((v.drop 100).take 4):Nat):Int)⟩
def pathsD:Nat→List Nat→List PathD
 | 0,_=>[]
 | n+1,v=>rdPath v::pathsD n (v.drop 104)
def rdOut(v:List Nat):OutD:=⟨beVal (v.take 8),none,0,pathsD (v.getD 40 0) (v.drop 41),(v.drop 8).take 32⟩
def outsD:Nat→List Nat→List OutD × Nat
 | 0,_=>([],0)
 | f+1,v=>if v=[] then ([],0) else if v.length<41∨v.length<41+104*v.getD 40 0 then ([],20) else joinI [rdOut v] (outsD f (v.drop (41+104*v.getD 40 0)))
def outsR(v:List Nat):List OutD × Nat:=outsD (v.length+1) v
def codeP(is:List InD)(os:List OutD):Nat:=(TxD.mk none 0 is none 0 os).code
def decT(bs:List Nat):(List InD × List OutD) × Nat:=
 if (decS bs).2≠0 then (([],[]),(decS bs).2) else
 match (decS bs).1 with
 | [a,b]=>if a.1=0∧b.1=2 then
   if (insR a.2).2≠0 then (([],[]),(insR a.2).2) else if (outsR b.2).2≠0 then (([],[]),(outsR b.2).2)
   else if codeP (insR a.2).1 (outsR b.2).1≠0 then (([],[]),codeP (insR a.2).1 (outsR b.2).1) else (((insR a.2).1,(outsR b.2).1),0)
   else (([],[]),21)
 | _=>(([],[]),21)
def recsT(is:List InD)(os:List OutD):List Pr:=[(0,is.flatMap inQ),(2,os.flatMap outB)]
theorem insD_fuel:∀(f g:Nat) (v:List Nat),v.length<f→v.length<g→insD f v=insD g v:=by
 intro f
 induction f with
 | zero=>intro g v h;omega
 | succ f ih=>
  intro g v hf hg
  cases g with
  | zero=>omega
  | succ g=>
   unfold insD
   (repeat' split) <;> try rfl
   rename_i h0 h1 h2 h3
   rw [ih g _ (by rw [List.length_drop];omega) (by rw [List.length_drop];omega)]
theorem outsD_fuel:∀(f g:Nat) (v:List Nat),v.length<f→v.length<g→outsD f v=outsD g v:=by
 intro f
 induction f with
 | zero=>intro g v h;omega
 | succ f ih=>
  intro g v hf hg
  cases g with
  | zero=>omega
  | succ g=>
   unfold outsD
   (repeat' split) <;> try rfl
   rename_i h0 h1
   rw [ih g _ (by rw [List.length_drop];omega) (by rw [List.length_drop];omega)]
theorem insR_nil:insR []=([],0):=rfl
theorem insR_short{v:List Nat}(h0:v≠[])(h:v.length<36):insR v=([],20):=by unfold insR insD;rw [if_neg h0,if_pos h]
theorem insR_pt{v:List Nat}(h:¬ v.length<36)(h2:(getP (v.take 36)).2.2≠0):insR v=([],(getP (v.take 36)).2.2):=by
 unfold insR insD;rw [if_neg (by rintro rfl;simp at h),if_neg h,if_pos h2]
theorem insR_short2{v:List Nat}(h:¬ v.length<36)(h2:(getP (v.take 36)).2.2=0)(h3:v.length<133):insR v=([],20):=by
 unfold insR insD;rw [if_neg (by rintro rfl;simp at h),if_neg h,if_neg (by omega),if_pos h3]
theorem insR_step{v:List Nat}(h2:(getP (v.take 36)).2.2=0)(h3:¬ v.length<133):insR v=joinI [rdIn v] (insR (v.drop 133)):=by
 unfold insR
 rw [insD,if_neg (by rintro rfl;simp at h3),if_neg (by omega),if_neg (by omega),if_neg h3]
 rw [insD_fuel v.length ((v.drop 133).length+1) _ (by rw [List.length_drop];omega) (by omega)]
theorem outsR_nil:outsR []=([],0):=rfl
theorem outsR_short{v:List Nat}(h0:v≠[])(h:v.length<41∨v.length<41+104*v.getD 40 0):outsR v=([],20):=by unfold outsR outsD;rw [if_neg h0,if_pos h]
theorem outsR_step{v:List Nat}(h:¬ v.length<41+104*v.getD 40 0):outsR v=joinI [rdOut v] (outsR (v.drop (41+104*v.getD 40 0))):=by
 unfold outsR
 rw [outsD,if_neg (by rintro rfl;simp at h),if_neg (by omega)]
 rw [outsD_fuel v.length ((v.drop (41+104*v.getD 40 0)).length+1) _ (by rw [List.length_drop];omega) (by omega)]
theorem insR_bad:∀(f:Nat) (v:List Nat),(insD f v).2≠0→(insD f v).1=[]:=by
 intro f
 cases f with
 | zero=>intro v _;rfl
 | succ f=>
  intro v h
  unfold insD at h ⊢
  (repeat' split) <;> try rfl
  rename_i h0 h1 h2 h3
  rw [if_neg h0,if_neg h1,if_neg h2,if_neg h3] at h
  unfold joinI at h ⊢
  split
  ·rfl
  ·rename_i h4;rw [if_neg h4] at h;exact absurd rfl h
theorem outsR_bad:∀(f:Nat) (v:List Nat),(outsD f v).2≠0→(outsD f v).1=[]:=by
 intro f
 cases f with
 | zero=>intro v _;rfl
 | succ f=>
  intro v h
  unfold outsD at h ⊢
  (repeat' split) <;> try rfl
  rename_i h0 h1
  rw [if_neg h0,if_neg h1] at h
  unfold joinI at h ⊢
  split
  ·rfl
  ·rename_i h4;rw [if_neg h4] at h;exact absurd rfl h
theorem f4_be{n:Nat}:f4 (n:Int)=be 4 n:=by
 unfold f4
 simp only [be,List.cons.injEq,and_true]
 refine⟨?_,?_,?_,?_⟩ <;> omega
theorem f4_back{x:Int}(h:0≤x∧x<4294967296):((beVal (f4 x):Nat):Int)=x:=by
 obtain⟨n,rfl⟩:=Int.eq_ofNat_of_zero_le h.1
 rw [f4_be,beVal_be,Nat.mod_eq_of_lt (by omega)]
theorem f4_pair{n:Nat}(h:n<18446744073709551616):f4 ((n / 4294967296:Nat):Int)++f4 (IntKind.i64.wrap (n:Int))=be 8 n:=by
 have e:f4 (IntKind.i64.wrap (n:Int))=f4 (n:Int):=by
  unfold f4
  have hw:IntKind.i64.wrap (n:Int)=(n:Int)∨IntKind.i64.wrap (n:Int)=(n:Int) - 18446744073709551616:=by
   unfold IntKind.wrap
   simp only [IntKind.signed,IntKind.bits]
   omega
  rcases hw with hw|hw
  ·rw [hw]
  ·rw [hw]
   simp only [List.cons.injEq,and_true]
   refine⟨?_,?_,?_,?_⟩ <;> omega
 rw [e,f4_be,f4_be]
 simp only [be,List.cons_append,List.nil_append,List.cons.injEq,and_true]
 omega
theorem take_take{α:Type}(v:List α)(a b:Nat):v.take a++(v.drop a).take b=v.take (a+b):=by rw [List.take_add]
end Go.Proofs.YtnbmpgballopeaaGreatDoor
/- Plain: a transaction's bytes read again are it. No program in sight. -/
namespace Go.Proofs.YtnbmpgballopeaaGreatDoor
theorem getD_app{a b:List Nat}{n k:Nat}(h:a.length=n):(a++b).getD (n+k) 0=b.getD k 0:=by
 subst h
 simp [List.getD,List.getElem?_append_right (Nat.le_add_right _ _)]
theorem drop_app{α:Type}{a b:List α}{n k:Nat}(h:a.length=n):(a++b).drop (n+k)=b.drop k:=by
 subst h
 rw [← List.drop_drop,List.drop_left]
theorem inQ_len{i:InD}(h:i.ok):(inQ i).length=133:=by simp [inQ,h.tx.1,h.token.1,h.more.1,h.secret.1,f4_len]
theorem f4_small{x:Int}(h:0≤x∧x<256):f4 x=[0,0,0,x.toNat]:=by
 obtain⟨n,rfl⟩:=Int.eq_ofNat_of_zero_le h.1
 rw [f4_be]
 simp only [be,List.cons.injEq,and_true]
 refine⟨?_,?_,?_,?_⟩ <;> omega
theorem rdIn_app{i:InD}(h:i.ok)(hb:i.bad=false)(r:List Nat):rdIn (inQ i++r)=i∧(getP ((inQ i++r).take 36)).2.2=0:=by
 obtain⟨tx,out,path,tok,more,sec⟩:=i
 have ho:(0≤out∧out<256)∧0≤path∧path<4:=by
  unfold InD.bad at hb
  simp only [decide_eq_false_iff_not] at hb
  omega
 have e:inQ ⟨tx,out,path,tok,more,sec⟩++r=tx++([0,0,0,out.toNat]++([path.toNat]++(tok++(more++(sec++r))))):=by
  unfold inQ
  rw [f4_small ho.1]
  have:(path % 256).toNat=path.toNat:=by omega
  simp [this]
 have l1:tx.length=32:=h.tx.1
 have l2:tok.length=32:=h.token.1
 have l3:more.length=32:=h.more.1
 have l4:sec.length=32:=h.secret.1
 rw [e]
 constructor
 ·unfold rdIn
  rw [show(35:Nat)=32+3 from rfl,show(36:Nat)=32+4 from rfl,show(37:Nat)=32+5 from rfl,show(69:Nat)=32+37 from rfl,show(101:Nat)=32+69 from rfl]
  rw [getD_app l1,getD_app l1,drop_app l1,drop_app l1,drop_app l1,List.take_left' l1]
  have d1:([0,0,0,out.toNat]++([path.toNat]++(tok++(more++(sec++r))))).drop 5=tok++(more++(sec++r)):=rfl
  have d2:([0,0,0,out.toNat]++([path.toNat]++(tok++(more++(sec++r))))).drop 37=more++(sec++r):=by
   show(tok++(more++(sec++r))).drop 32=_
   exact List.drop_left' l2
  have d3:([0,0,0,out.toNat]++([path.toNat]++(tok++(more++(sec++r))))).drop 69=sec++r:=by
   show(tok++(more++(sec++r))).drop 64=_
   rw [show(64:Nat)=32+32 from rfl,drop_app l2]
   exact List.drop_left' l3
  rw [d1,d2,d3,List.take_left' l2,List.take_left' l3,List.take_left' l4]
  have c1:((([0,0,0,out.toNat]++([path.toNat]++(tok++(more++(sec++r))))).getD 3 0:Nat):Int)=out:=by
   show((out.toNat:Nat):Int)=out
   omega
  have c2:((([0,0,0,out.toNat]++([path.toNat]++(tok++(more++(sec++r))))).getD 4 0:Nat):Int)=path:=by
   show((path.toNat:Nat):Int)=path
   omega
  rw [c1,c2]
 ·have e2:(tx++([0,0,0,out.toNat]++([path.toNat]++(tok++(more++(sec++r)))))).take 36=tx++[0,0,0,out.toNat]:=by
   rw [← List.append_assoc]
   exact List.take_left' (by simp [l1])
  rw [e2]
  unfold getP
  rw [if_pos (by simp [l1]),show(32:Nat)=32+0 from rfl,getD_app l1,show(33:Nat)=32+1 from rfl,getD_app l1,show(34:Nat)=32+2 from rfl,getD_app l1]
  simp
theorem insR_enc:∀(is:List InD),(∀i∈is,i.ok∧i.bad=false)→insR (is.flatMap inQ)=(is,0)
 | [],_=>rfl
 | i::r,h=>by
  have hi:=h i (by simp)
  obtain⟨e1,e2⟩:=rdIn_app hi.1 hi.2 (r.flatMap inQ)
  rw [List.flatMap_cons,insR_step e2 (by rw [List.length_append,inQ_len hi.1];omega),e1,List.drop_left' (inQ_len hi.1),insR_enc r (fun j hj=>h j (by simp [hj]))]
  rfl
theorem rdPath_app{p:PathD}(h:p.ok)(hb:p.bad=false)(r:List Nat):rdPath (pathB p++r)=p:=by
 obtain⟨own,also,lock,wait,till⟩:=p
 have ho:(0≤wait∧wait<4294967296)∧(0≤till∧till<4294967296):=by
  unfold PathD.bad at hb
  simp only [decide_eq_false_iff_not] at hb
  omega
 have l1:own.length=32:=h.own.1
 have l2:also.length=32:=h.also.1
 have l3:lock.length=32:=h.lock.1
 have e:pathB ⟨own,also,lock,wait,till⟩++r=own++(also++(lock++(f4 wait++(f4 till++r)))):=by simp [pathB]
 rw [e]
 unfold rdPath
 have d1:(own++(also++(lock++(f4 wait++(f4 till++r))))).drop 32=also++(lock++(f4 wait++(f4 till++r))):=List.drop_left' l1
 have d2:(own++(also++(lock++(f4 wait++(f4 till++r))))).drop 64=lock++(f4 wait++(f4 till++r)):=by
  rw [show(64:Nat)=32+32 from rfl,drop_app l1];exact List.drop_left' l2
 have d3:(own++(also++(lock++(f4 wait++(f4 till++r))))).drop 96=f4 wait++(f4 till++r):=by
  rw [show(96:Nat)=32+(32+32) from rfl,drop_app l1,drop_app l2];exact List.drop_left' l3
 have d4:(own++(also++(lock++(f4 wait++(f4 till++r))))).drop 100=f4 till++r:=by
  rw [show(100:Nat)=32+(32+(32+4)) from rfl,drop_app l1,drop_app l2,drop_app l3];exact List.drop_left' (f4_len _)
 rw [d1,d2,d3,d4,List.take_left' l1,List.take_left' l2,List.take_left' l3,List.take_left' (f4_len _),List.take_left' (f4_len _),f4_back ho.1,f4_back ho.2]
theorem pathsD_app:∀(ps:List PathD) (r:List Nat),(∀p∈ps,p.ok∧p.bad=false)→pathsD ps.length (ps.flatMap pathB++r)=ps
 | [],_,_=>rfl
 | p::q,r,h=>by
  have hp:=h p (by simp)
  rw [List.flatMap_cons,List.append_assoc,List.length_cons,pathsD,rdPath_app hp.1 hp.2,List.drop_left' (pathB_len hp.1),pathsD_app q r (fun x hx=>h x (by simp [hx]))]
theorem rdOut_app{o:OutD}(hc:o.coins<18446744073709551616)(ha:H32b o.anchor)(hp:∀p∈o.paths,p.ok∧p.bad=false)(r:List Nat):
  rdOut (outB o++r)=o.bare∧(outB o++r).getD 40 0=o.paths.length:=by
 obtain⟨coins,pa,pc,paths,anchor⟩:=o
 have l1:anchor.length=32:=ha.1
 have e:outB ⟨coins,pa,pc,paths,anchor⟩++r=be 8 coins++(anchor++([paths.length]++(paths.flatMap pathB++r))):=by
  unfold outB
  simp only
  rw [← List.append_assoc (f4 _),f4_pair hc]
  simp
 have l8:(be 8 coins).length=8:=be_length _ _
 rw [e]
 have g40:(be 8 coins++(anchor++([paths.length]++(paths.flatMap pathB++r)))).getD 40 0=paths.length:=by
  rw [show(40:Nat)=8+(32+0) from rfl,getD_app l8,getD_app l1];rfl
 refine⟨?_,g40⟩
 unfold rdOut OutD.bare
 rw [g40]
 have d1:(be 8 coins++(anchor++([paths.length]++(paths.flatMap pathB++r)))).drop 41=paths.flatMap pathB++r:=by
  rw [show(41:Nat)=8+(32+1) from rfl,drop_app l8,drop_app l1];rfl
 have d2:(be 8 coins++(anchor++([paths.length]++(paths.flatMap pathB++r)))).drop 8=anchor++([paths.length]++(paths.flatMap pathB++r)):=List.drop_left' l8
 rw [d1,d2,List.take_left' l8,List.take_left' l1,pathsD_app paths r hp,beVal_be,Nat.mod_eq_of_lt (by simpa using hc)]
theorem outsR_enc:∀(os:List OutD),(∀o∈os,o.coins<18446744073709551616∧H32b o.anchor∧(∀p∈o.paths,p.ok∧p.bad=false))→outsR (os.flatMap outB)=(os.map OutD.bare,0)
 | [],_=>rfl
 | o::r,h=>by
  have ho:=h o (by simp)
  obtain⟨e1,e2⟩:=rdOut_app ho.1 ho.2.1 ho.2.2 (r.flatMap outB)
  have hl:=outB_len (o:=o) ho.2.1.1 (fun p hp=>(ho.2.2 p hp).1)
  rw [List.flatMap_cons,outsR_step (by rw [e2,List.length_append,hl];omega),e1,e2,List.drop_left' hl,outsR_enc r (fun j hj=>h j (by simp [hj]))]
  rfl
theorem outsC_bare:∀(os:List OutD),outsC (os.map OutD.bare)=outsC os
 | []=>rfl
 | o::r=>by
  have e:o.bare.code=o.code:=rfl
  rw [List.map_cons,outsC,outsC,e,outsC_bare r]
theorem codeP_bare(is:List InD)(os:List OutD):codeP is (os.map OutD.bare)=codeP is os:=by
 have e:(os.map OutD.bare).map OutD.coins=os.map OutD.coins:=by rw [List.map_map];rfl
 unfold codeP TxD.code
 simp only [List.length_map,outsC_bare,e]
theorem codeP_tx(t:TxD):codeP t.ins t.outs=t.code:=rfl
theorem insC_fine:∀(is pre:List InD),insC pre is=0 → ∀i∈is,i.bad=false
 | [],_,_,i,hi=>by simp at hi
 | j::r,pre,h,i,hi=>by
  unfold insC at h
  cases hb:j.bad with
  | true=>rw [hb] at h;simp at h
  | false=>
   rw [hb] at h
   simp only [Bool.false_eq_true,if_false] at h
   split at h
   ·simp at h
   ·rcases List.mem_cons.1 hi with rfl|hi
    ·exact hb
    ·exact insC_fine r _ h i hi
theorem outsC_ok:∀(os:List OutD),outsC os=0 → ∀o∈os,o.code=0
 | [],_,o,ho=>by simp at ho
 | p::r,h,o,ho=>by
  unfold outsC at h
  by_cases hc:p.code=0
  ·rw [if_pos hc] at h
   rcases List.mem_cons.1 ho with rfl|ho
   ·exact hc
   ·exact outsC_ok r h o ho
  ·rw [if_neg hc] at h;exact absurd h hc
theorem OutD.code_ok{o:OutD}(h:o.code=0):o.paths.length≤4 ∧ ∀p∈o.paths,p.bad=false:=by
 unfold OutD.code at h
 by_cases h1:o.paths.length=0∨4<o.paths.length
 ·rw [if_pos h1] at h;simp at h
 ·rw [if_neg h1] at h
  cases h2:o.paths.any PathD.bad with
  | true=>rw [h2] at h;simp at h
  | false=>exact⟨by omega,fun p hp=>by simpa using (List.any_eq_false.1 h2 p hp)⟩
theorem code_ok{t:TxD}(h:t.code=0):insC [] t.ins=0∧outsC t.outs=0∧t.ins.length≤256∧t.outs.length≤256:=by
 unfold TxD.code at h
 by_cases h1:256<t.ins.length∨256<t.outs.length
 ·rw [if_pos h1] at h;simp at h
 ·rw [if_neg h1] at h
  by_cases h2:t.ins.length=0∨t.outs.length=0
  ·rw [if_pos h2] at h;simp at h
  ·rw [if_neg h2] at h
   by_cases h3:insC [] t.ins≠0
   ·rw [if_pos h3] at h;exact absurd h h3
   ·rw [if_neg h3] at h
    by_cases h4:outsC t.outs≠0
    ·rw [if_pos h4] at h;exact absurd h h4
    ·exact⟨by simpa using h3,by simpa using h4,by omega,by omega⟩
theorem decT_enc{w:World}{t:TxD}(hg:t.good w)(h:t.code=0)(he:encE (recsT t.ins t.outs)=0):decT (encAll (recsT t.ins t.outs))=((t.ins,t.outs.map OutD.bare),0):=by
 obtain⟨c1,c2,_,_⟩:=code_ok h
 have hd:=(encE_zero he (by intro r hr;simp only [recsT,List.mem_cons,List.not_mem_nil,or_false] at hr;rcases hr with rfl|rfl <;> simp)).1
 have i1:=insR_enc t.ins (fun i hi=>⟨hg.iok i hi,insC_fine _ _ c1 i hi⟩)
 have i2:=outsR_enc t.outs (fun o ho=>⟨(hg.ook o ho).coins,(hg.ook o ho).anchor,fun p hp=>⟨(hg.ook o ho).ok p hp,(OutD.code_ok (outsC_ok _ c2 o ho)).2 p hp⟩⟩)
 unfold decT
 rw [hd]
 simp only [recsT,ne_eq,not_true_eq_false,if_false,and_self,if_true,i1,i2,codeP_bare,codeP_tx,h]
end Go.Proofs.YtnbmpgballopeaaGreatDoor
/- The reference's Eight and Four. -/
namespace Go.Proofs.YtnbmpgballopeaaGreatDoor
open Go.RowKit
def beT(u:Nat):Nat→List Nat
 | 0=>[]
 | i+1=>(u / 256 ^ i % 256)::beT u i
theorem beT_len(u:Nat):∀i,(beT u i).length=i
 | 0=>rfl
 | i+1=>congrArg (· + 1) (beT_len u i)
def Own8(w:World)(bs:List Nat)(e:Ending)(w':World):Prop:=∃v,e = .returned v∧w'.ownsRow w.heap.size 5 1 v bs.length (nums .u8 bs)∧Below w.heap.size w w'
theorem own_one(w:World)(x:Value)(e:TypeId):(w.alloc (.cells #[x] e)).ownsRow w.heap.size e 1 (.slice (some ⟨w.heap.size,0,none⟩) 1 1) 1 [x]:=
 ⟨by simp,.inr ⟨w.heap.size,1,#[x],rfl,Nat.le_refl _,heap_alloc_new w _,by decide,by decide,rfl,by simp⟩⟩
set_option maxRecDepth 100000 in
set_option maxHeartbeats 4000000 in
theorem reight_walk(u:Nat)(hu:u<18446744073709551616)(w:World):Calls Tryz.prog 58 #[.int .u64 (u:Int)] w (Own8 w (beT u 8)):=by
 have HU:=hid hu
 have MD:=hid (World.ownsRow_made w #[] 0 (base:=w.heap.size) (e:=5) (size:=1) (Nat.le_refl _) (by simp) (by simp))
 have M0:=hid ((Below.refl w.heap.size w).alloc (Nat.le_refl _) (.cells #[] 5))
 clear hu
 go_enter Tryz.func58,Tryz.ntmps58
 go_upto_region 3 with(fail)
 go_loopw [0,3,4] (fun x0 x3 x4 wr=>∃(j:Nat) (v3:Value),v3=x3∧j≤8∧x4 = .int .i64 (j:Int)∧x0 = .int .u64 ((u / 256 ^ j:Nat):Int)∧wr.ownsRow w.heap.size 5 1 v3 j (nums .u8 (beT u j))∧Below w.heap.size w wr) (fun _ _ x4 _=>8 - (intOf x4).toNat)
 case atStart=>exact⟨0,_,rfl,by decide,rfl,by simp,MD.out,M0.out⟩
 case round=>
  obtain⟨j,v3,hv3,hj,rfl,rfl,ho,hb⟩:=hrel
  subst hv3
  have OW:=hid ho
  have BB:=hid hb
  obtain⟨a3,c3,rfl,rd3⟩:=Rd.of_owns ho
  have RD3:=hid rd3
  clear ho hb rd3
  by_cases hlt:j<8
  case neg=>
   obtain rfl:j=8:=by omega
   clear hlt hj
   go_wp2_with (fail)
   go_ret
   exact⟨_,rfl,by rw [beT_len];exact OW.out,BB.out⟩
  have t1:decide (j<8)=true:=decide_eq_true hlt
  have t2:decide ((j:Int)<8)=true:=decide_eq_true (by omega)
  obtain⟨A,hA⟩:∃A,A=u / 256 ^ j:=⟨_,rfl⟩
  obtain⟨D,hD⟩:∃D,D=A % 256:=⟨_,rfl⟩
  obtain⟨A2,hA2⟩:∃A2,A2=A / 256:=⟨_,rfl⟩
  obtain⟨j1,hj1⟩:∃j1,j1=j+1:=⟨_,rfl⟩
  have hAl:A<18446744073709551616:=by rw [hA];exact Nat.lt_of_le_of_lt (Nat.div_le_self _ _) HU.out
  rw [← hA]
  have r1:(A:Int).tmod 256=(D:Int):=by rw [Int.tmod_eq_emod_of_nonneg (by omega)];omega
  have r1':(A:Int) % 256=(D:Int):=by omega
  have r2:(A:Int).tdiv 256=(A2:Int):=by rw [Int.tdiv_eq_ediv_of_nonneg (by omega)];omega
  have r2':(A:Int) / 256=(A2:Int):=by omega
  have r3:IntKind.u64.wrap (D:Int)=(D:Int):=by rw [IntKind.wrap_u64];omega
  have r4:IntKind.u64.wrap (A2:Int)=(A2:Int):=by rw [IntKind.wrap_u64];omega
  have r5:IntKind.u8.wrap (D:Int)=(D:Int):=by rw [IntKind.wrap_u8];omega
  have r6:IntKind.i64.wrap ((j:Int)+1)=(j1:Int):=by rw [IntKind.wrap_i64];omega
  have FF:=hid (show A2=u / 256 ^ j1∧beT u j1=D::beT u j∧j1=j+1∧j<8 from⟨by rw [hA2,hA,hj1,Nat.div_div_eq_div_mul,Nat.pow_succ],by rw [hj1,hD,hA];rfl,hj1,hlt⟩)
  have NW:=hid (own_one wr (.int .u8 (D:Int)) 5)
  have bw:=hid ((Below.refl wr.heap.size wr).alloc (Nat.le_refl _) (.cells #[.int .u8 (D:Int)] 5))
  have RD4:=hid (show Rd _ 1 a3 j c3 (nums .u8 (beT u j)) from RD3.out.below bw.out)
  clear hA hD hA2 hj1 hlt hj hAl
  go_wp2_with (at_builtin;refine wpList_cat rfl _ _ 28 rfl tyBs wr.heap.size NW.out rfl rfl RD4.out (nums_oneCell _ _) (by have:=FF.out;omega) (by have:=FF.out;unfold maxLen;omega) bw.out.size ?_;intro v5 w5 own5 b5 hs5 _;have O5:=hid own5;have B5:=hid b5;clear own5 b5 hs5)
  go_roundw
  case rel=>
   refine⟨j1,_,rfl,by have:=FF.out;omega,rfl,by rw [FF.out.1],?_,BB.out.trans ((bw.out.trans B5.out).mono BB.out.size)⟩
   have o:=own_mono O5.out BB.out.size
   rw [FF.out.2.1,FF.out.2.2.1,Nat.add_comm j 1]
   exact o
  case measure=>simp [intOf];have:=FF.out;omega
set_option maxRecDepth 100000 in
set_option maxHeartbeats 4000000 in
theorem rfour_walk(u:Nat)(hu:u<4294967296)(w:World):Calls Tryz.prog 59 #[.int .i64 (u:Int)] w (Own8 w (beT u 4)):=by
 have HU:=hid hu
 have MD:=hid (World.ownsRow_made w #[] 0 (base:=w.heap.size) (e:=5) (size:=1) (Nat.le_refl _) (by simp) (by simp))
 have M0:=hid ((Below.refl w.heap.size w).alloc (Nat.le_refl _) (.cells #[] 5))
 clear hu
 go_enter Tryz.func59,Tryz.ntmps59
 go_upto_region 3 with(fail)
 go_loopw [0,3,4] (fun x0 x3 x4 wr=>∃(j:Nat) (v3:Value),v3=x3∧j≤4∧x4 = .int .i64 (j:Int)∧x0 = .int .i64 ((u / 256 ^ j:Nat):Int)∧wr.ownsRow w.heap.size 5 1 v3 j (nums .u8 (beT u j))∧Below w.heap.size w wr) (fun _ _ x4 _=>4 - (intOf x4).toNat)
 case atStart=>exact⟨0,_,rfl,by decide,rfl,by simp,MD.out,M0.out⟩
 case round=>
  obtain⟨j,v3,hv3,hj,rfl,rfl,ho,hb⟩:=hrel
  subst hv3
  have OW:=hid ho
  have BB:=hid hb
  obtain⟨a3,c3,rfl,rd3⟩:=Rd.of_owns ho
  have RD3:=hid rd3
  clear ho hb rd3
  by_cases hlt:j<4
  case neg=>
   obtain rfl:j=4:=by omega
   clear hlt hj
   go_wp2_with (fail)
   go_ret
   exact⟨_,rfl,by rw [beT_len];exact OW.out,BB.out⟩
  have t1:decide (j<4)=true:=decide_eq_true hlt
  have t2:decide ((j:Int)<4)=true:=decide_eq_true (by omega)
  obtain⟨A,hA⟩:∃A,A=u / 256 ^ j:=⟨_,rfl⟩
  obtain⟨D,hD⟩:∃D,D=A % 256:=⟨_,rfl⟩
  obtain⟨A2,hA2⟩:∃A2,A2=A / 256:=⟨_,rfl⟩
  obtain⟨j1,hj1⟩:∃j1,j1=j+1:=⟨_,rfl⟩
  have hAl:A<4294967296:=by rw [hA];exact Nat.lt_of_le_of_lt (Nat.div_le_self _ _) HU.out
  rw [← hA]
  have r1:(A:Int).tmod 256=(D:Int):=by rw [Int.tmod_eq_emod_of_nonneg (by omega)];omega
  have r1':(A:Int) % 256=(D:Int):=by omega
  have r2:(A:Int).tdiv 256=(A2:Int):=by rw [Int.tdiv_eq_ediv_of_nonneg (by omega)];omega
  have r2':(A:Int) / 256=(A2:Int):=by omega
  have r3:IntKind.i64.wrap (D:Int)=(D:Int):=by rw [IntKind.wrap_i64];omega
  have r4:IntKind.i64.wrap (A2:Int)=(A2:Int):=by rw [IntKind.wrap_i64];omega
  have r5:IntKind.u8.wrap (D:Int)=(D:Int):=by rw [IntKind.wrap_u8];omega
  have r6:IntKind.i64.wrap ((j:Int)+1)=(j1:Int):=by rw [IntKind.wrap_i64];omega
  have FF:=hid (show A2=u / 256 ^ j1∧beT u j1=D::beT u j∧j1=j+1∧j<4 from⟨by rw [hA2,hA,hj1,Nat.div_div_eq_div_mul,Nat.pow_succ],by rw [hj1,hD,hA];rfl,hj1,hlt⟩)
  have NW:=hid (own_one wr (.int .u8 (D:Int)) 5)
  have bw:=hid ((Below.refl wr.heap.size wr).alloc (Nat.le_refl _) (.cells #[.int .u8 (D:Int)] 5))
  have RD4:=hid (show Rd _ 1 a3 j c3 (nums .u8 (beT u j)) from RD3.out.below bw.out)
  clear hA hD hA2 hj1 hlt hj hAl
  go_wp2_with (at_builtin;refine wpList_cat rfl _ _ 28 rfl tyBs wr.heap.size NW.out rfl rfl RD4.out (nums_oneCell _ _) (by have:=FF.out;omega) (by have:=FF.out;unfold maxLen;omega) bw.out.size ?_;intro v5 w5 own5 b5 hs5 _;have O5:=hid own5;have B5:=hid b5;clear own5 b5 hs5)
  go_roundw
  case rel=>
   refine⟨j1,_,rfl,by have:=FF.out;omega,rfl,by rw [FF.out.1],?_,BB.out.trans ((bw.out.trans B5.out).mono BB.out.size)⟩
   have o:=own_mono O5.out BB.out.size
   rw [FF.out.2.1,FF.out.2.2.1,Nat.add_comm j 1]
   exact o
  case measure=>simp [intOf];have:=FF.out;omega
theorem beT_be:∀(i u:Nat),beT u i=be i u
 | 0,_=>rfl
 | i+1,u=>by rw [beT,be,beT_be i u]
theorem beT_eight{n:Nat}(h:n<18446744073709551616):beT n 8=f4 ((n / 4294967296:Nat):Int)++f4 (IntKind.i64.wrap (n:Int)):=by rw [beT_be,f4_pair h]
theorem beT_four(n:Nat):beT n 4=f4 (n:Int):=by rw [beT_be,f4_be]
end Go.Proofs.YtnbmpgballopeaaGreatDoor

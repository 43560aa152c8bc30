/- Plain: what the chain's reader has taken, against the bytes; structs that are built of letters. -/
import Derived.Test.YtnbmpgballopeaaGreatDoorZTkn
import Derived.Test.YtnbmpgballopeaaGreatDoorZChg
import Derived.Test.YtnbmpgballopeaaGreatDoorZRe8
import Derived.Test.YtnbmpgballopeaaGreatDoorZLed
namespace Go.Proofs.YtnbmpgballopeaaGreatDoor
open Go.RowKit
theorem tkL_le{n:Nat}{v:List Nat}(h:n≤v.length):tkL n v=v.drop n:=by unfold tkL;rw [if_pos h]
theorem tkS_le{n:Nat}{v:List Nat}{sh:Bool}(h:n≤v.length):tkS n v sh=sh:=by unfold tkS;rw [if_pos h]
theorem tkY_le{n:Nat}{v:List Nat}(h:n≤v.length):tkY n v=v.take n:=by unfold tkY;rw [if_pos h]
theorem tkS_gt{n:Nat}{v:List Nat}{sh:Bool}(h:¬ n≤v.length):tkS n v sh=true:=by unfold tkS;rw [if_neg h]
theorem tkS_true{n:Nat}{v:List Nat}:tkS n v true=true:=by unfold tkS;split <;> rfl
theorem tkL_lt{n:Nat}{v:List Nat}(h:∀d∈v,d<256):∀d∈tkL n v,d<256:=by
 unfold tkL
 intro d hd
 split at hd
 ·exact h d (List.mem_of_mem_drop hd)
 ·exact h d hd
theorem tkY_ok{v:List Nat}(h:∀d∈v,d<256):H32b (tkY 32 v):=⟨tkY_len 32 v,tkY_lt h⟩
theorem beVal_tk{n:Nat}{v:List Nat}(h:∀d∈v,d<256):beVal (tkY n v)<256 ^ n:=by
 have:=beVal_lt _ (tkY_lt (n:=n) h)
 rwa [tkY_len] at this
theorem beVal_one(v:List Nat)(h:0<v.length):beVal (v.take 1)=v.getD 0 0:=by
 cases v with
 | nil=>simp at h
 | cons x r=>simp [beVal]
def inL(v:List Nat):List Nat:=tkL 32 (tkL 32 (tkL 32 (tkL 1 v)))
def inS(v:List Nat)(sh:Bool):Bool:=tkS 32 (tkL 32 (tkL 32 (tkL 1 v))) (tkS 32 (tkL 32 (tkL 1 v)) (tkS 32 (tkL 1 v) (tkS 1 v sh)))
def inY(tx:List Nat)(o:Nat)(v:List Nat):InD:=⟨tx,(o:Int),((beVal (tkY 1 v):Nat):Int),tkY 32 (tkL 1 v),tkY 32 (tkL 32 (tkL 1 v)),tkY 32 (tkL 32 (tkL 32 (tkL 1 v)))⟩
theorem inS_short{v:List Nat}{sh:Bool}(h:¬ 97≤v.length):inS v sh=true:=by
 unfold inS
 by_cases h1:1≤v.length
 ·rw [tkL_le h1]
  by_cases h2:32≤(v.drop 1).length
  ·rw [tkL_le h2]
   by_cases h3:32≤((v.drop 1).drop 32).length
   ·rw [tkL_le h3]
    exact tkS_gt (by simp only [List.length_drop] at *;omega)
   ·rw [tkS_gt h3,tkS_true]
  ·rw [tkS_gt h2,tkS_true,tkS_true]
 ·rw [tkS_gt h1,tkS_true,tkS_true,tkS_true]
theorem in_long{v:List Nat}{sh:Bool}(h:97≤v.length)(tx:List Nat)(o:Nat):inS v sh=sh∧inL v=v.drop 97∧inY tx o v=⟨tx,(o:Int),((v.getD 0 0:Nat):Int),(v.drop 1).take 32,(v.drop 33).take 32,(v.drop 65).take 32⟩:=by
 have h1:1≤v.length:=by omega
 have h2:32≤(v.drop 1).length:=by rw [List.length_drop];omega
 have h3:32≤(v.drop 33).length:=by rw [List.length_drop];omega
 have h4:32≤(v.drop 65).length:=by rw [List.length_drop];omega
 have e1:tkL 1 v=v.drop 1:=tkL_le h1
 have e2:tkL 32 (v.drop 1)=v.drop 33:=by rw [tkL_le h2,List.drop_drop]
 have e3:tkL 32 (v.drop 33)=v.drop 65:=by rw [tkL_le h3,List.drop_drop]
 have e4:tkL 32 (v.drop 65)=v.drop 97:=by rw [tkL_le h4,List.drop_drop]
 refine⟨?_,?_,?_⟩
 ·unfold inS;rw [e1,e2,e3,tkS_le h1,tkS_le h2,tkS_le h3,tkS_le h4]
 ·unfold inL;rw [e1,e2,e3,e4]
 ·unfold inY;rw [e1,e2,e3,tkY_le h1,tkY_le h2,tkY_le h3,tkY_le h4,beVal_one v h1]
theorem getP_zero{v:List Nat}(h:¬ v.length<36)(h0:(getP (v.take 36)).2.2=0):(getP (v.take 36)).1=v.take 32∧(getP (v.take 36)).2.1=v.getD 35 0:=by
 have hl:(v.take 36).length=36:=by rw [List.length_take];omega
 unfold getP at h0 ⊢
 rw [if_pos hl] at h0 ⊢
 split
 ·refine⟨by simp [List.take_take],by simp [List.getD]⟩
 ·rename_i hq;rw [if_neg hq] at h0;simp at h0
theorem inY_rd{v:List Nat}(h:¬ v.length<133)(h0:(getP (v.take 36)).2.2=0):inY (getP (v.take 36)).1 (getP (v.take 36)).2.1 (v.drop 36)=rdIn v∧inL (v.drop 36)=v.drop 133 ∧ ∀sh,inS (v.drop 36) sh=sh:=by
 obtain⟨g1,g2⟩:=getP_zero (by omega) h0
 have hl:97≤(v.drop 36).length:=by rw [List.length_drop];omega
 obtain⟨_,l2,l3⟩:=in_long (sh:=false) hl (getP (v.take 36)).1 (getP (v.take 36)).2.1
 refine⟨?_,by rw [l2,List.drop_drop],fun sh=>(in_long (sh:=sh) hl [] 0).1⟩
 rw [l3,g1,g2]
 unfold rdIn
 have e:(v.drop 36).getD 0 0=v.getD 36 0:=by simp [List.getD]
 simp only [List.drop_drop,Nat.reduceAdd,e]
theorem inY_ok{tx:List Nat}{o:Nat}{v:List Nat}(ht:H32b tx)(ho:o<256)(h:∀d∈v,d<256):(inY tx o v).ok:=by
 have:=beVal_tk (n:=1) h
 refine⟨ht,⟨?_,?_⟩,⟨?_,?_⟩,tkY_ok (tkL_lt h),tkY_ok (tkL_lt (tkL_lt h)),tkY_ok (tkL_lt (tkL_lt (tkL_lt h)))⟩
 all_goals (simp only [inY];omega)
def outHL(v:List Nat):List Nat:=tkL 1 (tkL 32 (tkL 8 v))
def outHS(v:List Nat)(sh:Bool):Bool:=tkS 1 (tkL 32 (tkL 8 v)) (tkS 32 (tkL 8 v) (tkS 8 v sh))
theorem outHS_short{v:List Nat}{sh:Bool}(h:¬ 41≤v.length):outHS v sh=true:=by
 unfold outHS
 by_cases h1:8≤v.length
 ·rw [tkL_le h1]
  by_cases h2:32≤(v.drop 8).length
  ·rw [tkL_le h2]
   exact tkS_gt (by simp only [List.length_drop] at *;omega)
  ·rw [tkS_gt h2,tkS_true]
 ·rw [tkS_gt h1,tkS_true,tkS_true]
theorem out_long{v:List Nat}{sh:Bool}(h:41≤v.length):outHS v sh=sh∧outHL v=v.drop 41∧tkY 8 v=v.take 8∧tkY 32 (tkL 8 v)=(v.drop 8).take 32∧beVal (tkY 1 (tkL 32 (tkL 8 v)))=v.getD 40 0:=by
 have h1:8≤v.length:=by omega
 have h2:32≤(v.drop 8).length:=by rw [List.length_drop];omega
 have h3:1≤(v.drop 40).length:=by rw [List.length_drop];omega
 have e1:tkL 8 v=v.drop 8:=tkL_le h1
 have e2:tkL 32 (v.drop 8)=v.drop 40:=by rw [tkL_le h2,List.drop_drop]
 have e3:tkL 1 (v.drop 40)=v.drop 41:=by rw [tkL_le h3,List.drop_drop]
 refine⟨?_,?_,tkY_le h1,?_,?_⟩
 ·unfold outHS;rw [e1,e2,tkS_le h1,tkS_le h2,tkS_le h3]
 ·unfold outHL;rw [e1,e2,e3]
 ·rw [e1,tkY_le h2]
 ·rw [e1,e2,tkY_le h3,beVal_one _ (by omega)];simp [List.getD]
def pthL(v:List Nat):List Nat:=tkL 4 (tkL 4 (tkL 32 (tkL 32 (tkL 32 v))))
def pthS(v:List Nat)(sh:Bool):Bool:=tkS 4 (tkL 4 (tkL 32 (tkL 32 (tkL 32 v)))) (tkS 4 (tkL 32 (tkL 32 (tkL 32 v))) (tkS 32 (tkL 32 (tkL 32 v)) (tkS 32 (tkL 32 v) (tkS 32 v sh))))
def pthY(v:List Nat):PathD:=⟨tkY 32 v,tkY 32 (tkL 32 v),tkY 32 (tkL 32 (tkL 32 v)),((beVal (tkY 4 (tkL 32 (tkL 32 (tkL 32 v)))):Nat):Int),((beVal (tkY 4 (tkL 4 (tkL 32 (tkL 32 (tkL 32 v))))):Nat):Int)⟩
theorem pthS_short{v:List Nat}{sh:Bool}(h:¬ 104≤v.length):pthS v sh=true:=by
 unfold pthS
 by_cases h1:32≤v.length
 ·rw [tkL_le h1]
  by_cases h2:32≤(v.drop 32).length
  ·rw [tkL_le h2]
   by_cases h3:32≤((v.drop 32).drop 32).length
   ·rw [tkL_le h3]
    by_cases h4:4≤(((v.drop 32).drop 32).drop 32).length
    ·rw [tkL_le h4]
     exact tkS_gt (by simp only [List.length_drop] at *;omega)
    ·rw [tkS_gt h4,tkS_true]
   ·rw [tkS_gt h3,tkS_true,tkS_true]
  ·rw [tkS_gt h2,tkS_true,tkS_true,tkS_true]
 ·rw [tkS_gt h1,tkS_true,tkS_true,tkS_true,tkS_true]
theorem pth_long{v:List Nat}{sh:Bool}(h:104≤v.length):pthS v sh=sh∧pthL v=v.drop 104∧pthY v=rdPath v:=by
 have h1:32≤v.length:=by omega
 have h2:32≤(v.drop 32).length:=by rw [List.length_drop];omega
 have h3:32≤(v.drop 64).length:=by rw [List.length_drop];omega
 have h4:4≤(v.drop 96).length:=by rw [List.length_drop];omega
 have h5:4≤(v.drop 100).length:=by rw [List.length_drop];omega
 have e1:tkL 32 v=v.drop 32:=tkL_le h1
 have e2:tkL 32 (v.drop 32)=v.drop 64:=by rw [tkL_le h2,List.drop_drop]
 have e3:tkL 32 (v.drop 64)=v.drop 96:=by rw [tkL_le h3,List.drop_drop]
 have e4:tkL 4 (v.drop 96)=v.drop 100:=by rw [tkL_le h4,List.drop_drop]
 have e5:tkL 4 (v.drop 100)=v.drop 104:=by rw [tkL_le h5,List.drop_drop]
 refine⟨?_,?_,?_⟩
 ·unfold pthS;rw [e1,e2,e3,e4,tkS_le h1,tkS_le h2,tkS_le h3,tkS_le h4,tkS_le h5]
 ·unfold pthL;rw [e1,e2,e3,e4,e5]
 ·unfold pthY rdPath;rw [e1,e2,e3,e4,tkY_le h1,tkY_le h2,tkY_le h3,tkY_le h4,tkY_le h5]
theorem pthY_ok{v:List Nat}(h:∀d∈v,d<256):(pthY v).ok:=by
 have a:=beVal_tk (n:=4) (tkL_lt (n:=32) (tkL_lt (n:=32) (tkL_lt (n:=32) h)))
 have b:=beVal_tk (n:=4) (tkL_lt (n:=4) (tkL_lt (n:=32) (tkL_lt (n:=32) (tkL_lt (n:=32) h))))
 refine⟨tkY_ok h,tkY_ok (tkL_lt h),tkY_ok (tkL_lt (tkL_lt h)),⟨?_,?_⟩,⟨?_,?_⟩⟩
 all_goals (simp only [pthY];omega)
theorem decT_ab{bs:List Nat}{a b:Pr}(h0:(decS bs).2=0)(h1:(decS bs).1=[a,b])(ha:a.1=0)(hb:b.1=2):decT bs =
  if (insR a.2).2≠0 then (([],[]),(insR a.2).2) else if (outsR b.2).2≠0 then (([],[]),(outsR b.2).2)
   else if codeP (insR a.2).1 (outsR b.2).1≠0 then (([],[]),codeP (insR a.2).1 (outsR b.2).1) else (((insR a.2).1,(outsR b.2).1),0):=by
 unfold decT
 rw [if_neg (by omega),h1]
 simp only
 rw [if_pos ⟨ha,hb⟩]
theorem decT_bad{bs:List Nat}(h:(decS bs).2≠0):decT bs=(([],[]),(decS bs).2):=by unfold decT;rw [if_pos h]
theorem decT_form{bs:List Nat}(h0:(decS bs).2=0)(h:¬ ∃a b,(decS bs).1=[a,b]∧a.1=0∧b.1=2):decT bs=(([],[]),21):=by
 unfold decT
 rw [if_neg (by omega)]
 split
 ·rename_i a b e
  rw [if_neg (fun hh=>h ⟨a,b,e,hh.1,hh.2⟩)]
 ·rfl
theorem decS_len{bs:List Nat}(hx:∀d∈bs,d<256)(h:(decS bs).2=0):∀r∈(decS bs).1,r.2.length≤bs.length:=by
 obtain⟨_,EA⟩:=decS_enc hx h
 have key:∀(L:List Pr),∀r∈L,r.2.length≤(encAll L).length:=by
  intro L
  unfold encAll
  induction L with
  | nil=>intro r hr;simp at hr
  | cons x t ih=>
   intro r hr
   rw [List.flatMap_cons,List.length_append]
   rcases List.mem_cons.1 hr with rfl|hr
   ·unfold encR
    simp only [List.length_append]
    omega
   ·have:=ih r hr;omega
 intro r hr
 have:=key _ r hr
 rw [EA] at this
 exact this
theorem list32{α:Type}{l:List α}(h:l.length=32):∃a0 a1 a2 a3 a4 a5 a6 a7 a8 a9 a10 a11 a12 a13 a14 a15 a16 a17 a18 a19 a20 a21 a22 a23 a24 a25 a26 a27 a28 a29 a30 a31,l=[a0,a1,a2,a3,a4,a5,a6,a7,a8,a9,a10,a11,a12,a13,a14,a15,a16,a17,a18,a19,a20,a21,a22,a23,a24,a25,a26,a27,a28,a29,a30,a31]:=by
 match l,h with
 | [a0,a1,a2,a3,a4,a5,a6,a7,a8,a9,a10,a11,a12,a13,a14,a15,a16,a17,a18,a19,a20,a21,a22,a23,a24,a25,a26,a27,a28,a29,a30,a31],_=>exact⟨_,_,_,_,_,_,_,_,_,_,_,_,_,_,_,_,_,_,_,_,_,_,_,_,_,_,_,_,_,_,_,_,rfl⟩
set_option maxRecDepth 100000 in
theorem bInC'(a0 a1 a2 a3 a4 a5 a6 a7 a8 a9 a10 a11 a12 a13 a14 a15 a16 a17 a18 a19 a20 a21 a22 a23 a24 a25 a26 a27 a28 a29 a30 a31 b0 b1 b2 b3 b4 b5 b6 b7 b8 b9 b10 b11 b12 b13 b14 b15 b16 b17 b18 b19 b20 b21 b22 b23 b24 b25 b26 b27 b28 b29 b30 b31 c0 c1 c2 c3 c4 c5 c6 c7 c8 c9 c10 c11 c12 c13 c14 c15 c16 c17 c18 c19 c20 c21 c22 c23 c24 c25 c26 c27 c28 c29 c30 c31 d0 d1 d2 d3 d4 d5 d6 d7 d8 d9 d10 d11 d12 d13 d14 d15 d16 d17 d18 d19 d20 d21 d22 d23 d24 d25 d26 d27 d28 d29 d30 d31:Nat)(o p:Int):Tryz.prog.built 69 [(0,.agg (nums .u8 [a0,a1,a2,a3,a4,a5,a6,a7,a8,a9,a10,a11,a12,a13,a14,a15,a16,a17,a18,a19,a20,a21,a22,a23,a24,a25,a26,a27,a28,a29,a30,a31]++[Value.int .i64 o]).toArray),(1,.int .i64 p),(2,.agg (nums .u8 [b0,b1,b2,b3,b4,b5,b6,b7,b8,b9,b10,b11,b12,b13,b14,b15,b16,b17,b18,b19,b20,b21,b22,b23,b24,b25,b26,b27,b28,b29,b30,b31]).toArray),(3,.agg (nums .u8 [c0,c1,c2,c3,c4,c5,c6,c7,c8,c9,c10,c11,c12,c13,c14,c15,c16,c17,c18,c19,c20,c21,c22,c23,c24,c25,c26,c27,c28,c29,c30,c31]).toArray),(4,.agg (nums .u8 [d0,d1,d2,d3,d4,d5,d6,d7,d8,d9,d10,d11,d12,d13,d14,d15,d16,d17,d18,d19,d20,d21,d22,d23,d24,d25,d26,d27,d28,d29,d30,d31]).toArray)]=some (InD.mk [a0,a1,a2,a3,a4,a5,a6,a7,a8,a9,a10,a11,a12,a13,a14,a15,a16,a17,a18,a19,a20,a21,a22,a23,a24,a25,a26,a27,a28,a29,a30,a31] o p [b0,b1,b2,b3,b4,b5,b6,b7,b8,b9,b10,b11,b12,b13,b14,b15,b16,b17,b18,b19,b20,b21,b22,b23,b24,b25,b26,b27,b28,b29,b30,b31] [c0,c1,c2,c3,c4,c5,c6,c7,c8,c9,c10,c11,c12,c13,c14,c15,c16,c17,c18,c19,c20,c21,c22,c23,c24,c25,c26,c27,c28,c29,c30,c31] [d0,d1,d2,d3,d4,d5,d6,d7,d8,d9,d10,d11,d12,d13,d14,d15,d16,d17,d18,d19,d20,d21,d22,d23,d24,d25,d26,d27,d28,d29,d30,d31]).cells.toArray:=by kernel_rfl
theorem bInC(x y z u:List Nat)(o p:Int)(hx:x.length=32)(hy:y.length=32)(hz:z.length=32)(hu:u.length=32):Tryz.prog.built 69 [(0,.agg (nums .u8 x++[Value.int .i64 o]).toArray),(1,.int .i64 p),(2,.agg (nums .u8 y).toArray),(3,.agg (nums .u8 z).toArray),(4,.agg (nums .u8 u).toArray)]=some (InD.mk x o p y z u).cells.toArray:=by
 obtain⟨a0,a1,a2,a3,a4,a5,a6,a7,a8,a9,a10,a11,a12,a13,a14,a15,a16,a17,a18,a19,a20,a21,a22,a23,a24,a25,a26,a27,a28,a29,a30,a31,rfl⟩:=list32 hx
 obtain⟨b0,b1,b2,b3,b4,b5,b6,b7,b8,b9,b10,b11,b12,b13,b14,b15,b16,b17,b18,b19,b20,b21,b22,b23,b24,b25,b26,b27,b28,b29,b30,b31,rfl⟩:=list32 hy
 obtain⟨c0,c1,c2,c3,c4,c5,c6,c7,c8,c9,c10,c11,c12,c13,c14,c15,c16,c17,c18,c19,c20,c21,c22,c23,c24,c25,c26,c27,c28,c29,c30,c31,rfl⟩:=list32 hz
 obtain⟨d0,d1,d2,d3,d4,d5,d6,d7,d8,d9,d10,d11,d12,d13,d14,d15,d16,d17,d18,d19,d20,d21,d22,d23,d24,d25,d26,d27,d28,d29,d30,d31,rfl⟩:=list32 hu
 exact bInC' a0 a1 a2 a3 a4 a5 a6 a7 a8 a9 a10 a11 a12 a13 a14 a15 a16 a17 a18 a19 a20 a21 a22 a23 a24 a25 a26 a27 a28 a29 a30 a31 b0 b1 b2 b3 b4 b5 b6 b7 b8 b9 b10 b11 b12 b13 b14 b15 b16 b17 b18 b19 b20 b21 b22 b23 b24 b25 b26 b27 b28 b29 b30 b31 c0 c1 c2 c3 c4 c5 c6 c7 c8 c9 c10 c11 c12 c13 c14 c15 c16 c17 c18 c19 c20 c21 c22 c23 c24 c25 c26 c27 c28 c29 c30 c31 d0 d1 d2 d3 d4 d5 d6 d7 d8 d9 d10 d11 d12 d13 d14 d15 d16 d17 d18 d19 d20 d21 d22 d23 d24 d25 d26 d27 d28 d29 d30 d31 o p
set_option maxRecDepth 100000 in
theorem bPth'(a0 a1 a2 a3 a4 a5 a6 a7 a8 a9 a10 a11 a12 a13 a14 a15 a16 a17 a18 a19 a20 a21 a22 a23 a24 a25 a26 a27 a28 a29 a30 a31 b0 b1 b2 b3 b4 b5 b6 b7 b8 b9 b10 b11 b12 b13 b14 b15 b16 b17 b18 b19 b20 b21 b22 b23 b24 b25 b26 b27 b28 b29 b30 b31 c0 c1 c2 c3 c4 c5 c6 c7 c8 c9 c10 c11 c12 c13 c14 c15 c16 c17 c18 c19 c20 c21 c22 c23 c24 c25 c26 c27 c28 c29 c30 c31:Nat)(s t:Int):Tryz.prog.built 121 [(0,.agg (nums .u8 [a0,a1,a2,a3,a4,a5,a6,a7,a8,a9,a10,a11,a12,a13,a14,a15,a16,a17,a18,a19,a20,a21,a22,a23,a24,a25,a26,a27,a28,a29,a30,a31]).toArray),(1,.agg (nums .u8 [b0,b1,b2,b3,b4,b5,b6,b7,b8,b9,b10,b11,b12,b13,b14,b15,b16,b17,b18,b19,b20,b21,b22,b23,b24,b25,b26,b27,b28,b29,b30,b31]).toArray),(2,.agg (nums .u8 [c0,c1,c2,c3,c4,c5,c6,c7,c8,c9,c10,c11,c12,c13,c14,c15,c16,c17,c18,c19,c20,c21,c22,c23,c24,c25,c26,c27,c28,c29,c30,c31]).toArray),(3,.int .i64 s),(4,.int .i64 t)]=some (PathD.mk [a0,a1,a2,a3,a4,a5,a6,a7,a8,a9,a10,a11,a12,a13,a14,a15,a16,a17,a18,a19,a20,a21,a22,a23,a24,a25,a26,a27,a28,a29,a30,a31] [b0,b1,b2,b3,b4,b5,b6,b7,b8,b9,b10,b11,b12,b13,b14,b15,b16,b17,b18,b19,b20,b21,b22,b23,b24,b25,b26,b27,b28,b29,b30,b31] [c0,c1,c2,c3,c4,c5,c6,c7,c8,c9,c10,c11,c12,c13,c14,c15,c16,c17,c18,c19,c20,c21,c22,c23,c24,c25,c26,c27,c28,c29,c30,c31] s t).cells.toArray:=by kernel_rfl
theorem bPth(x y z:List Nat)(s t:Int)(hx:x.length=32)(hy:y.length=32)(hz:z.length=32):Tryz.prog.built 121 [(0,.agg (nums .u8 x).toArray),(1,.agg (nums .u8 y).toArray),(2,.agg (nums .u8 z).toArray),(3,.int .i64 s),(4,.int .i64 t)]=some (PathD.mk x y z s t).cells.toArray:=by
 obtain⟨a0,a1,a2,a3,a4,a5,a6,a7,a8,a9,a10,a11,a12,a13,a14,a15,a16,a17,a18,a19,a20,a21,a22,a23,a24,a25,a26,a27,a28,a29,a30,a31,rfl⟩:=list32 hx
 obtain⟨b0,b1,b2,b3,b4,b5,b6,b7,b8,b9,b10,b11,b12,b13,b14,b15,b16,b17,b18,b19,b20,b21,b22,b23,b24,b25,b26,b27,b28,b29,b30,b31,rfl⟩:=list32 hy
 obtain⟨c0,c1,c2,c3,c4,c5,c6,c7,c8,c9,c10,c11,c12,c13,c14,c15,c16,c17,c18,c19,c20,c21,c22,c23,c24,c25,c26,c27,c28,c29,c30,c31,rfl⟩:=list32 hz
 exact bPth' a0 a1 a2 a3 a4 a5 a6 a7 a8 a9 a10 a11 a12 a13 a14 a15 a16 a17 a18 a19 a20 a21 a22 a23 a24 a25 a26 a27 a28 a29 a30 a31 b0 b1 b2 b3 b4 b5 b6 b7 b8 b9 b10 b11 b12 b13 b14 b15 b16 b17 b18 b19 b20 b21 b22 b23 b24 b25 b26 b27 b28 b29 b30 b31 c0 c1 c2 c3 c4 c5 c6 c7 c8 c9 c10 c11 c12 c13 c14 c15 c16 c17 c18 c19 c20 c21 c22 c23 c24 c25 c26 c27 c28 c29 c30 c31 s t
set_option maxRecDepth 100000 in
theorem bOtt'(a0 a1 a2 a3 a4 a5 a6 a7 a8 a9 a10 a11 a12 a13 a14 a15 a16 a17 a18 a19 a20 a21 a22 a23 a24 a25 a26 a27 a28 a29 a30 a31:Nat)(s:Int):Tryz.prog.built 66 [(0,.int .u64 s),(2,.agg (nums .u8 [a0,a1,a2,a3,a4,a5,a6,a7,a8,a9,a10,a11,a12,a13,a14,a15,a16,a17,a18,a19,a20,a21,a22,a23,a24,a25,a26,a27,a28,a29,a30,a31]).toArray)]=some (Value.int .u64 s::Value.slice none 0 0::nums .u8 [a0,a1,a2,a3,a4,a5,a6,a7,a8,a9,a10,a11,a12,a13,a14,a15,a16,a17,a18,a19,a20,a21,a22,a23,a24,a25,a26,a27,a28,a29,a30,a31]).toArray:=by kernel_rfl
theorem bOtt(x:List Nat)(s:Int)(hx:x.length=32):Tryz.prog.built 66 [(0,.int .u64 s),(2,.agg (nums .u8 x).toArray)]=some (Value.int .u64 s::Value.slice none 0 0::nums .u8 x).toArray:=by
 obtain⟨a0,a1,a2,a3,a4,a5,a6,a7,a8,a9,a10,a11,a12,a13,a14,a15,a16,a17,a18,a19,a20,a21,a22,a23,a24,a25,a26,a27,a28,a29,a30,a31,rfl⟩:=list32 hx
 exact bOtt' a0 a1 a2 a3 a4 a5 a6 a7 a8 a9 a10 a11 a12 a13 a14 a15 a16 a17 a18 a19 a20 a21 a22 a23 a24 a25 a26 a27 a28 a29 a30 a31 s
end Go.Proofs.YtnbmpgballopeaaGreatDoor
/- The reference's structs that are built of letters; slices of bytes that are cut, as rules. -/
namespace Go.Proofs.YtnbmpgballopeaaGreatDoor
open Go.RowKit
set_option maxRecDepth 100000 in
theorem brPt'(a0 a1 a2 a3 a4 a5 a6 a7 a8 a9 a10 a11 a12 a13 a14 a15 a16 a17 a18 a19 a20 a21 a22 a23 a24 a25 a26 a27 a28 a29 a30 a31:Nat)(o:Int):Tryz.prog.built 86 [(0,.agg (nums .u8 [a0,a1,a2,a3,a4,a5,a6,a7,a8,a9,a10,a11,a12,a13,a14,a15,a16,a17,a18,a19,a20,a21,a22,a23,a24,a25,a26,a27,a28,a29,a30,a31]).toArray),(1,.int .i64 o)]=some (nums .u8 [a0,a1,a2,a3,a4,a5,a6,a7,a8,a9,a10,a11,a12,a13,a14,a15,a16,a17,a18,a19,a20,a21,a22,a23,a24,a25,a26,a27,a28,a29,a30,a31]++[Value.int .i64 o]).toArray:=by kernel_rfl
theorem brPt(x:List Nat)(o:Int)(hx:x.length=32):Tryz.prog.built 86 [(0,.agg (nums .u8 x).toArray),(1,.int .i64 o)]=some (nums .u8 x++[Value.int .i64 o]).toArray:=by
 obtain⟨a0,a1,a2,a3,a4,a5,a6,a7,a8,a9,a10,a11,a12,a13,a14,a15,a16,a17,a18,a19,a20,a21,a22,a23,a24,a25,a26,a27,a28,a29,a30,a31,rfl⟩:=list32 hx
 exact brPt' a0 a1 a2 a3 a4 a5 a6 a7 a8 a9 a10 a11 a12 a13 a14 a15 a16 a17 a18 a19 a20 a21 a22 a23 a24 a25 a26 a27 a28 a29 a30 a31 o
set_option maxRecDepth 100000 in
theorem brIn'(a0 a1 a2 a3 a4 a5 a6 a7 a8 a9 a10 a11 a12 a13 a14 a15 a16 a17 a18 a19 a20 a21 a22 a23 a24 a25 a26 a27 a28 a29 a30 a31 b0 b1 b2 b3 b4 b5 b6 b7 b8 b9 b10 b11 b12 b13 b14 b15 b16 b17 b18 b19 b20 b21 b22 b23 b24 b25 b26 b27 b28 b29 b30 b31 c0 c1 c2 c3 c4 c5 c6 c7 c8 c9 c10 c11 c12 c13 c14 c15 c16 c17 c18 c19 c20 c21 c22 c23 c24 c25 c26 c27 c28 c29 c30 c31 d0 d1 d2 d3 d4 d5 d6 d7 d8 d9 d10 d11 d12 d13 d14 d15 d16 d17 d18 d19 d20 d21 d22 d23 d24 d25 d26 d27 d28 d29 d30 d31:Nat)(o p:Int):Tryz.prog.built 88 [(0,.agg (nums .u8 [a0,a1,a2,a3,a4,a5,a6,a7,a8,a9,a10,a11,a12,a13,a14,a15,a16,a17,a18,a19,a20,a21,a22,a23,a24,a25,a26,a27,a28,a29,a30,a31]++[Value.int .i64 o]).toArray),(1,.int .i64 p),(2,.agg (nums .u8 [b0,b1,b2,b3,b4,b5,b6,b7,b8,b9,b10,b11,b12,b13,b14,b15,b16,b17,b18,b19,b20,b21,b22,b23,b24,b25,b26,b27,b28,b29,b30,b31]).toArray),(3,.agg (nums .u8 [c0,c1,c2,c3,c4,c5,c6,c7,c8,c9,c10,c11,c12,c13,c14,c15,c16,c17,c18,c19,c20,c21,c22,c23,c24,c25,c26,c27,c28,c29,c30,c31]).toArray),(4,.agg (nums .u8 [d0,d1,d2,d3,d4,d5,d6,d7,d8,d9,d10,d11,d12,d13,d14,d15,d16,d17,d18,d19,d20,d21,d22,d23,d24,d25,d26,d27,d28,d29,d30,d31]).toArray)]=some (InD.mk [a0,a1,a2,a3,a4,a5,a6,a7,a8,a9,a10,a11,a12,a13,a14,a15,a16,a17,a18,a19,a20,a21,a22,a23,a24,a25,a26,a27,a28,a29,a30,a31] o p [b0,b1,b2,b3,b4,b5,b6,b7,b8,b9,b10,b11,b12,b13,b14,b15,b16,b17,b18,b19,b20,b21,b22,b23,b24,b25,b26,b27,b28,b29,b30,b31] [c0,c1,c2,c3,c4,c5,c6,c7,c8,c9,c10,c11,c12,c13,c14,c15,c16,c17,c18,c19,c20,c21,c22,c23,c24,c25,c26,c27,c28,c29,c30,c31] [d0,d1,d2,d3,d4,d5,d6,d7,d8,d9,d10,d11,d12,d13,d14,d15,d16,d17,d18,d19,d20,d21,d22,d23,d24,d25,d26,d27,d28,d29,d30,d31]).cells.toArray:=by kernel_rfl
theorem brIn(x y z u:List Nat)(o p:Int)(hx:x.length=32)(hy:y.length=32)(hz:z.length=32)(hu:u.length=32):Tryz.prog.built 88 [(0,.agg (nums .u8 x++[Value.int .i64 o]).toArray),(1,.int .i64 p),(2,.agg (nums .u8 y).toArray),(3,.agg (nums .u8 z).toArray),(4,.agg (nums .u8 u).toArray)]=some (InD.mk x o p y z u).cells.toArray:=by
 obtain⟨a0,a1,a2,a3,a4,a5,a6,a7,a8,a9,a10,a11,a12,a13,a14,a15,a16,a17,a18,a19,a20,a21,a22,a23,a24,a25,a26,a27,a28,a29,a30,a31,rfl⟩:=list32 hx
 obtain⟨b0,b1,b2,b3,b4,b5,b6,b7,b8,b9,b10,b11,b12,b13,b14,b15,b16,b17,b18,b19,b20,b21,b22,b23,b24,b25,b26,b27,b28,b29,b30,b31,rfl⟩:=list32 hy
 obtain⟨c0,c1,c2,c3,c4,c5,c6,c7,c8,c9,c10,c11,c12,c13,c14,c15,c16,c17,c18,c19,c20,c21,c22,c23,c24,c25,c26,c27,c28,c29,c30,c31,rfl⟩:=list32 hz
 obtain⟨d0,d1,d2,d3,d4,d5,d6,d7,d8,d9,d10,d11,d12,d13,d14,d15,d16,d17,d18,d19,d20,d21,d22,d23,d24,d25,d26,d27,d28,d29,d30,d31,rfl⟩:=list32 hu
 exact brIn' a0 a1 a2 a3 a4 a5 a6 a7 a8 a9 a10 a11 a12 a13 a14 a15 a16 a17 a18 a19 a20 a21 a22 a23 a24 a25 a26 a27 a28 a29 a30 a31 b0 b1 b2 b3 b4 b5 b6 b7 b8 b9 b10 b11 b12 b13 b14 b15 b16 b17 b18 b19 b20 b21 b22 b23 b24 b25 b26 b27 b28 b29 b30 b31 c0 c1 c2 c3 c4 c5 c6 c7 c8 c9 c10 c11 c12 c13 c14 c15 c16 c17 c18 c19 c20 c21 c22 c23 c24 c25 c26 c27 c28 c29 c30 c31 d0 d1 d2 d3 d4 d5 d6 d7 d8 d9 d10 d11 d12 d13 d14 d15 d16 d17 d18 d19 d20 d21 d22 d23 d24 d25 d26 d27 d28 d29 d30 d31 o p
set_option maxRecDepth 100000 in
theorem brPth'(a0 a1 a2 a3 a4 a5 a6 a7 a8 a9 a10 a11 a12 a13 a14 a15 a16 a17 a18 a19 a20 a21 a22 a23 a24 a25 a26 a27 a28 a29 a30 a31 b0 b1 b2 b3 b4 b5 b6 b7 b8 b9 b10 b11 b12 b13 b14 b15 b16 b17 b18 b19 b20 b21 b22 b23 b24 b25 b26 b27 b28 b29 b30 b31 c0 c1 c2 c3 c4 c5 c6 c7 c8 c9 c10 c11 c12 c13 c14 c15 c16 c17 c18 c19 c20 c21 c22 c23 c24 c25 c26 c27 c28 c29 c30 c31:Nat)(s t:Int):Tryz.prog.built 152 [(0,.agg (nums .u8 [a0,a1,a2,a3,a4,a5,a6,a7,a8,a9,a10,a11,a12,a13,a14,a15,a16,a17,a18,a19,a20,a21,a22,a23,a24,a25,a26,a27,a28,a29,a30,a31]).toArray),(1,.agg (nums .u8 [b0,b1,b2,b3,b4,b5,b6,b7,b8,b9,b10,b11,b12,b13,b14,b15,b16,b17,b18,b19,b20,b21,b22,b23,b24,b25,b26,b27,b28,b29,b30,b31]).toArray),(2,.agg (nums .u8 [c0,c1,c2,c3,c4,c5,c6,c7,c8,c9,c10,c11,c12,c13,c14,c15,c16,c17,c18,c19,c20,c21,c22,c23,c24,c25,c26,c27,c28,c29,c30,c31]).toArray),(3,.int .i64 s),(4,.int .i64 t)]=some (PathD.mk [a0,a1,a2,a3,a4,a5,a6,a7,a8,a9,a10,a11,a12,a13,a14,a15,a16,a17,a18,a19,a20,a21,a22,a23,a24,a25,a26,a27,a28,a29,a30,a31] [b0,b1,b2,b3,b4,b5,b6,b7,b8,b9,b10,b11,b12,b13,b14,b15,b16,b17,b18,b19,b20,b21,b22,b23,b24,b25,b26,b27,b28,b29,b30,b31] [c0,c1,c2,c3,c4,c5,c6,c7,c8,c9,c10,c11,c12,c13,c14,c15,c16,c17,c18,c19,c20,c21,c22,c23,c24,c25,c26,c27,c28,c29,c30,c31] s t).cells.toArray:=by kernel_rfl
theorem brPth(x y z:List Nat)(s t:Int)(hx:x.length=32)(hy:y.length=32)(hz:z.length=32):Tryz.prog.built 152 [(0,.agg (nums .u8 x).toArray),(1,.agg (nums .u8 y).toArray),(2,.agg (nums .u8 z).toArray),(3,.int .i64 s),(4,.int .i64 t)]=some (PathD.mk x y z s t).cells.toArray:=by
 obtain⟨a0,a1,a2,a3,a4,a5,a6,a7,a8,a9,a10,a11,a12,a13,a14,a15,a16,a17,a18,a19,a20,a21,a22,a23,a24,a25,a26,a27,a28,a29,a30,a31,rfl⟩:=list32 hx
 obtain⟨b0,b1,b2,b3,b4,b5,b6,b7,b8,b9,b10,b11,b12,b13,b14,b15,b16,b17,b18,b19,b20,b21,b22,b23,b24,b25,b26,b27,b28,b29,b30,b31,rfl⟩:=list32 hy
 obtain⟨c0,c1,c2,c3,c4,c5,c6,c7,c8,c9,c10,c11,c12,c13,c14,c15,c16,c17,c18,c19,c20,c21,c22,c23,c24,c25,c26,c27,c28,c29,c30,c31,rfl⟩:=list32 hz
 exact brPth' a0 a1 a2 a3 a4 a5 a6 a7 a8 a9 a10 a11 a12 a13 a14 a15 a16 a17 a18 a19 a20 a21 a22 a23 a24 a25 a26 a27 a28 a29 a30 a31 b0 b1 b2 b3 b4 b5 b6 b7 b8 b9 b10 b11 b12 b13 b14 b15 b16 b17 b18 b19 b20 b21 b22 b23 b24 b25 b26 b27 b28 b29 b30 b31 c0 c1 c2 c3 c4 c5 c6 c7 c8 c9 c10 c11 c12 c13 c14 c15 c16 c17 c18 c19 c20 c21 c22 c23 c24 c25 c26 c27 c28 c29 c30 c31 s t
set_option maxRecDepth 100000 in
theorem brOtt'(a0 a1 a2 a3 a4 a5 a6 a7 a8 a9 a10 a11 a12 a13 a14 a15 a16 a17 a18 a19 a20 a21 a22 a23 a24 a25 a26 a27 a28 a29 a30 a31:Nat)(s:Int):Tryz.prog.built 96 [(0,.int .u64 s),(2,.agg (nums .u8 [a0,a1,a2,a3,a4,a5,a6,a7,a8,a9,a10,a11,a12,a13,a14,a15,a16,a17,a18,a19,a20,a21,a22,a23,a24,a25,a26,a27,a28,a29,a30,a31]).toArray)]=some (Value.int .u64 s::Value.slice none 0 0::nums .u8 [a0,a1,a2,a3,a4,a5,a6,a7,a8,a9,a10,a11,a12,a13,a14,a15,a16,a17,a18,a19,a20,a21,a22,a23,a24,a25,a26,a27,a28,a29,a30,a31]).toArray:=by kernel_rfl
theorem brOtt(x:List Nat)(s:Int)(hx:x.length=32):Tryz.prog.built 96 [(0,.int .u64 s),(2,.agg (nums .u8 x).toArray)]=some (Value.int .u64 s::Value.slice none 0 0::nums .u8 x).toArray:=by
 obtain⟨a0,a1,a2,a3,a4,a5,a6,a7,a8,a9,a10,a11,a12,a13,a14,a15,a16,a17,a18,a19,a20,a21,a22,a23,a24,a25,a26,a27,a28,a29,a30,a31,rfl⟩:=list32 hx
 exact brOtt' a0 a1 a2 a3 a4 a5 a6 a7 a8 a9 a10 a11 a12 a13 a14 a15 a16 a17 a18 a19 a20 a21 a22 a23 a24 a25 a26 a27 a28 a29 a30 a31 s
set_option maxRecDepth 100000 in
theorem tyRIn:SliceTy Tryz.prog 34 88 130 144 (.agg zIn):=.mk' Tryz.underlying34 (by kernel_rfl) (by decide) (by decide)
set_option maxRecDepth 100000 in
theorem tyRPath:SliceTy Tryz.prog 94 152 98 112 (.agg zPath):=.mk' Tryz.underlying94 (by kernel_rfl) (by decide) (by decide)
set_option maxRecDepth 100000 in
theorem tyROut:SliceTy Tryz.prog 35 96 34 64 (.agg zOut):=.mk' Tryz.underlying35 (by kernel_rfl) (by decide) (by decide)
end Go.Proofs.YtnbmpgballopeaaGreatDoor

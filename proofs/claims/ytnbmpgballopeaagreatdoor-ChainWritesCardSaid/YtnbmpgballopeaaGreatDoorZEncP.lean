/- The walks of tlv.Read and of the reference's Read. -/
import Derived.Laws.Bits64b
import Derived.OwnWalk
import Derived.Maps.AppendAt
import Derived.Deep.AppendLies
import Derived.Deep.RegionHeld3
import Derived.Test.YtnbmpgballopeaaGreatDoorZParts
import Derived.Test.YtnbmpgballopeaaGreatDoorZRdP
namespace Go.Proofs.YtnbmpgballopeaaGreatDoor
open Go.RowKit
def RdV3(p:Nat × Nat × Nat):Value:=.tuple #[.int .u64 (p.1:Int),.int .i64 (p.2.1:Int),.int .i64 (p.2.2:Int)]
theorem or256{x c:Nat}(hx:x*256<18446744073709551616)(hc:c<256):bits .or .u64 ((x:Int)*256) (c:Int)=((x*256+c:Nat):Int):=by
 have h:=bits_or_u64_nat (x*256) c hx (by omega)
 have e:((x:Int)*256)=((x*256:Nat):Int):=by omega
 rw [e,h]
 have:=Nat.two_pow_add_eq_or_of_lt (i:=8) (b:=c) (by omega) x
 rw [Nat.mul_comm x 256]
 exact congrArg _ this.symm
theorem beVal_step{t:List Nat}{k:Nat}(h:k<t.length):beVal (t.take (k+1))=beVal (t.take k)*256+t.getD k 0:=by
 rw [List.take_add_one,List.getElem?_eq_getElem h,Option.toList_some,beVal_snoc]
 simp [List.getElem?_eq_getElem h]
theorem beVal_take_lt{t:List Nat}(h:∀d∈t,d<256){k:Nat}(hk:k≤7):beVal (t.take k)*256<18446744073709551616:=by
 have h1:=beVal_lt (t.take k) (fun d hd=>h d (List.mem_of_mem_take hd))
 have h2:256 ^ (t.take k).length≤256 ^ 7:=Nat.pow_le_pow_right (by omega) (by simp;omega)
 omega
theorem cell_tail{w:World}{b off:Nat}{n:Nat}{h:Nat}{t:List Nat}(hl:(h::t).length=n)(hc:∀j,j<n→w.cell? ⟨b,off+j,none⟩=some (.int .u8 (((h::t).getD j 0:Nat):Int))):
  w.cell? ⟨b,off,none⟩=some (.int .u8 (h:Int)) ∧ ∀k,k<t.length→w.cell? ⟨b,off+1+k,none⟩=some (.int .u8 ((t.getD k 0:Nat):Int)):=by
 refine⟨by have:=hc 0 (by rw [← hl];simp);simpa using this,fun k hk=>?_⟩
 have:=hc (k+1) (by rw [← hl];simp;omega)
 rw [show off+1+k=off+(k+1) by omega]
 simpa using this
theorem nbeq{x y:Nat}(h:x≠y):((x:Int) == (y:Int))=false:=by simp;omega
theorem getD_ltM{xs:List Nat}{M:Nat}(h:∀d∈xs,d<M)(hM:0<M)(k:Nat):xs.getD k 0<M:=by
 rw [List.getD_eq_getElem?_getD]
 cases hk:xs[k]? with
 | none=>simpa using hM
 | some d=>simpa using h d (List.mem_of_getElem? hk)
theorem readS_one{h:Nat}(t:List Nat)(hh:folN h=0):readS (h::t)=(h,1,0):=by simp [readS,hh]
theorem readS_short{h:Nat}{t:List Nat}(hh:folN h≠0)(hl:t.length<folN h):readS (h::t)=(0,0,20):=by simp [readS,hh,hl]
theorem readS_form{h:Nat}{t:List Nat}(hh:folN h≠0)(hl:¬ t.length<folN h)(hv:beVal (t.take (folN h))<folL h):readS (h::t)=(0,0,21):=by simp [readS,hh,hl,hv]
theorem readS_ok{h:Nat}{t:List Nat}(hh:folN h≠0)(hl:¬ t.length<folN h)(hv:¬ beVal (t.take (folN h))<folL h):readS (h::t)=(beVal (t.take (folN h)),folN h+1,0):=by simp [readS,hh,hl,hv]
set_option maxHeartbeats 400000 in
theorem read_nil(a:Option Addr)(cap:Nat)(w:World):Calls Tryz.prog 73 #[.slice a 0 cap] w fun e w'=>e = .returned (RdV3 (readS []))∧w=w':=by
 go_enter Tryz.func73,Tryz.ntmps73
 go_wp2
 go_ret3
 exact⟨rfl,rfl⟩
set_option maxHeartbeats 400000 in
theorem read_one(b off n cap h:Nat)(t:List Nat)(hh:folN h=0)(hc:h<256)(hn:0<n)(w:World)(h0:w.cell? ⟨b,off,none⟩=some (.int .u8 (h:Int))):Calls Tryz.prog 73 #[.slice (some ⟨b,off,none⟩) n cap] w fun e w'=>e = .returned (RdV3 (readS (h::t)))∧w=w':=by
 have fin:=hid (readS_one t hh)
 have t0:((n:Int) == 0)=false:=by simp;omega
 have hn0:0<n:=by omega
 have t1:((h:Int) == 253)=false:=nbeq (by rintro rfl;exact absurd hh (by decide))
 have t2:((h:Int) == 254)=false:=nbeq (by rintro rfl;exact absurd hh (by decide))
 have t3:((h:Int) == 255)=false:=nbeq (by rintro rfl;exact absurd hh (by decide))
 clear hh
 go_enter Tryz.func73,Tryz.ntmps73
 go_wp2
 go_ret3
 exact⟨by rw [fin.out];rfl,rfl⟩
set_option maxHeartbeats 1000000 in
theorem read_2(b off n cap:Nat)(t:List Nat)(hl:t.length+1=n)(ht:∀d∈t,d<256)(hn:n≤140737488355328)(w:World)(h0:w.cell? ⟨b,off,none⟩=some (.int .u8 (253:Int)))(hc:∀k,k<t.length→w.cell? ⟨b,off+1+k,none⟩=some (.int .u8 ((t.getD k 0:Nat):Int)))(hcap:n≤cap):
  Calls Tryz.prog 73 #[.slice (some ⟨b,off,none⟩) n cap] w fun e w'=>e = .returned (RdV3 (readS (253::t)))∧w=w':=by
 have t0:((n:Int) == 0)=false:=by simp;omega
 have hn0:0<n:=by omega
 by_cases hs:t.length<2
 ·have fin:=hid (readS_short (h:=253) (by decide) hs)
  have t1:decide ((n:Int)≤2)=true:=by rw [decide_eq_true_eq];omega
  clear hs hl hc
  go_enter Tryz.func73,Tryz.ntmps73
  go_wp2
  go_ret3
  exact⟨by rw [fin.out];rfl,rfl⟩
 ·have t1:decide ((n:Int)≤2)=false:=by rw [decide_eq_false_iff_not];omega
  have hn2:2<n:=by omega
  clear hn0
  have HS:=hid hs
  have HL:=hid hl
  clear hs hl
  go_enter Tryz.func73,Tryz.ntmps73
  go_wp2
  go_loopw [7,35] (fun x0 i0 wr=>∃k:Nat,k≤2∧i0 = .int .i64 k∧x0 = .int .u64 ((beVal (t.take k):Nat):Int)∧wr=w) (fun _ i0 _=>2 - (intOf i0).toNat)
  case atStart=>exact⟨0,by omega,rfl,rfl,rfl⟩
  case round=>
   obtain⟨k,hk,rfl,rfl,rfl⟩:=hrel
   by_cases hlt:k<2
   ·have hkt:k<t.length:=by have:=HS.out;omega
    have st:=hid (beVal_step hkt)
    have hd:=getD_ltM ht (by decide) k
    have hor:=or256 (beVal_take_lt ht (k:=k) (by omega)) hd
    have hcx:=hc k hkt
    have bx:=beVal_take_lt ht (k:=k) (by omega)
    generalize t.getD k 0=d at *
    generalize beVal (t.take k)=x at *
    clear hc h0 t0 t1
    go_wp2
    go_roundw
    case rel=>exact⟨k+1,by omega,by go_num,by rw [st.out];go_num,trivial⟩
    case measure=>simp [intOf];omega
   ·obtain rfl:k=2:=by omega
    by_cases hv:beVal (t.take 2)<253
    ·have fin:=hid (readS_form (h:=253) (by decide) HS.out hv)
     have t2:decide ((beVal (t.take 2):Int)<253)=true:=by rw [decide_eq_true_eq];omega
     generalize beVal (t.take 2)=x at *
     clear hc
     go_wp2
     go_ret3
     exact⟨by rw [fin.out];rfl,rfl⟩
    ·have fin:=hid (readS_ok (h:=253) (by decide) HS.out hv)
     have t2:decide ((beVal (t.take 2):Int)<253)=false:=by rw [decide_eq_false_iff_not];omega
     have e3:folN 253=2:=by decide
     rw [e3] at fin
     generalize beVal (t.take 2)=x at *
     clear hc hv
     go_wp2
     go_ret3
     exact⟨by rw [fin.out];rfl,rfl⟩
set_option maxHeartbeats 1000000 in
theorem read_4(b off n cap:Nat)(t:List Nat)(hl:t.length+1=n)(ht:∀d∈t,d<256)(hn:n≤140737488355328)(w:World)(h0:w.cell? ⟨b,off,none⟩=some (.int .u8 (254:Int)))(hc:∀k,k<t.length→w.cell? ⟨b,off+1+k,none⟩=some (.int .u8 ((t.getD k 0:Nat):Int)))(hcap:n≤cap):
  Calls Tryz.prog 73 #[.slice (some ⟨b,off,none⟩) n cap] w fun e w'=>e = .returned (RdV3 (readS (254::t)))∧w=w':=by
 have t0:((n:Int) == 0)=false:=by simp;omega
 have hn0:0<n:=by omega
 by_cases hs:t.length<4
 ·have fin:=hid (readS_short (h:=254) (by decide) hs)
  have t1:decide ((n:Int)≤4)=true:=by rw [decide_eq_true_eq];omega
  clear hs hl hc
  go_enter Tryz.func73,Tryz.ntmps73
  go_wp2
  go_ret3
  exact⟨by rw [fin.out];rfl,rfl⟩
 ·have t1:decide ((n:Int)≤4)=false:=by rw [decide_eq_false_iff_not];omega
  have hn2:4<n:=by omega
  clear hn0
  have HS:=hid hs
  have HL:=hid hl
  clear hs hl
  go_enter Tryz.func73,Tryz.ntmps73
  go_wp2
  go_loopw [7,35] (fun x0 i0 wr=>∃k:Nat,k≤4∧i0 = .int .i64 k∧x0 = .int .u64 ((beVal (t.take k):Nat):Int)∧wr=w) (fun _ i0 _=>4 - (intOf i0).toNat)
  case atStart=>exact⟨0,by omega,rfl,rfl,rfl⟩
  case round=>
   obtain⟨k,hk,rfl,rfl,rfl⟩:=hrel
   by_cases hlt:k<4
   ·have hkt:k<t.length:=by have:=HS.out;omega
    have st:=hid (beVal_step hkt)
    have hd:=getD_ltM ht (by decide) k
    have hor:=or256 (beVal_take_lt ht (k:=k) (by omega)) hd
    have hcx:=hc k hkt
    have bx:=beVal_take_lt ht (k:=k) (by omega)
    generalize t.getD k 0=d at *
    generalize beVal (t.take k)=x at *
    clear hc h0 t0 t1
    go_wp2
    go_roundw
    case rel=>exact⟨k+1,by omega,by go_num,by rw [st.out];go_num,trivial⟩
    case measure=>simp [intOf];omega
   ·obtain rfl:k=4:=by omega
    by_cases hv:beVal (t.take 4)<65536
    ·have fin:=hid (readS_form (h:=254) (by decide) HS.out hv)
     have t2:decide ((beVal (t.take 4):Int)<65536)=true:=by rw [decide_eq_true_eq];omega
     generalize beVal (t.take 4)=x at *
     clear hc
     go_wp2
     go_ret3
     exact⟨by rw [fin.out];rfl,rfl⟩
    ·have fin:=hid (readS_ok (h:=254) (by decide) HS.out hv)
     have t2:decide ((beVal (t.take 4):Int)<65536)=false:=by rw [decide_eq_false_iff_not];omega
     have e3:folN 254=4:=by decide
     rw [e3] at fin
     generalize beVal (t.take 4)=x at *
     clear hc hv
     go_wp2
     go_ret3
     exact⟨by rw [fin.out];rfl,rfl⟩
set_option maxHeartbeats 1000000 in
theorem read_8(b off n cap:Nat)(t:List Nat)(hl:t.length+1=n)(ht:∀d∈t,d<256)(hn:n≤140737488355328)(w:World)(h0:w.cell? ⟨b,off,none⟩=some (.int .u8 (255:Int)))(hc:∀k,k<t.length→w.cell? ⟨b,off+1+k,none⟩=some (.int .u8 ((t.getD k 0:Nat):Int)))(hcap:n≤cap):
  Calls Tryz.prog 73 #[.slice (some ⟨b,off,none⟩) n cap] w fun e w'=>e = .returned (RdV3 (readS (255::t)))∧w=w':=by
 have t0:((n:Int) == 0)=false:=by simp;omega
 have hn0:0<n:=by omega
 by_cases hs:t.length<8
 ·have fin:=hid (readS_short (h:=255) (by decide) hs)
  have t1:decide ((n:Int)≤8)=true:=by rw [decide_eq_true_eq];omega
  clear hs hl hc
  go_enter Tryz.func73,Tryz.ntmps73
  go_wp2
  go_ret3
  exact⟨by rw [fin.out];rfl,rfl⟩
 ·have t1:decide ((n:Int)≤8)=false:=by rw [decide_eq_false_iff_not];omega
  have hn2:8<n:=by omega
  clear hn0
  have HS:=hid hs
  have HL:=hid hl
  clear hs hl
  go_enter Tryz.func73,Tryz.ntmps73
  go_wp2
  go_loopw [7,35] (fun x0 i0 wr=>∃k:Nat,k≤8∧i0 = .int .i64 k∧x0 = .int .u64 ((beVal (t.take k):Nat):Int)∧wr=w) (fun _ i0 _=>8 - (intOf i0).toNat)
  case atStart=>exact⟨0,by omega,rfl,rfl,rfl⟩
  case round=>
   obtain⟨k,hk,rfl,rfl,rfl⟩:=hrel
   by_cases hlt:k<8
   ·have hkt:k<t.length:=by have:=HS.out;omega
    have st:=hid (beVal_step hkt)
    have hd:=getD_ltM ht (by decide) k
    have hor:=or256 (beVal_take_lt ht (k:=k) (by omega)) hd
    have hcx:=hc k hkt
    have bx:=beVal_take_lt ht (k:=k) (by omega)
    generalize t.getD k 0=d at *
    generalize beVal (t.take k)=x at *
    clear hc h0 t0 t1
    go_wp2
    go_roundw
    case rel=>exact⟨k+1,by omega,by go_num,by rw [st.out];go_num,trivial⟩
    case measure=>simp [intOf];omega
   ·obtain rfl:k=8:=by omega
    by_cases hv:beVal (t.take 8)<4294967296
    ·have fin:=hid (readS_form (h:=255) (by decide) HS.out hv)
     have t2:decide ((beVal (t.take 8):Int)<4294967296)=true:=by rw [decide_eq_true_eq];omega
     generalize beVal (t.take 8)=x at *
     clear hc
     go_wp2
     go_ret3
     exact⟨by rw [fin.out];rfl,rfl⟩
    ·have fin:=hid (readS_ok (h:=255) (by decide) HS.out hv)
     have t2:decide ((beVal (t.take 8):Int)<4294967296)=false:=by rw [decide_eq_false_iff_not];omega
     have e3:folN 255=8:=by decide
     rw [e3] at fin
     generalize beVal (t.take 8)=x at *
     clear hc hv
     go_wp2
     go_ret3
     exact⟨by rw [fin.out];rfl,rfl⟩
theorem read_walk(a:Option Addr)(n cap:Nat)(xs:List Nat)(hx:∀d∈xs,d<256)(hn:n≤140737488355328)(w:World)(hS:Sl .u8 w a n cap xs):
  Calls Tryz.prog 73 #[.slice a n cap] w fun e w'=>e = .returned (RdV3 (readS xs))∧w=w':=by
 have hl:=hS.len
 have hcap:=hS.2.1
 obtain⟨b,off,ha,hc⟩:=hS.opened
 cases xs with
 | nil=>
  obtain rfl:n=0:=by simpa using hl.symm
  exact read_nil a cap w
 | cons h t=>
  obtain rfl:=ha (by rw [← hl];simp)
  obtain⟨h0,ht⟩:=cell_tail hl hc
  have hh:=hx h (by simp)
  have hx':∀d∈t,d<256:=fun d hd=>hx d (by simp [hd])
  by_cases h1:h=253
  ·subst h1;exact read_2 b off n cap t hl hx' hn w h0 ht hcap
  ·by_cases h2:h=254
   ·subst h2;exact read_4 b off n cap t hl hx' hn w h0 ht hcap
   ·by_cases h3:h=255
    ·subst h3;exact read_8 b off n cap t hl hx' hn w h0 ht hcap
    ·exact read_one b off n cap h t (by simp [folN,h1,h2,h3]) hh (by rw [← hl];simp) w h0
end Go.Proofs.YtnbmpgballopeaaGreatDoor
/- The walk of the reference's Read. -/
namespace Go.Proofs.YtnbmpgballopeaaGreatDoor
open Go.RowKit
theorem size_len(x:Nat):(size x).length=if x<253 then 1 else if x<65536 then 3 else if x<4294967296 then 5 else 9:=by
 unfold size
 repeat' split
 all_goals simp [be_length]
end Go.Proofs.YtnbmpgballopeaaGreatDoor
/- Plain facts on numbers as bytes. -/
namespace Go.Proofs.YtnbmpgballopeaaGreatDoor
open Go.RowKit
theorem beVal_be(n x:Nat):beVal (be n x)=x % 256 ^ n:=by
 induction n generalizing x with
 | zero=>simp [be,beVal,Nat.mod_one]
 | succ n ih=>
  have key:∀(l:List Nat) (s:Nat),l.foldl (fun x c=>x*256+c) s=s*256 ^ l.length+l.foldl (fun x c=>x*256+c) 0:=by
   intro l
   induction l with
   | nil=>simp
   | cons c r ih=>
    intro s
    simp only [List.foldl_cons,List.length_cons]
    rw [ih (s*256+c),ih (0*256+c),Nat.pow_succ]
    generalize 256 ^ r.length=p
    rw [Nat.add_mul,Nat.zero_mul,Nat.zero_add,Nat.mul_assoc,Nat.mul_comm 256 p,Nat.add_assoc]
  show List.foldl _ _ (be (n+1) x)=_
  rw [be,List.foldl_cons,key,be_length]
  have:=ih x
  unfold beVal at this
  rw [this,Nat.zero_mul,Nat.zero_add,Nat.pow_succ,Nat.mod_mul]
  generalize 256 ^ n=p
  rw [Nat.mul_comm,Nat.add_comm]
theorem readS_size(x:Nat)(hx:x<18446744073709551616)(ys:List Nat):readS (size x++ys)=(x,(size x).length,0):=by
 unfold size
 split
 ·rename_i h
  show readS (x::ys)=_
  rw [readS_one _ (by unfold folN;(repeat' split) <;> omega)]
  rfl
 ·rename_i h1
  split
  ·rename_i h2
   show readS (253::(be 2 x++ys))=_
   have e:(be 2 x++ys).take (folN 253)=be 2 x:=List.take_left' (be_length 2 x)
   rw [readS_ok (by decide) (by rw [List.length_append,be_length];have:folN 253=2:=rfl;omega) (by rw [e,beVal_be,show folL 253=253 from rfl];omega),e,beVal_be]
   simp [be_length,folN]
   omega
  ·rename_i h2
   split
   ·rename_i h3
    show readS (254::(be 4 x++ys))=_
    have e:(be 4 x++ys).take (folN 254)=be 4 x:=List.take_left' (be_length 4 x)
    rw [readS_ok (by decide) (by rw [List.length_append,be_length];have:folN 254=4:=rfl;omega) (by rw [e,beVal_be,show folL 254=65536 from rfl];omega),e,beVal_be]
    simp [be_length,folN]
    omega
   ·rename_i h3
    show readS (255::(be 8 x++ys))=_
    have e:(be 8 x++ys).take (folN 255)=be 8 x:=List.take_left' (be_length 8 x)
    rw [readS_ok (by decide) (by rw [List.length_append,be_length];have:folN 255=8:=rfl;omega) (by rw [e,beVal_be,show folL 255=4294967296 from rfl];omega),e,beVal_be]
    simp [be_length,folN]
    omega
theorem size_len_bd(x:Nat):1≤(size x).length∧(size x).length≤9:=by
 rw [size_len]
 (repeat' split) <;> omega
end Go.Proofs.YtnbmpgballopeaaGreatDoor
/- Appends in a region that draws its order, next to calls that make memory: the state of a growing slice of bytes. -/
namespace Go.Proofs.YtnbmpgballopeaaGreatDoor
open Go.RowKit
def GrowSt(w0:World)(G:Nat)(t:Nat)(s:Value)(w:World)(v:Value)(xs:List Nat):Prop:=
 w.ownsRow w0.heap.size 5 1 v xs.length (nums .u8 xs)∧Below w0.heap.size w0 w∧BxR w G t s∧v.ownBlock≠some G∧w0.heap.size≤G
def ApartSl(w:World)(v:Value)(a:Option Addr)(n c:Nat)(ys:List Nat):Prop:=Sl .u8 w a n c ys∧(0<n → ∀b off,a=some ⟨b,off,none⟩→v.ownBlock≠some b)
theorem GrowSt.lt{w0:World}{G t:Nat}{s:Value}{w:World}{v:Value}{xs:List Nat}(h:GrowSt w0 G t s w v xs):G<w.heap.size:=World.block_lt_of_cell? w _ h.2.2.1.1
theorem GrowSt.ownLt{w0:World}{G t:Nat}{s:Value}{w:World}{v:Value}{xs:List Nat}(h:GrowSt w0 G t s w v xs):∀g,v.ownBlock=some g→w0.heap.size≤g∧g<w.heap.size:=by
 intro g hg
 exact h.1.lt g hg
theorem GrowSt.below{w0:World}{G t:Nat}{s:Value}{w w':World}{v:Value}{xs:List Nat}(h:GrowSt w0 G t s w v xs)(hb:Below w.heap.size w w'):GrowSt w0 G t s w' v xs:=
 ⟨own_below h.1 hb,h.2.1.trans (hb.mono h.2.1.size),h.2.2.1.below hb,h.2.2.2⟩
theorem GrowSt.dN{w0:World}{G t:Nat}{s:Value}{w:World}{v:Value}{xs:List Nat}(h:GrowSt w0 G t s w v xs)(q:Nat):GrowSt w0 G t s (w.drewN q) v xs:=h.below (below_drewN (Below.refl _ _) q)
theorem GrowSt.drew{w0:World}{G t:Nat}{s:Value}{w:World}{v:Value}{xs:List Nat}(h:GrowSt w0 G t s w v xs):GrowSt w0 G t s w.drew v xs:=h.below ((Below.refl _ _).drew)
theorem ApartSl.below{w w':World}{v:Value}{a:Option Addr}{n c:Nat}{ys:List Nat}(h:ApartSl w v a n c ys)(hb:Below w.heap.size w w'):ApartSl w' v a n c ys:=⟨h.1.below hb,h.2⟩
theorem GrowSt.call{w0:World}{G t:Nat}{s:Value}{w w':World}{v:Value}{xs ys:List Nat}{e:Ending}(h:GrowSt w0 G t s w v xs)(hr:BytesRes w ys e w'):
  ∃a c,e = .returned (.slice a ys.length c)∧GrowSt w0 G t s w' v xs∧ApartSl w' v a ys.length c ys∧Below w.heap.size w w':=by
 obtain⟨r,rfl,hown,hb⟩:=hr
 obtain⟨a,c,rfl,hs⟩:=SlV.of_owns hown
 refine⟨a,c,rfl,h.below hb,⟨hs,fun h0 b off ha hv=>?_⟩,hb⟩
 have h1:=(h.ownLt b hv).2
 subst ha
 have h2:=(hown.lt b (by
  rcases hown.2 with⟨e,_⟩|⟨g,cap,cur,e,_⟩
  ·simp at e
  ·rfl)).1
 omega
theorem GrowSt.arg{w0:World}{G t:Nat}{s:Value}{w:World}{v:Value}{xs:List Nat}{a:Option Addr}{n c:Nat}{ys:List Nat}(h:GrowSt w0 G t s w v xs)(hs:Sl .u8 w0 a n c ys):ApartSl w v a n c ys:=by
 refine⟨hs.below h.2.1,fun h0 b off ha hv=>?_⟩
 obtain⟨b',off',ha',hc⟩:=hs.opened
 have:=ha' h0
 rw [ha] at this
 simp only [Option.some.injEq,Addr.mk.injEq,and_true] at this
 obtain⟨rfl,rfl⟩:=this
 have h1:=World.block_lt_of_cell? w0 _ (hc 0 h0)
 have h2:=(h.ownLt b hv).1
 simp at h1
 omega
theorem GrowSt.grew{w0:World}{G t:Nat}{s:Value}{w w':World}{v v':Value}{xs ys:List Nat}{m:Nat}(h:GrowSt w0 G t s w v xs)(hm:ys.length=m)(hown:w'.ownsRow w0.heap.size 5 1 v' (xs.length+m) (nums .u8 xs++nums .u8 ys))(hg:w.grownBy w' v.ownBlock)(hv:v'.ownBlock=v.ownBlock∨v'.ownBlock=some w.heap.size):
  GrowSt w0 G t s w' v' (xs++ys)∧(∀a n c zs,ApartSl w v a n c zs→ApartSl w' v' a n c zs):=by
 have hlt:=h.lt
 have cell:∀p:Addr,p.block<w.heap.size→v.ownBlock≠some p.block→w'.cell? p=w.cell? p:=fun p hp hne=>hg.cell_far p hp (Ne.symm hne)
 refine⟨⟨?_,?_,⟨?_,?_⟩,?_,h.2.2.2.2⟩,fun a n c zs ⟨h1,h2⟩=>⟨?_,fun h0 b off ha=>?_⟩⟩
 ·rw [nums_append] at hown
  rw [List.length_append,hm]
  exact hown
 ·exact h.2.1.grown hg h.2.1.size (fun k hk=>(h.ownLt k hk).1)
 ·rw [cell ⟨G,0,none⟩ hlt h.2.2.2.1];exact h.2.2.1.1
 ·rw [cell ⟨G,1,none⟩ hlt h.2.2.2.1];exact h.2.2.1.2
 ·rcases hv with hv|hv
  ·rw [hv];exact h.2.2.2.1
  ·rw [hv];intro e;simp at e;omega
 ·have hl:=h1.len
  obtain⟨q1,q2,q3,q4,b,off,ha,hc⟩:=h1
  refine⟨q1,q2,q3,q4,b,off,ha,fun j u hu=>?_⟩
  have hj:0<n:=by
   have:=(List.getElem?_eq_some_iff.1 hu).1
   rw [nums_length] at this;omega
  have hcu:=hc j u hu
  rw [cell _ (World.block_lt_of_cell? w _ hcu) (h2 hj b off (ha hj))]
  exact hcu
 ·rcases hv with hv|hv
  ·rw [hv];exact h2 h0 b off ha
  ·rw [hv]
   intro e
   simp at e
   obtain⟨b',off',ha',hc⟩:=h1.opened
   have:=ha' h0
   rw [ha] at this
   simp only [Option.some.injEq,Addr.mk.injEq,and_true] at this
   obtain⟨rfl,rfl⟩:=this
   have:=World.block_lt_of_cell? w _ (hc 0 h0)
   simp at this
   omega
end Go.Proofs.YtnbmpgballopeaaGreatDoor
/- Plain facts on records as bytes. No program in sight. -/
namespace Go.Proofs.YtnbmpgballopeaaGreatDoor
abbrev Pr:=Nat × List Nat
def encR(r:Pr):List Nat:=size r.1++size r.2.length++r.2
def encAll(rs:List Pr):List Nat:=rs.flatMap encR
def encErr:Option Nat→List Pr→Nat
 | _,[]=>0
 | p,r::s=>if p.any (fun q=>decide (r.1≤q))=true then 22 else if 65536<r.2.length then 3 else encErr (some r.1) s
def encE(rs:List Pr):Nat:=if 256<rs.length then 4 else encErr none rs
def prevT(rs:List Pr)(k:Nat):Option Nat:=match k with|0=>none|j+1=>rs[j]?.map (·.1)
theorem encErr_step{rs:List Pr}{k:Nat}{r:Pr}(h:rs[k]? = some r):encErr (prevT rs k) (rs.drop k)=if (prevT rs k).any (fun q=>decide (r.1≤q))=true then 22 else if 65536<r.2.length then 3 else encErr (prevT rs (k+1)) (rs.drop (k+1)):=by
 have hk:k<rs.length:=(List.getElem?_eq_some_iff.1 h).1
 have e:rs.drop k=r::rs.drop (k+1):=by
  rw [List.drop_eq_getElem_cons hk]
  congr 1
  rw [List.getElem?_eq_getElem hk] at h
  exact Option.some.inj h
 have e2:prevT rs (k+1)=some r.1:=by simp [prevT,h]
 rw [e,encErr,e2]
def decGo:Nat→Option Nat→Nat→List Nat→List Pr × Nat
 | 0,_,_,_=>([],0)
 | _,_,_,[]=>([],0)
 | f+1,p,n,bs=>
  let a:=readS bs
  if a.2.2≠0 then ([],a.2.2)
  else if p.any (fun q=>decide (a.1≤q))=true then ([],22)
  else
   let b1:=bs.drop a.2.1
   let c:=readS b1
   if c.2.2≠0 then ([],c.2.2)
   else
    let b2:=b1.drop c.2.1
    if 65536<c.1 then ([],3)
    else if b2.length<c.1 then ([],20)
    else if 256≤n then ([],4)
    else
     let t:=decGo f (some a.1) (n+1) (b2.drop c.1)
     if t.2≠0 then ([],t.2) else ((a.1,b2.take c.1)::t.1,0)
def decS(bs:List Nat):List Pr × Nat:=decGo (bs.length+1) none 0 bs
theorem readS_len{bs:List Nat}(h:(readS bs).2.2=0):1≤(readS bs).2.1∧(readS bs).2.1≤bs.length:=by
 cases bs with
 | nil=>simp [readS] at h
 | cons x t=>
  unfold readS at *
  by_cases h1:folN x=0
  ·simp [h1]
  ·by_cases h2:t.length<folN x
   ·simp [h1,h2] at h
   ·by_cases h3:beVal (t.take (folN x))<folL x
    ·simp [h1,h2,h3] at h
    ·simp [h1,h2,h3];omega
theorem decGo_fuel:∀(f g:Nat) (p:Option Nat) (n:Nat) (bs:List Nat),bs.length<f→bs.length<g→decGo f p n bs=decGo g p n bs:=by
 intro f
 induction f with
 | zero=>intro g p n bs h;omega
 | succ f ih=>
  intro g p n bs hf hg
  cases g with
  | zero=>omega
  | succ g=>
   cases bs with
   | nil=>rfl
   | cons x t=>
    unfold decGo
    by_cases h1:(readS (x::t)).2.2≠0
    ·simp [h1]
    ·have hl:=readS_len (by simpa using h1)
     have key:∀q m k j,decGo f q m (((((x::t).drop (readS (x::t)).2.1)).drop k).drop j)=decGo g q m (((((x::t).drop (readS (x::t)).2.1)).drop k).drop j):=by
      intro q m k j
      apply ih <;> (simp at *;omega)
     simp only [key]
theorem decGo_cons(p:Option Nat)(n:Nat){bs:List Nat}(h0:bs≠[]):decGo (bs.length+1) p n bs =
  (if (readS bs).2.2≠0 then ([],(readS bs).2.2)
  else if p.any (fun q=>decide ((readS bs).1≤q))=true then ([],22)
  else if (readS (bs.drop (readS bs).2.1)).2.2≠0 then ([],(readS (bs.drop (readS bs).2.1)).2.2)
  else if 65536<(readS (bs.drop (readS bs).2.1)).1 then ([],3)
  else if ((bs.drop (readS bs).2.1).drop (readS (bs.drop (readS bs).2.1)).2.1).length<(readS (bs.drop (readS bs).2.1)).1 then ([],20)
  else if 256≤n then ([],4)
  else (fun(b3:List Nat) (v:List Nat)=>(if (decGo (b3.length+1) (some (readS bs).1) (n+1) b3).2≠0 then (([]:List Pr),(decGo (b3.length+1) (some (readS bs).1) (n+1) b3).2) else (((readS bs).1,v)::(decGo (b3.length+1) (some (readS bs).1) (n+1) b3).1,0)))
   (((bs.drop (readS bs).2.1).drop (readS (bs.drop (readS bs).2.1)).2.1).drop (readS (bs.drop (readS bs).2.1)).1)
   (((bs.drop (readS bs).2.1).drop (readS (bs.drop (readS bs).2.1)).2.1).take (readS (bs.drop (readS bs).2.1)).1)):=by
 cases bs with
 | nil=>exact absurd rfl h0
 | cons x t=>
  by_cases h1:(readS (x::t)).2.2≠0
  ·rw [decGo]
   ·simp [h1]
   ·simp
  ·have hl:=readS_len (by simpa using h1)
   have hb3:((((x::t).drop (readS (x::t)).2.1).drop (readS ((x::t).drop (readS (x::t)).2.1)).2.1).drop (readS ((x::t).drop (readS (x::t)).2.1)).1).length<(x::t).length:=by
    simp at *;omega
   rw [decGo]
   ·simp only [decGo_fuel _ (((((x::t).drop (readS (x::t)).2.1).drop (readS ((x::t).drop (readS (x::t)).2.1)).2.1).drop (readS ((x::t).drop (readS (x::t)).2.1)).1).length+1) _ _ _ hb3 (Nat.lt_succ_self _)]
   ·simp
end Go.Proofs.YtnbmpgballopeaaGreatDoor

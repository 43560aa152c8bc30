/- Plain: the first primes by trial; their roots by halving. No program in sight. The walks of the reference's root, primes. The walks of the reference's primes and Make. -/
import Derived.Laws.Tables
import Derived.Test.YtnbmpgballopeaaGreatDoorZParts
import Derived.Test.YtnbmpgballopeaaGreatDoorZRf1
import Derived.Test.YtnbmpgballopeaaGreatDoorZShaE
import Derived.Test.YtnbmpgballopeaaGreatDoorZPick
namespace Go.Proofs.YtnbmpgballopeaaGreatDoor
def prStep(l:List Nat)(x:Nat):List Nat:=if l.all (fun p=>decide (x % p≠0))=true then l++[x] else l
def prN:Nat→List Nat
 | 0=>[]
 | k+1=>prStep (prN k) (k+2)
def PL:List Nat:=[2,3,5,7,11,13,17,19,23,29,31,37,41,43,47,53,59,61,67,71,73,79,83,89,97,101,103,107,109,113,127,131,137,139,149,151,157,163,167,173,179,181,191,193,197,199,211,223,227,229,233,239,241,251,257,263,269,271,277,281,283,293,307,311]
def X3:List Nat:=[5411319704,6194414737,7344290767,8215976869,9551921755,10098905585,11043570340,11460697813,12214315672,13195500289,13492127166,14311783875,14809980276,15046980094,15499789991,16133124468,16720292289,16907126662,17444216262,17784676812,17950125167,18429019306,18734950876,19175934170,19734090066,20001703533,20132865992,20390182855,20516441075,20764397895,21588763473,21813078375,22141143685,22248366392,22769593852,22871018771,23170020180,23461497531,23651862830,23931792517,24205322401,24295138891,24734567280,24820601251,24990902297,25075189284,25569408389,26045227120,26200031510,26276752392,26428864332,26653801653,26727943347,27092625994,27306805839,27517677555,27725365998,27793908591,27997534228,28131656200,28198240250,28526537963,28973835255,29099129074]
def X2:List Nat:=[6074000999,7439101573,9603838834,11363415354,14244795007,15485724812,17708603819,18721328409]
theorem pl_step:∀k,k<310→prStep (PL.filter (fun p=>decide (p<k+2))) (k+2)=PL.filter (fun p=>decide (p<k+3)):=by decide +kernel
theorem prN_eq(k:Nat)(h:k≤310):prN k=PL.filter (fun p=>decide (p<k+2)):=by
 induction k with
 | zero=>decide +kernel
 | succ k ih=>rw [prN,ih (by omega),pl_step k (by omega)]
theorem pl_short:∀k,k<310→(PL.filter (fun p=>decide (p<k+2))).length<64:=by decide +kernel
theorem prN_short(k:Nat)(h:k<310):(prN k).length<64:=by rw [prN_eq k (by omega)];exact pl_short k h
theorem prN_310:prN 310=PL:=by rw [prN_eq 310 (Nat.le_refl _)];decide +kernel
theorem prN_pos(k:Nat):∀p∈prN k,2≤p∧p<k+2:=by
 induction k with
 | zero=>simp [prN]
 | succ k ih=>
  intro p hp
  unfold prN prStep at hp
  split at hp
  ·rcases List.mem_append.1 hp with hp|hp
   ·have:=ih p hp;omega
   ·simp at hp;omega
  ·have:=ih p hp;omega
theorem x3_ok:∀i,i<64→X3.getD i 0 ^ 3≤PL.getD i 0*2 ^ (32*3)∧PL.getD i 0*2 ^ (32*3)<(X3.getD i 0+1) ^ 3∧X3.getD i 0 % 4294967296=K0.getD i 0:=by decide +kernel
theorem x2_ok:∀i,i<8→X2.getD i 0 ^ 2≤PL.getD i 0*2 ^ (32*2)∧PL.getD i 0*2 ^ (32*2)<(X2.getD i 0+1) ^ 2∧X2.getD i 0 % 4294967296=H0.getD i 0:=by decide +kernel
theorem pl_lt:∀i,i<64→PL.getD i 0<1000:=by decide +kernel
end Go.Proofs.YtnbmpgballopeaaGreatDoor
namespace Go.Proofs.YtnbmpgballopeaaGreatDoor
open Go.RowKit
theorem tyInts:SliceTy Tryz.prog 154 3 1 8 (.int .i64 0):=.mk' (by kernel_rfl) (by kernel_rfl) rfl (by decide)
theorem tyInt1:SliceTy Tryz.prog 109 3 1 8 (.int .i64 0):=.mk' (by kernel_rfl) (by kernel_rfl) rfl (by decide)
theorem Dig.shift{os:List Nat}{x:Nat}(h:Dig os x)(hx:0<x):Dig (0::os) (256*x):=by
 obtain⟨h1,h2,h3⟩:=h
 refine⟨by simp [val,h1],fun d hd=>?_,fun ys d hy=>?_⟩
 ·rcases List.mem_cons.1 hd with rfl|hd
  ·decide
  ·exact h2 d hd
 ·cases ys with
  | nil=>
   simp at hy
   have:os=[]:=hy.2
   subst this
   simp [val] at h1
   omega
  | cons y r=>
   simp at hy
   exact h3 r d hy.2
theorem le_root{m X k P:Nat}(h1:X ^ k≤P)(h2:P<(X+1) ^ k):m ^ k≤P ↔ m≤X:=by
 constructor
 ·intro h
  rcases Nat.lt_or_ge X m with g|g
  ·have:=Nat.pow_le_pow_left (show X+1≤m from g) k;omega
  ·exact g
 ·intro h
  exact Nat.le_trans (Nat.pow_le_pow_left h k) h1
theorem cmpI_le_zero{x y:Nat}(h:x≤y):cmpI x y≤0:=by unfold cmpI;split <;> (try split) <;> omega
theorem cmpI_gt_zero{x y:Nat}(h:¬ x≤y):¬ cmpI x y≤0:=by unfold cmpI;rw [if_neg (by omega),if_pos (by omega)];decide
def U32B(w:World)(x:Nat)(e:Ending)(w':World):Prop:=e = .returned (.int .u32 (x:Int))∧Below w.heap.size w w'
set_option maxRecDepth 100000 in
set_option maxHeartbeats 2000000 in
theorem root2_walk(p X:Nat)(hp0:0<p)(hp:p<1000)(h1:X ^ 2≤p*2 ^ (32*2))(h2:p*2 ^ (32*2)<(X+1) ^ 2)(w:World):
  Calls Tryz.prog 42 #[.int .i64 p,.int .i64 2] w (U32B w (X % 4294967296)):=by
 have HLE:=hid (fun m=>le_root (m:=m) h1 h2)
 have hX37:X<137438953472:=by
  rcases Nat.lt_or_ge X 137438953472 with h|h
  ·exact h
  ·have:=Nat.pow_le_pow_left h 2
   have h4:(137438953472:Nat) ^ 2=18889465931478580854784:=by decide
   rw [h4] at this
   have h5:p*2 ^ (32*2)≤1000*18446744073709551616:=Nat.mul_le_mul (by omega) (by decide)
   omega
 have hPb:=hid (show p*2 ^ (32*2)<256 ^ 16 from Nat.lt_of_le_of_lt (Nat.mul_le_mul (show p≤1000 by omega) (Nat.le_refl _)) (by decide))
 obtain⟨P,hP⟩:∃P:Nat,P=p*2 ^ (32*2):=⟨_,rfl⟩
 rw [← hP] at HLE hPb
 have hP0:=hid (show p*256 ^ (4*2)=P by rw [hP])
 have hwp:IntKind.u64.wrap (p:Int)=(p:Int):=by simp [IntKind.wrap,IntKind.signed,IntKind.bits];omega
 clear h1 h2 hP
 go_enter Tryz.func42,Tryz.ntmps42
 go_wp2_with fail
 refine(of_walk p (by omega) _).mono ?_
 rintro e w1 ⟨v1,xs1,rfl,d1,s1,b1⟩
 have S1:=hid s1
 have D1:=hid d1
 have B1:=hid b1
 clear s1 d1 b1 hwp
 go_wp2
 go_loopw [5,6] (fun x5 x6 wr=>∃(i:Nat) (v:Value) (os:List Nat),i≤4*2∧v=x5∧x6 = .int .i64 i∧Dig os (p*256 ^ i)∧SlV .i64 wr v os∧Below w.heap.size w wr) (fun _ x6 _=>4*2 - (intOf x6).toNat)
 case atStart=>exact⟨0,v1,xs1,by omega,rfl,rfl,by simpa using D1.out,S1.out,B1.out⟩
 case round=>
  obtain⟨i,v,os,hi,rfl,rfl,hd,sv,hb⟩:=hrel
  clear S1 D1 B1
  have hlen:=hid (hd.len_le (k:=16) (Nat.lt_of_le_of_lt (Nat.mul_le_mul (Nat.le_refl p) (pow256_le hi)) (by rw [hP0.out];exact hPb.out)))
  obtain⟨a,c,rfl,s⟩:=sv
  by_cases hlt:i<4*2
  ·have ti:decide ((i:Int)<8)=true:=by rw [decide_eq_true_eq];omega
   have D2:=hid (show Dig (0::os) (p*256 ^ (i+1)) by
    have:=hd.shift (Nat.mul_pos hp0 (Nat.pow_pos (by omega)))
    rw [Nat.pow_succ,← Nat.mul_assoc,Nat.mul_comm (p*256 ^ i)];exact this)
   have hlb:=hlen.out
   have O1:=hid (own_lit .i64 wr #[.int .i64 0] 3 [0] (n:=1) (B:=wr.heap.size) rfl rfl (Nat.le_refl _) (by decide))
   have bb:=(Below.refl wr.heap.size wr).alloc (Nat.le_refl _) (.cells #[.int .i64 0] 3)
   have S2:=hid (s.below bb)
   have BB:=hid (hb.trans (bb.mono hb.size))
   have HBs:=hid hb.size
   clear s hd hb bb
   go_wp2_with (at_builtin;refine wpList_cat rfl _ _ 154 rfl tyInts wr.heap.size O1.out rfl rfl S2.out (nums_oneCell _ _) ?c1 ?c2 ?c3 ?_)
   case c1=>omega
   case c2=>unfold maxLen;omega
   case c3=>simp
   intro v2 w2 own2 b2 hs2 _
   rw [nums_append] at own2
   have OW:=hid (show w2.ownsRow wr.heap.size 3 1 v2 (0::os).length (nums .i64 (0::os)) by rw [List.length_cons,Nat.add_comm];exact own2)
   have B2:=hid (BB.out.trans (b2.mono HBs.out))
   clear own2 b2 hs2
   go_wp2
   go_roundw
   case rel=>exact⟨i+1,v2,0::os,by omega,rfl,by go_num,D2.out,SlV.of_owns OW.out,B2.out⟩
   case measure=>simp [intOf];omega
  ·have ti:decide ((i:Int)<8)=false:=by rw [decide_eq_false_iff_not];omega
   have hd':=hid (show Dig os P by rw [← hP0.out,← show i=4*2 by omega];exact hd)
   have HS:=hid s
   have HB:=hid hb
   have hl16:=hlen.out
   clear hd s hb hlen
   go_wp2
   generalize wr=W2 at *
   go_loopw [7,8] (fun x7 x8 wr=>∃lo hi:Nat,x7 = .int .u64 lo∧x8 = .int .u64 hi∧lo≤X∧X<hi∧hi≤137438953472∧Below W2.heap.size W2 wr) (fun x7 x8 _=>(intOf x8 - intOf x7).toNat)
   case atStart=>exact⟨0,137438953472,rfl,rfl,by omega,by omega,by omega,Below.refl _ _⟩
   case round=>
    obtain⟨lo,hi,rfl,rfl,hlo,hhi,hh37,hb⟩:=hrel
    clear ti
    by_cases hgo:1<hi - lo
    ·have tg:decide ((hi:Int) - (lo:Int) > 1)=true:=by rw [decide_eq_true_eq];omega
     have tg2:decide (1<(hi:Int) - (lo:Int))=true:=by rw [decide_eq_true_eq];omega
     obtain⟨m,hm⟩:∃m:Nat,m=(lo+hi) / 2:=⟨_,rfl⟩
     have em:((lo:Int)+(hi:Int)) / 2=(m:Int):=by omega
     have hm1:lo<m:=by omega
     have hm2:m<hi:=by omega
     have hm64:m<18446744073709551616:=by omega
     have hwd:IntKind.u64.wrap ((hi:Int) - (lo:Int))=(hi:Int) - (lo:Int):=by
      obtain⟨dd,hdd⟩:∃dd:Nat,(hi:Int) - (lo:Int)=(dd:Int)∧dd<18446744073709551616:=⟨hi - lo,by omega,by omega⟩
      rw [hdd.1]
      have:=hdd.2
      clear hdd em tg tg2 hm
      simp [IntKind.wrap,IntKind.signed,IntKind.bits];omega
     have HBW:=hid hb
     have HS2:=hid (HS.out.below hb)
     have hHLE:=hid (HLE.out m)
     clear hm hb
     go_wp2_with fail
     refine(of_walk m hm64 _).mono ?_
     rintro e w3 ⟨v3,xs3,rfl,d3,⟨a3,c3,rfl,s3⟩,b3⟩
     have l3:=d3.len_le (k:=5) (Nat.lt_trans (show m<137438953472 by omega) (by decide))
     have B3:=hid (HBW.out.trans (b3.mono HBW.out.size))
     have HS3:=hid (HS2.out.below b3)
     have X3:=hid s3
     have D3:=hid d3
     clear s3 d3 b3 HBW HS2
     go_wp2_with fail
     refine(mul_walk a3 a3 xs3.length xs3.length c3 c3 m m xs3 xs3 (by omega) (by omega) _ X3.out D3.out X3.out D3.out).mono ?_
     rintro e w4 ⟨v4,xs4,rfl,d4,⟨a4,c4,rfl,s4⟩,b4⟩
     have l4:=d4.len_le (k:=10) (Nat.lt_of_lt_of_le (Nat.mul_lt_mul'' (show m<137438953472 by omega) (show m<137438953472 by omega)) (by decide))
     have B4:=hid (B3.out.trans (b4.mono B3.out.size))
     have HS4:=hid (HS3.out.below b4)
     have X4:=hid s4
     have D4:=hid d4
     have X3b:=hid (X3.out.below b4)
     clear s4 d4 b4 B3 HS3
     by_cases hle:m≤X
     ·have tc:decide (cmpI (m*m) P≤0)=true:=decide_eq_true (cmpI_le_zero (by have:=hHLE.out.2 hle;simpa [Nat.pow_succ] using this))
      go_wp2_with fail
      refine(cmp_walk a4 a xs4.length os.length c4 c (m*m) P xs4 os (by omega) (by omega) _ X4.out D4.out HS4.out hd'.out).mono ?_
      rintro e w6 ⟨rfl,q6⟩
      have B6:=hid (B4.out.trans (q6.below _))
      clear q6
      go_wp2
      go_roundw
      case rel=>exact⟨m,hi,rfl,rfl,by omega,by omega,by omega,B6.out⟩
      case measure=>simp [intOf];omega
     ·have tc:decide (cmpI (m*m) P≤0)=false:=decide_eq_false (cmpI_gt_zero (by intro h;exact hle (hHLE.out.1 (by simpa [Nat.pow_succ] using h))))
      go_wp2_with fail
      refine(cmp_walk a4 a xs4.length os.length c4 c (m*m) P xs4 os (by omega) (by omega) _ X4.out D4.out HS4.out hd'.out).mono ?_
      rintro e w6 ⟨rfl,q6⟩
      have B6:=hid (B4.out.trans (q6.below _))
      clear q6
      go_wp2
      go_roundw
      case rel=>exact⟨lo,m,rfl,rfl,by omega,by omega,by omega,B6.out⟩
      case measure=>simp [intOf];omega
    ·have tg:decide ((hi:Int) - (lo:Int) > 1)=false:=by rw [decide_eq_false_iff_not];omega
     have tg2:decide (1<(hi:Int) - (lo:Int))=false:=by rw [decide_eq_false_iff_not];omega
     obtain rfl:X=lo:=by omega
     have hwd:IntKind.u64.wrap ((hi:Int) - (X:Int))=(hi:Int) - (X:Int):=by
      obtain⟨dd,hdd⟩:∃dd:Nat,(hi:Int) - (X:Int)=(dd:Int)∧dd<18446744073709551616:=⟨hi - X,by omega,by omega⟩
      rw [hdd.1]
      have:=hdd.2
      clear hdd tg tg2
      simp [IntKind.wrap,IntKind.signed,IntKind.bits];omega
     obtain⟨r,hr⟩:∃r:Nat,r=X % 4294967296:=⟨_,rfl⟩
     have er:(X:Int) % 4294967296=(r:Int):=by omega
     have hr32:r<4294967296:=by omega
     have F:=hid (show U32B w (X % 4294967296) (.returned (.int .u32 (r:Int))) wr from⟨by rw [hr],HB.out.trans (hb.mono HB.out.size)⟩)
     clear hr hb
     go_wp2
     go_ret
     exact F.out
set_option maxRecDepth 100000 in
set_option maxHeartbeats 2000000 in
theorem root3_walk(p X:Nat)(hp0:0<p)(hp:p<1000)(h1:X ^ 3≤p*2 ^ (32*3))(h2:p*2 ^ (32*3)<(X+1) ^ 3)(w:World):
  Calls Tryz.prog 42 #[.int .i64 p,.int .i64 3] w (U32B w (X % 4294967296)):=by
 have HLE:=hid (fun m=>le_root (m:=m) h1 h2)
 have hX37:X<137438953472:=by
  rcases Nat.lt_or_ge X 137438953472 with h|h
  ·exact h
  ·have:=Nat.pow_le_pow_left h 3
   have h4:(137438953472:Nat) ^ 3=2596148429267413814265248164610048:=by decide
   rw [h4] at this
   have h5:p*2 ^ (32*3)≤1000*79228162514264337593543950336:=Nat.mul_le_mul (by omega) (by decide)
   omega
 have hPb:=hid (show p*2 ^ (32*3)<256 ^ 16 from Nat.lt_of_le_of_lt (Nat.mul_le_mul (show p≤1000 by omega) (Nat.le_refl _)) (by decide))
 obtain⟨P,hP⟩:∃P:Nat,P=p*2 ^ (32*3):=⟨_,rfl⟩
 rw [← hP] at HLE hPb
 have hP0:=hid (show p*256 ^ (4*3)=P by rw [hP])
 have hwp:IntKind.u64.wrap (p:Int)=(p:Int):=by simp [IntKind.wrap,IntKind.signed,IntKind.bits];omega
 clear h1 h2 hP
 go_enter Tryz.func42,Tryz.ntmps42
 go_wp2_with fail
 refine(of_walk p (by omega) _).mono ?_
 rintro e w1 ⟨v1,xs1,rfl,d1,s1,b1⟩
 have S1:=hid s1
 have D1:=hid d1
 have B1:=hid b1
 clear s1 d1 b1 hwp
 go_wp2
 go_loopw [5,6] (fun x5 x6 wr=>∃(i:Nat) (v:Value) (os:List Nat),i≤4*3∧v=x5∧x6 = .int .i64 i∧Dig os (p*256 ^ i)∧SlV .i64 wr v os∧Below w.heap.size w wr) (fun _ x6 _=>4*3 - (intOf x6).toNat)
 case atStart=>exact⟨0,v1,xs1,by omega,rfl,rfl,by simpa using D1.out,S1.out,B1.out⟩
 case round=>
  obtain⟨i,v,os,hi,rfl,rfl,hd,sv,hb⟩:=hrel
  clear S1 D1 B1
  have hlen:=hid (hd.len_le (k:=16) (Nat.lt_of_le_of_lt (Nat.mul_le_mul (Nat.le_refl p) (pow256_le hi)) (by rw [hP0.out];exact hPb.out)))
  obtain⟨a,c,rfl,s⟩:=sv
  by_cases hlt:i<4*3
  ·have ti:decide ((i:Int)<12)=true:=by rw [decide_eq_true_eq];omega
   have D2:=hid (show Dig (0::os) (p*256 ^ (i+1)) by
    have:=hd.shift (Nat.mul_pos hp0 (Nat.pow_pos (by omega)))
    rw [Nat.pow_succ,← Nat.mul_assoc,Nat.mul_comm (p*256 ^ i)];exact this)
   have hlb:=hlen.out
   have O1:=hid (own_lit .i64 wr #[.int .i64 0] 3 [0] (n:=1) (B:=wr.heap.size) rfl rfl (Nat.le_refl _) (by decide))
   have bb:=(Below.refl wr.heap.size wr).alloc (Nat.le_refl _) (.cells #[.int .i64 0] 3)
   have S2:=hid (s.below bb)
   have BB:=hid (hb.trans (bb.mono hb.size))
   have HBs:=hid hb.size
   clear s hd hb bb
   go_wp2_with (at_builtin;refine wpList_cat rfl _ _ 154 rfl tyInts wr.heap.size O1.out rfl rfl S2.out (nums_oneCell _ _) ?c1 ?c2 ?c3 ?_)
   case c1=>omega
   case c2=>unfold maxLen;omega
   case c3=>simp
   intro v2 w2 own2 b2 hs2 _
   rw [nums_append] at own2
   have OW:=hid (show w2.ownsRow wr.heap.size 3 1 v2 (0::os).length (nums .i64 (0::os)) by rw [List.length_cons,Nat.add_comm];exact own2)
   have B2:=hid (BB.out.trans (b2.mono HBs.out))
   clear own2 b2 hs2
   go_wp2
   go_roundw
   case rel=>exact⟨i+1,v2,0::os,by omega,rfl,by go_num,D2.out,SlV.of_owns OW.out,B2.out⟩
   case measure=>simp [intOf];omega
  ·have ti:decide ((i:Int)<12)=false:=by rw [decide_eq_false_iff_not];omega
   have hd':=hid (show Dig os P by rw [← hP0.out,← show i=4*3 by omega];exact hd)
   have HS:=hid s
   have HB:=hid hb
   have hl16:=hlen.out
   clear hd s hb hlen
   go_wp2
   generalize wr=W2 at *
   go_loopw [7,8] (fun x7 x8 wr=>∃lo hi:Nat,x7 = .int .u64 lo∧x8 = .int .u64 hi∧lo≤X∧X<hi∧hi≤137438953472∧Below W2.heap.size W2 wr) (fun x7 x8 _=>(intOf x8 - intOf x7).toNat)
   case atStart=>exact⟨0,137438953472,rfl,rfl,by omega,by omega,by omega,Below.refl _ _⟩
   case round=>
    obtain⟨lo,hi,rfl,rfl,hlo,hhi,hh37,hb⟩:=hrel
    clear ti
    by_cases hgo:1<hi - lo
    ·have tg:decide ((hi:Int) - (lo:Int) > 1)=true:=by rw [decide_eq_true_eq];omega
     have tg2:decide (1<(hi:Int) - (lo:Int))=true:=by rw [decide_eq_true_eq];omega
     obtain⟨m,hm⟩:∃m:Nat,m=(lo+hi) / 2:=⟨_,rfl⟩
     have em:((lo:Int)+(hi:Int)) / 2=(m:Int):=by omega
     have hm1:lo<m:=by omega
     have hm2:m<hi:=by omega
     have hm64:m<18446744073709551616:=by omega
     have hwd:IntKind.u64.wrap ((hi:Int) - (lo:Int))=(hi:Int) - (lo:Int):=by
      obtain⟨dd,hdd⟩:∃dd:Nat,(hi:Int) - (lo:Int)=(dd:Int)∧dd<18446744073709551616:=⟨hi - lo,by omega,by omega⟩
      rw [hdd.1]
      have:=hdd.2
      clear hdd em tg tg2 hm
      simp [IntKind.wrap,IntKind.signed,IntKind.bits];omega
     have HBW:=hid hb
     have HS2:=hid (HS.out.below hb)
     have hHLE:=hid (HLE.out m)
     clear hm hb
     go_wp2_with fail
     refine(of_walk m hm64 _).mono ?_
     rintro e w3 ⟨v3,xs3,rfl,d3,⟨a3,c3,rfl,s3⟩,b3⟩
     have l3:=d3.len_le (k:=5) (Nat.lt_trans (show m<137438953472 by omega) (by decide))
     have B3:=hid (HBW.out.trans (b3.mono HBW.out.size))
     have HS3:=hid (HS2.out.below b3)
     have X3:=hid s3
     have D3:=hid d3
     clear s3 d3 b3 HBW HS2
     go_wp2_with fail
     refine(mul_walk a3 a3 xs3.length xs3.length c3 c3 m m xs3 xs3 (by omega) (by omega) _ X3.out D3.out X3.out D3.out).mono ?_
     rintro e w4 ⟨v4,xs4,rfl,d4,⟨a4,c4,rfl,s4⟩,b4⟩
     have l4:=d4.len_le (k:=10) (Nat.lt_of_lt_of_le (Nat.mul_lt_mul'' (show m<137438953472 by omega) (show m<137438953472 by omega)) (by decide))
     have B4:=hid (B3.out.trans (b4.mono B3.out.size))
     have HS4:=hid (HS3.out.below b4)
     have X4:=hid s4
     have D4:=hid d4
     have X3b:=hid (X3.out.below b4)
     clear s4 d4 b4 B3 HS3
     go_wp2_with fail
     refine(mul_walk a4 a3 xs4.length xs3.length c4 c3 (m*m) m xs4 xs3 (by omega) (by omega) _ X4.out D4.out X3b.out D3.out).mono ?_
     rintro e w5 ⟨v5,xs5,rfl,d5,⟨a5,c5,rfl,s5⟩,b5⟩
     have l5:=d5.len_le (k:=15) (Nat.lt_of_lt_of_le (Nat.mul_lt_mul'' (Nat.mul_lt_mul'' (show m<137438953472 by omega) (show m<137438953472 by omega)) (show m<137438953472 by omega)) (by decide))
     have B5:=hid (B4.out.trans (b5.mono B4.out.size))
     have HS5:=hid (HS4.out.below b5)
     have X5:=hid s5
     have D5:=hid d5
     clear s5 d5 b5
     by_cases hle:m≤X
     ·have tc:decide (cmpI (m*m*m) P≤0)=true:=decide_eq_true (cmpI_le_zero (by have:=hHLE.out.2 hle;simpa [Nat.pow_succ] using this))
      go_wp2_with fail
      refine(cmp_walk a5 a xs5.length os.length c5 c (m*m*m) P xs5 os (by omega) (by omega) _ X5.out D5.out HS5.out hd'.out).mono ?_
      rintro e w6 ⟨rfl,q6⟩
      have B6:=hid (B5.out.trans (q6.below _))
      clear q6
      go_wp2
      go_roundw
      case rel=>exact⟨m,hi,rfl,rfl,by omega,by omega,by omega,B6.out⟩
      case measure=>simp [intOf];omega
     ·have tc:decide (cmpI (m*m*m) P≤0)=false:=decide_eq_false (cmpI_gt_zero (by intro h;exact hle (hHLE.out.1 (by simpa [Nat.pow_succ] using h))))
      go_wp2_with fail
      refine(cmp_walk a5 a xs5.length os.length c5 c (m*m*m) P xs5 os (by omega) (by omega) _ X5.out D5.out HS5.out hd'.out).mono ?_
      rintro e w6 ⟨rfl,q6⟩
      have B6:=hid (B5.out.trans (q6.below _))
      clear q6
      go_wp2
      go_roundw
      case rel=>exact⟨lo,m,rfl,rfl,by omega,by omega,by omega,B6.out⟩
      case measure=>simp [intOf];omega
    ·have tg:decide ((hi:Int) - (lo:Int) > 1)=false:=by rw [decide_eq_false_iff_not];omega
     have tg2:decide (1<(hi:Int) - (lo:Int))=false:=by rw [decide_eq_false_iff_not];omega
     obtain rfl:X=lo:=by omega
     have hwd:IntKind.u64.wrap ((hi:Int) - (X:Int))=(hi:Int) - (X:Int):=by
      obtain⟨dd,hdd⟩:∃dd:Nat,(hi:Int) - (X:Int)=(dd:Int)∧dd<18446744073709551616:=⟨hi - X,by omega,by omega⟩
      rw [hdd.1]
      have:=hdd.2
      clear hdd tg tg2
      simp [IntKind.wrap,IntKind.signed,IntKind.bits];omega
     obtain⟨r,hr⟩:∃r:Nat,r=X % 4294967296:=⟨_,rfl⟩
     have er:(X:Int) % 4294967296=(r:Int):=by omega
     have hr32:r<4294967296:=by omega
     have F:=hid (show U32B w (X % 4294967296) (.returned (.int .u32 (r:Int))) wr from⟨by rw [hr],HB.out.trans (hb.mono HB.out.size)⟩)
     clear hr hb
     go_wp2
     go_ret
     exact F.out
end Go.Proofs.YtnbmpgballopeaaGreatDoor
namespace Go.Proofs.YtnbmpgballopeaaGreatDoor
open Go.RowKit
theorem all_take_succ{l:List Nat}{i x p:Nat}(h:l[i]? = some p):(l.take (i+1)).all (fun p=>decide (x % p≠0))=((l.take i).all (fun p=>decide (x % p≠0)) && decide (x % p≠0)):=by
 rw [List.take_add_one,h,List.all_append]
 simp
def PrRes(w:World)(e:Ending)(w':World):Prop:=∃v,e = .returned v∧w'.ownsRow w.heap.size 3 1 v PL.length (nums .i64 PL)∧Below w.heap.size w w'
set_option maxRecDepth 100000 in
set_option maxHeartbeats 2000000 in
theorem primes_walk(w:World):Calls Tryz.prog 41 #[.int .i64 64] w (PrRes w):=by
 have O0:=hid (World.ownsRow_made (base:=w.heap.size) (e:=3) (size:=1) w #[] 0 (Nat.le_refl _) (by simp) (by simp))
 have B0:=hid ((Below.refl w.heap.size w).alloc (Nat.le_refl _) (.cells #[] 3))
 go_enter Tryz.func41,Tryz.ntmps41
 go_wp2
 go_loopw [3,4] (fun x3 x4 wr=>∃(k x:Nat) (v:Value),k≤310∧Hid (x=k+2)∧x≤312∧v=x3∧x4 = .int .i64 x∧wr.ownsRow w.heap.size 3 1 v (prN k).length (nums .i64 (prN k))∧Below w.heap.size w wr) (fun _ x4 _=>312 - (intOf x4).toNat)
 case atStart=>exact⟨0,2,_,by omega,hid rfl,by omega,rfl,rfl,O0.out,B0.out⟩
 case round=>
  obtain⟨k,x,v,hk,hx,hx312,rfl,rfl,hown,hb⟩:=hrel
  clear O0 B0
  obtain⟨a,c,rfl,r⟩:=Rd.of_owns hown
  have HO:=hid hown
  have HB:=hid hb
  have HS:=hid (show Sl .i64 wr a (prN k).length c (prN k) from r)
  have hx':=hx.out
  have hx2:2≤x:=by omega
  by_cases hlt:(prN k).length<64
  ·have hk310:k<310:=by
    rcases Nat.lt_or_ge k 310 with h|h
    ·exact h
    ·exfalso
     have e:k=310:=by omega
     rw [e,prN_310] at hlt
     exact absurd hlt (by decide)
   have hpos:=hid (prN_pos k)
   have hstep:=hid (show prN (k+1)=prStep (prN k) x by rw [prN,hx'])
   obtain⟨L,hL⟩:∃L,L=(prN k).length:=⟨_,rfl⟩
   rw [← hL] at HO HS hlt ⊢
   have HLn:=hid hL
   clear hown hb r hx' hL
   generalize prN k=ps at *
   go_wp2
   generalize wr=W1 at *
   go_loopw [5,17] (fun x5 x17 wr=>∃(i:Nat) (b:Bool),i≤L∧x17 = .int .i64 i∧x5 = .bool b∧Hid (b=(ps.take i).all (fun p=>decide (x % p≠0)))∧wr=W1) (fun _ x17 _=>L - (intOf x17).toNat)
   case atStart=>exact⟨0,true,by omega,rfl,rfl,hid (by simp),rfl⟩
   case round=>
    obtain⟨i,b,hi,rfl,rfl,hbb,rfl⟩:=hrel
    by_cases hil:i<L
    ·obtain⟨p,hp⟩:∃p,ps[i]? = some p:=⟨ps[i]'(by have:=HLn.out;omega),List.getElem?_eq_getElem _⟩
     have hp2:=(hpos.out p (List.mem_of_getElem? hp))
     have hp1:2≤p:=hp2.1
     have hp3:p<1000:=by omega
     obtain⟨bk,off,ha,hc⟩:=HS.out.opened
     obtain rfl:=ha (by omega)
     have ci:=hc i hil
     rw [List.getD_eq_getElem?_getD,hp,Option.getD_some] at ci
     have HA:=hid (all_take_succ (x:=x) hp)
     clear hc ha hp hp2
     obtain⟨q,hq⟩:∃q:Nat,q=x % p:=⟨_,rfl⟩
     have eq1:(x:Int) % (p:Int)=(q:Int):=by rw [hq];exact(Int.natCast_emod x p).symm
     have eq2:(x:Int).tmod (p:Int)=(q:Int):=by rw [Int.tmod_eq_emod_of_nonneg (by omega)];exact eq1
     have HQ:=hid hq
     clear hq
     by_cases hq0:q=0
     ·have tq:((q:Int) == 0)=true:=by rw [beq_iff_eq];omega
      have hn:=hid (show false=(ps.take (i+1)).all (fun p=>decide (x % p≠0)) by rw [HA.out,← HQ.out,hq0];simp)
      have HQ0:=hid hq0
      clear hq0
      go_wp2
      go_roundw
      case rel=>exact⟨i+1,false,by omega,by go_num,rfl,hn,(by first|rfl|trivial)⟩
      case measure=>simp [intOf];omega
     ·have tq:((q:Int) == 0)=false:=by rw [beq_eq_false_iff_ne];omega
      have hn:=hid (show b=(ps.take (i+1)).all (fun p=>decide (x % p≠0)) by rw [HA.out,← HQ.out,← hbb.out];simp [hq0])
      go_wp2
      go_roundw
      case rel=>exact⟨i+1,b,by omega,by go_num,rfl,hn,(by first|rfl|trivial)⟩
      case measure=>simp [intOf];omega
    ·have et:ps.take i=ps:=List.take_of_length_le (by have:=HLn.out;omega)
     rw [et] at hbb
     have ex1:(x:Int)+1=((x+1:Nat):Int):=by omega
     obtain⟨y,hy⟩:∃y:Nat,y=x+1:=⟨_,rfl⟩
     rw [← hy] at ex1
     have hxy:=hid (show y=(k+1)+2 by have:=hx.out;omega)
     have hy312:y≤312:=by have:=hx.out;omega
     clear et hy
     cases b with
     | true=>
      have hps:=hid (show prN (k+1)=ps++[x] by rw [hstep.out,prStep,if_pos hbb.out.symm])
      have hLn4:L<4294967296:=by omega
      go_wp2_with (at_builtin;refine wpList_push rfl _ _ 109 rfl tyInt1 w.heap.size HO.out rfl rfl rfl rfl hLn4 (by decide) HB.out.size ?_)
      intro v2 w2 own2 b2 hs2 _
      have OW:=hid (show w2.ownsRow w.heap.size 3 1 v2 (prN (k+1)).length (nums .i64 (prN (k+1))) by
       rw [hps.out,List.length_append,List.length_singleton,← HLn.out,← nums_snoc .i64 (show(x:Int)=((x:Nat):Int) from rfl)];exact own2)
      have B2:=hid (HB.out.trans b2)
      clear own2 b2 hs2
      go_wp2
      go_roundw
      case rel=>exact⟨k+1,y,v2,by omega,hxy,hy312,rfl,rfl,OW.out,B2.out⟩
      case measure=>simp [intOf];have:=hx.out;have:=hxy.out;omega
     | false=>
      have hps:=hid (show prN (k+1)=ps by rw [hstep.out,prStep,if_neg (by rw [← hbb.out];simp)])
      go_wp2
      go_roundw
      case rel=>exact⟨k+1,y,_,by omega,hxy,hy312,rfl,rfl,by rw [hps.out,← HLn.out];exact HO.out,HB.out⟩
      case measure=>simp [intOf];have:=hx.out;have:=hxy.out;omega
  ·have hk310:k=310:=by
    rcases Nat.lt_or_ge k 310 with h|h
    ·exact absurd (prN_short k h) hlt
    ·omega
   have e:prN k=PL:=by rw [hk310];exact prN_310
   rw [e] at hown HS hlt ⊢
   have F:=hid (show PrRes w (.returned (.slice a PL.length c)) wr from⟨_,rfl,hown,hb⟩)
   have hl64:¬ PL.length<64:=by decide
   clear hown hb HO HS r e
   generalize PL.length=L at *
   go_wp2
   go_ret
   exact F.out
theorem pl_pos:∀i,i<64→0<PL.getD i 0:=by decide +kernel
theorem zeroTab:Tryz.zeroCells50.toList=nums .u32 (List.replicate 72 0):=by kernel_rfl
theorem infoTab:(Tryz.prog.info? 50).map (·.size)=some 72:=by kernel_rfl
theorem zeroTab_size:Tryz.zeroCells50.size=72:=by
 have:=congrArg List.length zeroTab
 rw [nums_length,List.length_replicate,Array.length_toList] at this
 exact this
theorem zeroTab_one:Tryz.zeroCells50.all (·.oneCell')=true:=by kernel_rfl
def tabV:Value:=.agg (nums .u32 (H0++K0)).toArray
def tabI(i:Nat):List Nat:=padW (H0.take i) 8++padW (K0.take i) 64
theorem tab_zero:tabI 0=List.replicate 72 0:=by decide
theorem tab_len(i:Nat):(tabI i).length=72:=by
 unfold tabI
 rw [List.length_append,padW_len (by rw [List.length_take];exact Nat.min_le_right _ _),padW_len (by rw [List.length_take];exact Nat.min_le_right _ _)]
theorem tab_full:tabI 64=H0++K0:=by decide
theorem tab_step8{i:Nat}(h:i<8):((tabI i).set (8+i) (K0.getD i 0)).set i (H0.getD i 0)=tabI (i+1):=by
 have h1:i=0∨i=1∨i=2∨i=3∨i=4∨i=5∨i=6∨i=7:=by omega
 rcases h1 with rfl|rfl|rfl|rfl|rfl|rfl|rfl|rfl <;> decide
theorem tab_step{i:Nat}(h:8≤i)(hi:i<64):(tabI i).set (8+i) (K0.getD i 0)=tabI (i+1):=by
 have hK:K0.length=64:=rfl
 have hH:H0.length=8:=rfl
 have e1:H0.take i=H0:=List.take_of_length_le (by omega)
 have e2:H0.take (i+1)=H0:=List.take_of_length_le (by omega)
 have e3:K0.take (i+1)=K0.take i++[K0.getD i 0]:=by
  rw [List.take_add_one,List.getD_eq_getElem?_getD,List.getElem?_eq_getElem (by omega)];rfl
 have hp:(padW H0 8).length=8:=padW_len (by omega)
 unfold tabI
 rw [e1,e2,List.set_append_right _ _ (by omega),hp,Nat.add_sub_cancel_left,padW_set (by rw [List.length_take];omega) hi,e3]
def MkRes(w:World)(e:Ending)(w':World):Prop:=e = .returned tabV∧Below w.heap.size w w'
theorem alloc2m(w:World)(a b:Obj):((w.alloc a).alloc b).heap[w.heap.size]? = some a∧((w.alloc a).alloc b).heap[w.heap.size+1]? = some b∧((w.alloc a).alloc b).heap.size=w.heap.size+1+1∧Below w.heap.size w ((w.alloc a).alloc b):=by
 have e1:(w.alloc a).heap.size=w.heap.size+1:=by simp
 have h0:=heap_alloc_new w a
 have h1:=heap_alloc_new (w.alloc a) b
 rw [e1] at h1
 exact⟨by rw [Below.heap_alloc _ _ _ (by omega)];exact h0,h1,by simp,((Below.refl w.heap.size w).alloc (Nat.le_refl _) a).alloc (by omega) b⟩
set_option maxRecDepth 100000 in
set_option maxHeartbeats 2000000 in
theorem make_walk(w:World):Calls Tryz.prog 14 #[] w (MkRes w):=by
 have A2:=hid (alloc2m w (.cells Tryz.zeroCells50 50) (.cells Tryz.zeroCells50 50))
 go_enter Tryz.func14,Tryz.ntmps14
 have hzi:(Tryz.prog.info? 50).map (·.size)=some Tryz.zeroCells50.size:=by rw [zeroTab_size];exact infoTab
 have hW2:=hid (setRow_heap ((w.alloc (.cells Tryz.zeroCells50 50)).alloc (.cells Tryz.zeroCells50 50)) (w.heap.size+1) _ Tryz.zeroCells50 _ _ A2.out.2.1)
 have hW0:=hid (show(((w.alloc (.cells Tryz.zeroCells50 50)).alloc (.cells Tryz.zeroCells50 50)).setRow (w.heap.size+1) Tryz.zeroCells50).heap[w.heap.size]? = some (.cells Tryz.zeroCells50 50 (0,0)) by rw [setRow_other _ _ _ _ (by omega)];exact A2.out.1)
 have hWB:=hid (below_setRow A2.out.2.2.2 (show w.heap.size≤w.heap.size+1 by omega) Tryz.zeroCells50)
 go_wp2_with (refine wpList_store_row rfl _ _ _ rfl (w.heap.size+1) Tryz.zeroCells50 rfl rfl _ _ A2.out.2.1 hzi rfl zeroTab_one ?_)
 clear A2 hzi
 generalize ((w.alloc (.cells Tryz.zeroCells50 50)).alloc (.cells Tryz.zeroCells50 50)).setRow (w.heap.size+1) Tryz.zeroCells50=W2 at *
 obtain⟨G1,hG1⟩:∃G1,G1=w.heap.size+1:=⟨_,rfl⟩
 rw [← hG1] at hW2 ⊢
 have l01:w.heap.size<G1:=by omega
 have own0:=hid (own_of_heap (B:=w.heap.size+1) (n:=72) (L:=nums .u32 (tabI 0)) hW2.out (by rw [zeroTab,tab_zero]) (by rw [nums_length,tab_len]) (by omega) (by decide))
 have HG0:=hid (show w.heap.size<W2.heap.size from(Array.getElem?_eq_some_iff.1 hW0.out).1)
 clear hG1 hW2
 go_wp2_with fail
 refine(primes_walk _).mono ?_
 rintro e w3 ⟨v3,rfl,o3,b3⟩
 have HB:=hid (hWB.out.trans (b3.mono hWB.out.size))
 have own3:=hid (own_below own0.out b3)
 have hW3:=hid (show w3.heap[w.heap.size]? = some (.cells Tryz.zeroCells50 50 (0,0)) by rw [b3.block _ HG0.out];exact hW0.out)
 have hPL:PL.length=64:=rfl
 rw [hPL] at o3
 obtain⟨a3,c3,rfl,_⟩:=Rd.of_owns o3
 obtain⟨bk,rfl,_⟩:=own_addr o3 (by omega)
 have hbk:=(o3.lt bk rfl).1
 have hGW:G1<W2.heap.size:=(own0.out.lt G1 rfl).2
 have HCL:=hid (fun i (hi:i<64)=>show w3.cell? ⟨bk,i,none⟩=some (.int .i64 ((PL.getD i 0:Nat):Int)) from(o3.cellAt i (by omega)).trans (nums_get .i64 (by rw [hPL];exact hi)))
 have hbG:bk≠G1:=by omega
 clear b3 own0 hW0 HG0 hWB o3 hPL hbk hGW
 go_wp2
 go_loopw [7] (fun x0 wr=>∃i:Nat,i≤64∧x0 = .int .i64 i∧wr.ownsRow (w.heap.size+1) 50 1 (.slice (some ⟨G1,0,none⟩) 72 72) 72 (nums .u32 (tabI i))∧Below w.heap.size w wr∧Far G1 w3 wr) (fun x0 _=>64 - (intOf x0).toNat)
 case atStart=>exact⟨0,by omega,rfl,own3.out,HB.out,Far.refl _ _⟩
 case round=>
  obtain⟨i,hi,rfl,how,hb,hf⟩:=hrel
  have HO:=hid how
  have HBW:=hid hb
  have HFW:=hid hf
  clear own3 HB
  by_cases hlt:i<64
  ·have cp:=HCL.out i hlt
   have cpw:wr.cell? ⟨bk,i,none⟩=some (.int .i64 ((PL.getD i 0:Nat):Int)):=by
    rw [World.cell?_of_block (hf.block bk (World.block_lt_of_cell? w3 _ cp) (by simpa using hbG))]
    exact cp
   obtain⟨x31,x32,x33⟩:=x3_ok i hlt
   have hpl:=pl_lt i hlt
   have hp0:=pl_pos i hlt
   have R3:=fun wx=>hid (root3_walk (PL.getD i 0) (X3.getD i 0) hp0 hpl x31 x32 wx)
   rw [x33] at R3
   have kl:=getDlt K0_lt (by omega) i
   have hiI:(i:Int)<64:=by omega
   by_cases h8:i<8
   ·have t8:decide ((i:Int)<8)=true:=by rw [decide_eq_true_eq];omega
    have hiI8:(i:Int)<8:=by omega
    obtain⟨x21,x22,x23⟩:=x2_ok i h8
    have R2:=fun wx=>hid (root2_walk (PL.getD i 0) (X2.getD i 0) hp0 hpl x21 x22 wx)
    rw [x23] at R2
    have hl:=getDlt H0_lt (by omega) i
    have hst:=hid (tab_step8 h8)
    generalize PL.getD i 0=p at *
    generalize K0.getD i 0=kv at *
    generalize H0.getD i 0=hv' at *
    clear x31 x32 x33 x21 x22 x23 how hb hf cp
    go_wp2_with fail
    refine(R3 _).out.mono ?_
    rintro e w4 ⟨rfl,b4⟩
    have how4:=own_below HO.out b4
    have cK:=how4.cellAt (8+i) (by omega)
    rw [nums_get .u32 (by rw [tab_len];omega)] at cK
    have fK:=how4.frozenAt (8+i)
    have O4:=hid (own_store how4 (8+i) (z:=(kv:Int)) rfl)
    have F4:=hid ((HFW.out.trans (Far.of b4)).trans (Far.set (H:=G1) (j:=8+i) (w:=w4) (.int .u32 (kv:Int))))
    have B4:=hid ((HBW.out.trans (b4.mono HBW.out.size)).trans (O4.out.2.mono (by omega)))
    generalize (tabI i).getD (8+i) 0=oldk at *
    clear b4 how4
    go_wp2_with fail
    clear cK fK
    refine(R2 _).out.mono ?_
    rintro e w5 ⟨rfl,b5⟩
    have how5:=own_below O4.out.1 b5
    have cH:=how5.cellAt i (by omega)
    rw [nums_get .u32 (by rw [List.length_set,tab_len];omega)] at cH
    have fH:=how5.frozenAt i
    have O5:=hid (own_store how5 i (z:=(hv':Int)) rfl)
    have F5:=hid ((F4.out.trans (Far.of b5)).trans (Far.set (H:=G1) (j:=i) (w:=w5) (.int .u32 (hv':Int))))
    have B5:=hid ((B4.out.trans (b5.mono B4.out.size)).trans (O5.out.2.mono (by omega)))
    generalize ((tabI i).set (8+i) kv).getD i 0=oldh at *
    clear b5 how5 O4 F4 B4
    go_wp2
    go_roundw
    case rel=>exact⟨i+1,by omega,by go_num,by rw [← hst.out];exact O5.out.1,B5.out,F5.out⟩
    case measure=>simp [intOf];omega
   ·have t8:decide ((i:Int)<8)=false:=by rw [decide_eq_false_iff_not];omega
    have hst:=hid (tab_step (by omega) hlt)
    generalize PL.getD i 0=p at *
    generalize K0.getD i 0=kv at *
    clear x31 x32 x33 how hb hf cp
    go_wp2_with fail
    refine(R3 _).out.mono ?_
    rintro e w4 ⟨rfl,b4⟩
    have how4:=own_below HO.out b4
    have cK:=how4.cellAt (8+i) (by omega)
    rw [nums_get .u32 (by rw [tab_len];omega)] at cK
    have fK:=how4.frozenAt (8+i)
    have O4:=hid (own_store how4 (8+i) (z:=(kv:Int)) rfl)
    have F4:=hid ((HFW.out.trans (Far.of b4)).trans (Far.set (H:=G1) (j:=8+i) (w:=w4) (.int .u32 (kv:Int))))
    have B4:=hid ((HBW.out.trans (b4.mono HBW.out.size)).trans (O4.out.2.mono (by omega)))
    generalize (tabI i).getD (8+i) 0=oldk at *
    clear b4 how4
    go_wp2
    go_roundw
    case rel=>exact⟨i+1,by omega,by go_num,by rw [← hst.out];exact O4.out.1,B4.out,F4.out⟩
    case measure=>simp [intOf];omega
  ·have hge:64≤i:=by omega
   rw [show i=64 by omega,tab_full] at how
   have h0:=hid (show wr.heap[w.heap.size]? = some (.cells Tryz.zeroCells50 50 (0,0)) by rw [hf.block _ (Array.getElem?_eq_some_iff.1 hW3.out).1 (by simp;omega)];exact hW3.out)
   rcases how.2 with⟨hbad,_⟩|⟨g,cap,cu3,hv3,_,hg3,_,_,hsz3',htk⟩
   ·simp at hbad
   ·simp only [Value.slice.injEq,Option.some.injEq,Addr.mk.injEq,and_true,true_and] at hv3
    obtain⟨rfl,rfl⟩:=hv3
    have hcl:cu3.toList=nums .u32 (H0++K0):=by
     rw [← htk,List.take_of_length_le (by rw [Array.length_toList,hsz3'];exact Nat.le_refl _)]
    have hcu3:=hid (show cu3=(nums .u32 (H0++K0)).toArray by rw [← hcl])
    have hg3':=hid hg3
    have hi3:(Tryz.prog.info? 50).map (·.size)=some cu3.size:=by rw [hsz3'];exact infoTab
    have h1c:cu3.all (·.oneCell')=true:=by
     rw [hcu3.out]
     simp [nums,Value.oneCell']
    have h72:Tryz.zeroCells50.size=cu3.size:=by rw [hsz3'];exact zeroTab_size
    clear how hf hb hg3 htk hcl hsz3'
    go_wp2_with (first|(refine wpList_load_row rfl _ _ rfl G1 rfl _ cu3 _ _ hg3'.out Tryz.underlying50 rfl hi3 ?_)|(refine wpList_store_row rfl _ _ _ rfl w.heap.size cu3 rfl rfl _ _ h0.out hi3 h72 h1c ?_))
    (try simp only [Exit.inBlock,Exit.then])
    refine bodyPost_ret (results_cell_row rfl _ _ w.heap.size _ cu3 _ _ rfl (setRow_heap wr w.heap.size _ cu3 _ _ h0.out) Tryz.underlying50 rfl hi3) rfl ?_
    exact⟨by rw [hcu3.out];rfl,below_setRow HBW.out (Nat.le_refl _) _⟩
end Go.Proofs.YtnbmpgballopeaaGreatDoor

/- Contracts of package tlv: big, Size. -/
import Derived.Test.YtnbmpgballopeaaGreatDoorZParts
namespace Go.Proofs.YtnbmpgballopeaaGreatDoor
open Go.RowKit
def be:Nat→Nat→List Nat
 | 0,_=>[]
 | n+1,x=>x / 256 ^ n % 256::be n x
theorem be_length(n x:Nat):(be n x).length=n:=by induction n with
 | zero=>rfl
 | succ n ih=>simp [be,ih]
theorem be_lt(n x:Nat):∀d∈be n x,d<256:=by induction n with
 | zero=>simp [be]
 | succ n ih=>
  intro d hd
  rcases List.mem_cons.1 hd with rfl|hd
  ·omega
  ·exact ih d hd
theorem be_digit(x j:Nat):(x:Int) / 2 ^ (8*j) % 256=((x / 256 ^ j % 256:Nat):Int):=by
 rw [show(256:Nat) ^ j=2 ^ (8*j) from by rw [Nat.pow_mul],Int.natCast_emod,Int.natCast_ediv,Int.natCast_pow];rfl
def size(x:Nat):List Nat:=if x<253 then [x] else if x<65536 then 253::be 2 x else if x<4294967296 then 254::be 4 x else 255::be 8 x
set_option maxHeartbeats 400000 in
theorem big_walk(B:Nat)(v:Value)(xs:List Nat)(x n:Nat)(_hx:x<18446744073709551616)(hn:n≤8)(hl:xs.length<1000)(w:World)(hB:B≤w.heap.size)(hown:w.ownsRow B 5 1 v xs.length (nums .u8 xs)):
  Calls Tryz.prog 77 #[v,.int .u64 x,.int .i64 n] w fun e w'=>∃v',e = .returned v'∧w'.ownsRow B 5 1 v' (xs++be n x).length (nums .u8 (xs++be n x))∧Below B w w':=by
 go_enter Tryz.func77,Tryz.ntmps77
 go_wp2
 go_loopw [0,7] (fun v0 i0 wr=>∃(k:Nat) (ps:List Nat),k≤n∧i0 = .int .i64 ((k:Int) - 1)∧Hid (ps++be k x=be n x)∧wr.ownsRow B 5 1 v0 (xs++ps).length (nums .u8 (xs++ps))∧Below B w wr∧B≤wr.heap.size) (fun _ i0 _=>(intOf i0+1).toNat)
 case atStart=>exact⟨n,[],by omega,rfl,hid rfl,by simpa using hown,Below.refl _ _,hB⟩
 case round=>
  clear hown hB
  obtain⟨k,ps,hk,rfl,hps,hown,hb,hB⟩:=hrel
  by_cases h0:0<k
  ·obtain⟨j,rfl⟩:∃j,k=j+1:=⟨k - 1,by omega⟩
   have hol:(xs++ps).length<4294967296:=by
    have h1:=congrArg List.length hps.out
    simp [be_length] at h1
    simp
    omega
   have ej:(((j+1:Nat):Int) - 1)=(j:Int):=by omega
   rw [ej]
   clear ej
   go_wp2_with (at_builtin;refine wpList_push rfl _ _ 28 rfl tyBs B hown rfl rfl rfl rfl hol (by decide) hB ?_)
   intro v1 w1 hown1 hb1 hs1 _
   have hown2:w1.ownsRow B 5 1 v1 ((xs++ps).length+1) (nums .u8 (xs++ps)++[Value.int .u8 ((x:Int) / 2 ^ (8*j) % 256)]):=by rw [List.length_append];exact hown1
   have hown3:=own_snoc hown2 (be_digit x j)
   rw [List.append_assoc] at hown3
   clear hown1 hown2 hown
   go_wp2
   go_roundw
   case rel=>exact⟨j,ps++[x / 256 ^ j % 256],by omega,rfl,hid (by rw [List.append_assoc];exact hps.out),hown3,hb.trans hb1,by omega⟩
   case measure=>simp [intOf]
  ·obtain rfl:k=0:=by omega
   have hps':=hps.out
   simp only [be,List.append_nil] at hps'
   rw [hps'] at hown
   have H:=hid hown
   clear hown hps hps'
   go_wp2
   go_ret
   exact⟨_,rfl,H.out,hb⟩
def BytesRes(w:World)(xs:List Nat)(e:Ending)(w':World):Prop:=∃v,e = .returned v∧w'.ownsRow w.heap.size 5 1 v xs.length (nums .u8 xs)∧Below w.heap.size w w'
theorem size_lt(x:Nat):∀d∈size x,d<256:=by
 unfold size
 intro d hd
 split at hd
 ·simp at hd;omega
 ·split at hd
  ·rcases List.mem_cons.1 hd with rfl|hd
   ·omega
   ·exact be_lt _ _ d hd
  ·split at hd
   ·rcases List.mem_cons.1 hd with rfl|hd
    ·omega
    ·exact be_lt _ _ d hd
   ·rcases List.mem_cons.1 hd with rfl|hd
    ·omega
    ·exact be_lt _ _ d hd
set_option maxHeartbeats 1000000 in
theorem size_walk(x:Nat)(hx:x<18446744073709551616)(w:World):Calls Tryz.prog 56 #[.int .u64 x] w (BytesRes w (size x)):=by
 have L:=fun(d:Nat)=>hid (own_lit .u8 w #[.int .u8 (d:Int)] 5 (B:=w.heap.size) (n:=1) [d] rfl rfl (Nat.le_refl _) (by decide))
 have bb:=fun(d:Int)=>(Below.refl w.heap.size w).alloc (Nat.le_refl _) (.cells #[.int .u8 d] 5)
 have F:=fun v w' xs (h1:w'.ownsRow w.heap.size 5 1 v xs.length (nums .u8 xs)) (h2:Below w.heap.size w w')=>(⟨v,rfl,h1,h2⟩:BytesRes w xs (.returned v) w')
 by_cases h1:x<253
 ·have e:size x=[x]:=by unfold size;rw [if_pos h1]
  rw [e]
  have FF:=hid (F _ _ [x] (L x).out (bb x))
  clear F L bb e
  have t1:decide ((x:Int)<253)=true:=by rw [decide_eq_true_eq];omega
  have t2:(x:Int)≤252:=by omega
  clear h1
  go_enter Tryz.func56,Tryz.ntmps56
  go_wp2
  go_ret
  exact FF.out
 ·by_cases h2:x<65536
  ·have e:size x=[253]++be 2 x:=by unfold size;rw [if_neg h1,if_pos h2];rfl
   have E:=hid e
   have b:=bb 253
   have l:=L 253
   clear bb L e
   have t1:decide ((x:Int)<253)=false:=by rw [decide_eq_false_iff_not];omega
   have t2:decide ((x:Int)<65536)=true:=by rw [decide_eq_true_eq];omega
   clear h1 h2
   have C:=hid (big_walk w.heap.size _ [253] x 2 hx (by decide) (by simp) _ (by simp) l.out)
   go_enter Tryz.func56,Tryz.ntmps56
   go_wp2_with fail
   refine(C.out).mono ?_
   rintro e w1 ⟨v,rfl,hown,hb⟩
   have FF:=hid (F v w1 _ hown (b.trans hb))
   clear F hown hb
   go_wp2
   go_ret
   rw [E.out]
   exact FF.out
  ·by_cases h3:x<4294967296
   ·have e:size x=[254]++be 4 x:=by unfold size;rw [if_neg h1,if_neg h2,if_pos h3];rfl
    have E:=hid e
    have b:=bb 254
    have l:=L 254
    clear bb L e
    have t1:decide ((x:Int)<253)=false:=by rw [decide_eq_false_iff_not];omega
    have t2:decide ((x:Int)<65536)=false:=by rw [decide_eq_false_iff_not];omega
    have t3:decide ((x:Int)<4294967296)=true:=by rw [decide_eq_true_eq];omega
    clear h1 h2 h3
    have C:=hid (big_walk w.heap.size _ [254] x 4 hx (by decide) (by simp) _ (by simp) l.out)
    go_enter Tryz.func56,Tryz.ntmps56
    go_wp2_with fail
    refine(C.out).mono ?_
    rintro e w1 ⟨v,rfl,hown,hb⟩
    have FF:=hid (F v w1 _ hown (b.trans hb))
    clear F hown hb
    go_wp2
    go_ret
    rw [E.out]
    exact FF.out
   ·have e:size x=[255]++be 8 x:=by unfold size;rw [if_neg h1,if_neg h2,if_neg h3];rfl
    have E:=hid e
    have b:=bb 255
    have l:=L 255
    clear bb L e
    have t1:decide ((x:Int)<253)=false:=by rw [decide_eq_false_iff_not];omega
    have t2:decide ((x:Int)<65536)=false:=by rw [decide_eq_false_iff_not];omega
    have t3:decide ((x:Int)<4294967296)=false:=by rw [decide_eq_false_iff_not];omega
    clear h1 h2 h3
    have C:=hid (big_walk w.heap.size _ [255] x 8 hx (by decide) (by simp) _ (by simp) l.out)
    go_enter Tryz.func56,Tryz.ntmps56
    go_wp2_with fail
    refine(C.out).mono ?_
    rintro e w1 ⟨v,rfl,hown,hb⟩
    have FF:=hid (F v w1 _ hown (b.trans hb))
    clear F hown hb
    go_wp2
    go_ret
    rw [E.out]
    exact FF.out
end Go.Proofs.YtnbmpgballopeaaGreatDoor
/- Contract of the reference's Size; the statement TlvSizes. -/
namespace Go.Proofs.YtnbmpgballopeaaGreatDoor
open Go.RowKit
theorem shr_bound{x i:Nat}(hx:x<18446744073709551616):x / 256 ^ i<18446744073709551616:=Nat.lt_of_le_of_lt (Nat.div_le_self _ _) hx
theorem pow_succ_div(x i:Nat):x / 256 ^ (i+1)=x / 256 ^ i / 256:=by rw [Nat.pow_succ,Nat.div_div_eq_div_mul]
set_option maxHeartbeats 1000000 in
theorem rsize_small(x:Nat)(h1:x<253)(w:World):Calls Tryz.prog 57 #[.int .u64 x] w (BytesRes w (size x)):=by
 have e:size x=[x]:=by unfold size;rw [if_pos h1]
 rw [e]
 have t1:decide ((x:Int)<253)=true:=by rw [decide_eq_true_eq];omega
 have t2:decide ((x:Int)<65536)=true:=by rw [decide_eq_true_eq];omega
 have t3:decide ((x:Int)<4294967296)=true:=by rw [decide_eq_true_eq];omega
 have t4:(x:Int)≤252:=by omega
 clear h1 e
 have F:=fun W (hb:Below w.heap.size w W)=>hid (show BytesRes w [x] (.returned (.slice (some ⟨W.heap.size,0,none⟩) 1 1)) (W.alloc (.cells #[.int .u8 (x:Int)] 5)) from⟨_,rfl,own_lit .u8 W #[.int .u8 (x:Int)] 5 (B:=w.heap.size) (n:=1) [x] rfl rfl hb.size (by decide),hb.alloc hb.size _⟩)
 have FF:=F _ ((((Below.refl w.heap.size w).alloc (Nat.le_refl _) (.cells #[.int .u8 255] 5)).alloc (by simp <;> omega) (.cells #[.int .u8 254] 5)).alloc (by simp <;> omega) (.cells #[.int .u8 253] 5))
 clear F
 go_enter Tryz.func57,Tryz.ntmps57
 go_wp2
 go_ret
 simpa using FF.out
set_option maxHeartbeats 2000000 in
theorem rsize_2(x:Nat)(hx:x<18446744073709551616)(h1:¬ x<253)(h2:x<65536)(w:World):Calls Tryz.prog 57 #[.int .u64 x] w (BytesRes w (size x)):=by
 have e:size x=[253]++be 2 x:=by unfold size;rw [if_neg h1,if_pos h2];rfl
 rw [e]
 have t1:decide ((x:Int)<253)=false:=by rw [decide_eq_false_iff_not];omega
 have t2:decide ((x:Int)<65536)=true:=by rw [decide_eq_true_eq];omega
 have t3:decide ((x:Int)<4294967296)=true:=by rw [decide_eq_true_eq];omega
 clear h1 h2
 clear e
 have OH:=own_lit .u8 ((w.alloc (.cells #[.int .u8 255] 5)).alloc (.cells #[.int .u8 254] 5)) #[.int .u8 253] 5 (B:=w.heap.size) (n:=1) [253] rfl rfl (by simp <;> omega) (by decide)
 have BB:=((((Below.refl w.heap.size w).alloc (by simp <;> omega) (.cells #[.int .u8 255] 5)).alloc (by simp <;> omega) (.cells #[.int .u8 254] 5)).alloc (by simp <;> omega) (.cells #[.int .u8 253] 5))
 have hs0:=shr_bound (i:=0) hx
 generalize hW:(((w.alloc (.cells #[.int .u8 255] 5)).alloc (.cells #[.int .u8 254] 5)).alloc (.cells #[.int .u8 253] 5))=W at *
 have OH':=own_below OH ((Below.refl W.heap.size W).alloc (Nat.le_refl _) (.cells #[] 5))
 have BB':=BB.alloc BB.size (.cells #[] 5)
 have ST:SlV .u8 (W.alloc (.cells #[] 5)) (.slice (some ⟨W.heap.size,0,none⟩) 0 0) []:=(Sl.nilS _ _ (by omega) (fun e=>by cases e)).toV
 subst hW
 have O:=hid OH'
 have B0:=hid BB'
 have S0:=hid ST
 clear OH OH' BB BB' ST hs0
 go_enter Tryz.func57,Tryz.ntmps57
 go_wp2
 go_loopw [0,5,6] (fun x0 v i0 wr=>∃i:Nat,i≤2∧i0 = .int .i64 i∧x0 = .int .u64 ((x / 256 ^ i:Nat):Int)∧SlV .u8 wr v (be i x)∧Below w.heap.size w wr∧Hid (∃g,True∧wr.ownsRow w.heap.size 5 1 (.slice (some ⟨g,0,none⟩) 1 1) 1 (nums .u8 [253])∧g=w.heap.size+2)) (fun _ _ i0 _=>2 - (intOf i0).toNat)
 case atStart=>exact⟨0,by omega,rfl,by simp,by simpa [be] using S0.out,by simpa using B0.out,hid ⟨_,trivial,by simpa using O.out,rfl⟩⟩
 case round=>
  clear O B0 S0 t1 t2 t3
  obtain⟨i,hi,rfl,rfl,⟨at1,ct,rfl,st⟩,hbw,hO⟩:=hrel
  by_cases hlt:i<2
  ·have hxi:=shr_bound (i:=i) hx
   have hxs:=hid (pow_succ_div x i)
   have hbe:=hid (show [x / 256 ^ i % 256]++be i x=be (i+1) x from rfl)
   have hbl:=be_length i x
   generalize x / 256 ^ i=xi at *
   generalize be i x=ts at *
   have HBL:=hid hbl
   have hil:ts.length≤8:=by omega
   clear hbl
   have O1:=hid (own_lit .u8 wr #[.int .u8 ((xi:Int) % 256)] 5 (B:=wr.heap.size) (n:=1) [xi % 256] rfl rfl (Nat.le_refl _) (by decide))
   have bb:=(Below.refl wr.heap.size wr).alloc (Nat.le_refl _) (.cells #[.int .u8 ((xi:Int) % 256)] 5)
   have S1:=hid (st.below bb)
   clear st
   go_wp2_with (at_builtin;refine wpList_cat rfl _ _ 28 rfl tyBs wr.heap.size O1.out rfl rfl S1.out (nums_oneCell _ _) ?c1 ?c2 ?c3 ?_)
   case c1=>omega
   case c2=>unfold maxLen;omega
   case c3=>simp
   intro v1 w1 hown1 hb1 hs1 _
   rw [nums_append] at hown1
   have sv:=SlV.of_owns hown1
   rw [hbe.out] at sv
   have b1:Below wr.heap.size wr w1:=bb.trans hb1
   have hO':=hid (show ∃g,True∧w1.ownsRow w.heap.size 5 1 (.slice (some ⟨g,0,none⟩) 1 1) 1 (nums .u8 [253])∧g=w.heap.size+2 by
    obtain⟨g,_,o,e⟩:=hO.out
    exact⟨g,trivial,own_below o b1,e⟩)
   have hb':=bstep hbw b1
   clear hown1 hb1 hs1 bb S1 O1 hO b1 hbw
   go_wp2
   go_roundw
   case rel=>exact⟨i+1,by omega,by go_num,by rw [hxs.out];go_num,sv,hb',hO'⟩
   case measure=>simp [intOf];omega
  ·obtain rfl:i=2:=by omega
   obtain⟨g,_,o,rfl⟩:=hO.out
   have hbl:=be_length 2 x
   have OO:=hid o
   have SS:=hid st
   have hln:(be 2 x).length≤8:=by omega
   generalize be 2 x=ts at *
   clear hO o st hbl
   go_wp2_with (at_builtin;refine wpList_cat rfl _ _ 28 rfl tyBs w.heap.size OO.out rfl rfl SS.out (nums_oneCell _ _) ?k1 ?k2 ?k3 ?_)
   case k1=>omega
   case k2=>unfold maxLen;omega
   case k3=>exact hbw.size
   intro v1 w1 hown1 hb1 hs1 _
   rw [nums_append] at hown1
   have F:=hid (show BytesRes w ([253]++ts) (.returned v1) w1 from⟨v1,rfl,by simpa [Nat.add_comm] using hown1,hbw.trans hb1⟩)
   clear hown1 hb1 hs1
   go_wp2
   go_ret
   exact F.out
set_option maxHeartbeats 2000000 in
theorem rsize_4(x:Nat)(hx:x<18446744073709551616)(h1:¬ x<253)(h2:¬ x<65536)(h3:x<4294967296)(w:World):Calls Tryz.prog 57 #[.int .u64 x] w (BytesRes w (size x)):=by
 have e:size x=[254]++be 4 x:=by unfold size;rw [if_neg h1,if_neg h2,if_pos h3];rfl
 rw [e]
 have t1:decide ((x:Int)<253)=false:=by rw [decide_eq_false_iff_not];omega
 have t2:decide ((x:Int)<65536)=false:=by rw [decide_eq_false_iff_not];omega
 have t3:decide ((x:Int)<4294967296)=true:=by rw [decide_eq_true_eq];omega
 clear h1 h2 h3
 clear e
 have OH:=own_lit .u8 (w.alloc (.cells #[.int .u8 255] 5)) #[.int .u8 254] 5 (B:=w.heap.size) (n:=1) [254] rfl rfl (by simp <;> omega) (by decide)
 have BB:=(((Below.refl w.heap.size w).alloc (by simp <;> omega) (.cells #[.int .u8 255] 5)).alloc (by simp <;> omega) (.cells #[.int .u8 254] 5))
 have hs0:=shr_bound (i:=0) hx
 generalize hW:((w.alloc (.cells #[.int .u8 255] 5)).alloc (.cells #[.int .u8 254] 5))=W at *
 have OH':=own_below OH ((Below.refl W.heap.size W).alloc (Nat.le_refl _) (.cells #[] 5))
 have BB':=BB.alloc BB.size (.cells #[] 5)
 have ST:SlV .u8 (W.alloc (.cells #[] 5)) (.slice (some ⟨W.heap.size,0,none⟩) 0 0) []:=(Sl.nilS _ _ (by omega) (fun e=>by cases e)).toV
 subst hW
 have O:=hid OH'
 have B0:=hid BB'
 have S0:=hid ST
 clear OH OH' BB BB' ST hs0
 go_enter Tryz.func57,Tryz.ntmps57
 go_wp2
 go_loopw [0,5,6] (fun x0 v i0 wr=>∃i:Nat,i≤4∧i0 = .int .i64 i∧x0 = .int .u64 ((x / 256 ^ i:Nat):Int)∧SlV .u8 wr v (be i x)∧Below w.heap.size w wr∧Hid (∃g,True∧wr.ownsRow w.heap.size 5 1 (.slice (some ⟨g,0,none⟩) 1 1) 1 (nums .u8 [254])∧g=w.heap.size+1)) (fun _ _ i0 _=>4 - (intOf i0).toNat)
 case atStart=>exact⟨0,by omega,rfl,by simp,by simpa [be] using S0.out,by simpa using B0.out,hid ⟨_,trivial,by simpa using O.out,rfl⟩⟩
 case round=>
  clear O B0 S0 t1 t2 t3
  obtain⟨i,hi,rfl,rfl,⟨at1,ct,rfl,st⟩,hbw,hO⟩:=hrel
  by_cases hlt:i<4
  ·have hxi:=shr_bound (i:=i) hx
   have hxs:=hid (pow_succ_div x i)
   have hbe:=hid (show [x / 256 ^ i % 256]++be i x=be (i+1) x from rfl)
   have hbl:=be_length i x
   generalize x / 256 ^ i=xi at *
   generalize be i x=ts at *
   have HBL:=hid hbl
   have hil:ts.length≤8:=by omega
   clear hbl
   have O1:=hid (own_lit .u8 wr #[.int .u8 ((xi:Int) % 256)] 5 (B:=wr.heap.size) (n:=1) [xi % 256] rfl rfl (Nat.le_refl _) (by decide))
   have bb:=(Below.refl wr.heap.size wr).alloc (Nat.le_refl _) (.cells #[.int .u8 ((xi:Int) % 256)] 5)
   have S1:=hid (st.below bb)
   clear st
   go_wp2_with (at_builtin;refine wpList_cat rfl _ _ 28 rfl tyBs wr.heap.size O1.out rfl rfl S1.out (nums_oneCell _ _) ?c1 ?c2 ?c3 ?_)
   case c1=>omega
   case c2=>unfold maxLen;omega
   case c3=>simp
   intro v1 w1 hown1 hb1 hs1 _
   rw [nums_append] at hown1
   have sv:=SlV.of_owns hown1
   rw [hbe.out] at sv
   have b1:Below wr.heap.size wr w1:=bb.trans hb1
   have hO':=hid (show ∃g,True∧w1.ownsRow w.heap.size 5 1 (.slice (some ⟨g,0,none⟩) 1 1) 1 (nums .u8 [254])∧g=w.heap.size+1 by
    obtain⟨g,_,o,e⟩:=hO.out
    exact⟨g,trivial,own_below o b1,e⟩)
   have hb':=bstep hbw b1
   clear hown1 hb1 hs1 bb S1 O1 hO b1 hbw
   go_wp2
   go_roundw
   case rel=>exact⟨i+1,by omega,by go_num,by rw [hxs.out];go_num,sv,hb',hO'⟩
   case measure=>simp [intOf];omega
  ·obtain rfl:i=4:=by omega
   obtain⟨g,_,o,rfl⟩:=hO.out
   have hbl:=be_length 4 x
   have OO:=hid o
   have SS:=hid st
   have hln:(be 4 x).length≤8:=by omega
   generalize be 4 x=ts at *
   clear hO o st hbl
   go_wp2_with (at_builtin;refine wpList_cat rfl _ _ 28 rfl tyBs w.heap.size OO.out rfl rfl SS.out (nums_oneCell _ _) ?k1 ?k2 ?k3 ?_)
   case k1=>omega
   case k2=>unfold maxLen;omega
   case k3=>exact hbw.size
   intro v1 w1 hown1 hb1 hs1 _
   rw [nums_append] at hown1
   have F:=hid (show BytesRes w ([254]++ts) (.returned v1) w1 from⟨v1,rfl,by simpa [Nat.add_comm] using hown1,hbw.trans hb1⟩)
   clear hown1 hb1 hs1
   go_wp2
   go_ret
   exact F.out
set_option maxHeartbeats 2000000 in
theorem rsize_8(x:Nat)(hx:x<18446744073709551616)(h1:¬ x<253)(h2:¬ x<65536)(h3:¬ x<4294967296)(w:World):Calls Tryz.prog 57 #[.int .u64 x] w (BytesRes w (size x)):=by
 have e:size x=[255]++be 8 x:=by unfold size;rw [if_neg h1,if_neg h2,if_neg h3];rfl
 rw [e]
 have t1:decide ((x:Int)<253)=false:=by rw [decide_eq_false_iff_not];omega
 have t2:decide ((x:Int)<65536)=false:=by rw [decide_eq_false_iff_not];omega
 have t3:decide ((x:Int)<4294967296)=false:=by rw [decide_eq_false_iff_not];omega
 clear h1 h2 h3
 clear e
 have OH:=own_lit .u8 w #[.int .u8 255] 5 (B:=w.heap.size) (n:=1) [255] rfl rfl (by simp <;> omega) (by decide)
 have BB:=((Below.refl w.heap.size w).alloc (by simp <;> omega) (.cells #[.int .u8 255] 5))
 have hs0:=shr_bound (i:=0) hx
 generalize hW:(w.alloc (.cells #[.int .u8 255] 5))=W at *
 have OH':=own_below OH ((Below.refl W.heap.size W).alloc (Nat.le_refl _) (.cells #[] 5))
 have BB':=BB.alloc BB.size (.cells #[] 5)
 have ST:SlV .u8 (W.alloc (.cells #[] 5)) (.slice (some ⟨W.heap.size,0,none⟩) 0 0) []:=(Sl.nilS _ _ (by omega) (fun e=>by cases e)).toV
 subst hW
 have O:=hid OH'
 have B0:=hid BB'
 have S0:=hid ST
 clear OH OH' BB BB' ST hs0
 go_enter Tryz.func57,Tryz.ntmps57
 go_wp2
 go_loopw [0,5,6] (fun x0 v i0 wr=>∃i:Nat,i≤8∧i0 = .int .i64 i∧x0 = .int .u64 ((x / 256 ^ i:Nat):Int)∧SlV .u8 wr v (be i x)∧Below w.heap.size w wr∧Hid (∃g,True∧wr.ownsRow w.heap.size 5 1 (.slice (some ⟨g,0,none⟩) 1 1) 1 (nums .u8 [255])∧g=w.heap.size)) (fun _ _ i0 _=>8 - (intOf i0).toNat)
 case atStart=>exact⟨0,by omega,rfl,by simp,by simpa [be] using S0.out,by simpa using B0.out,hid ⟨_,trivial,by simpa using O.out,rfl⟩⟩
 case round=>
  clear O B0 S0 t1 t2 t3
  obtain⟨i,hi,rfl,rfl,⟨at1,ct,rfl,st⟩,hbw,hO⟩:=hrel
  by_cases hlt:i<8
  ·have hxi:=shr_bound (i:=i) hx
   have hxs:=hid (pow_succ_div x i)
   have hbe:=hid (show [x / 256 ^ i % 256]++be i x=be (i+1) x from rfl)
   have hbl:=be_length i x
   generalize x / 256 ^ i=xi at *
   generalize be i x=ts at *
   have HBL:=hid hbl
   have hil:ts.length≤8:=by omega
   clear hbl
   have O1:=hid (own_lit .u8 wr #[.int .u8 ((xi:Int) % 256)] 5 (B:=wr.heap.size) (n:=1) [xi % 256] rfl rfl (Nat.le_refl _) (by decide))
   have bb:=(Below.refl wr.heap.size wr).alloc (Nat.le_refl _) (.cells #[.int .u8 ((xi:Int) % 256)] 5)
   have S1:=hid (st.below bb)
   clear st
   go_wp2_with (at_builtin;refine wpList_cat rfl _ _ 28 rfl tyBs wr.heap.size O1.out rfl rfl S1.out (nums_oneCell _ _) ?c1 ?c2 ?c3 ?_)
   case c1=>omega
   case c2=>unfold maxLen;omega
   case c3=>simp
   intro v1 w1 hown1 hb1 hs1 _
   rw [nums_append] at hown1
   have sv:=SlV.of_owns hown1
   rw [hbe.out] at sv
   have b1:Below wr.heap.size wr w1:=bb.trans hb1
   have hO':=hid (show ∃g,True∧w1.ownsRow w.heap.size 5 1 (.slice (some ⟨g,0,none⟩) 1 1) 1 (nums .u8 [255])∧g=w.heap.size by
    obtain⟨g,_,o,e⟩:=hO.out
    exact⟨g,trivial,own_below o b1,e⟩)
   have hb':=bstep hbw b1
   clear hown1 hb1 hs1 bb S1 O1 hO b1 hbw
   go_wp2
   go_roundw
   case rel=>exact⟨i+1,by omega,by go_num,by rw [hxs.out];go_num,sv,hb',hO'⟩
   case measure=>simp [intOf];omega
  ·obtain rfl:i=8:=by omega
   obtain⟨g,_,o,rfl⟩:=hO.out
   have hbl:=be_length 8 x
   have OO:=hid o
   have SS:=hid st
   have hln:(be 8 x).length≤8:=by omega
   generalize be 8 x=ts at *
   clear hO o st hbl
   go_wp2_with (at_builtin;refine wpList_cat rfl _ _ 28 rfl tyBs w.heap.size OO.out rfl rfl SS.out (nums_oneCell _ _) ?k1 ?k2 ?k3 ?_)
   case k1=>omega
   case k2=>unfold maxLen;omega
   case k3=>exact hbw.size
   intro v1 w1 hown1 hb1 hs1 _
   rw [nums_append] at hown1
   have F:=hid (show BytesRes w ([255]++ts) (.returned v1) w1 from⟨v1,rfl,by simpa [Nat.add_comm] using hown1,hbw.trans hb1⟩)
   clear hown1 hb1 hs1
   go_wp2
   go_ret
   exact F.out
theorem rsize_walk(x:Nat)(hx:x<18446744073709551616)(w:World):Calls Tryz.prog 57 #[.int .u64 x] w (BytesRes w (size x)):=by
 by_cases h1:x<253
 ·exact rsize_small x h1 w
 ·by_cases h2:x<65536
  ·exact rsize_2 x hx h1 h2 w
  ·by_cases h3:x<4294967296
   ·exact rsize_4 x hx h1 h2 h3 w
   ·exact rsize_8 x hx h1 h2 h3 w
end Go.Proofs.YtnbmpgballopeaaGreatDoor
/- Plain facts on the number with which bytes begin. No program in sight. -/
namespace Go.Proofs.YtnbmpgballopeaaGreatDoor
def beVal(bs:List Nat):Nat:=bs.foldl (fun x c=>x*256+c) 0
theorem beVal_snoc(bs:List Nat)(c:Nat):beVal (bs++[c])=beVal bs*256+c:=by simp [beVal]
theorem beVal_lt(bs:List Nat)(h:∀d∈bs,d<256):beVal bs<256 ^ bs.length:=by
 rcases List.eq_nil_or_concat bs with rfl|⟨ys,d,rfl⟩
 ·simp [beVal]
 ·rw [List.concat_eq_append] at *
  have ih:=beVal_lt ys (fun e he=>h e (by simp [he]))
  have hd:=h d (by simp)
  rw [beVal_snoc,List.length_append,List.length_singleton,Nat.pow_succ]
  omega
termination_by bs.length
def folN(h:Nat):Nat:=if h=253 then 2 else if h=254 then 4 else if h=255 then 8 else 0
def folL(h:Nat):Nat:=if h=253 then 253 else if h=254 then 65536 else if h=255 then 4294967296 else 0
def readS(bs:List Nat):Nat × Nat × Nat:=
 match bs with
 | []=>(0,0,20)
 | h::t=>if folN h=0 then (h,1,0) else if t.length<folN h then (0,0,20) else if beVal (t.take (folN h))<folL h then (0,0,21) else (beVal (t.take (folN h)),folN h+1,0)
end Go.Proofs.YtnbmpgballopeaaGreatDoor

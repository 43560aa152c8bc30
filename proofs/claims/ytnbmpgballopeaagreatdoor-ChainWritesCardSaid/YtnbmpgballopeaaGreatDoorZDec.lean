/- The walk of tlv.Decode. -/
import Derived.Test.YtnbmpgballopeaaGreatDoorZTkn
namespace Go.Proofs.YtnbmpgballopeaaGreatDoor
open Go.RowKit
theorem dec_e1{p:Option Nat}{n:Nat}{xs:List Nat}{t m e:Nat}(h0:xs≠[])(hR:readS xs=(t,m,e))(he:e≠0):decGo (xs.length+1) p n xs=([],e):=by
 rw [decGo_cons _ _ h0,hR,if_pos he]
theorem dec_e2{p:Option Nat}{n:Nat}{xs:List Nat}{t m:Nat}(h0:xs≠[])(hR:readS xs=(t,m,0))(hp:p.any (fun q=>decide (t≤q))=true):decGo (xs.length+1) p n xs=([],22):=by
 rw [decGo_cons _ _ h0,hR];simp only [ne_eq,not_true_eq_false,if_false,if_pos hp]
theorem dec_e3{p:Option Nat}{n:Nat}{xs:List Nat}{t m sz k e:Nat}(h0:xs≠[])(hR:readS xs=(t,m,0))(hp:¬ p.any (fun q=>decide (t≤q))=true)(hS:readS (xs.drop m)=(sz,k,e))(he:e≠0):decGo (xs.length+1) p n xs=([],e):=by
 rw [decGo_cons _ _ h0,hR];simp only [ne_eq,not_true_eq_false,if_false,if_neg hp,hS,he,not_false_eq_true,if_true]
theorem dec_e4{p:Option Nat}{n:Nat}{xs:List Nat}{t m sz k:Nat}(h0:xs≠[])(hR:readS xs=(t,m,0))(hp:¬ p.any (fun q=>decide (t≤q))=true)(hS:readS (xs.drop m)=(sz,k,0))(h1:65536<sz):decGo (xs.length+1) p n xs=([],3):=by
 rw [decGo_cons _ _ h0,hR];simp only [ne_eq,not_true_eq_false,if_false,if_neg hp,hS,if_pos h1]
theorem dec_e5{p:Option Nat}{n:Nat}{xs:List Nat}{t m sz k:Nat}(h0:xs≠[])(hR:readS xs=(t,m,0))(hp:¬ p.any (fun q=>decide (t≤q))=true)(hS:readS (xs.drop m)=(sz,k,0))(h1:¬ 65536<sz)(h2:((xs.drop m).drop k).length<sz):decGo (xs.length+1) p n xs=([],20):=by
 rw [decGo_cons _ _ h0,hR];simp only [ne_eq,not_true_eq_false,if_false,if_neg hp,hS,if_neg h1,if_pos h2]
theorem dec_e6{p:Option Nat}{n:Nat}{xs:List Nat}{t m sz k:Nat}(h0:xs≠[])(hR:readS xs=(t,m,0))(hp:¬ p.any (fun q=>decide (t≤q))=true)(hS:readS (xs.drop m)=(sz,k,0))(h1:¬ 65536<sz)(h2:¬ ((xs.drop m).drop k).length<sz)(h3:256≤n):decGo (xs.length+1) p n xs=([],4):=by
 rw [decGo_cons _ _ h0,hR];simp only [ne_eq,not_true_eq_false,if_false,if_neg hp,hS,if_neg h1,if_neg h2,if_pos h3]
theorem dec_next{ls:List LR}{l:LR}{xs:List Nat}{t m sz k:Nat}(h0:xs≠[])(hR:readS xs=(t,m,0))(hp:¬ (lastT ls).any (fun q=>decide (t≤q))=true)(hS:readS (xs.drop m)=(sz,k,0))(h1:¬ 65536<sz)(h2:¬ ((xs.drop m).drop k).length<sz)(h3:¬ 256≤ls.length)(hl:l.pr=(t,((xs.drop m).drop k).take sz)):
  comb ls (decGo (xs.length+1) (lastT ls) ls.length xs)=comb (ls++[l]) (decGo ((((xs.drop m).drop k).drop sz).length+1) (lastT (ls++[l])) (ls++[l]).length (((xs.drop m).drop k).drop sz)):=by
 have hlt:l.t=t:=congrArg Prod.fst hl
 have e1:lastT (ls++[l])=some t:=by simp [lastT,hlt]
 rw [decGo_cons _ _ h0,hR];simp only [ne_eq,not_true_eq_false,if_false,if_neg hp,hS,if_neg h1,if_neg h2,if_neg h3]
 rw [e1,List.length_append,List.length_singleton]
 generalize decGo ((((xs.drop m).drop k).drop sz).length+1) (some t) (ls.length+1) (((xs.drop m).drop k).drop sz)=u
 unfold comb
 by_cases hu:u.2=0
 ·simp [hu,hl]
 ·simp [hu]
theorem dec_init(bs:List Nat):decS bs=comb [] (decS bs):=by
 have key:∀f p n xs,(decGo f p n xs).2≠0→(decGo f p n xs).1=[]:=by
  intro f
  cases f with
  | zero=>intro p n xs h;simp [decGo] at h
  | succ f=>
   intro p n xs h
   cases xs with
   | nil=>simp [decGo] at h
   | cons x r=>
    unfold decGo at h ⊢
    simp only at h ⊢
    (repeat' split) <;> first|rfl|simp_all
    all_goals (split at h)
    all_goals first|omega|(simp at h)
 unfold comb
 by_cases e:(decS bs).2≠0
 ·rw [if_pos e,← key _ _ _ _ e];rfl
 ·rw [if_neg e]
  have:(decS bs).2=0:=by simpa using e
  rw [← this];rfl
theorem readS_lt{xs:List Nat}{t m e:Nat}(h:readS xs=(t,m,e))(hx:∀d∈xs,d<256):t<18446744073709551616:=by
 cases xs with
 | nil=>simp [readS] at h;omega
 | cons x r=>
  have hx1:=hx x (by simp)
  unfold readS at h
  simp only at h
  split at h
  ·simp at h;omega
  ·split at h
   ·simp at h;omega
   ·split at h
    ·simp at h;omega
    ·simp only [Prod.mk.injEq] at h
     rw [← h.1]
     have h1:=beVal_lt (r.take (folN x)) (fun d hd=>hx d (by simp [List.mem_of_mem_take hd]))
     have h2:(r.take (folN x)).length≤8:=by
      have:folN x≤8:=by unfold folN;(repeat' split) <;> omega
      simp;omega
     have h3:256 ^ (r.take (folN x)).length≤256 ^ 8:=Nat.pow_le_pow_right (by omega) h2
     omega
theorem dec_mem{w0 wr w2 w4:World}{e et:TypeId}{v v4:Value}{ls:List LR}{a2:Option Addr}{c2 sz t:Nat}{ys:List Nat}(hz:ys.length=sz)(HO:wr.ownsRow w0.heap.size e 2 v ls.length (ls.flatMap LR.cells))(het:e≠5)(HG:∀l∈ls,RG wr w0.heap.size v l)(HB:Below w0.heap.size w0 wr)
  (own2:w2.ownsRow wr.heap.size 5 1 (.slice a2 sz c2) sz (nums .u8 ys)) (hb2:Below wr.heap.size wr w2) (ht:t<18446744073709551616) (hy:∀d∈ys,d<256) (hyl:sz≤140737488351232)
  (own4:w4.ownsRow w0.heap.size e 2 v4 (ls.length+1) (ls.flatMap LR.cells++[Value.int .u64 (t:Int),.slice a2 sz c2])) (hg4:(w2.alloc (.cells #[.int .u64 (t:Int),.slice a2 sz c2] et)).grownBy w4 v.ownBlock)
  (hv4:v4.ownBlock=v.ownBlock∨v4.ownBlock=some (w2.alloc (.cells #[.int .u64 (t:Int),.slice a2 sz c2] et)).heap.size):
  w4.ownsRow w0.heap.size e 2 v4 (ls++[LR.mk t a2 c2 ys]).length ((ls++[LR.mk t a2 c2 ys]).flatMap LR.cells)∧(∀l∈ls++[LR.mk t a2 c2 ys],RG w4 w0.heap.size v4 l)∧Below w0.heap.size w0 w4:=by
 have ba:=(Below.refl w2.heap.size w2).alloc (Nat.le_refl _) (.cells #[.int .u64 (t:Int),.slice a2 sz c2] et)
 have b3:Below wr.heap.size wr (w2.alloc (.cells #[.int .u64 (t:Int),.slice a2 sz c2] et)):=hb2.trans (ba.mono hb2.size)
 refine⟨?_,fun l hl=>?_,?_⟩
 ·rw [List.length_append,List.flatMap_append]
  simpa [LR.cells,hz] using own4
 ·rcases List.mem_append.1 hl with hl|hl
  ·obtain⟨g1,g2,g3,g4⟩:=HG l hl
   exact⟨g1,(g2.below b3).grew hg4 hv4,g3,own_grew (own_below g4 b3) (own_below HO b3) (Ne.symm het) hg4⟩
  ·simp only [List.mem_singleton] at hl
   subst hl
   have s2:Sl .u8 w2 a2 sz c2 ys:=sl_of_own own2
   refine⟨ht,?_,⟨hy,by show ys.length≤_;omega⟩,?_⟩
   rotate_left
   ·show w4.ownsRow w0.heap.size 5 1 (.slice a2 ys.length c2) ys.length (nums .u8 ys)
    rw [hz]
    exact own_grew (own_below (own_mono own2 HB.size) ba) (own_below HO b3) (Ne.symm het) hg4
   show ApartSl w4 v4 a2 ys.length c2 ys
   rw [hz]
   refine ApartSl.grew ⟨s2.below ba,fun h0 b off ha hv=>?_⟩ hg4 hv4
   have h1:=(HO.lt b hv).2
   rcases own2.2 with⟨e,_⟩|⟨g,cap,cur,e,hbg,_⟩
   ·simp [ha] at e
   ·simp at e
    rw [ha] at e
    simp at e
    all_goals omega
 ·have hsz:w0.heap.size≤wr.heap.size:=HB.size
  exact(HB.trans (b3.mono hsz)).grown hg4 (Nat.le_trans hsz b3.size) (fun k hk=>(HO.lt k hk).1)
set_option maxRecDepth 100000 in
set_option maxHeartbeats 4000000 in
theorem dec_walk2(a:Option Addr)(n cap:Nat)(bs:List Nat)(hbs:∀d∈bs,d<256)(hn:n≤140737488351232)(w:World)(h:Sl .u8 w a n cap bs):
  Calls Tryz.prog 43 #[.slice a n cap] w (DecRes2 82 w bs):=by
 have HL:=hid h.len
 go_enter Tryz.func43,Tryz.ntmps43
 go_wp2
 go_loopw [0,4] (fun x0 x4 wr=>DRel w n bs 82 x0 x4 wr) (fun x0 _ _=>lenOf x0)
 case atStart=>exact⟨a,cap,bs,_,[],by rw [HL.out],rfl,by rw [HL.out];exact h,hbs,own_nil' _ _ _ _,by simp,Below.refl _ _,by simp,by rw [HL.out];exact Nat.le_refl _,hid (dec_init bs)⟩
 case round=>
  clear h hbs
  obtain⟨a,c,xs,v,ls,rfl,rfl,hs,hx,hown,hg,hb,hl,hxl,hd⟩:=hrel
  by_cases h0:xs=[]
  ·subst h0
   have hd':=hd.out
   obtain⟨a4,c4,rfl,r4⟩:=Rd.of_owns hown
   have e:decS bs=(ls.map LR.pr,0):=by rw [hd'];simp [decGo,comb]
   have F:=hid (show DecRes2 82 w bs (.returned (.tuple #[.slice a4 ls.length c4,.int .i64 0])) wr from⟨_,ls,by rw [e];rfl,⟨a4,c4,rfl,r4,rfl,fun l hl=>⟨(hg l hl).1,(hg l hl).2.1.1,(hg l hl).2.2.1⟩⟩,by rw [e],hl,hb,hown,fun l hl=>(hg l hl).2.2.2⟩)
   clear hd hd' e hg hown hs hx r4
   go_wp2
   go_ret2
   exact F.out
  ·have hx0:0<xs.length:=List.length_pos_iff.2 h0
   have h0':=hid h0
   clear h0
   obtain⟨bk,off,ha,_⟩:=hs.opened
   obtain rfl:=ha hx0
   have C1:=hid (read_walk (some ⟨bk,off,none⟩) xs.length c xs hx (by omega) wr (hs.below hb))
   have HS:=hid hs
   have HD:=hd
   have BAD:=hid (fun(z:Nat) (e:decGo (xs.length+1) (lastT ls) ls.length xs=([],z)) (h0:z≠0) w' (hb:Below w.heap.size w w')=>DecRes2.bad (et:=82) (w':=w') hd.out e h0 hb)
   generalize hR:readS xs=R at *
   obtain⟨t,m,e⟩:=R
   have HR:=hid hR
   have HG:=hid hg
   have HO:=hid hown
   have HB:=hid hb
   have hcap:=hs.2.1
   clear hR hd hg hs
   by_cases he:e=0
   ·subst he
    rcases Nat.eq_zero_or_pos ls.length with hl0|hl0
    ·obtain rfl:ls=[]:=List.eq_nil_of_length_eq_zero hl0
     obtain⟨a4,c4,rfl,r4⟩:=Rd.of_owns hown
     have HP:=hid (show ¬ (lastT ([]:List LR)).any (fun q=>decide (t≤q))=true by simp [lastT])
     clear r4 hown
     have hm:=readS_len (bs:=xs) (by rw [HR.out])
     rw [HR.out] at hm
     have hm1:1≤m:=hm.1
     have hm2:m≤xs.length:=hm.2
     clear hm
     have hx2:∀d∈xs.drop m,d<256:=fun d hd=>hx d (List.mem_of_mem_drop hd)
     have hld:(xs.drop m).length=xs.length - m:=List.length_drop
     generalize hS:readS (xs.drop m)=R2 at *
     obtain⟨sz,k,e2⟩:=R2
     have HS2:=hid hS
     have HX2:=hid hx2
     have HLD:=hid hld
     clear hS hx2 hld
     go_wp2_with fail
     refine C1.out.mono ?_
     rintro e w1 ⟨rfl,rfl⟩
     rw [RdV3]
     go_wp2_with (refine wpList_dropS rfl _ _ rfl HS.out rfl (.inl rfl) hm2 ?_)
     intro b2 o2 s2
     have D2:=hid s2
     clear s2
     have C2:=hid (read_walk (some ⟨b2,o2,none⟩) (xs.length - m) (c - m) (xs.drop m) HX2.out (by omega) wr (D2.out.below HB.out))
     rw [HS2.out] at C2
     go_wp2_with fail
     refine C2.out.mono ?_
     rintro e w2 ⟨rfl,rfl⟩
     rw [RdV3]
     clear C2
     by_cases he2:e2=0
     ·subst he2
      have hk:=readS_len (bs:=xs.drop m) (by rw [HS2.out])
      rw [HS2.out,HLD.out] at hk
      have hk1:1≤k:=hk.1
      have hk2:k≤xs.length - m:=hk.2
      clear hk
      have hlk:((xs.drop m).drop k).length=xs.length - m - k:=by rw [List.length_drop,HLD.out]
      have HLK:=hid hlk
      clear hlk
      go_wp2_with (refine wpList_dropS rfl _ _ rfl D2.out rfl (.inl rfl) hk2 ?_)
      intro b3 o3 s3
      have D3:=hid (show Sl .u8 w (some ⟨b3,o3,none⟩) (xs.length - m - k) (c - m - k) ((xs.drop m).drop k) by first|exact s3|(rw [List.drop_drop];exact s3))
      clear s3
      by_cases q1:65536<sz
      ·have tq1:decide ((sz:Int) > 65536)=true:=by rw [decide_eq_true_eq];omega
       have F:=hid (BAD.out 3 (dec_e4 h0'.out HR.out HP.out HS2.out q1) (by first|decide|assumption) _ HB.out)
       clear BAD HD
       go_wp2
       go_ret2
       exact F.out
      ·have tq1:decide ((sz:Int) > 65536)=false:=by rw [decide_eq_false_iff_not];omega
       have hwr:IntKind.u64.wrap ((xs.length - m - k:Nat):Int)=((xs.length - m - k:Nat):Int):=by
        have hz:xs.length - m - k<18446744073709551616:=by omega
        generalize xs.length - m - k=z at *
        simp [IntKind.wrap,IntKind.signed,IntKind.bits];omega
       by_cases q2:xs.length - m - k<sz
       ·have tq2:decide (xs.length - m - k<sz)=true:=by rw [decide_eq_true_eq];omega
        have HQ2:=hid (show((xs.drop m).drop k).length<sz by rw [HLK.out];exact q2)
        have F:=hid (BAD.out 20 (dec_e5 h0'.out HR.out HP.out HS2.out q1 HQ2.out) (by first|decide|assumption) _ HB.out)
        clear BAD HD
        go_wp2
        go_ret2
        exact F.out
       ·have tq2:decide (xs.length - m - k<sz)=false:=by rw [decide_eq_false_iff_not];omega
        have HQ2:=hid (show ¬ ((xs.drop m).drop k).length<sz by rw [HLK.out];exact q2)
        by_cases q3:0=256
        ·have tq3:((0:Nat):Int)=256:=by omega
         have F:=hid (BAD.out 4 (dec_e6 h0'.out HR.out HP.out HS2.out q1 HQ2.out (by omega)) (by decide) _ HB.out)
         clear BAD HD
         go_wp2
         go_ret2
         exact F.out
        ·have tq3:(((0:Nat):Int) == 256)=false:=by first|(simp;done)|(simp;omega)
         have hsz:sz≤xs.length - m - k:=by omega
         have S4:=hid ((D3.out.take (m:=sz) hsz).below HB.out)
         have NX:=hid (fun(l:LR) (hl:l.pr=(t,((xs.drop m).drop k).take sz))=>dec_next h0'.out HR.out HP.out HS2.out q1 HQ2.out (by omega) hl)
         have HZ:=hid (show(((xs.drop m).drop k).take sz).length=sz by rw [List.length_take,HLK.out];omega)
         have HX3:=hid (show ∀d∈((xs.drop m).drop k).take sz,d<256 from fun d hd=>HX2.out d (List.mem_of_mem_drop (List.mem_of_mem_take hd)))
         have HX4:=hid (show ∀d∈((xs.drop m).drop k).drop sz,d<256 from fun d hd=>HX2.out d (List.mem_of_mem_drop (List.mem_of_mem_drop hd)))
         have HLD5:=hid (show(((xs.drop m).drop k).drop sz).length=xs.length - m - k - sz by rw [List.length_drop,HLK.out])
         have ht64:=hid (readS_lt HR.out hx)
         generalize ((xs.drop m).drop k).take sz=ys at *
         clear BAD q1 q2
         go_wp2_with (at_builtin;refine wpList_cat rfl _ _ 28 rfl tyBs wr.heap.size (own_nil' _ _ _ _) rfl rfl S4.out (nums_oneCell _ _) ?CC1 ?CC2 ?CC3 ?_)
         case CC1=>omega
         case CC2=>unfold maxLen;omega
         case CC3=>exact Nat.le_refl _
         intro v2 w2 own2 hb2 hs2
         obtain⟨a2',c2',rfl,r2'⟩:=Rd.of_owns own2
         have OW2:=hid own2
         have BW2:=hid hb2
         clear own2 hb2 r2' S4
         have O3:=hid (own_below (own_below HO.out BW2.out) ((Below.refl w2.heap.size w2).alloc (Nat.le_refl _) (.cells #[.int .u64 (t:Int),.slice a2' sz c2'] 82)))
         go_wp2_with (at_builtin;refine wpList_pushG rfl _ _ 84 rfl tyRec w.heap.size O3.out rfl w2.heap.size rfl rfl rfl rfl (by omega) (by decide) (Nat.le_trans HB.out.size BW2.out.size) ?_)
         intro v4 w4 own4 hg4 hv4
         have MEM:=hid (dec_mem HZ.out HO.out (by decide) HG.out HB.out OW2.out BW2.out ht64.out HX3.out (by omega) own4 hg4 (by simpa using hv4))
         clear own4 hg4 hv4 O3
         go_wp2_with (refine wpList_dropS rfl _ _ rfl D3.out rfl (.inr rfl) hsz ?_)
         intro b5 o5 s5
         have S5:=hid (show Sl .u8 w (some ⟨b5,o5,none⟩) (xs.length - m - k - sz) (c - m - k - sz) (((xs.drop m).drop k).drop sz) by first|exact s5|(simpa only [List.drop_drop] using s5))
         clear s5
         go_wp2
         go_roundw
         case rel=>exact⟨some ⟨b5,o5,none⟩,_,_,v4,_,by rw [HLD5.out],rfl,by rw [HLD5.out];exact S5.out,HX4.out,MEM.out.1,MEM.out.2.1,MEM.out.2.2,by first|(simp;done)|(simp;omega),by rw [HLD5.out];omega,hid (by rw [HD.out,NX.out ⟨t,a2',c2',ys⟩ rfl])⟩
         case measure=>simp;omega
     ·have F:=hid (BAD.out e2 (dec_e3 h0'.out HR.out HP.out HS2.out he2) he2 _ HB.out)
      have te2:((e2:Int) != 0)=true:=by simp;omega
      clear BAD HD
      go_wp2
      go_ret2
      exact F.out
    ·obtain⟨j,hj⟩:∃j,ls.length=j+1:=⟨ls.length - 1,by omega⟩
     obtain⟨g,c4,lt,rfl,hc4,hlast,hcell⟩:=own_last hown hj
     have hany:(lastT ls).any (fun q=>decide (t≤q))=decide (t≤lt):=by unfold lastT;rw [hlast];rfl
     have ej:(((j+1:Nat):Int) - 1)=(j:Int):=by omega
     have tj:decide (0<j+1)=true:=by simp
     have hj256:j+1≤256:=by omega
     have HJ:=hid hj
     clear hown hlast hj hl hl0
     by_cases ho:t≤lt
     ·have to:decide (t≤lt)=true:=decide_eq_true ho
      have F:=hid (BAD.out 22 (dec_e2 h0'.out HR.out (by rw [hany];exact to)) (by decide) _ HB.out)
      clear BAD HD hany ho
      go_wp2_with fail
      refine C1.out.mono ?_
      rintro e w1 ⟨rfl,rfl⟩
      rw [RdV3]
      go_wp2
      go_ret2
      exact F.out
     ·have to:decide (t≤lt)=false:=decide_eq_false ho
      have HP:=hid (show ¬ (lastT ls).any (fun q=>decide (t≤q))=true by rw [hany,to];simp)
      clear hany ho
      have hm:=readS_len (bs:=xs) (by rw [HR.out])
      rw [HR.out] at hm
      have hm1:1≤m:=hm.1
      have hm2:m≤xs.length:=hm.2
      clear hm
      have hx2:∀d∈xs.drop m,d<256:=fun d hd=>hx d (List.mem_of_mem_drop hd)
      have hld:(xs.drop m).length=xs.length - m:=List.length_drop
      generalize hS:readS (xs.drop m)=R2 at *
      obtain⟨sz,k,e2⟩:=R2
      have HS2:=hid hS
      have HX2:=hid hx2
      have HLD:=hid hld
      clear hS hx2 hld
      go_wp2_with fail
      refine C1.out.mono ?_
      rintro e w1 ⟨rfl,rfl⟩
      rw [RdV3]
      go_wp2_with (refine wpList_dropS rfl _ _ rfl HS.out rfl (.inl rfl) hm2 ?_)
      intro b2 o2 s2
      have D2:=hid s2
      clear s2
      have C2:=hid (read_walk (some ⟨b2,o2,none⟩) (xs.length - m) (c - m) (xs.drop m) HX2.out (by omega) wr (D2.out.below HB.out))
      rw [HS2.out] at C2
      go_wp2_with fail
      refine C2.out.mono ?_
      rintro e w2 ⟨rfl,rfl⟩
      rw [RdV3]
      clear C2
      by_cases he2:e2=0
      ·subst he2
       have hk:=readS_len (bs:=xs.drop m) (by rw [HS2.out])
       rw [HS2.out,HLD.out] at hk
       have hk1:1≤k:=hk.1
       have hk2:k≤xs.length - m:=hk.2
       clear hk
       have hlk:((xs.drop m).drop k).length=xs.length - m - k:=by rw [List.length_drop,HLD.out]
       have HLK:=hid hlk
       clear hlk
       go_wp2_with (refine wpList_dropS rfl _ _ rfl D2.out rfl (.inl rfl) hk2 ?_)
       intro b3 o3 s3
       have D3:=hid (show Sl .u8 w (some ⟨b3,o3,none⟩) (xs.length - m - k) (c - m - k) ((xs.drop m).drop k) by first|exact s3|(rw [List.drop_drop];exact s3))
       clear s3
       by_cases q1:65536<sz
       ·have tq1:decide ((sz:Int) > 65536)=true:=by rw [decide_eq_true_eq];omega
        have F:=hid (BAD.out 3 (dec_e4 h0'.out HR.out HP.out HS2.out q1) (by first|decide|assumption) _ HB.out)
        clear BAD HD
        go_wp2
        go_ret2
        exact F.out
       ·have tq1:decide ((sz:Int) > 65536)=false:=by rw [decide_eq_false_iff_not];omega
        have hwr:IntKind.u64.wrap ((xs.length - m - k:Nat):Int)=((xs.length - m - k:Nat):Int):=by
         have hz:xs.length - m - k<18446744073709551616:=by omega
         generalize xs.length - m - k=z at *
         simp [IntKind.wrap,IntKind.signed,IntKind.bits];omega
        by_cases q2:xs.length - m - k<sz
        ·have tq2:decide (xs.length - m - k<sz)=true:=by rw [decide_eq_true_eq];omega
         have HQ2:=hid (show((xs.drop m).drop k).length<sz by rw [HLK.out];exact q2)
         have F:=hid (BAD.out 20 (dec_e5 h0'.out HR.out HP.out HS2.out q1 HQ2.out) (by first|decide|assumption) _ HB.out)
         clear BAD HD
         go_wp2
         go_ret2
         exact F.out
        ·have tq2:decide (xs.length - m - k<sz)=false:=by rw [decide_eq_false_iff_not];omega
         have HQ2:=hid (show ¬ ((xs.drop m).drop k).length<sz by rw [HLK.out];exact q2)
         by_cases q3:(j+1)=256
         ·have tq3:(((j+1):Nat):Int)=256:=by omega
          have F:=hid (BAD.out 4 (dec_e6 h0'.out HR.out HP.out HS2.out q1 HQ2.out (by(have:=HJ.out;omega))) (by decide) _ HB.out)
          clear BAD HD
          go_wp2
          go_ret2
          exact F.out
         ·have tq3:((((j+1):Nat):Int) == 256)=false:=by first|(simp;done)|(simp;omega)
          have hsz:sz≤xs.length - m - k:=by omega
          have S4:=hid ((D3.out.take (m:=sz) hsz).below HB.out)
          have NX:=hid (fun(l:LR) (hl:l.pr=(t,((xs.drop m).drop k).take sz))=>dec_next h0'.out HR.out HP.out HS2.out q1 HQ2.out (by(have:=HJ.out;omega)) hl)
          have HZ:=hid (show(((xs.drop m).drop k).take sz).length=sz by rw [List.length_take,HLK.out];omega)
          have HX3:=hid (show ∀d∈((xs.drop m).drop k).take sz,d<256 from fun d hd=>HX2.out d (List.mem_of_mem_drop (List.mem_of_mem_take hd)))
          have HX4:=hid (show ∀d∈((xs.drop m).drop k).drop sz,d<256 from fun d hd=>HX2.out d (List.mem_of_mem_drop (List.mem_of_mem_drop hd)))
          have HLD5:=hid (show(((xs.drop m).drop k).drop sz).length=xs.length - m - k - sz by rw [List.length_drop,HLK.out])
          have ht64:=hid (readS_lt HR.out hx)
          generalize ((xs.drop m).drop k).take sz=ys at *
          clear BAD q1 q2
          go_wp2_with (at_builtin;refine wpList_cat rfl _ _ 28 rfl tyBs wr.heap.size (own_nil' _ _ _ _) rfl rfl S4.out (nums_oneCell _ _) ?CC1 ?CC2 ?CC3 ?_)
          case CC1=>omega
          case CC2=>unfold maxLen;omega
          case CC3=>exact Nat.le_refl _
          intro v2 w2 own2 hb2 hs2
          obtain⟨a2',c2',rfl,r2'⟩:=Rd.of_owns own2
          have OW2:=hid own2
          have BW2:=hid hb2
          clear own2 hb2 r2' S4
          have O3:=hid (own_below (own_below HO.out BW2.out) ((Below.refl w2.heap.size w2).alloc (Nat.le_refl _) (.cells #[.int .u64 (t:Int),.slice a2' sz c2'] 82)))
          go_wp2_with (at_builtin;refine wpList_pushG rfl _ _ 84 rfl tyRec w.heap.size O3.out rfl w2.heap.size rfl rfl rfl rfl (by(have:=HJ.out;omega)) (by decide) (Nat.le_trans HB.out.size BW2.out.size) ?_)
          intro v4 w4 own4 hg4 hv4
          have MEM:=hid (dec_mem HZ.out HO.out (by decide) HG.out HB.out OW2.out BW2.out ht64.out HX3.out (by omega) own4 hg4 (by simpa using hv4))
          clear own4 hg4 hv4 O3
          go_wp2_with (refine wpList_dropS rfl _ _ rfl D3.out rfl (.inr rfl) hsz ?_)
          intro b5 o5 s5
          have S5:=hid (show Sl .u8 w (some ⟨b5,o5,none⟩) (xs.length - m - k - sz) (c - m - k - sz) (((xs.drop m).drop k).drop sz) by first|exact s5|(simpa only [List.drop_drop] using s5))
          clear s5
          go_wp2
          go_roundw
          case rel=>exact⟨some ⟨b5,o5,none⟩,_,_,v4,_,by rw [HLD5.out],rfl,by rw [HLD5.out];exact S5.out,HX4.out,MEM.out.1,MEM.out.2.1,MEM.out.2.2,by first|(simp;done)|(simp;(have:=HJ.out;omega)),by rw [HLD5.out];omega,hid (by rw [HD.out,NX.out ⟨t,a2',c2',ys⟩ rfl])⟩
          case measure=>simp;omega
      ·have F:=hid (BAD.out e2 (dec_e3 h0'.out HR.out HP.out HS2.out he2) he2 _ HB.out)
       have te2:((e2:Int) != 0)=true:=by simp;omega
       clear BAD HD
       go_wp2
       go_ret2
       exact F.out
   ·have te:((e:Int) != 0)=true:=by simp;omega
    have F:=hid (BAD.out e (dec_e1 h0'.out HR.out he) he _ HB.out)
    clear BAD HD
    go_wp2_with fail
    refine C1.out.mono ?_
    rintro e w1 ⟨rfl,rfl⟩
    rw [RdV3]
    go_wp2
    go_ret2
    exact F.out
end Go.Proofs.YtnbmpgballopeaaGreatDoor

/- The walk of tlv.Encode. -/
import Derived.Test.YtnbmpgballopeaaGreatDoorZEncP
namespace Go.Proofs.YtnbmpgballopeaaGreatDoor
open Go.RowKit
def EncRes(w:World)(rs:List Pr)(e:Ending)(w':World):Prop:=∃v,e = .returned (.tuple #[v,.int .i64 ((encE rs:Nat):Int)])∧SlV .u8 w' v (if encE rs=0 then encAll rs else [])∧Below w.heap.size w w'
theorem EncRes.bad{w w':World}{rs:List Pr}{z:Int}(h:((encE rs:Nat):Int)=z)(h0:z≠0)(hb:Below w.heap.size w w'):EncRes w rs (.returned (.tuple #[.slice none 0 0,.int .i64 z])) w':=by
 refine⟨_,by rw [h],?_,hb⟩
 rw [if_neg (by omega)]
 exact(Sl.nilS .u8 _ (Nat.zero_le _) (fun _=>rfl)).toV
theorem encAll_snoc(rs:List Pr)(r:Pr):encAll (rs++[r])=encAll rs++size r.1++size r.2.length++r.2:=by simp [encAll,encR]
theorem map_pr{rs:List LR}{k:Nat}{r:LR}(h:rs[k]? = some r):(rs.map LR.pr)[k]? = some (r.t,r.v):=by rw [List.getElem?_map,h];rfl
set_option maxRecDepth 100000 in
set_option maxHeartbeats 2000000 in
theorem enc_walk(a:Option Addr)(n cap:Nat)(rs:List LR)(w:World)(h:Recs w a n cap rs):
  Calls Tryz.prog 27 #[.slice a n cap] w (EncRes w (rs.map LR.pr)):=by
 have HL:=hid h.2.1
 by_cases hn:n≤256
 ·have hE:=hid (show encE (rs.map LR.pr)=encErr none (rs.map LR.pr) by unfold encE;rw [if_neg (by rw [List.length_map,HL.out];omega)])
  have t0:decide ((n:Int) > 256)=false:=by rw [decide_eq_false_iff_not];omega
  go_enter Tryz.func27,Tryz.ntmps27
  go_wp2
  clear t0
  go_loopw [4,12] (fun x4 i0 wr=>∃(k:Nat) (v:Value),k≤n∧v=x4∧i0 = .int .i64 k∧wr.ownsRow w.heap.size 5 1 v (encAll ((rs.map LR.pr).take k)).length (nums .u8 (encAll ((rs.map LR.pr).take k)))∧Below w.heap.size w wr∧Hid (encErr none (rs.map LR.pr)=encErr (prevT (rs.map LR.pr) k) ((rs.map LR.pr).drop k))∧(encAll ((rs.map LR.pr).take k)).length≤k*65554) (fun _ i0 _=>n - (intOf i0).toNat)
  case atStart=>exact⟨0,_,by omega,rfl,rfl,⟨rfl,.inl ⟨rfl,rfl⟩⟩,Below.refl _ _,hid rfl,by simp [encAll]⟩
  case round=>
   obtain⟨k,v,hk,rfl,rfl,hown,hb,he,hle⟩:=hrel
   by_cases hlt:k<n
   ·obtain⟨r,hr⟩:=get_some HL.out hlt
    obtain⟨b,off,rfl,c0,c1,gd⟩:=(h.below hb).cells hr
    have gd0:=h.2.2 r (List.mem_of_getElem? hr)
    have hp:=map_pr hr
    have hs:=encErr_step hp
    rw [← he.out] at hs
    have HS:=hid hs
    have HP:=hid hp
    have HI:=hid h
    have HR:=hid hr
    have hlen:=gd.2.2.2
    have st0:GrowSt w wr.heap.size r.t (.slice r.a r.v.length r.c) (wr.alloc (.cells #[.int .u64 (r.t:Int),.slice r.a r.v.length r.c] 82)) v (encAll ((rs.map LR.pr).take k)):=by
     have bb:=(Below.refl wr.heap.size wr).alloc (Nat.le_refl _) (.cells #[.int .u64 (r.t:Int),.slice r.a r.v.length r.c] 82)
     refine⟨own_below hown bb,hb.trans (bb.mono hb.size),BxR.new _ _ _ _,fun e=>?_,hb.size⟩
     have:=(hown.lt _ e).2
     omega
    have A46:=hid gd0.2.1
    clear hs he hp gd gd0 hown
    obtain⟨xs,hxs⟩:∃xs,encAll ((rs.map LR.pr).take k)=xs:=⟨_,rfl⟩
    have HXS:=hid hxs
    rw [hxs] at hle st0
    clear hxs
    have BB:=hid st0.2.1
    by_cases h1:((prevT (rs.map LR.pr) k).any (fun q=>decide (r.t≤q)))=true
    ·have F:=hid (fun w' (hb:Below w.heap.size w w')=>EncRes.bad (w:=w) (w':=w') (rs:=rs.map LR.pr) (z:=22) (by rw [show encE (rs.map LR.pr)=22 by rw [hE.out,HS.out,if_pos h1]];rfl) (by decide) hb)
     cases k with
     | zero=>simp [prevT] at h1
     | succ j=>
      obtain⟨q,hq⟩:=get_some HL.out (show j<n by omega)
      obtain⟨b',off',hb',d0,_,gq⟩:=(h.below hb).cells hq
      simp only [Option.some.injEq,Addr.mk.injEq,and_true] at hb'
      obtain⟨rfl,rfl⟩:=hb'
      have ej:(((j+1:Nat):Int) - 1)=(j:Int):=by omega
      have tq:decide (r.t≤q.t)=true:=by
       simp [prevT,map_pr hq] at h1
       rw [decide_eq_true_eq];exact h1
      have tk:decide (0<j+1)=true:=by simp
      have bb:=(Below.refl wr.heap.size wr).alloc (Nat.le_refl _) (.cells #[.int .u64 (r.t:Int),.slice r.a r.v.length r.c] 82)
      have d1:=(bb.cell (World.block_lt_of_cell? wr _ d0)).trans d0
      obtain⟨x0,x1⟩:=st0.2.2.1
      clear h1 hq gq d0 bb st0 HS HP HI A46 h hle
      go_wp2_with fail
      go_quiet (fail)
      go_wp2
      go_ret2
      exact F.out _ (below_drewN BB.out _)
    ·rw [if_neg h1] at HS
     by_cases h2:65536<r.v.length
     ·have F:=hid (fun w' (hb:Below w.heap.size w w')=>EncRes.bad (w:=w) (w':=w') (rs:=rs.map LR.pr) (z:=3) (by rw [show encE (rs.map LR.pr)=3 by rw [hE.out,HS.out,if_pos h2]];rfl) (by decide) hb)
      have tl:decide ((r.v.length:Int) > 65536)=true:=by rw [decide_eq_true_eq];omega
      have bb:=(Below.refl wr.heap.size wr).alloc (Nat.le_refl _) (.cells #[.int .u64 (r.t:Int),.slice r.a r.v.length r.c] 82)
      obtain⟨x0,x1⟩:=st0.2.2.1
      cases k with
      | zero=>
       simp only [Nat.zero_mul,Nat.add_zero] at c0 c1
       clear h1 h2 bb st0 HS HP HI A46 h hle
       go_wp2_with fail
       go_quiet (fail)
       go_wp2
       go_ret2
       exact F.out _ (below_drewN BB.out _)
      | succ j=>
       obtain⟨q,hq⟩:=get_some HL.out (show j<n by omega)
       obtain⟨b',off',hb',d0,_,gq⟩:=(h.below hb).cells hq
       simp only [Option.some.injEq,Addr.mk.injEq,and_true] at hb'
       obtain⟨rfl,rfl⟩:=hb'
       have ej:(((j+1:Nat):Int) - 1)=(j:Int):=by omega
       have tq:decide (r.t≤q.t)=false:=by
        simp [prevT,map_pr hq] at h1
        rw [decide_eq_false_iff_not];omega
       have tk:decide (0<j+1)=true:=by simp
       have d1:=(bb.cell (World.block_lt_of_cell? wr _ d0)).trans d0
       clear h1 h2 hq gq d0 bb st0 HS HP HI A46 h hle
       go_wp2_with fail
       go_quiet (fail)
       go_wp2
       go_ret2
       exact F.out _ (below_drewN BB.out _)
     ·have tl:decide ((r.v.length:Int) > 65536)=false:=by rw [decide_eq_false_iff_not];omega
      rw [if_neg h2] at HS
      have hrt:=(HI.out.2.2 r (List.mem_of_getElem? (show rs[k]? = some r from HR.out))).1
      have C37:=fun wx=>hid (size_walk r.t hrt wx)
      have C43:=fun wx=>hid (size_walk r.v.length (by omega) wx)
      have HN:=hid (show encAll ((rs.map LR.pr).take (k+1))=xs++size r.t++size r.v.length++r.v by rw [take_succ_some HP.out,encAll_snoc,HXS.out])
      have hwr:IntKind.u64.wrap (r.v.length:Int)=(r.v.length:Int):=by
       simp [IntKind.wrap,IntKind.signed,IntKind.bits];omega
      have l1:=(size_len_bd r.t).2
      have l2:=(size_len_bd r.v.length).2
      generalize size r.t=y1 at *
      generalize size r.v.length=y2 at *
      have bb:=(Below.refl wr.heap.size wr).alloc (Nat.le_refl _) (.cells #[.int .u64 (r.t:Int),.slice r.a r.v.length r.c] 82)
      obtain⟨x0,x1⟩:=st0.2.2.1
      cases k with
      | zero=>
       simp only [Nat.zero_mul,Nat.add_zero] at c0 c1
       have ST:=hid st0
       clear h1 bb HI h st0 HP hb
       go_wp2_with fail
       go_quiet (fail)
       go_wp2_with fail
       have st:=ST.out.dN nq
       clear ST
       go_region_held3 (fun w'=>w'.cell? ⟨wr.heap.size,0,none⟩=some (.int .u64 (r.t:Int))∧w'.cell? ⟨wr.heap.size,1,none⟩=some (.slice r.a r.v.length r.c))
        (exact⟨st.2.2.1.1,st.2.2.1.2⟩)
        (first
         | (go_at_call 56;(with_reducible refine(C37 _).out.mono ?_);rintro e wA hA;(first|(obtain⟨a1,k1,rfl,stN,s37,kb⟩:=st.call hA)|(obtain⟨a1,k1,rfl,stN,s37,kb⟩:=st.drew.call hA));clear st hA kb;have st:=stN;clear stN)
         | (go_at_call 56;(with_reducible refine(C43 _).out.mono ?_);rintro e wB hB;(first|(obtain⟨a2,k2,rfl,stN,s43,kb⟩:=st.call hB)|(obtain⟨a2,k2,rfl,stN,s43,kb⟩:=st.drew.call hB));have s37N:=s37.below kb;clear st hB kb s37;have st:=stN;have s37:=s37N;clear stN s37N)
         | (refine step_cat rfl _ _ 28 rfl tyBs w.heap.size st.1 rfl rfl (s37).1 (nums_oneCell _ _) (by(try rw [List.length_append]);(try rw [List.length_append]);omega) (by unfold maxLen;(try rw [List.length_append]);(try rw [List.length_append]);omega) st.2.1.size ?_;intro vN wN oN gN fN;obtain⟨stN,kp⟩:=st.grew (s37).1.len oN gN fN;(try(have s37N:=kp _ _ _ _ s37;clear s37;have s37:=s37N;clear s37N));(try(have s43N:=kp _ _ _ _ s43;clear s43;have s43:=s43N;clear s43N));clear st oN gN fN kp;have st:=stN;clear stN)
         | (refine step_cat rfl _ _ 28 rfl tyBs w.heap.size st.1 rfl rfl (s43).1 (nums_oneCell _ _) (by(try rw [List.length_append]);(try rw [List.length_append]);omega) (by unfold maxLen;(try rw [List.length_append]);(try rw [List.length_append]);omega) st.2.1.size ?_;intro vN wN oN gN fN;obtain⟨stN,kp⟩:=st.grew (s43).1.len oN gN fN;(try(have s37N:=kp _ _ _ _ s37;clear s37;have s37:=s37N;clear s37N));(try(have s43N:=kp _ _ _ _ s43;clear s43;have s43:=s43N;clear s43N));clear st oN gN fN kp;have st:=stN;clear stN)
         | (refine step_cat rfl _ _ 28 rfl tyBs w.heap.size st.1 rfl rfl (st.arg A46.out).1 (nums_oneCell _ _) (by(try rw [List.length_append]);(try rw [List.length_append]);omega) (by unfold maxLen;(try rw [List.length_append]);(try rw [List.length_append]);omega) st.2.1.size ?_;intro vN wN oN gN fN;obtain⟨stN,kp⟩:=st.grew (st.arg A46.out).1.len oN gN fN;(try(have s37N:=kp _ _ _ _ s37;clear s37;have s37:=s37N;clear s37N));(try(have s43N:=kp _ _ _ _ s43;clear s43;have s43:=s43N;clear s43N));clear st oN gN fN kp;have st:=stN;clear stN))
       go_wp2
       go_roundw
       case rel=>exact⟨0+1,_,by omega,rfl,by go_num,by rw [HN.out];exact st.1,st.2.1,HS,by rw [HN.out];(repeat rw [List.length_append]);omega⟩
       case measure=>simp [intOf];omega
      | succ j=>
       obtain⟨q,hq⟩:=get_some HL.out (show j<n by omega)
       obtain⟨b',off',hb',d0,_,gq⟩:=(h.below hb).cells hq
       simp only [Option.some.injEq,Addr.mk.injEq,and_true] at hb'
       obtain⟨rfl,rfl⟩:=hb'
       have ej:(((j+1:Nat):Int) - 1)=(j:Int):=by omega
       have tq:decide (r.t≤q.t)=false:=by
        simp [prevT,map_pr hq] at h1
        rw [decide_eq_false_iff_not];omega
       have tk:decide (0<j+1)=true:=by simp
       have d1:=(bb.cell (World.block_lt_of_cell? wr _ d0)).trans d0
       have ST:=hid st0
       clear h1 hq gq d0 bb HI h st0 HP hb
       go_wp2_with fail
       go_quiet (fail)
       go_wp2_with fail
       have st:=ST.out.dN nq
       clear ST
       go_region_held3 (fun w'=>w'.cell? ⟨wr.heap.size,0,none⟩=some (.int .u64 (r.t:Int))∧w'.cell? ⟨wr.heap.size,1,none⟩=some (.slice r.a r.v.length r.c))
        (exact⟨st.2.2.1.1,st.2.2.1.2⟩)
        (first
         | (go_at_call 56;(with_reducible refine(C37 _).out.mono ?_);rintro e wA hA;(first|(obtain⟨a1,k1,rfl,stN,s37,kb⟩:=st.call hA)|(obtain⟨a1,k1,rfl,stN,s37,kb⟩:=st.drew.call hA));clear st hA kb;have st:=stN;clear stN)
         | (go_at_call 56;(with_reducible refine(C43 _).out.mono ?_);rintro e wB hB;(first|(obtain⟨a2,k2,rfl,stN,s43,kb⟩:=st.call hB)|(obtain⟨a2,k2,rfl,stN,s43,kb⟩:=st.drew.call hB));have s37N:=s37.below kb;clear st hB kb s37;have st:=stN;have s37:=s37N;clear stN s37N)
         | (refine step_cat rfl _ _ 28 rfl tyBs w.heap.size st.1 rfl rfl (s37).1 (nums_oneCell _ _) (by(try rw [List.length_append]);(try rw [List.length_append]);omega) (by unfold maxLen;(try rw [List.length_append]);(try rw [List.length_append]);omega) st.2.1.size ?_;intro vN wN oN gN fN;obtain⟨stN,kp⟩:=st.grew (s37).1.len oN gN fN;(try(have s37N:=kp _ _ _ _ s37;clear s37;have s37:=s37N;clear s37N));(try(have s43N:=kp _ _ _ _ s43;clear s43;have s43:=s43N;clear s43N));clear st oN gN fN kp;have st:=stN;clear stN)
         | (refine step_cat rfl _ _ 28 rfl tyBs w.heap.size st.1 rfl rfl (s43).1 (nums_oneCell _ _) (by(try rw [List.length_append]);(try rw [List.length_append]);omega) (by unfold maxLen;(try rw [List.length_append]);(try rw [List.length_append]);omega) st.2.1.size ?_;intro vN wN oN gN fN;obtain⟨stN,kp⟩:=st.grew (s43).1.len oN gN fN;(try(have s37N:=kp _ _ _ _ s37;clear s37;have s37:=s37N;clear s37N));(try(have s43N:=kp _ _ _ _ s43;clear s43;have s43:=s43N;clear s43N));clear st oN gN fN kp;have st:=stN;clear stN)
         | (refine step_cat rfl _ _ 28 rfl tyBs w.heap.size st.1 rfl rfl (st.arg A46.out).1 (nums_oneCell _ _) (by(try rw [List.length_append]);(try rw [List.length_append]);omega) (by unfold maxLen;(try rw [List.length_append]);(try rw [List.length_append]);omega) st.2.1.size ?_;intro vN wN oN gN fN;obtain⟨stN,kp⟩:=st.grew (st.arg A46.out).1.len oN gN fN;(try(have s37N:=kp _ _ _ _ s37;clear s37;have s37:=s37N;clear s37N));(try(have s43N:=kp _ _ _ _ s43;clear s43;have s43:=s43N;clear s43N));clear st oN gN fN kp;have st:=stN;clear stN))
       go_wp2
       go_roundw
       case rel=>exact⟨j+1+1,_,by omega,rfl,by go_num,by rw [HN.out];exact st.1,st.2.1,HS,by rw [HN.out];(repeat rw [List.length_append]);omega⟩
       case measure=>simp [intOf];omega
   ·obtain rfl:k=n:=by omega
    have e0:(rs.map LR.pr).drop k=[]:=List.drop_eq_nil_of_le (by rw [List.length_map,HL.out];exact Nat.le_refl _)
    have e1:(rs.map LR.pr).take k=rs.map LR.pr:=List.take_of_length_le (by rw [List.length_map,HL.out];exact Nat.le_refl _)
    rw [e1] at hown
    rw [e0] at he
    have E0:=hid (show encE (rs.map LR.pr)=0 by rw [hE.out,he.out];rfl)
    have HO:=hid (SlV.of_owns hown)
    clear hown he hle e0 e1 h
    go_wp2
    go_ret2
    exact⟨_,by rw [E0.out];rfl,by rw [if_pos E0.out];exact HO.out,hb⟩
 ·have t0:decide ((n:Int) > 256)=true:=by rw [decide_eq_true_eq];omega
  have F:=hid (EncRes.bad (w:=w) (w':=w) (rs:=rs.map LR.pr) (z:=4) (by unfold encE;rw [if_pos (by rw [List.length_map,HL.out];omega)];rfl) (by decide) (Below.refl _ _))
  go_enter Tryz.func27,Tryz.ntmps27
  go_wp2
  go_ret2
  exact F.out
end Go.Proofs.YtnbmpgballopeaaGreatDoor
/- The walk of the reference's Encode. -/
namespace Go.Proofs.YtnbmpgballopeaaGreatDoor
open Go.RowKit
set_option maxRecDepth 100000 in
set_option maxHeartbeats 2000000 in
theorem renc_walk(a:Option Addr)(n cap:Nat)(rs:List LR)(w:World)(h:Recs w a n cap rs):
  Calls Tryz.prog 30 #[.slice a n cap] w (EncRes w (rs.map LR.pr)):=by
 have HL:=hid h.2.1
 by_cases hn:n≤256
 ·have hE:=hid (show encE (rs.map LR.pr)=encErr none (rs.map LR.pr) by unfold encE;rw [if_neg (by rw [List.length_map,HL.out];omega)])
  have t0:decide ((n:Int) > 256)=false:=by rw [decide_eq_false_iff_not];omega
  have O1:=hid (World.ownsRow_made (base:=w.heap.size) (e:=5) (size:=1) w #[] 0 (Nat.le_refl _) (by simp) (by simp))
  have B1:=hid ((Below.refl w.heap.size w).alloc (Nat.le_refl _) (.cells #[] 5))
  go_enter Tryz.func30,Tryz.ntmps30
  go_wp2
  clear t0
  go_loopw [4,12] (fun x4 i0 wr=>∃(k:Nat) (v:Value),k≤n∧v=x4∧i0 = .int .i64 k∧wr.ownsRow w.heap.size 5 1 v (encAll ((rs.map LR.pr).take k)).length (nums .u8 (encAll ((rs.map LR.pr).take k)))∧Below w.heap.size w wr∧Hid (encErr none (rs.map LR.pr)=encErr (prevT (rs.map LR.pr) k) ((rs.map LR.pr).drop k))∧(encAll ((rs.map LR.pr).take k)).length≤k*65554) (fun _ i0 _=>n - (intOf i0).toNat)
  case atStart=>exact⟨0,_,by omega,rfl,rfl,O1.out,B1.out,hid rfl,by simp [encAll]⟩
  case round=>
   obtain⟨k,v,hk,rfl,rfl,hown,hb,he,hle⟩:=hrel
   by_cases hlt:k<n
   ·obtain⟨r,hr⟩:=get_some HL.out hlt
    obtain⟨b,off,rfl,c0,c1,gd⟩:=(h.below hb).cells hr
    have gd0:=h.2.2 r (List.mem_of_getElem? hr)
    have hp:=map_pr hr
    have hs:=encErr_step hp
    rw [← he.out] at hs
    have HS:=hid hs
    have HP:=hid hp
    have HI:=hid h
    have HR:=hid hr
    have BB:=hid hb
    have A46:=hid gd0.2.1
    have hlen:=gd.2.2.2
    have hrt:=gd.1
    have HO:=hid hown
    clear hs he hp gd gd0 hown
    by_cases h1:((prevT (rs.map LR.pr) k).any (fun q=>decide (r.t≤q)))=true
    ·have F:=hid (fun w' (hb:Below w.heap.size w w')=>EncRes.bad (w:=w) (w':=w') (rs:=rs.map LR.pr) (z:=22) (by rw [show encE (rs.map LR.pr)=22 by rw [hE.out,HS.out,if_pos h1]];rfl) (by decide) hb)
     cases k with
     | zero=>simp [prevT] at h1
     | succ j=>
      obtain⟨q,hq⟩:=get_some HL.out (show j<n by omega)
      obtain⟨b',off',hb',d0,_,gq⟩:=(h.below hb).cells hq
      simp only [Option.some.injEq,Addr.mk.injEq,and_true] at hb'
      obtain⟨rfl,rfl⟩:=hb'
      have ej:(((j+1:Nat):Int) - 1)=(j:Int):=by omega
      have tq:decide (r.t≤q.t)=true:=by
       simp [prevT,map_pr hq] at h1
       rw [decide_eq_true_eq];exact h1
      have tk:decide (0<j+1)=true:=by simp
      clear h1 hq gq HS HP HI A46 h hle
      go_wp2_with fail
      go_quiet (fail)
      go_wp2
      go_ret2
      exact F.out _ (below_drewN BB.out _)
    ·rw [if_neg h1] at HS
     by_cases h2:65536<r.v.length
     ·have F:=hid (fun w' (hb:Below w.heap.size w w')=>EncRes.bad (w:=w) (w':=w') (rs:=rs.map LR.pr) (z:=3) (by rw [show encE (rs.map LR.pr)=3 by rw [hE.out,HS.out,if_pos h2]];rfl) (by decide) hb)
      have tl:decide ((r.v.length:Int) > 65536)=true:=by rw [decide_eq_true_eq];omega
      cases k with
      | zero=>
       simp only [Nat.zero_mul,Nat.add_zero] at c0 c1
       clear h1 h2 HS HP HI A46 h hle
       go_wp2_with fail
       go_quiet (fail)
       go_wp2
       go_ret2
       exact F.out _ (below_drewN BB.out _)
      | succ j=>
       obtain⟨q,hq⟩:=get_some HL.out (show j<n by omega)
       obtain⟨b',off',hb',d0,_,gq⟩:=(h.below hb).cells hq
       simp only [Option.some.injEq,Addr.mk.injEq,and_true] at hb'
       obtain⟨rfl,rfl⟩:=hb'
       have ej:(((j+1:Nat):Int) - 1)=(j:Int):=by omega
       have tq:decide (r.t≤q.t)=false:=by
        simp [prevT,map_pr hq] at h1
        rw [decide_eq_false_iff_not];omega
       have tk:decide (0<j+1)=true:=by simp
       clear h1 h2 hq gq HS HP HI A46 h hle
       go_wp2_with fail
       go_quiet (fail)
       go_wp2
       go_ret2
       exact F.out _ (below_drewN BB.out _)
     ·have tl:decide ((r.v.length:Int) > 65536)=false:=by rw [decide_eq_false_iff_not];omega
      rw [if_neg h2] at HS
      have C37:=fun wx=>hid (rsize_walk r.t hrt wx)
      have C43:=fun wx=>hid (rsize_walk r.v.length (by omega) wx)
      have HN:=hid (show encAll ((rs.map LR.pr).take (k+1))=encAll ((rs.map LR.pr).take k)++size r.t++size r.v.length++r.v by rw [take_succ_some HP.out,encAll_snoc])
      have hwr:IntKind.u64.wrap (r.v.length:Int)=(r.v.length:Int):=by
       simp [IntKind.wrap,IntKind.signed,IntKind.bits];omega
      have l1:=(size_len_bd r.t).2
      have l2:=(size_len_bd r.v.length).2
      generalize size r.t=y1 at *
      generalize size r.v.length=y2 at *
      generalize encAll ((rs.map LR.pr).take k)=xs at *
      cases k with
      | zero=>
       simp only [Nat.zero_mul,Nat.add_zero] at c0 c1
       have ST:=hid (And.intro h hr)
       clear h1 HI h HP hb hr
       go_wp2_with fail
       go_quiet (fail)
       have B2:=below_drewN BB.out nq
       have O2:=own_below HO.out (below_drewN (Below.refl _ _) nq)
       clear c0 c1
       obtain⟨bq,oq,eq,p0,p1,_⟩:=(ST.out.1.below B2).cells ST.out.2
       simp only [Option.some.injEq,Addr.mk.injEq,and_true] at eq
       obtain⟨rfl,rfl⟩:=eq
       simp only [Nat.zero_mul,Nat.add_zero] at p0 p1
       go_wp2_with fail
       refine(C37 _).out.mono ?_
       rintro e wA ⟨vA,rfl,oA,bA⟩
       obtain⟨aA,kA,rfl,sA⟩:=SlV.of_owns oA
       have B3:=bstep B2 bA
       have O3:=own_below O2 bA
       clear oA bA B2 O2 p0 p1
       go_wp2_with (at_builtin;refine wpList_cat rfl _ _ 28 rfl tyBs w.heap.size O3 rfl rfl sA (nums_oneCell _ _) ?c31 ?c32 ?c33 ?_)
       case c31=>omega
       case c32=>unfold maxLen;omega
       case c33=>exact B3.size
       intro v3 u3 o3 bb3 _ _
       rw [nums_append] at o3
       have B4:=B3.trans bb3
       clear O3 sA bb3 B3
       obtain⟨bq,oq,eq,p0,p1,_⟩:=(ST.out.1.below B4).cells ST.out.2
       simp only [Option.some.injEq,Addr.mk.injEq,and_true] at eq
       obtain⟨rfl,rfl⟩:=eq
       simp only [Nat.zero_mul,Nat.add_zero] at p0 p1
       go_wp2_with fail
       refine(C43 _).out.mono ?_
       rintro e wB ⟨vB,rfl,oB,bB⟩
       obtain⟨aB,kB,rfl,sB⟩:=SlV.of_owns oB
       have B5:=bstep B4 bB
       have O5:=own_below o3 bB
       clear oB bB B4 o3 p0 p1
       go_wp2_with (at_builtin;refine wpList_cat rfl _ _ 28 rfl tyBs w.heap.size O5 rfl rfl sB (nums_oneCell _ _) ?c51 ?c52 ?c53 ?_)
       case c51=>omega
       case c52=>unfold maxLen;omega
       case c53=>exact B5.size
       intro v5 u5 o5 bb5 _ _
       rw [nums_append] at o5
       have B6:=B5.trans bb5
       clear O5 sB bb5 B5
       obtain⟨bq,oq,eq,p0,p1,_⟩:=(ST.out.1.below B6).cells ST.out.2
       simp only [Option.some.injEq,Addr.mk.injEq,and_true] at eq
       obtain⟨rfl,rfl⟩:=eq
       simp only [Nat.zero_mul,Nat.add_zero] at p0 p1
       have A6:=A46.out.below B6
       go_wp2_with (at_builtin;refine wpList_cat rfl _ _ 28 rfl tyBs w.heap.size o5 rfl rfl A6 (nums_oneCell _ _) ?c61 ?c62 ?c63 ?_)
       case c61=>omega
       case c62=>unfold maxLen;omega
       case c63=>exact B6.size
       intro v6 u6 o6 bb6 _ _
       rw [nums_append] at o6
       have B7:=B6.trans bb6
       clear o5 A6 bb6 B6 p0 p1
       go_wp2
       go_roundw
       case rel=>exact⟨0+1,_,by omega,rfl,by go_num,by rw [HN.out];simpa only [List.length_append,List.append_assoc,Nat.add_assoc] using o6,B7,HS,by rw [HN.out];simp only [List.length_append];omega⟩
       case measure=>simp [intOf];omega
      | succ j=>
       obtain⟨q,hq⟩:=get_some HL.out (show j<n by omega)
       obtain⟨b',off',hb',d0,_,gq⟩:=(h.below hb).cells hq
       simp only [Option.some.injEq,Addr.mk.injEq,and_true] at hb'
       obtain⟨rfl,rfl⟩:=hb'
       have ej:(((j+1:Nat):Int) - 1)=(j:Int):=by omega
       have tq:decide (r.t≤q.t)=false:=by
        simp [prevT,map_pr hq] at h1
        rw [decide_eq_false_iff_not];omega
       have tk:decide (0<j+1)=true:=by simp
       have ST:=hid (And.intro h hr)
       clear h1 hq gq HI h HP hb hr
       go_wp2_with fail
       go_quiet (fail)
       clear d0
       have B2:=below_drewN BB.out nq
       have O2:=own_below HO.out (below_drewN (Below.refl _ _) nq)
       clear c0 c1
       obtain⟨bq,oq,eq,p0,p1,_⟩:=(ST.out.1.below B2).cells ST.out.2
       simp only [Option.some.injEq,Addr.mk.injEq,and_true] at eq
       obtain⟨rfl,rfl⟩:=eq
       skip
       go_wp2_with fail
       refine(C37 _).out.mono ?_
       rintro e wA ⟨vA,rfl,oA,bA⟩
       obtain⟨aA,kA,rfl,sA⟩:=SlV.of_owns oA
       have B3:=bstep B2 bA
       have O3:=own_below O2 bA
       clear oA bA B2 O2 p0 p1
       go_wp2_with (at_builtin;refine wpList_cat rfl _ _ 28 rfl tyBs w.heap.size O3 rfl rfl sA (nums_oneCell _ _) ?c31 ?c32 ?c33 ?_)
       case c31=>omega
       case c32=>unfold maxLen;omega
       case c33=>exact B3.size
       intro v3 u3 o3 bb3 _ _
       rw [nums_append] at o3
       have B4:=B3.trans bb3
       clear O3 sA bb3 B3
       obtain⟨bq,oq,eq,p0,p1,_⟩:=(ST.out.1.below B4).cells ST.out.2
       simp only [Option.some.injEq,Addr.mk.injEq,and_true] at eq
       obtain⟨rfl,rfl⟩:=eq
       skip
       go_wp2_with fail
       refine(C43 _).out.mono ?_
       rintro e wB ⟨vB,rfl,oB,bB⟩
       obtain⟨aB,kB,rfl,sB⟩:=SlV.of_owns oB
       have B5:=bstep B4 bB
       have O5:=own_below o3 bB
       clear oB bB B4 o3 p0 p1
       go_wp2_with (at_builtin;refine wpList_cat rfl _ _ 28 rfl tyBs w.heap.size O5 rfl rfl sB (nums_oneCell _ _) ?c51 ?c52 ?c53 ?_)
       case c51=>omega
       case c52=>unfold maxLen;omega
       case c53=>exact B5.size
       intro v5 u5 o5 bb5 _ _
       rw [nums_append] at o5
       have B6:=B5.trans bb5
       clear O5 sB bb5 B5
       obtain⟨bq,oq,eq,p0,p1,_⟩:=(ST.out.1.below B6).cells ST.out.2
       simp only [Option.some.injEq,Addr.mk.injEq,and_true] at eq
       obtain⟨rfl,rfl⟩:=eq
       skip
       have A6:=A46.out.below B6
       go_wp2_with (at_builtin;refine wpList_cat rfl _ _ 28 rfl tyBs w.heap.size o5 rfl rfl A6 (nums_oneCell _ _) ?c61 ?c62 ?c63 ?_)
       case c61=>omega
       case c62=>unfold maxLen;omega
       case c63=>exact B6.size
       intro v6 u6 o6 bb6 _ _
       rw [nums_append] at o6
       have B7:=B6.trans bb6
       clear o5 A6 bb6 B6 p0 p1
       go_wp2
       go_roundw
       case rel=>exact⟨j+1+1,_,by omega,rfl,by go_num,by rw [HN.out];simpa only [List.length_append,List.append_assoc,Nat.add_assoc] using o6,B7,HS,by rw [HN.out];simp only [List.length_append];omega⟩
       case measure=>simp [intOf];omega
   ·obtain rfl:k=n:=by omega
    have e0:(rs.map LR.pr).drop k=[]:=List.drop_eq_nil_of_le (by rw [List.length_map,HL.out];exact Nat.le_refl _)
    have e1:(rs.map LR.pr).take k=rs.map LR.pr:=List.take_of_length_le (by rw [List.length_map,HL.out];exact Nat.le_refl _)
    rw [e1] at hown
    rw [e0] at he
    have E0:=hid (show encE (rs.map LR.pr)=0 by rw [hE.out,he.out];rfl)
    have HO:=hid (SlV.of_owns hown)
    clear hown he hle e0 e1 h
    go_wp2
    go_ret2
    exact⟨_,by rw [E0.out];rfl,by rw [if_pos E0.out];exact HO.out,hb⟩
 ·have t0:decide ((n:Int) > 256)=true:=by rw [decide_eq_true_eq];omega
  have F:=hid (EncRes.bad (w:=w) (w':=w) (rs:=rs.map LR.pr) (z:=4) (by unfold encE;rw [if_pos (by rw [List.length_map,HL.out];omega)];rfl) (by decide) (Below.refl _ _))
  go_enter Tryz.func30,Tryz.ntmps30
  go_wp2
  go_ret2
  exact F.out
end Go.Proofs.YtnbmpgballopeaaGreatDoor

/- Small facts for the pieces of the reference's Hash. Region 16 of the reference's Hash: the words' row. Region 27 of the reference's Hash: the state's words. Loop 4 of the reference's Hash: the block's words. Loop 5 of the reference's Hash: the schedule. Loop 6 of the reference's Hash: the rounds. -/
import Derived.Maps.AppendAt
import Derived.Laws.NewBlocks
import Derived.IntWalk
import Derived.Deep.Cut
import Derived.Deep.RegionHeld3
import Derived.Test.YtnbmpgballopeaaGreatDoorZParts
import Derived.Test.YtnbmpgballopeaaGreatDoorZShaE
import Derived.Test.YtnbmpgballopeaaGreatDoorZPick
import Derived.Test.YtnbmpgballopeaaGreatDoorZHashRA
namespace Go.Proofs.YtnbmpgballopeaaGreatDoor
open Go.RowKit
theorem tyU32s:SliceTy Tryz.prog 202 46 1 4 (.int .u32 0):=.mk' Tryz.underlying202 (by kernel_rfl) rfl (by decide)
theorem own_low{w w':World}{B B':Nat}{e:TypeId}{size:Nat}{v:Value}{n:Nat}{xs:List Value}(h:w.ownsRow B e size v n xs)(hb:Below B' w w')(hk:∀k,v.ownBlock=some k→k<B'):w'.ownsRow B e size v n xs:=by
 refine⟨h.1,?_⟩
 rcases h.2 with hn|⟨g,cap,cur,rfl,hb0,hg,rest⟩
 ·exact .inl hn
 ·exact .inr ⟨g,cap,cur,rfl,hb0,by rw [hb.block g (hk g rfl)];exact hg,rest⟩
theorem cell_keep'{w w':World}{a:Addr}{v:Value}(h:w.cell? a=some v)(b:Below w.heap.size w w'):w'.cell? a=some v:=by
 rw [b.cell (World.block_lt_of_cell? w _ h)];exact h
theorem cell_grown{w w':World}{a:Addr}{v:Value}{row:Option Nat}(h:w.cell? a=some v)(hg:w.grownBy w' row)(hne:some a.block≠row):w'.cell? a=some v:=by
 rw [World.cell?_of_block (hg.block _ (World.block_lt_of_cell? w _ h) hne)];exact h
theorem wp_pushS{P:Program}{w:World}{o:Oper}{a:Act}{K:Act→World→Prop}{Q:Exit→Act→World→Prop}(s x:Operand)(t:TypeId)
  (ho:o.op = .call { callee:=.builtin .append,args:=#[s,x],argTypes:=#[t,t] })
  {e:TypeId} {bytes:Nat} {z:Value} (ty:SliceTy P t e 1 bytes z) (B:Nat) {g n cap:Nat} {xs:List Value} (hown:w.ownsRow B e 1 (.slice (some ⟨g,0,none⟩) n cap) n xs) (hs:a.eval s = .slice (some ⟨g,0,none⟩) n cap)
  {ad:Addr} {u:Value} (hx:a.eval x = .slice (some ad) 1 1) (hu:w.cell? (ad.add 0)=some u) (h1:u.oneCell'=true) (hn:n<4294967296) (hby:bytes≤16384) (hB:B≤w.heap.size)
  (h:∀v' w',w'.ownsRow B e 1 v' (n+1) (xs++[u])→w.grownBy w' (some g)→(∀j y,xs[j]? = some y→w'.cell? ⟨g,j,none⟩=some y)→K (a.put o.dst v') w'):o.wp P a w K Q:=by
 obtain⟨i,ht,hi,hz,hsz,hb⟩:=ty.ex
 have hl:[u].length=1*i.size:=by rw [hsz];rfl
 have hnews:∀j y,[u][j]? = some y→w.cell? (ad.add j)=some y:=by
  intro j y hj
  match j,hj with
  | 0,hj=>simp at hj;subst hj;exact hu
  | j+1,hj=>simp at hj
 have h1':∀y∈[u],y.oneCell'=true:=by intro y hy;simp only [List.mem_singleton] at hy;subst hy;exact h1
 have hbytes:(n+1)*bytes≤140737488355328:=by
  have:(n+1)*bytes≤4294967296*16384:=Nat.mul_le_mul (by omega) hby
  omega
 obtain⟨v',w',hr,h2,h3,h4,h5⟩:=run_append_own_at (P:=P) w B t o.type e i z 1 bytes ht hi hz hsz hb ty.zs ty.pos _ n xs hown ad 1 1 [u] rfl hnews h1' (by unfold maxLen;omega) hbytes hB
 have stays:∀j y,xs[j]? = some y→w'.cell? ⟨g,j,none⟩=some y:=by
  intro j y hj
  rcases hown.2 with⟨hv,_⟩|⟨g',cap',cur,hv,hbg,hg,hnc,hcm,hcs,htake⟩
  ·simp at hv
  ·simp only [Value.slice.injEq,Option.some.injEq,Addr.mk.injEq,and_true,true_and] at hv
   obtain⟨rfl,rfl⟩:=hv
   have hadd:∀q,(⟨g,0,none⟩:Addr).add q=⟨g,q,none⟩:=fun q=>by unfold Addr.add;split <;> simp_all
   by_cases hroom:n+1≤cap
   ·have hr2:=run_append_room (P:=P) w t o.type e i ht hi g n cap cur hg ad 1 1 [u] hl hnews h1' hroom (by rw [hsz,hcs,List.length_singleton];omega)
    rw [hr] at hr2
    simp only [Result.ok.injEq] at hr2
    obtain⟨rfl,rfl⟩:=hr2
    have:=h2.cells (g:=g) rfl j y (by rw [List.getElem?_append_left (List.getElem?_eq_some_iff.1 hj).1];exact hj)
    rwa [hadd] at this
   ·have holds:∀j u,xs[j]? = some u→w.cell? ((⟨g,0,none⟩:Addr).add j)=some u:=hown.cells (g:=g) rfl
    have hr2:=run_append_grow (P:=P) w t o.type e i z ht hi hz ⟨g,0,none⟩ n cap xs (by rw [hsz];exact hown.1) holds ad 1 1 [u] hl hnews (by omega) (by omega) (growslice_fits (by omega) (by rw [hb];exact hbytes))
    rw [hr] at hr2
    simp only [Result.ok.injEq] at hr2
    obtain⟨rfl,rfl⟩:=hr2
    have hc:=holds j y hj
    rw [hadd] at hc
    have hlt:=(Array.getElem?_eq_some_iff.1 hg).1
    rw [World.cell?_alloc_past _ _ _ (show g<w.drew.heap.size from hlt)]
    exact hc
 unfold Oper.wp execOp
 simp only [ho,resolve,invoke,builtin,Sem.run_bind,Sem.run_pure,Result.andThen_ok,List.map_toArray,List.map_cons,List.map_nil,hs,hx,hr]
 exact h v' w' h2 h3 stays
theorem step_pushS{P:Program}{w:World}{ops:Array Oper}{o:Oper}{a:Act}{K:Act→World→Prop}{Q:Exit→Act→World→Prop}{E:Prop}(hgd:o.guard=none)(s x:Operand)(t:TypeId)
  (ho:o.op = .call { callee:=.builtin .append,args:=#[s,x],argTypes:=#[t,t] })
  {e:TypeId} {bytes:Nat} {z:Value} (ty:SliceTy P t e 1 bytes z) (B:Nat) {g n cap:Nat} {xs:List Value} (hown:w.ownsRow B e 1 (.slice (some ⟨g,0,none⟩) n cap) n xs) (hs:a.eval s = .slice (some ⟨g,0,none⟩) n cap)
  {ad:Addr} {u:Value} (hx:a.eval x = .slice (some ad) 1 1) (hu:w.cell? (ad.add 0)=some u) (h1:u.oneCell'=true) (hn:n<4294967296) (hby:bytes≤16384) (hB:B≤w.heap.size)
  (h:∀v' w',w'.ownsRow B e 1 v' (n+1) (xs++[u])→w.grownBy w' (some g)→(∀j y,xs[j]? = some y→w'.cell? ⟨g,j,none⟩=some y)→K (a.put o.dst v') w'):
  if Region.wanted o (yielded ops a.tmps)=true then Oper.wp P o a w K Q else E:=by
 have hw:Region.wanted o (yielded ops a.tmps)=true:=by simp [Region.wanted,hgd]
 rw [if_pos hw]
 exact wp_pushS s x t ho ty B hown hs hx hu h1 hn hby hB h
end Go.Proofs.YtnbmpgballopeaaGreatDoor
namespace Go.Proofs.YtnbmpgballopeaaGreatDoor
open Go.RowKit
def inBk:Code→Code
 | .block _ c=>c
 | c=>c
set_option maxRecDepth 1000000 in
set_option maxHeartbeats 16000000 in
theorem hp16{u0 u1 u2 u3 u4 u5 u6 u7 u8 u9 u10 u11 u12 u13 u14 u15 u16 u17 u18 u19 u20 u21 u22 u23 u24 u25 u26 u27 u28 u29 u30 u31 u32 u33 u34 u35 u36 u37 u38 u39 u40 u41 u42 u43 u44 u45 u46 u47 u48 u49 u50 u51 u52 u53 u54 u55 u56 u57 u58 u59 u60 u61 u62 u63 u64 u65 u66 u67 u68 u69 u70 u71 u72 u73 u74 u75 u76 u77 u78 u79 u80 u81 u82 u83 u84 u85 u86 u87 u88 u89 u90 u91 u92 u93 u94 u95 u96 u97 u98 u99 aa ab ae af ag ah ai aj ak al am an ao ap aq ar au av aw ax ay az aA aB aC aD aE aF aG aH aI aJ aK aL aM aN aO aP aQ aR aS aT aU aV aW aX aY aZ ba bb bc bd be bf bg bh bi bj bk bl bm bn bo bp bq br bs bt bu bv bw bx bz bA bB bC bD bE bF bG bH bI bJ bK bL bM bO bP bQ bR bS bT bU bV bW bX bY bZ ca cb cc ce cf cg ch ci cj ck cl cn co cp cq cr cs ct cu cv cx cy cz cA cB cC cD cE cF cG cH cI cJ cK cL cM cN cO cP cQ cR cS cT cU cV cW cX cY cZ da db dc dd de df dg dh di dj dk dl dm dn dp dq dr ds dt du dv dw dx dy dz dA dB dC dD dE dF dG dH dI dJ dK dL dM dO dP dQ dR dS dT dU dV dW dX dY dZ ea eb ec ed ee ef eg eh:Value}{Q:Exit→Act→World→Prop}{w:World}
  (hQ:∀(n73:Value) (v:Value) (w':World),w'.ownsRow w.heap.size 46 1 v 0 (nums .u32 [])→Below w.heap.size w w'→Q .normal ⟨#[u0,u1,u2,u3,u4,u5,u6,u7,u8,u9,u10,u11,v,u13,u14,u15,u16,u17,u18,u19,u20,u21,u22,u23,u24,u25,u26,u27,u28,u29,u30,u31,u32,u33,u34,u35,u36,u37,u38,u39,u40,u41,u42,u43,u44,u45,u46,u47,u48,u49,u50,u51,u52,u53,u54,u55,u56,u57,u58,u59,u60,u61,u62,u63,u64,u65,u66,u67,u68,u69,u70,u71,u72,n73,u74,u75,u76,u77,u78,u79,u80,u81,u82,u83,u84,u85,u86,u87,u88,u89,u90,u91,u92,u93,u94,u95,u96,u97,u98,u99,aa,ab,ae,af,ag,ah,ai,aj,ak,al,am,an,ao,ap,aq,ar,au,av,aw,ax,ay,az,aA,aB,aC,aD,aE,aF,aG,aH,aI,aJ,aK,aL,aM,aN,aO,aP,aQ,aR,aS,aT,aU,aV,aW,aX,aY,aZ,ba,bb,bc,bd,be,bf,bg,bh,bi,bj,bk,bl,bm,bn,bo,bp,bq,br,bs,bt,bu,bv,bw,bx,bz,bA,bB,bC,bD,bE,bF,bG,bH,bI,bJ,bK,bL,bM,bO,bP,bQ,bR,bS,bT,bU,bV,bW,bX,bY,bZ,ca,cb,cc,ce,cf,cg,ch,ci,cj,ck,cl,cn,co,cp,cq,cr,cs,ct,cu,cv,cx,cy,cz,cA,cB,cC,cD,cE,cF,cG,cH,cI,cJ,cK,cL,cM,cN,cO,cP,cQ,cR,cS,cT,cU,cV,cW,cX,cY,cZ,da,db,dc,dd,de,df,dg,dh,di,dj,dk,dl,dm,dn,dp,dq,dr,ds,dt,du,dv,dw,dx,dy,dz,dA,dB,dC,dD,dE,dF,dG,dH,dI,dJ,dK,dL,dM,dO,dP,dQ,dR,dS,dT,dU,dV,dW,dX,dY,dZ,ea,eb,ec,ed,ee,ef,eg,eh],[]⟩ w'):
  Code.wp Tryz.prog (headC (inBk (headC ((Tryz.f83.body.bind (pickR 16)).getD .skip)))) Q ⟨#[u0,u1,u2,u3,u4,u5,u6,u7,u8,u9,u10,u11,u12,u13,u14,u15,u16,u17,u18,u19,u20,u21,u22,u23,u24,u25,u26,u27,u28,u29,u30,u31,u32,u33,u34,u35,u36,u37,u38,u39,u40,u41,u42,u43,u44,u45,u46,u47,u48,u49,u50,u51,u52,u53,u54,u55,u56,u57,u58,u59,u60,u61,u62,u63,u64,u65,u66,u67,u68,u69,u70,u71,u72,u73,u74,u75,u76,u77,u78,u79,u80,u81,u82,u83,u84,u85,u86,u87,u88,u89,u90,u91,u92,u93,u94,u95,u96,u97,u98,u99,aa,ab,ae,af,ag,ah,ai,aj,ak,al,am,an,ao,ap,aq,ar,au,av,aw,ax,ay,az,aA,aB,aC,aD,aE,aF,aG,aH,aI,aJ,aK,aL,aM,aN,aO,aP,aQ,aR,aS,aT,aU,aV,aW,aX,aY,aZ,ba,bb,bc,bd,be,bf,bg,bh,bi,bj,bk,bl,bm,bn,bo,bp,bq,br,bs,bt,bu,bv,bw,bx,bz,bA,bB,bC,bD,bE,bF,bG,bH,bI,bJ,bK,bL,bM,bO,bP,bQ,bR,bS,bT,bU,bV,bW,bX,bY,bZ,ca,cb,cc,ce,cf,cg,ch,ci,cj,ck,cl,cn,co,cp,cq,cr,cs,ct,cu,cv,cx,cy,cz,cA,cB,cC,cD,cE,cF,cG,cH,cI,cJ,cK,cL,cM,cN,cO,cP,cQ,cR,cS,cT,cU,cV,cW,cX,cY,cZ,da,db,dc,dd,de,df,dg,dh,di,dj,dk,dl,dm,dn,dp,dq,dr,ds,dt,du,dv,dw,dx,dy,dz,dA,dB,dC,dD,dE,dF,dG,dH,dI,dJ,dK,dL,dM,dO,dP,dQ,dR,dS,dT,dU,dV,dW,dX,dY,dZ,ea,eb,ec,ed,ee,ef,eg,eh],[]⟩ w:=by
 have HQ:=hid hQ
 have O0:=hid (World.ownsRow_made (base:=w.heap.size) (e:=46) (size:=1) w #[] 0 (Nat.le_refl _) (by simp) (by simp))
 have b0:=hid ((Below.refl w.heap.size w).alloc (Nat.le_refl _) (.cells #[] 46))
 clear hQ
 conv=>arg 2;whnf
 go_wp2
 refine HQ.out _ _ _ O0.out b0.out
end Go.Proofs.YtnbmpgballopeaaGreatDoor
namespace Go.Proofs.YtnbmpgballopeaaGreatDoor
open Go.RowKit
set_option maxRecDepth 1000000 in
set_option maxHeartbeats 16000000 in
theorem hp27{u0 u1 u2 u3 u5 u6 u7 u8 u9 u10 u11 u12 u13 u14 u15 u16 u17 u18 u19 u20 u21 u22 u23 u24 u25 u26 u27 u28 u29 u30 u31 u32 u33 u34 u35 u36 u37 u38 u39 u40 u41 u42 u43 u44 u45 u46 u47 u48 u49 u50 u51 u52 u53 u54 u55 u56 u57 u58 u59 u60 u61 u62 u63 u64 u65 u66 u67 u68 u69 u70 u71 u72 u73 u74 u75 u76 u77 u78 u79 u80 u81 u82 u83 u84 u85 u86 u87 u88 u89 u90 u91 u92 u93 u94 u95 u96 u97 u98 u99 aa ab ae af ag ah ai aj ak al am an ao ap aq ar au av aw ax ay az aA aB aC aD aE aF aG aH aI aJ aK aL aM aN aO aP aQ aR aS aT aU aV aW aX aY aZ ba bb bc bd be bf bg bh bi bj bk bl bm bn bo bp bq br bs bt bu bv bw bx bz bA bB bC bD bE bF bG bH bI bJ bK bL bM bO bP bQ bR bS bT bU bV bW bX bY bZ ca cb cc ce cf cg ch ci cj ck cl cn co cp cq cr cs ct cu cv cx cy cz cA cB cC cD cE cF cG cH cI cJ cK cL cM cN cO cP cQ cR cS cT cU cV cW cX cY cZ da db dc dd de df dg dh di dj dk dl dm dn dp dq dr ds dt du dv dw dx dy dz dA dB dC dD dE dF dG dH dI dJ dK dL dM dO dP dQ dR dS dT dU dV dW dX dY dZ ea eb ec ed ee ef eg eh:Value}{Q:Exit→Act→World→Prop}{GS z0 z1 z2 z3 z4 z5 z6 z7:Nat}{w:World}(c0:w.cell? ⟨GS,0,none⟩=some (.int .u32 (z0:Int)))(c1:w.cell? ⟨GS,1,none⟩=some (.int .u32 (z1:Int)))(c2:w.cell? ⟨GS,2,none⟩=some (.int .u32 (z2:Int)))(c3:w.cell? ⟨GS,3,none⟩=some (.int .u32 (z3:Int)))(c4:w.cell? ⟨GS,4,none⟩=some (.int .u32 (z4:Int)))(c5:w.cell? ⟨GS,5,none⟩=some (.int .u32 (z5:Int)))(c6:w.cell? ⟨GS,6,none⟩=some (.int .u32 (z6:Int)))(c7:w.cell? ⟨GS,7,none⟩=some (.int .u32 (z7:Int)))
  (hQ:∀(ei ej ek el em en eo ep er es et eu ev ew ey ez:Value) (w':World),Qt w w'→Q .normal ⟨#[u0,u1,u2,u3,.pointer (some ⟨GS,0,none⟩),u5,u6,u7,u8,u9,u10,u11,u12,u13,u14,u15,u16,.int .u32 (z0:Int),.int .u32 (z1:Int),.int .u32 (z2:Int),.int .u32 (z3:Int),.int .u32 (z4:Int),.int .u32 (z5:Int),.int .u32 (z6:Int),.int .u32 (z7:Int),u25,u26,u27,u28,u29,u30,u31,u32,u33,u34,u35,u36,u37,u38,u39,u40,u41,u42,u43,u44,u45,u46,u47,u48,u49,u50,u51,u52,u53,u54,u55,u56,u57,u58,u59,u60,u61,u62,u63,u64,u65,u66,u67,u68,u69,u70,u71,u72,u73,u74,u75,u76,u77,u78,u79,u80,u81,u82,u83,u84,u85,u86,u87,u88,u89,u90,u91,u92,u93,u94,u95,u96,u97,u98,u99,aa,ab,ae,af,ag,ah,ai,aj,ak,al,am,an,ao,ap,aq,ar,au,av,aw,ax,ay,az,aA,aB,aC,aD,aE,aF,aG,aH,aI,aJ,aK,aL,aM,aN,aO,aP,aQ,aR,aS,aT,aU,aV,aW,aX,aY,aZ,ba,bb,bc,bd,be,bf,bg,bh,bi,bj,bk,bl,bm,bn,bo,bp,bq,br,bs,bt,bu,bv,bw,bx,bz,bA,bB,bC,bD,bE,bF,bG,ei,ej,ek,el,em,en,eo,ep,er,es,et,eu,ev,ew,ey,ez,bY,bZ,ca,cb,cc,ce,cf,cg,ch,ci,cj,ck,cl,cn,co,cp,cq,cr,cs,ct,cu,cv,cx,cy,cz,cA,cB,cC,cD,cE,cF,cG,cH,cI,cJ,cK,cL,cM,cN,cO,cP,cQ,cR,cS,cT,cU,cV,cW,cX,cY,cZ,da,db,dc,dd,de,df,dg,dh,di,dj,dk,dl,dm,dn,dp,dq,dr,ds,dt,du,dv,dw,dx,dy,dz,dA,dB,dC,dD,dE,dF,dG,dH,dI,dJ,dK,dL,dM,dO,dP,dQ,dR,dS,dT,dU,dV,dW,dX,dY,dZ,ea,eb,ec,ed,ee,ef,eg,eh],[]⟩ w'):
  Code.wp Tryz.prog (headC ((Tryz.f83.body.bind (pickR 27)).getD .skip)) Q ⟨#[u0,u1,u2,u3,.pointer (some ⟨GS,0,none⟩),u5,u6,u7,u8,u9,u10,u11,u12,u13,u14,u15,u16,u17,u18,u19,u20,u21,u22,u23,u24,u25,u26,u27,u28,u29,u30,u31,u32,u33,u34,u35,u36,u37,u38,u39,u40,u41,u42,u43,u44,u45,u46,u47,u48,u49,u50,u51,u52,u53,u54,u55,u56,u57,u58,u59,u60,u61,u62,u63,u64,u65,u66,u67,u68,u69,u70,u71,u72,u73,u74,u75,u76,u77,u78,u79,u80,u81,u82,u83,u84,u85,u86,u87,u88,u89,u90,u91,u92,u93,u94,u95,u96,u97,u98,u99,aa,ab,ae,af,ag,ah,ai,aj,ak,al,am,an,ao,ap,aq,ar,au,av,aw,ax,ay,az,aA,aB,aC,aD,aE,aF,aG,aH,aI,aJ,aK,aL,aM,aN,aO,aP,aQ,aR,aS,aT,aU,aV,aW,aX,aY,aZ,ba,bb,bc,bd,be,bf,bg,bh,bi,bj,bk,bl,bm,bn,bo,bp,bq,br,bs,bt,bu,bv,bw,bx,bz,bA,bB,bC,bD,bE,bF,bG,bH,bI,bJ,bK,bL,bM,bO,bP,bQ,bR,bS,bT,bU,bV,bW,bX,bY,bZ,ca,cb,cc,ce,cf,cg,ch,ci,cj,ck,cl,cn,co,cp,cq,cr,cs,ct,cu,cv,cx,cy,cz,cA,cB,cC,cD,cE,cF,cG,cH,cI,cJ,cK,cL,cM,cN,cO,cP,cQ,cR,cS,cT,cU,cV,cW,cX,cY,cZ,da,db,dc,dd,de,df,dg,dh,di,dj,dk,dl,dm,dn,dp,dq,dr,ds,dt,du,dv,dw,dx,dy,dz,dA,dB,dC,dD,dE,dF,dG,dH,dI,dJ,dK,dL,dM,dO,dP,dQ,dR,dS,dT,dU,dV,dW,dX,dY,dZ,ea,eb,ec,ed,ee,ef,eg,eh],[]⟩ w:=by
 have HQ:=hid hQ
 clear hQ
 conv=>arg 2;whnf
 go_wp2_with fail
 go_quiet (fail)
 go_wp2
 refine HQ.out _ _ _ _ _ _ _ _ _ _ _ _ _ _ _ _ _ ((Qt.refl w).dN _)
end Go.Proofs.YtnbmpgballopeaaGreatDoor
namespace Go.Proofs.YtnbmpgballopeaaGreatDoor
open Go.RowKit
set_option maxRecDepth 1000000 in
set_option maxHeartbeats 16000000 in
theorem hpA{u0 u1 u2 u3 u4 u5 u6 u8 u9 u10 u13 u14 u15 u16 u17 u18 u19 u20 u21 u22 u23 u24 u25 u26 u27 u28 u29 u30 u31 u32 u33 u34 u35 u36 u37 u38 u39 u40 u41 u42 u43 u44 u45 u46 u47 u48 u49 u50 u51 u52 u53 u54 u55 u56 u57 u58 u59 u60 u61 u62 u63 u64 u65 u66 u67 u68 u69 u70 u71 u72 u73 u74 u75 u76 u77 u78 u79 u80 u81 u82 u83 u84 u85 u86 u87 u88 u89 u90 u91 u92 u93 u94 u95 u96 u97 u98 u99 aa ab ae af ag ah ai aj ak al am an ao ap aq ar au av aw ax ay az aA aB aC aD aE aF aG aH aI aJ aK aL aM aN aO aP aQ aR aS aT aU aV aW aX aY aZ ba bb bc bd be bf bg bh bi bj bk bl bm bn bo bp bq br bs bt bu bv bw bx bz bA bB bC bD bE bF bG bH bI bJ bK bL bM bO bP bQ bR bS bT bU bV bW bX bY bZ ca cb cc ce cf cg ch ci cj ck cl cn co cp cq cr cs ct cu cv cx cy cz cA cB cC cD cE cF cG cH cI cJ cK cL cM cN cO cP cQ cR cS cT cU cV cW cX cY cZ da db dc dd de df dg dh di dj dk dl dm dn dp dq dr ds dt du dv dw dx dy dz dA dB dC dD dE dF dG dH dI dJ dK dL dM dO dP dQ dR dS dT dU dV dW dX dY dZ ea eb ec ed ee ef eg eh:Value}{Q:Exit→Act→World→Prop}{gm LP cm p B B0:Nat}{v12:Value}{P:List Nat}{w:World}(hO:w.ownsRow B0 5 1 (.slice (some ⟨gm,0,none⟩) LP cm) LP (nums .u8 P))(hP:∀d∈P,d<256)(hp:p+64≤LP)(hLP:LP<8589934592)(hW:w.ownsRow B 46 1 v12 0 (nums .u32 []))(hB:gm<B)(hBw:B≤w.heap.size)
  (hQ:∀(n13 n74 n75 n76 n77 n78 n79 n80 n81 n82 n83 n84 n85 n86 n87 n88 n89 n90 n91 n92 n93 n94 n95 n96 n97 n98 n99 eA eB eC eD eE eF eG eH eI eJ eK eL eM eN eO eP eQ eR:Value) (v:Value) (w':World),w'.ownsRow B 46 1 v 16 (nums .u32 (wordsN ((P.drop p).take 64) 16))→Below B w w'→Q .normal ⟨#[u0,u1,u2,u3,u4,u5,u6,.slice (some ⟨gm,0,none⟩) LP cm,u8,u9,u10,.int .i64 (p:Int),v,n13,u14,u15,u16,u17,u18,u19,u20,u21,u22,u23,u24,u25,u26,u27,u28,u29,u30,u31,u32,u33,u34,u35,u36,u37,u38,u39,u40,u41,u42,u43,u44,u45,u46,u47,u48,u49,u50,u51,u52,u53,u54,u55,u56,u57,u58,u59,u60,u61,u62,u63,u64,u65,u66,u67,u68,u69,u70,u71,u72,u73,n74,n75,n76,n77,n78,n79,n80,n81,n82,n83,n84,n85,n86,n87,n88,n89,n90,n91,n92,n93,n94,n95,n96,n97,n98,n99,eA,eB,eC,eD,eE,eF,eG,eH,eI,eJ,eK,eL,eM,eN,eO,eP,eQ,eR,aw,ax,ay,az,aA,aB,aC,aD,aE,aF,aG,aH,aI,aJ,aK,aL,aM,aN,aO,aP,aQ,aR,aS,aT,aU,aV,aW,aX,aY,aZ,ba,bb,bc,bd,be,bf,bg,bh,bi,bj,bk,bl,bm,bn,bo,bp,bq,br,bs,bt,bu,bv,bw,bx,bz,bA,bB,bC,bD,bE,bF,bG,bH,bI,bJ,bK,bL,bM,bO,bP,bQ,bR,bS,bT,bU,bV,bW,bX,bY,bZ,ca,cb,cc,ce,cf,cg,ch,ci,cj,ck,cl,cn,co,cp,cq,cr,cs,ct,cu,cv,cx,cy,cz,cA,cB,cC,cD,cE,cF,cG,cH,cI,cJ,cK,cL,cM,cN,cO,cP,cQ,cR,cS,cT,cU,cV,cW,cX,cY,cZ,da,db,dc,dd,de,df,dg,dh,di,dj,dk,dl,dm,dn,dp,dq,dr,ds,dt,du,dv,dw,dx,dy,dz,dA,dB,dC,dD,dE,dF,dG,dH,dI,dJ,dK,dL,dM,dO,dP,dQ,dR,dS,dT,dU,dV,dW,dX,dY,dZ,ea,eb,ec,ed,ee,ef,eg,eh],[]⟩ w'):
  Code.wp Tryz.prog (headC ((Tryz.f83.body.bind (pickR 17)).getD .skip)) Q ⟨#[u0,u1,u2,u3,u4,u5,u6,.slice (some ⟨gm,0,none⟩) LP cm,u8,u9,u10,.int .i64 (p:Int),v12,u13,u14,u15,u16,u17,u18,u19,u20,u21,u22,u23,u24,u25,u26,u27,u28,u29,u30,u31,u32,u33,u34,u35,u36,u37,u38,u39,u40,u41,u42,u43,u44,u45,u46,u47,u48,u49,u50,u51,u52,u53,u54,u55,u56,u57,u58,u59,u60,u61,u62,u63,u64,u65,u66,u67,u68,u69,u70,u71,u72,u73,u74,u75,u76,u77,u78,u79,u80,u81,u82,u83,u84,u85,u86,u87,u88,u89,u90,u91,u92,u93,u94,u95,u96,u97,u98,u99,aa,ab,ae,af,ag,ah,ai,aj,ak,al,am,an,ao,ap,aq,ar,au,av,aw,ax,ay,az,aA,aB,aC,aD,aE,aF,aG,aH,aI,aJ,aK,aL,aM,aN,aO,aP,aQ,aR,aS,aT,aU,aV,aW,aX,aY,aZ,ba,bb,bc,bd,be,bf,bg,bh,bi,bj,bk,bl,bm,bn,bo,bp,bq,br,bs,bt,bu,bv,bw,bx,bz,bA,bB,bC,bD,bE,bF,bG,bH,bI,bJ,bK,bL,bM,bO,bP,bQ,bR,bS,bT,bU,bV,bW,bX,bY,bZ,ca,cb,cc,ce,cf,cg,ch,ci,cj,ck,cl,cn,co,cp,cq,cr,cs,ct,cu,cv,cx,cy,cz,cA,cB,cC,cD,cE,cF,cG,cH,cI,cJ,cK,cL,cM,cN,cO,cP,cQ,cR,cS,cT,cU,cV,cW,cX,cY,cZ,da,db,dc,dd,de,df,dg,dh,di,dj,dk,dl,dm,dn,dp,dq,dr,ds,dt,du,dv,dw,dx,dy,dz,dA,dB,dC,dD,dE,dF,dG,dH,dI,dJ,dK,dL,dM,dO,dP,dQ,dR,dS,dT,dU,dV,dW,dX,dY,dZ,ea,eb,ec,ed,ee,ef,eg,eh],[]⟩ w:=by
 have HO:=hid hO
 have HP:=hid hP
 have HW:=hid hW
 have HQ:=hid hQ
 have hlP:=hid (show P.length=LP by have:=hO.1;simpa using this)
 clear hO hP hW hQ
 conv=>arg 2;whnf
 go_wp2
 go_loopw [12,13] (fun x12 x13 wr=>∃(q i4:Nat) (v:Value),Hid (i4=4*q)∧i4≤64∧x13 = .int .i64 i4∧v=x12∧wr.ownsRow B 46 1 v q (nums .u32 (wordsN ((P.drop p).take 64) q))∧Below B w wr) (fun _ x13 _=>64 - (intOf x13).toNat)
 case atStart=>exact⟨0,0,_,hid rfl,by omega,rfl,rfl,HW.out,Below.refl _ _⟩
 case round=>
  obtain⟨q,i4,v,hiq,hi64,rfl,rfl,hown,hbq⟩:=hrel
  clear HW
  have HBQ:=hid hbq
  have HOQ:=hid hown
  by_cases hlt4:i4<64
  ·obtain⟨s0,hs0⟩:∃s0:Nat,s0=p+i4:=⟨_,rfl⟩
   have es0:(p:Int)+(i4:Int)=(s0:Int):=by omega
   have hs0L:s0+3<LP:=by have:=hiq.out;omega
   have hq16:q<16:=by have:=hiq.out;omega
   have om:wr.ownsRow B0 5 1 (.slice (some ⟨gm,0,none⟩) LP cm) LP (nums .u8 P):=own_low HO.out hbq (by intro k hk;simp [Value.ownBlock] at hk;omega)
   have d0:=getDlt HP.out (by omega) s0
   have d1:=getDlt HP.out (by omega) (s0+1)
   have d2:=getDlt HP.out (by omega) (s0+2)
   have d3:=getDlt HP.out (by omega) (s0+3)
   have hlPp:=hlP.out
   have c0:=(om.cellAt s0 (by omega)).trans (nums_get .u8 (by omega))
   have c1:=(om.cellAt (s0+1) (by omega)).trans (nums_get .u8 (by omega))
   have c2:=(om.cellAt (s0+2) (by omega)).trans (nums_get .u8 (by omega))
   have c3:=(om.cellAt (s0+3) (by omega)).trans (nums_get .u8 (by omega))
   have HWD:=hid (show word ((P.drop p).take 64) q=((P.getD s0 0*256+P.getD (s0+1) 0)*256+P.getD (s0+2) 0)*256+P.getD (s0+3) 0 by
    have hq:=hiq.out
    have g:∀c,c<4→((P.drop p).take 64).getD (4*q+c) 0=P.getD (s0+c) 0:=by
     intro c hc
     rw [List.getD_eq_getElem?_getD,List.getElem?_take,if_pos (by omega),List.getElem?_drop,List.getD_eq_getElem?_getD]
     congr 2
     omega
    unfold word
    rw [g 1 (by omega),g 2 (by omega),g 3 (by omega)]
    have g0:=g 0 (by omega)
    rw [Nat.add_zero,Nat.add_zero] at g0
    rw [g0])
   generalize P.getD s0 0=v0 at *
   generalize P.getD (s0+1) 0=v1 at *
   generalize P.getD (s0+2) 0=v2' at *
   generalize P.getD (s0+3) 0=v3 at *
   have i0:(s0:Int)<(LP:Int):=by omega
   have i1:(s0:Int)+1<(LP:Int):=by omega
   have i2:(s0:Int)+2<(LP:Int):=by omega
   have i3:(s0:Int)+3<(LP:Int):=by omega
   clear om hlPp hs0 hown hbq
   go_upto_region 20 with(fail)
   have jw0:IntKind.i64.wrap (s0:Int)=(s0:Int):=IntWalk.i64_in _ (by omega)
   have jw1:IntKind.i64.wrap ((s0:Int)+1)=(s0:Int)+1:=IntWalk.i64_in _ (by omega)
   have jw2:IntKind.i64.wrap ((s0:Int)+2)=(s0:Int)+2:=IntWalk.i64_in _ (by omega)
   have jw3:IntKind.i64.wrap ((s0:Int)+3)=(s0:Int)+3:=IntWalk.i64_in _ (by omega)
   have jn1:((s0:Int)+1).toNat=s0+1:=by omega
   have jn2:((s0:Int)+2).toNat=s0+2:=by omega
   have jn3:((s0:Int)+3).toNat=s0+3:=by omega
   have jp1:(0:Int)≤(s0:Int)+1:=by omega
   have jp2:(0:Int)≤(s0:Int)+2:=by omega
   have jp3:(0:Int)≤(s0:Int)+3:=by omega
   obtain⟨V,hV⟩:∃V:Nat,V=((v0*256+v1)*256+v2')*256+v3:=⟨_,rfl⟩
   rw [← hV] at HWD
   obtain⟨V1,hV1⟩:∃V1:Nat,V1=v0*256:=⟨_,rfl⟩
   obtain⟨V2,hV2⟩:∃V2:Nat,V2=v0*256+v1:=⟨_,rfl⟩
   obtain⟨V3,hV3⟩:∃V3:Nat,V3=(v0*256+v1)*256:=⟨_,rfl⟩
   obtain⟨V4,hV4⟩:∃V4:Nat,V4=(v0*256+v1)*256+v2':=⟨_,rfl⟩
   obtain⟨V5,hV5⟩:∃V5:Nat,V5=((v0*256+v1)*256+v2')*256:=⟨_,rfl⟩
   have kw:∀x:Nat,x<4294967296→IntKind.u32.wrap (x:Int)=(x:Int):=fun x hx=>by rw [IntKind.wrap_u32];omega
   have k0:=kw v0 (by omega)
   have k1:=kw v1 (by omega)
   have k2:=kw v2' (by omega)
   have k3:=kw v3 (by omega)
   have m1:IntKind.u32.wrap ((v0:Int)*256)=(V1:Int):=by rw [show(v0:Int)*256=(V1:Int) by omega];exact kw _ (by omega)
   have m2:IntKind.u32.wrap ((V1:Int)+(v1:Int))=(V2:Int):=by rw [show(V1:Int)+(v1:Int)=(V2:Int) by omega];exact kw _ (by omega)
   have m3:IntKind.u32.wrap ((V2:Int)*256)=(V3:Int):=by rw [show(V2:Int)*256=(V3:Int) by omega];exact kw _ (by omega)
   have m4:IntKind.u32.wrap ((V3:Int)+(v2':Int))=(V4:Int):=by rw [show(V3:Int)+(v2':Int)=(V4:Int) by omega];exact kw _ (by omega)
   have m5:IntKind.u32.wrap ((V4:Int)*256)=(V5:Int):=by rw [show(V4:Int)*256=(V5:Int) by omega];exact kw _ (by omega)
   have m6:IntKind.u32.wrap ((V5:Int)+(v3:Int))=(V:Int):=by rw [show(V5:Int)+(v3:Int)=(V:Int) by omega];exact kw _ (by omega)
   clear hV hV1 hV2 hV3 hV4 hV5 kw d0 d1 d2 d3
   have bN:=(Below.refl wr.heap.size wr).alloc (Nat.le_refl _) (.cells #[.int .u32 (V:Int)] 46)
   have hBs:=HBQ.out.size
   have e0:=cell_keep' c0 bN.drew
   have e1:=cell_keep' c1 bN.drew
   have e2:=cell_keep' c2 bN.drew
   have e3:=cell_keep' c3 bN.drew
   have oN:=hid (own_below HOQ.out bN.drew)
   have hne9:∀j,some (⟨gm,j,none⟩:Addr).block≠v.ownBlock:=fun j e=>by have:=(HOQ.out.lt _ e.symm).1;simp only at this;omega
   go_region_held3 (fun w'=>w'.cell? ⟨gm,s0,none⟩=some (.int .u8 (v0:Int))∧w'.cell? ⟨gm,s0+1,none⟩=some (.int .u8 (v1:Int))∧w'.cell? ⟨gm,s0+2,none⟩=some (.int .u8 (v2':Int))∧w'.cell? ⟨gm,s0+3,none⟩=some (.int .u8 (v3:Int)))
    (first|exact⟨c0,c1,c2,c3⟩|exact⟨e0,e1,e2,e3⟩|exact⟨cell_grown e0 g9 (hne9 _),cell_grown e1 g9 (hne9 _),cell_grown e2 g9 (hne9 _),cell_grown e3 g9 (hne9 _)⟩)
    (first|(refine step_cat rfl (.tmp 78) (.tmp 116) 202 rfl tyU32s B oN.out rfl rfl ((rd_new1 wr _ _).below ((Below.refl _ _).drew)) (by intro u hu;simp only [List.mem_singleton] at hu;subst hu;rfl) (by omega) (by unfold maxLen;omega) (by simp;omega) ?_;intro v9 w9 o9 g9 l9)|fail)
   have O9:=hid (show w9.ownsRow B 46 1 v9 (q+1) (nums .u32 (wordsN ((P.drop p).take 64) (q+1))) by
    rw [wordsN,HWD.out,← nums_snoc .u32 rfl];exact o9)
   have B9:=hid ((HBQ.out.trans (bN.drew.mono hBs |> fun h=>h.mono (by omega))).grown g9 (by simp;omega) (fun k hk=>(HOQ.out.lt k hk).1))
   clear o9 g9 l9 e0 e1 e2 e3 c0 c1 c2 c3 bN oN hne9 jw0 jw1 jw2 jw3 jn1 jn2 jn3 jp1 jp2 jp3 m1 m2 m3 m4 m5 m6 k0 k1 k2 k3 i0 i1 i2 i3 es0
   go_wp2
   go_roundw
   case rel=>exact⟨q+1,i4+4,v9,hid (by have:=hiq.out;omega),by have:=hiq.out;omega,by go_num,rfl,O9.out,B9.out⟩
   case measure=>simp only [intOf];omega
  ·have hi64:i4=64:=by omega
   have hq16:q=16:=by have:=hiq.out;omega
   subst hq16
   go_wp2
   apply HQ.out
   ·exact HOQ.out
   ·exact HBQ.out
end Go.Proofs.YtnbmpgballopeaaGreatDoor
namespace Go.Proofs.YtnbmpgballopeaaGreatDoor
open Go.RowKit
set_option maxRecDepth 1000000 in
set_option maxHeartbeats 16000000 in
theorem hpB{u0 u1 u2 u3 u4 u5 u6 u7 u8 u9 u10 u11 u13 u14 u15 u16 u17 u18 u19 u20 u21 u22 u23 u24 u25 u26 u27 u28 u29 u30 u31 u32 u33 u34 u35 u36 u37 u38 u39 u40 u41 u42 u43 u44 u45 u46 u47 u48 u49 u50 u51 u52 u53 u54 u55 u56 u57 u58 u59 u60 u61 u62 u63 u64 u65 u66 u67 u68 u69 u70 u71 u72 u73 u74 u75 u76 u77 u78 u79 u80 u81 u82 u83 u84 u85 u86 u87 u88 u89 u90 u91 u92 u93 u94 u95 u96 u97 u98 u99 aa ab ae af ag ah ai aj ak al am an ao ap aq ar au av aw ax ay az aA aB aC aD aE aF aG aH aI aJ aK aL aM aN aO aP aQ aR aS aT aU aV aW aX aY aZ ba bb bc bd be bf bg bh bi bj bk bl bm bn bo bp bq br bs bt bu bv bw bx bz bA bB bC bD bE bF bG bH bI bJ bK bL bM bO bP bQ bR bS bT bU bV bW bX bY bZ ca cb cc ce cf cg ch ci cj ck cl cn co cp cq cr cs ct cu cv cx cy cz cA cB cC cD cE cF cG cH cI cJ cK cL cM cN cO cP cQ cR cS cT cU cV cW cX cY cZ da db dc dd de df dg dh di dj dk dl dm dn dp dq dr ds dt du dv dw dx dy dz dA dB dC dD dE dF dG dH dI dJ dK dL dM dO dP dQ dR dS dT dU dV dW dX dY dZ ea eb ec ed ee ef eg eh:Value}{Q:Exit→Act→World→Prop}{B:Nat}{v12:Value}{b:List Nat}{w:World}(hX:∀d∈b,d<256)(hW:w.ownsRow B 46 1 v12 16 (nums .u32 (wordsN b 16)))(hBw:B≤w.heap.size)
  (hQ:∀(n14 n15 n16 eS eT eU eV eW eX eY eZ fa fb fc fd fe ff fg fh fi fj fk fl fm fn fo fp fq fr fs ft fu fv fw fx fy fz fA fB fC fD fE fF fG fH fI fJ fK fL fM fN fO fP fQ fR fS fT fU fV fW fX fY fZ ga gb:Value) (v:Value) (w':World),w'.ownsRow B 46 1 v 64 (nums .u32 (schedN b 48))→Below B w w'→Q .normal ⟨#[u0,u1,u2,u3,u4,u5,u6,u7,u8,u9,u10,u11,v,u13,n14,n15,n16,u17,u18,u19,u20,u21,u22,u23,u24,u25,u26,u27,u28,u29,u30,u31,u32,u33,u34,u35,u36,u37,u38,u39,u40,u41,u42,u43,u44,u45,u46,u47,u48,u49,u50,u51,u52,u53,u54,u55,u56,u57,u58,u59,u60,u61,u62,u63,u64,u65,u66,u67,u68,u69,u70,u71,u72,u73,u74,u75,u76,u77,u78,u79,u80,u81,u82,u83,u84,u85,u86,u87,u88,u89,u90,u91,u92,u93,u94,u95,u96,u97,u98,u99,aa,ab,ae,af,ag,ah,ai,aj,ak,al,am,an,ao,ap,aq,ar,au,av,eS,eT,eU,eV,eW,eX,eY,eZ,fa,fb,fc,fd,fe,ff,fg,fh,fi,fj,fk,fl,fm,fn,fo,fp,fq,fr,fs,ft,fu,fv,fw,fx,fy,fz,fA,fB,fC,fD,fE,fF,fG,fH,fI,fJ,fK,fL,fM,fN,fO,fP,fQ,fR,fS,fT,fU,fV,fW,fX,fY,fZ,ga,gb,bH,bI,bJ,bK,bL,bM,bO,bP,bQ,bR,bS,bT,bU,bV,bW,bX,bY,bZ,ca,cb,cc,ce,cf,cg,ch,ci,cj,ck,cl,cn,co,cp,cq,cr,cs,ct,cu,cv,cx,cy,cz,cA,cB,cC,cD,cE,cF,cG,cH,cI,cJ,cK,cL,cM,cN,cO,cP,cQ,cR,cS,cT,cU,cV,cW,cX,cY,cZ,da,db,dc,dd,de,df,dg,dh,di,dj,dk,dl,dm,dn,dp,dq,dr,ds,dt,du,dv,dw,dx,dy,dz,dA,dB,dC,dD,dE,dF,dG,dH,dI,dJ,dK,dL,dM,dO,dP,dQ,dR,dS,dT,dU,dV,dW,dX,dY,dZ,ea,eb,ec,ed,ee,ef,eg,eh],[]⟩ w'):
  Code.wp Tryz.prog (headC ((Tryz.f83.body.bind (pickR 21)).getD .skip)) Q ⟨#[u0,u1,u2,u3,u4,u5,u6,u7,u8,u9,u10,u11,v12,u13,u14,u15,u16,u17,u18,u19,u20,u21,u22,u23,u24,u25,u26,u27,u28,u29,u30,u31,u32,u33,u34,u35,u36,u37,u38,u39,u40,u41,u42,u43,u44,u45,u46,u47,u48,u49,u50,u51,u52,u53,u54,u55,u56,u57,u58,u59,u60,u61,u62,u63,u64,u65,u66,u67,u68,u69,u70,u71,u72,u73,u74,u75,u76,u77,u78,u79,u80,u81,u82,u83,u84,u85,u86,u87,u88,u89,u90,u91,u92,u93,u94,u95,u96,u97,u98,u99,aa,ab,ae,af,ag,ah,ai,aj,ak,al,am,an,ao,ap,aq,ar,au,av,aw,ax,ay,az,aA,aB,aC,aD,aE,aF,aG,aH,aI,aJ,aK,aL,aM,aN,aO,aP,aQ,aR,aS,aT,aU,aV,aW,aX,aY,aZ,ba,bb,bc,bd,be,bf,bg,bh,bi,bj,bk,bl,bm,bn,bo,bp,bq,br,bs,bt,bu,bv,bw,bx,bz,bA,bB,bC,bD,bE,bF,bG,bH,bI,bJ,bK,bL,bM,bO,bP,bQ,bR,bS,bT,bU,bV,bW,bX,bY,bZ,ca,cb,cc,ce,cf,cg,ch,ci,cj,ck,cl,cn,co,cp,cq,cr,cs,ct,cu,cv,cx,cy,cz,cA,cB,cC,cD,cE,cF,cG,cH,cI,cJ,cK,cL,cM,cN,cO,cP,cQ,cR,cS,cT,cU,cV,cW,cX,cY,cZ,da,db,dc,dd,de,df,dg,dh,di,dj,dk,dl,dm,dn,dp,dq,dr,ds,dt,du,dv,dw,dx,dy,dz,dA,dB,dC,dD,dE,dF,dG,dH,dI,dJ,dK,dL,dM,dO,dP,dQ,dR,dS,dT,dU,dV,dW,dX,dY,dZ,ea,eb,ec,ed,ee,ef,eg,eh],[]⟩ w:=by
 have HX:=hid hX
 have HW:=hid hW
 have HQ:=hid hQ
 clear hX hW hQ
 conv=>arg 2;whnf
 go_wp2
 go_loopw [12,14] (fun x12 x14 wr=>∃(j i:Nat) (v:Value),Hid (i=16+j)∧i≤64∧x14 = .int .i64 i∧v=x12∧wr.ownsRow B 46 1 v (16+j) (nums .u32 (schedN b j))∧Below B w wr) (fun _ x14 _=>64 - (intOf x14).toNat)
 case atStart=>exact⟨0,16,_,hid rfl,by omega,rfl,rfl,HW.out,Below.refl _ _⟩
 case round=>
  obtain⟨j,i,v,hij,hi64,rfl,rfl,ho,hb⟩:=hrel
  clear HW
  by_cases hlt:i<64
  ·have hij':=hij.out
   obtain⟨gw,cw,rfl,hwB,hwn⟩:∃gw cw,v = .slice (some ⟨gw,0,none⟩) (16+j) cw∧B≤gw∧gw<wr.heap.size:=by
    rcases ho.2 with⟨_,h0⟩|⟨g,c,cur,e,hg,hh,_⟩
    ·omega
    ·exact⟨g,c,e,hg,(Array.getElem?_eq_some_iff.1 hh).1⟩
   obtain⟨a15,h15⟩:∃q,q=i - 15:=⟨_,rfl⟩
   obtain⟨a2,h2⟩:∃q,q=i - 2:=⟨_,rfl⟩
   obtain⟨a16,h16⟩:∃q,q=i - 16:=⟨_,rfl⟩
   obtain⟨a7,h7⟩:∃q,q=i - 7:=⟨_,rfl⟩
   have n15:(i:Int) - 15=(a15:Int):=by omega
   have n2:(i:Int) - 2=(a2:Int):=by omega
   have n16:(i:Int) - 16=(a16:Int):=by omega
   have n7:(i:Int) - 7=(a7:Int):=by omega
   have hWl:=schedN_len b j
   have get:∀q,q<i→wr.cell? ⟨gw,q,none⟩=some (.int .u32 (((schedN b j).getD q 0:Nat):Int)):=by
    intro q hq
    rw [ho.cellAt q (by omega),nums_get .u32 (by omega)]
   have c15:=get a15 (by omega)
   have c2:=get a2 (by omega)
   have c16:=get a16 (by omega)
   have c7:=get a7 (by omega)
   have l15:=getDlt (schedN_lt HX.out j) (by omega) a15
   have l2:=getDlt (schedN_lt HX.out j) (by omega) a2
   have l16:=getDlt (schedN_lt HX.out j) (by omega) a16
   have l7:=getDlt (schedN_lt HX.out j) (by omega) a7
   have HN:=hid (show wnext (schedN b j) (16+j)=((schedN b j).getD a16 0+sgp ((schedN b j).getD a15 0)+(schedN b j).getD a7 0+sgq ((schedN b j).getD a2 0)) % 4294967296 by rw [h15,h2,h16,h7,hij'];rfl)
   generalize (schedN b j).getD a15 0=y15 at *
   generalize (schedN b j).getD a2 0=y2 at *
   generalize h16w:(schedN b j).getD a16 0=y16 at *
   generalize h7w:(schedN b j).getD a7 0=y7 at *
   have h16v:=hid h16w
   have h7v:=hid h7w
   clear h16w h7w
   have R1:=sgp_rule l15
   have R2:=sgq_rule l2
   have s1:=sgp_lt l15
   have s2:=sgq_lt l2
   have HO:=hid ho
   have HB':=hid hb
   obtain⟨NL,hNL⟩:∃q,q=16+j:=⟨_,rfl⟩
   have i15:(a15:Int)<(NL:Int):=by omega
   have i2:(a2:Int)<(NL:Int):=by omega
   have i16:(a16:Int)<(NL:Int):=by omega
   have i7:(a7:Int)<(NL:Int):=by omega
   have hNL64:NL<64:=by omega
   have HNL:=hid hNL
   rw [← hNL] at HO ⊢
   clear ho hb get hWl h15 h2 h16 h7 hij' hNL
   go_upto_region 24 with(fail)
   go_quiet ((go_at_call 89;first|with_reducible exact quiet_same (turn7_walk y15 l15 _)|with_reducible exact quiet_same (turn18_walk y15 l15 _)))
   have b5:=below_drewN (Below.refl wr.heap.size wr) nq
   have c2':=cell_keep' c2 b5
   have c16':=cell_keep' c16 b5
   have c7':=cell_keep' c7 b5
   have HO5:=hid (own_below HO.out b5)
   have HB5:=hid (HB'.out.trans (below_drewN (Below.refl B wr) nq))
   clear c15 R1 c2 c16 c7 HO HB' b5
   go_upto_region 25 with(fail)
   generalize wr.drewN nq=w5 at *
   go_quiet ((go_at_call 89;first|with_reducible exact quiet_same (turn17_walk y2 l2 _)|with_reducible exact quiet_same (turn19_walk y2 l2 _)))
   have b6:=below_drewN (Below.refl w5.heap.size w5) nq
   have c16:=cell_keep' c16' b6
   have c7:=cell_keep' c7' b6
   have HO6:=hid (own_below HO5.out b6)
   have HB6:=hid (HB5.out.trans (below_drewN (Below.refl B w5) nq))
   clear c2' R2 c16' c7' HO5 HB5 b6
   go_upto_region 26 with(fail)
   generalize w5.drewN nq=w6 at *
   obtain⟨V,hV⟩:∃V:Nat,V=wnext (schedN b j) (16+j):=⟨_,rfl⟩
   obtain⟨V1,hV1⟩:∃V:Nat,V=(y16+sgp y15) % 4294967296:=⟨_,rfl⟩
   obtain⟨V2,hV2⟩:∃V:Nat,V=(V1+y7) % 4294967296:=⟨_,rfl⟩
   have m1:IntKind.u32.wrap ((y16:Int)+(sgp y15:Int))=(V1:Int):=by rw [IntKind.wrap_u32];omega
   have m2:IntKind.u32.wrap ((V1:Int)+(y7:Int))=(V2:Int):=by rw [IntKind.wrap_u32];omega
   have m3:IntKind.u32.wrap ((V2:Int)+(sgq y2:Int))=(V:Int):=by rw [IntKind.wrap_u32,hV,HN.out];omega
   have HV:=hid hV
   clear hV hV1 hV2
   have bN:=(Below.refl w6.heap.size w6).alloc (Nat.le_refl _) (.cells #[.int .u32 (V:Int)] 46)
   have hBs:=HB6.out.size
   have e0:=cell_keep' c16 bN.drew
   have e1:=cell_keep' c7 bN.drew
   have oN:=hid (own_below HO6.out bN.drew)
   have jw16:IntKind.i64.wrap (a16:Int)=(a16:Int):=IntWalk.i64_in _ (by omega)
   have jw7:IntKind.i64.wrap (a7:Int)=(a7:Int):=IntWalk.i64_in _ (by omega)
   have hu0:((w6.alloc (.cells #[.int .u32 (V:Int)] 46)).drew).cell? ((⟨w6.heap.size,0,none⟩:Addr).add 0)=some (.int .u32 (V:Int)):=cells_new w6 #[.int .u32 (V:Int)] 46 0 _ rfl
   have x16:=nums_get .u32 (show a16<(schedN b j).length by rw [schedN_len,← HNL.out];omega)
   have x7:=nums_get .u32 (show a7<(schedN b j).length by rw [schedN_len,← HNL.out];omega)
   rw [h16v.out] at x16
   rw [h7v.out] at x7
   go_region_held3 (fun w'=>w'.cell? ⟨gw,a16,none⟩=some (.int .u32 (y16:Int))∧w'.cell? ⟨gw,a7,none⟩=some (.int .u32 (y7:Int)))
    (first|exact⟨c16,c7⟩|exact⟨e0,e1⟩|exact⟨st9 _ _ x16,st9 _ _ x7⟩)
    (first|(refine step_pushS rfl (.tmp 162) (.tmp 178) 202 rfl tyU32s B oN.out rfl rfl hu0 rfl (by omega) (by decide) (by simp;omega) ?_;intro v9 w9 o9 g9 st9)|fail)
   have O9:=hid (show w9.ownsRow B 46 1 v9 (16+(j+1)) (nums .u32 (schedN b (j+1))) by
    rw [schedN,← HV.out,← nums_snoc .u32 rfl,show 16+(j+1)=NL+1 by rw [HNL.out];rfl];exact o9)
   have B9:=hid ((HB6.out.trans (bN.drew.mono (Nat.le_trans hBw hBs))).grown g9 (by simp;omega) (fun k hk=>by simp at hk;omega))
   clear o9 g9 st9 e0 e1 c16 c7 bN oN jw16 jw7 m1 m2 m3 x16 x7 hu0 i15 i2 i16 i7 n15 n2 n16 n7
   go_wp2
   go_roundw
   case rel=>exact⟨j+1,i+1,v9,hid (by have:=hij.out;omega),by omega,by go_num,rfl,O9.out,B9.out⟩
   case measure=>simp only [intOf];omega
  ·have hj:j=48:=by have:=hij.out;omega
   subst hj
   have HO:=hid ho
   have HB:=hid hb
   clear ho hb
   go_wp2
   apply HQ.out
   ·exact HO.out
   ·exact HB.out
end Go.Proofs.YtnbmpgballopeaaGreatDoor
namespace Go.Proofs.YtnbmpgballopeaaGreatDoor
open Go.RowKit
set_option maxRecDepth 1000000 in
set_option maxHeartbeats 16000000 in
theorem hpC{u0 u1 u2 u3 u4 u6 u7 u8 u9 u10 u11 u13 u14 u15 u16 u25 u26 u27 u28 u29 u30 u31 u32 u33 u34 u35 u36 u37 u38 u39 u40 u41 u42 u43 u44 u45 u46 u47 u48 u49 u50 u51 u52 u53 u54 u55 u56 u57 u58 u59 u60 u61 u62 u63 u64 u65 u66 u67 u68 u69 u70 u71 u72 u73 u74 u75 u76 u77 u78 u79 u80 u81 u82 u83 u84 u85 u86 u87 u88 u89 u90 u91 u92 u93 u94 u95 u96 u97 u98 u99 aa ab ae af ag ah ai aj ak al am an ao ap aq ar au av aw ax ay az aA aB aC aD aE aF aG aH aI aJ aK aL aM aN aO aP aQ aR aS aT aU aV aW aX aY aZ ba bb bc bd be bf bg bh bi bj bk bl bm bn bo bp bq br bs bt bu bv bw bx bz bA bB bC bD bE bF bG bH bI bJ bK bL bM bO bP bQ bR bS bT bU bV bW bX bY bZ ca cb cc ce cf cg ch ci cj ck cl cn co cp cq cr cs ct cu cv cx cy cz cA cB cC cD cE cF cG cH cI cJ cK cL cM cN cO cP cQ cR cS cT cU cV cW cX cY cZ da db dc dd de df dg dh di dj dk dl dm dn dp dq dr ds dt du dv dw dx dy dz dA dB dC dD dE dF dG dH dI dJ dK dL dM dO dP dQ dR dS dT dU dV dW dX dY dZ ea eb ec ed ee ef eg eh:Value}{Q:Exit→Act→World→Prop}{GK gw cw z0 z1 z2 z3 z4 z5 z6 z7:Nat}{K W:List Nat}{w:World}(hz:(St.mk z0 z1 z2 z3 z4 z5 z6 z7).ok)(hK2:∀d∈K,d<4294967296)(hW2:∀d∈W,d<4294967296)(hkc:∀n,n<64→w.cell? ⟨GK,n,none⟩=some (.int .u32 ((K.getD n 0:Nat):Int)))(hwc:∀n,n<64→w.cell? ⟨gw,n,none⟩=some (.int .u32 ((W.getD n 0:Nat):Int)))
  (hQ:∀(n25 n26 n27 gc gd gf gg gh gi gj gk gl gn gp gq gr gs gu gv gx gy gz gA gB gC gD gE gF gG gH gI gJ gK gL gM gN gO gP gQ gR gS gT gU gV gW gX gY gZ ha hd he hf hm hA hC hD hE hF hG hH hI hJ hK hL hM hN hR:Value) (s:St) (w':World),s=(St.mk z0 z1 z2 z3 z4 z5 z6 z7).rounds K W 64→s.ok→Qt w w'→Q .normal ⟨#[u0,u1,u2,u3,u4,.pointer (some ⟨GK,0,none⟩),u6,u7,u8,u9,u10,u11,.slice (some ⟨gw,0,none⟩) 64 cw,u13,u14,u15,u16,.int .u32 (s.a:Int),.int .u32 (s.b:Int),.int .u32 (s.c:Int),.int .u32 (s.d:Int),.int .u32 (s.e:Int),.int .u32 (s.f:Int),.int .u32 (s.g:Int),.int .u32 (s.h:Int),n25,n26,n27,u28,u29,u30,u31,u32,u33,u34,u35,u36,u37,u38,u39,u40,u41,u42,u43,u44,u45,u46,u47,u48,u49,u50,u51,u52,u53,u54,u55,u56,u57,u58,u59,u60,u61,u62,u63,u64,u65,u66,u67,u68,u69,u70,u71,u72,u73,u74,u75,u76,u77,u78,u79,u80,u81,u82,u83,u84,u85,u86,u87,u88,u89,u90,u91,u92,u93,u94,u95,u96,u97,u98,u99,aa,ab,ae,af,ag,ah,ai,aj,ak,al,am,an,ao,ap,aq,ar,au,av,aw,ax,ay,az,aA,aB,aC,aD,aE,aF,aG,aH,aI,aJ,aK,aL,aM,aN,aO,aP,aQ,aR,aS,aT,aU,aV,aW,aX,aY,aZ,ba,bb,bc,bd,be,bf,bg,bh,bi,bj,bk,bl,bm,bn,bo,bp,bq,br,bs,bt,bu,bv,bw,bx,bz,bA,bB,bC,bD,bE,bF,bG,bH,bI,bJ,bK,bL,bM,bO,bP,bQ,bR,bS,bT,bU,bV,bW,bX,gc,gd,gf,gg,gh,gi,gj,gk,gl,gn,gp,gq,gr,gs,gu,gv,gx,gy,gz,gA,gB,gC,gD,gE,gF,gG,gH,gI,gJ,gK,gL,gM,gN,gO,gP,gQ,gR,gS,gT,gU,gV,gW,gX,gY,gZ,ha,hd,he,hf,hm,hA,hC,hD,hE,hF,hG,hH,hI,hJ,hK,hL,hM,hN,hR,dn,dp,dq,dr,ds,dt,du,dv,dw,dx,dy,dz,dA,dB,dC,dD,dE,dF,dG,dH,dI,dJ,dK,dL,dM,dO,dP,dQ,dR,dS,dT,dU,dV,dW,dX,dY,dZ,ea,eb,ec,ed,ee,ef,eg,eh],[]⟩ w'):
  Code.wp Tryz.prog (headC ((Tryz.f83.body.bind (pickR 28)).getD .skip)) Q ⟨#[u0,u1,u2,u3,u4,.pointer (some ⟨GK,0,none⟩),u6,u7,u8,u9,u10,u11,.slice (some ⟨gw,0,none⟩) 64 cw,u13,u14,u15,u16,.int .u32 (z0:Int),.int .u32 (z1:Int),.int .u32 (z2:Int),.int .u32 (z3:Int),.int .u32 (z4:Int),.int .u32 (z5:Int),.int .u32 (z6:Int),.int .u32 (z7:Int),u25,u26,u27,u28,u29,u30,u31,u32,u33,u34,u35,u36,u37,u38,u39,u40,u41,u42,u43,u44,u45,u46,u47,u48,u49,u50,u51,u52,u53,u54,u55,u56,u57,u58,u59,u60,u61,u62,u63,u64,u65,u66,u67,u68,u69,u70,u71,u72,u73,u74,u75,u76,u77,u78,u79,u80,u81,u82,u83,u84,u85,u86,u87,u88,u89,u90,u91,u92,u93,u94,u95,u96,u97,u98,u99,aa,ab,ae,af,ag,ah,ai,aj,ak,al,am,an,ao,ap,aq,ar,au,av,aw,ax,ay,az,aA,aB,aC,aD,aE,aF,aG,aH,aI,aJ,aK,aL,aM,aN,aO,aP,aQ,aR,aS,aT,aU,aV,aW,aX,aY,aZ,ba,bb,bc,bd,be,bf,bg,bh,bi,bj,bk,bl,bm,bn,bo,bp,bq,br,bs,bt,bu,bv,bw,bx,bz,bA,bB,bC,bD,bE,bF,bG,bH,bI,bJ,bK,bL,bM,bO,bP,bQ,bR,bS,bT,bU,bV,bW,bX,bY,bZ,ca,cb,cc,ce,cf,cg,ch,ci,cj,ck,cl,cn,co,cp,cq,cr,cs,ct,cu,cv,cx,cy,cz,cA,cB,cC,cD,cE,cF,cG,cH,cI,cJ,cK,cL,cM,cN,cO,cP,cQ,cR,cS,cT,cU,cV,cW,cX,cY,cZ,da,db,dc,dd,de,df,dg,dh,di,dj,dk,dl,dm,dn,dp,dq,dr,ds,dt,du,dv,dw,dx,dy,dz,dA,dB,dC,dD,dE,dF,dG,dH,dI,dJ,dK,dL,dM,dO,dP,dQ,dR,dS,dT,dU,dV,dW,dX,dY,dZ,ea,eb,ec,ed,ee,ef,eg,eh],[]⟩ w:=by
 have HK2:=hid hK2
 have HW2:=hid hW2
 have HKC:=hid hkc
 have HWC:=hid hwc
 have HQ:=hid hQ
 have HZ:=hid hz
 clear hK2 hW2 hkc hwc hQ hz
 conv=>arg 2;whnf
 go_wp2
 go_loopw [17,18,19,20,21,22,23,24,25] (fun x17 x18 x19 x20 x21 x22 x23 x24 x25 wr=>∃n a b c d e f g h8:Nat,n≤64∧x25 = .int .i64 (n:Int)∧x17 = .int .u32 (a:Int)∧x18 = .int .u32 (b:Int)∧x19 = .int .u32 (c:Int)∧x20 = .int .u32 (d:Int)∧x21 = .int .u32 (e:Int)∧x22 = .int .u32 (f:Int)∧x23 = .int .u32 (g:Int)∧x24 = .int .u32 (h8:Int)∧Hid (St.mk a b c d e f g h8=(St.mk z0 z1 z2 z3 z4 z5 z6 z7).rounds K W n)∧(St.mk a b c d e f g h8).ok∧Qt w wr) (fun _ _ _ _ _ _ _ _ x25 _=>64 - (intOf x25).toNat)
 case atStart=>exact⟨0,z0,z1,z2,z3,z4,z5,z6,z7,by omega,rfl,rfl,rfl,rfl,rfl,rfl,rfl,rfl,rfl,hid rfl,HZ.out,Qt.refl _⟩
 case round=>
  obtain⟨n,a,b,c,d,e,f,g,h8,hn,rfl,rfl,rfl,rfl,rfl,rfl,rfl,rfl,rfl,hst,hok,hq⟩:=hrel
  have HOK:=hid hok
  obtain⟨la,lb,lc,ld,le,lf,lg,lh⟩:=hok
  simp only at la lb lc ld le lf lg lh
  by_cases hlt:n<64
  ·have kc:=cell_keep' (HKC.out n hlt) (hq.below _)
   have kl:=getDlt HK2.out (by omega) n
   have wc:=cell_keep' (HWC.out n hlt) (hq.below _)
   have wl:=getDlt HW2.out (by omega) n
   have HN:=hid (show(St.mk z0 z1 z2 z3 z4 z5 z6 z7).rounds K W (n+1)=(St.mk a b c d e f g h8).step (K.getD n 0) (W.getD n 0) by rw [St.rounds,← hst.out])
   generalize K.getD n 0=kn at *
   generalize W.getD n 0=wn at *
   have HQT:=hid hq
   have R1:=sge_rule le
   have R2:=chr_rule le lf lg
   have R3:=sga_rule la
   have R4:=maj_rule la lb lc
   have b1:=sge_lt le
   have b2:=chf_lt (e:=e) lf lg
   have b3:=sga_lt la
   have b4:=maj_lt (a:=a) lb lc
   have i64:(n:Int)<64:=by omega
   clear hq
   go_upto_region 31 with(fail)
   go_quiet ((go_at_call 89;first|with_reducible exact quiet_same (turn6_walk e le _)|with_reducible exact quiet_same (turn11_walk e le _)|with_reducible exact quiet_same (turn25_walk e le _)))
   have HQ2:=hid (HQT.out.dN nq)
   generalize wr.drewN nq=w5 at *
   clear kc wc R1 R2 HQT
   go_wp2_with fail
   refine(turn2_walk a la _).mono ?_
   rintro e1 w' ⟨rfl,rfl⟩
   go_wp2_with fail
   refine(turn13_walk a la _).mono ?_
   rintro e1 w' ⟨rfl,rfl⟩
   go_wp2_with fail
   refine(turn22_walk a la _).mono ?_
   rintro e1 w' ⟨rfl,rfl⟩
   go_wp2
   go_roundw
   case rel=>
    refine⟨n+1,((h8+sge e+chf e f g+kn+wn)+(sga a+maj a b c)) % 4294967296,a,b,c,(d+(h8+sge e+chf e f g+kn+wn)) % 4294967296,e,f,g,by omega,by go_num,congrArg (Value.int .u32) (by omega),rfl,rfl,rfl,congrArg (Value.int .u32) (by omega),rfl,rfl,rfl,hid ?_,?_,HQ2.out⟩
    ·rw [HN.out];rfl
    ·exact⟨Nat.mod_lt _ (by omega),la,lb,lc,Nat.mod_lt _ (by omega),le,lf,lg⟩
   case measure=>simp [intOf];omega
  ·have hn64:n=64:=by omega
   subst hn64
   have HQT:=hid hq
   clear hq
   go_wp2
   refine HQ.out _ _ _ _ _ _ _ _ _ _ _ _ _ _ _ _ _ _ _ _ _ _ _ _ _ _ _ _ _ _ _ _ _ _ _ _ _ _ _ _ _ _ _ _ _ _ _ _ _ _ _ _ _ _ _ _ _ _ _ _ _ _ _ _ _ _ _ ⟨a,b,c,d,e,f,g,h8⟩ _ hst.out HOK.out HQT.out
end Go.Proofs.YtnbmpgballopeaaGreatDoor

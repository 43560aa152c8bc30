/- Loop 7 of the reference's Hash: the state's sum. Loops 8 and 9 of the reference's Hash: the bytes. A block of the reference's Hash. Loop 3 of the reference's Hash: the blocks. Loop 1 of the reference's Hash: the noughts. Loop 2 of the reference's Hash: the length's bytes. The walk of the reference's Hash. -/
import Derived.IntWalk
import Derived.Deep.Cut
import Derived.Deep.RegionHeld3
import Derived.Test.YtnbmpgballopeaaGreatDoorZParts
import Derived.Test.YtnbmpgballopeaaGreatDoorZShaE
import Derived.Test.YtnbmpgballopeaaGreatDoorZPick
import Derived.Test.YtnbmpgballopeaaGreatDoorZRt
import Derived.Test.YtnbmpgballopeaaGreatDoorZHashRA
import Derived.Test.YtnbmpgballopeaaGreatDoorZHq1
namespace Go.Proofs.YtnbmpgballopeaaGreatDoor
open Go.RowKit
set_option maxRecDepth 1000000 in
set_option maxHeartbeats 16000000 in
theorem hpD{u0 u1 u2 u3 u5 u6 u7 u8 u9 u10 u11 u12 u13 u14 u15 u16 u25 u26 u27 u28 u29 u30 u31 u32 u33 u34 u35 u36 u37 u38 u39 u40 u41 u42 u43 u44 u45 u46 u47 u48 u49 u50 u51 u52 u53 u54 u55 u56 u57 u58 u59 u60 u61 u62 u63 u64 u65 u66 u67 u68 u69 u70 u71 u72 u73 u74 u75 u76 u77 u78 u79 u80 u81 u82 u83 u84 u85 u86 u87 u88 u89 u90 u91 u92 u93 u94 u95 u96 u97 u98 u99 aa ab ad ae af ag ah ai aj ak al am an ao ap aq ar au aw ax ay az aA aB aC aD aE aF aG aH aI aJ aK aL aM aN aO aP aQ aR aS aT aU aV aW aX aY aZ ba bc bd be bf bg bh bi bj bk bl bm bn bo bp bq br bt bu bv bw bx bz bA bB bC bD bE bF bG bH bI bJ bK bL bM bN bO bP bQ bR bS bT bU bV bW bX bY bZ ca cb cc ce cf cg ch ci cj ck cl cn cp cq cr cs ct cu cx cy cz cA cB cC cD cE cF cG cH cI cJ cK cL cM cN cO cP cQ cR cS cT cU cV cW cX cY cZ da db dc de df dg dh di dj dk dl dm dn dp dq dr ds dt du dv dw dx dy dz dA dB dC dD dE dF dG dH dI dJ dK dL dM dN dO dP dQ dR dS dT dU dV dW dX dY dZ ea eb ec ee ef eg eh ej ek em en:Value}{Q:Exit→Act→World→Prop}{GS z0 z1 z2 z3 z4 z5 z6 z7:Nat}{S:List Nat}{cur:Array Value}{T:TypeId}{w:World}(hS8:S.length=8)(hG:w.heap[GS]? = some (.cells cur T (0,0)))(hcur:cur.toList=nums .u32 S)
  (hQ:∀(n28 n29 eo ep es et eu ev ew ex ey ez eA eB eC eD eE eF eG eH eI eJ eK eL:Value) (cur':Array Value) (w':World),w'.heap[GS]? = some (.cells cur' T (0,0))→cur'.toList=nums .u32 (addL S [z0,z1,z2,z3,z4,z5,z6,z7])→Far GS w w'→Q .normal ⟨#[u0,u1,u2,u3,.pointer (some ⟨GS,0,none⟩),u5,u6,u7,u8,u9,u10,u11,u12,u13,u14,u15,u16,.int .u32 (z0:Int),.int .u32 (z1:Int),.int .u32 (z2:Int),.int .u32 (z3:Int),.int .u32 (z4:Int),.int .u32 (z5:Int),.int .u32 (z6:Int),.int .u32 (z7:Int),u25,u26,u27,n28,n29,u30,u31,u32,u33,u34,u35,u36,u37,u38,u39,u40,u41,u42,u43,u44,u45,u46,u47,u48,u49,u50,u51,u52,u53,u54,u55,u56,u57,u58,u59,u60,u61,u62,u63,u64,u65,u66,u67,u68,u69,u70,u71,u72,u73,u74,u75,u76,u77,u78,u79,u80,u81,u82,u83,u84,u85,u86,u87,u88,u89,u90,u91,u92,u93,u94,u95,u96,u97,u98,u99,aa,ab,ad,ae,af,ag,ah,ai,aj,ak,al,am,an,ao,ap,aq,ar,au,aw,ax,ay,az,aA,aB,aC,aD,aE,aF,aG,aH,aI,aJ,aK,aL,aM,aN,aO,aP,aQ,aR,aS,aT,aU,aV,aW,aX,aY,aZ,ba,bc,bd,be,bf,bg,bh,bi,bj,bk,bl,bm,bn,bo,bp,bq,br,bt,bu,bv,bw,bx,bz,bA,bB,bC,bD,bE,bF,bG,bH,bI,bJ,bK,bL,bM,bN,bO,bP,bQ,bR,bS,bT,bU,bV,bW,bX,bY,bZ,ca,cb,cc,ce,cf,cg,ch,ci,cj,ck,cl,cn,cp,cq,cr,cs,ct,cu,cx,cy,cz,cA,cB,cC,cD,cE,cF,cG,cH,cI,cJ,cK,cL,cM,cN,cO,cP,cQ,cR,cS,cT,cU,cV,cW,cX,cY,cZ,da,db,dc,de,df,dg,dh,di,dj,dk,dl,dm,dn,dp,dq,dr,eo,ep,es,et,eu,ev,ew,ex,ey,ez,eA,eB,eC,eD,eE,eF,eG,eH,eI,eJ,eK,eL,dO,dP,dQ,dR,dS,dT,dU,dV,dW,dX,dY,dZ,ea,eb,ec,ee,ef,eg,eh,ej,ek,em,en],[]⟩ w'):
  Code.wp Tryz.prog ((Tryz.f83.body.bind (pickR 34)).getD .skip) Q ⟨#[u0,u1,u2,u3,.pointer (some ⟨GS,0,none⟩),u5,u6,u7,u8,u9,u10,u11,u12,u13,u14,u15,u16,.int .u32 (z0:Int),.int .u32 (z1:Int),.int .u32 (z2:Int),.int .u32 (z3:Int),.int .u32 (z4:Int),.int .u32 (z5:Int),.int .u32 (z6:Int),.int .u32 (z7:Int),u25,u26,u27,u28,u29,u30,u31,u32,u33,u34,u35,u36,u37,u38,u39,u40,u41,u42,u43,u44,u45,u46,u47,u48,u49,u50,u51,u52,u53,u54,u55,u56,u57,u58,u59,u60,u61,u62,u63,u64,u65,u66,u67,u68,u69,u70,u71,u72,u73,u74,u75,u76,u77,u78,u79,u80,u81,u82,u83,u84,u85,u86,u87,u88,u89,u90,u91,u92,u93,u94,u95,u96,u97,u98,u99,aa,ab,ad,ae,af,ag,ah,ai,aj,ak,al,am,an,ao,ap,aq,ar,au,aw,ax,ay,az,aA,aB,aC,aD,aE,aF,aG,aH,aI,aJ,aK,aL,aM,aN,aO,aP,aQ,aR,aS,aT,aU,aV,aW,aX,aY,aZ,ba,bc,bd,be,bf,bg,bh,bi,bj,bk,bl,bm,bn,bo,bp,bq,br,bt,bu,bv,bw,bx,bz,bA,bB,bC,bD,bE,bF,bG,bH,bI,bJ,bK,bL,bM,bN,bO,bP,bQ,bR,bS,bT,bU,bV,bW,bX,bY,bZ,ca,cb,cc,ce,cf,cg,ch,ci,cj,ck,cl,cn,cp,cq,cr,cs,ct,cu,cx,cy,cz,cA,cB,cC,cD,cE,cF,cG,cH,cI,cJ,cK,cL,cM,cN,cO,cP,cQ,cR,cS,cT,cU,cV,cW,cX,cY,cZ,da,db,dc,de,df,dg,dh,di,dj,dk,dl,dm,dn,dp,dq,dr,ds,dt,du,dv,dw,dx,dy,dz,dA,dB,dC,dD,dE,dF,dG,dH,dI,dJ,dK,dL,dM,dN,dO,dP,dQ,dR,dS,dT,dU,dV,dW,dX,dY,dZ,ea,eb,ec,ee,ef,eg,eh,ej,ek,em,en],[]⟩ w:=by
 have HQ:=hid hQ
 have HG:=hid hG
 have HC:=hid hcur
 have hGlt:=(Array.getElem?_eq_some_iff.1 hG).1
 clear hQ hG hcur
 obtain⟨Z,hZ⟩:∃Z:List Nat,Z=[z0,z1,z2,z3,z4,z5,z6,z7]:=⟨_,rfl⟩
 have HZ:=hid hZ
 have hX:∀m,m<8→(w.alloc (.cells #[.int .u32 (z0:Int),.int .u32 (z1:Int),.int .u32 (z2:Int),.int .u32 (z3:Int),.int .u32 (z4:Int),.int .u32 (z5:Int),.int .u32 (z6:Int),.int .u32 (z7:Int)] 46)).cell? ⟨w.heap.size,m,none⟩=some (.int .u32 ((Z.getD m 0:Nat):Int)):=by
  intro m hm
  have h:=cells_new w #[.int .u32 (z0:Int),.int .u32 (z1:Int),.int .u32 (z2:Int),.int .u32 (z3:Int),.int .u32 (z4:Int),.int .u32 (z5:Int),.int .u32 (z6:Int),.int .u32 (z7:Int)] 46 m (.int .u32 ((Z.getD m 0:Nat):Int)) (by
   have hcase:m=0∨m=1∨m=2∨m=3∨m=4∨m=5∨m=6∨m=7:=by omega
   rw [hZ]
   rcases hcase with rfl|rfl|rfl|rfl|rfl|rfl|rfl|rfl <;> rfl)
  rwa [show(⟨w.heap.size,0,none⟩:Addr).add m=⟨w.heap.size,m,none⟩ by unfold Addr.add;split <;> simp_all] at h
 have HX:=hid hX
 have B1:=hid ((Below.refl w.heap.size w).alloc (Nat.le_refl _) (.cells #[.int .u32 (z0:Int),.int .u32 (z1:Int),.int .u32 (z2:Int),.int .u32 (z3:Int),.int .u32 (z4:Int),.int .u32 (z5:Int),.int .u32 (z6:Int),.int .u32 (z7:Int)] 46))
 have G1:=hid ((B1.out.block GS hGlt).trans HG.out)
 clear hX hZ
 conv=>arg 2;whnf
 go_wp2
 generalize w.alloc (.cells #[.int .u32 (z0:Int),.int .u32 (z1:Int),.int .u32 (z2:Int),.int .u32 (z3:Int),.int .u32 (z4:Int),.int .u32 (z5:Int),.int .u32 (z6:Int),.int .u32 (z7:Int)] 46)=W1 at *
 go_loopw [270] (fun x0 wr=>∃m:Nat,m≤8∧x0 = .int .i64 m∧Far GS W1 wr ∧ ∃cur':Array Value,wr.heap[GS]? = some (.cells cur' T (0,0))∧cur'.toList=nums .u32 (addU S Z m)) (fun x0 _=>8 - (intOf x0).toNat)
 case atStart=>exact⟨0,by omega,rfl,Far.refl _ _,cur,G1.out,HC.out⟩
 case round=>
  obtain⟨m,hm,rfl,hf,cur',hh,hcl⟩:=hrel
  clear G1
  have HF:=hid hf
  have HH:=hid hh
  have HCL:=hid hcl
  by_cases hlt8:m<8
  ·have hS':=addU_len S Z m
   have c1:wr.cell? ⟨GS,m,none⟩=some (.int .u32 (((addU S Z m).getD m 0:Nat):Int)):=by
    rw [cell_of_row _ GS m _ T (0,0) hh,← Array.getElem?_toList,hcl]
    exact nums_get .u32 (by omega)
   have c2:wr.cell? ⟨w.heap.size,m,none⟩=some (.int .u32 ((Z.getD m 0:Nat):Int)):=by
    rw [World.cell?_of_block (hf.block _ (World.block_lt_of_cell? W1 _ (HX.out m hlt8)) (by simp;omega))];exact HX.out m hlt8
   rw [addU_get S Z m m (Nat.le_refl _)] at c1
   have hz:=frozen_of_row _ GS m _ T hh
   have ST:=hid (show ∀V:Nat,V=(S.getD m 0+Z.getD m 0) % 4294967296→Far GS W1 (wr.setCell ⟨GS,m,none⟩ (.int .u32 (V:Int))) ∧ ∃cur'':Array Value,(wr.setCell ⟨GS,m,none⟩ (.int .u32 (V:Int))).heap[GS]? = some (.cells cur'' T (0,0))∧cur''.toList=nums .u32 (addU S Z (m+1)) from by
    intro V hV
    refine⟨hf.trans (Far.set _),_,heap_setCell_same wr GS m _ T _ hh,?_⟩
    rw [Array.toList_setIfInBounds,hcl,addU,hV];simp [nums,List.map_set])
   generalize S.getD m 0=s0 at *
   generalize Z.getD m 0=y0 at *
   have i8:(m:Int)<8:=by omega
   have HV:=hid (ST.out _ rfl)
   have HM:=hid (addM s0 y0)
   clear hf hh hcl ST hS'
   go_wp2
   go_roundw
   case rel=>
    rw [HM.out]
    obtain⟨h1,cur'',h2,h3⟩:=HV.out
    exact⟨m+1,by omega,by go_num,h1,cur'',h2,h3⟩
   case measure=>simp only [intOf];omega
  ·have hm8:m=8:=by omega
   subst hm8
   have F1:=hid (show cur'.toList=nums .u32 (addL S [z0,z1,z2,z3,z4,z5,z6,z7]) by
    rw [hcl,HZ.out,addU_eq hS8 rfl])
   have F2:=hid (show Far GS w wr from(Far.of B1.out).trans hf)
   clear hf hh hcl
   go_wp2
   refine HQ.out _ _ _ _ _ _ _ _ _ _ _ _ _ _ _ _ _ _ _ _ _ _ _ _ _ _ HH.out F1.out F2.out
end Go.Proofs.YtnbmpgballopeaaGreatDoor
namespace Go.Proofs.YtnbmpgballopeaaGreatDoor
open Go.RowKit
def outQ(O S:List Nat):Nat→List Nat
 | 0=>O
 | i+1=>outS (outQ O S i) i (S.getD i 0) 4
theorem outQ_len(O S:List Nat)(i:Nat):(outQ O S i).length=O.length:=by
 induction i with
 | zero=>rfl
 | succ i ih=>simp [outQ,outS_len,ih]
theorem outQ_eq{S:List Nat}(h:S.length=8):outQ (List.replicate 32 0) S 8=S.flatMap bytes4:=by
 match S,h with
 | [a,b,c,d,e,f,g,k],_=>
  have hr:(List.replicate 32 0:List Nat)=[0,0,0,0,0,0,0,0,0,0,0,0,0,0,0,0,0,0,0,0,0,0,0,0,0,0,0,0,0,0,0,0]:=rfl
  rw [hr]
  simp [outQ,outS,bytes4]
set_option maxRecDepth 1000000 in
set_option maxHeartbeats 16000000 in
theorem hpE{u0 u1 u2 u3 u5 u6 u7 u8 u9 u10 u11 u12 u13 u14 u15 u16 u17 u18 u19 u20 u21 u22 u23 u24 u25 u26 u27 u28 u29 u31 u32 u33 u34 u35 u36 u37 u38 u39 u40 u41 u42 u43 u44 u45 u46 u47 u48 u49 u50 u51 u52 u53 u54 u55 u56 u57 u58 u59 u60 u61 u62 u63 u64 u65 u66 u67 u68 u69 u70 u71 u72 u73 u74 u75 u76 u77 u78 u79 u80 u81 u82 u83 u84 u85 u86 u87 u88 u89 u90 u91 u92 u93 u94 u95 u96 u97 u98 u99 aa ab ad ae af ag ah ai aj ak al am an ao ap aq ar au aw ax ay az aA aB aC aD aE aF aG aH aI aJ aK aL aM aN aO aP aQ aR aS aT aU aV aW aX aY aZ ba bc bd be bf bg bh bi bj bk bl bm bn bo bp bq br bt bu bv bw bx bz bA bB bC bD bE bF bG bH bI bJ bK bL bM bN bO bP bQ bR bS bT bU bV bW bX bY bZ ca cb cc ce cf cg ch ci cj ck cl cn cp cq cr cs ct cu cx cy cz cA cB cC cD cE cF cG cH cI cJ cK cL cM cN cO cP cQ cR cS cT cU cV cW cX cY cZ da db dc de df dg dh di dj dk dl dm dn dp dq dr ds dt du dv dw dx dy dz dA dB dC dD dE dF dG dH dI dJ dK dL dM dN dO dP dQ dR dS dT dU dV dW dX dY dZ ea eb ec ee ef eg eh ej ek em en:Value}{Q:Exit→Act→World→Prop}{GS GO:Nat}{S:List Nat}{cur co:Array Value}{T TO:TypeId}{w:World}(hS8:S.length=8)(hS2:∀d∈S,d<4294967296)(hG:w.heap[GS]? = some (.cells cur T (0,0)))(hcur:cur.toList=nums .u32 S)(hO:w.heap[GO]? = some (.cells co TO (0,0)))(hco:co.toList=nums .u8 (List.replicate 32 0))(hne:GS≠GO)
  (hQ:∀(n31 n32 n33 eM eN eO eP eQ eR eS eT eU eV eW eX eY eZ fa fb fc fd fe ff fg:Value) (co':Array Value) (w':World),w'.heap[GO]? = some (.cells co' TO (0,0))→co'.toList=nums .u8 (S.flatMap bytes4)→Far GO w w'→Q .normal ⟨#[u0,u1,u2,u3,.pointer (some ⟨GS,0,none⟩),u5,u6,u7,u8,u9,u10,u11,u12,u13,u14,u15,u16,u17,u18,u19,u20,u21,u22,u23,u24,u25,u26,u27,u28,u29,.pointer (some ⟨GO,0,none⟩),n31,n32,n33,u34,u35,u36,u37,u38,u39,u40,u41,u42,u43,u44,u45,u46,u47,u48,u49,u50,u51,u52,u53,u54,u55,u56,u57,u58,u59,u60,u61,u62,u63,u64,u65,u66,u67,u68,u69,u70,u71,u72,u73,u74,u75,u76,u77,u78,u79,u80,u81,u82,u83,u84,u85,u86,u87,u88,u89,u90,u91,u92,u93,u94,u95,u96,u97,u98,u99,aa,ab,ad,ae,af,ag,ah,ai,aj,ak,al,am,an,ao,ap,aq,ar,au,aw,ax,ay,az,aA,aB,aC,aD,aE,aF,aG,aH,aI,aJ,aK,aL,aM,aN,aO,aP,aQ,aR,aS,aT,aU,aV,aW,aX,aY,aZ,ba,bc,bd,be,bf,bg,bh,bi,bj,bk,bl,bm,bn,bo,bp,bq,br,bt,bu,bv,bw,bx,bz,bA,bB,bC,bD,bE,bF,bG,bH,bI,bJ,bK,bL,bM,bN,bO,bP,bQ,bR,bS,bT,bU,bV,bW,bX,bY,bZ,ca,cb,cc,ce,cf,cg,ch,ci,cj,ck,cl,cn,cp,cq,cr,cs,ct,cu,cx,cy,cz,cA,cB,cC,cD,cE,cF,cG,cH,cI,cJ,cK,cL,cM,cN,cO,cP,cQ,cR,cS,cT,cU,cV,cW,cX,cY,cZ,da,db,dc,de,df,dg,dh,di,dj,dk,dl,dm,dn,dp,dq,dr,ds,dt,du,dv,dw,dx,dy,dz,dA,dB,dC,dD,dE,dF,dG,dH,dI,dJ,dK,dL,dM,dN,dO,eM,eN,eO,eP,eQ,eR,eS,eT,eU,eV,eW,eX,eY,eZ,fa,fb,fc,fd,fe,ff,fg,en],[]⟩ w'):
  Code.wp Tryz.prog (headC ((Tryz.f83.body.bind (pickR 40)).getD .skip)) Q ⟨#[u0,u1,u2,u3,.pointer (some ⟨GS,0,none⟩),u5,u6,u7,u8,u9,u10,u11,u12,u13,u14,u15,u16,u17,u18,u19,u20,u21,u22,u23,u24,u25,u26,u27,u28,u29,.pointer (some ⟨GO,0,none⟩),u31,u32,u33,u34,u35,u36,u37,u38,u39,u40,u41,u42,u43,u44,u45,u46,u47,u48,u49,u50,u51,u52,u53,u54,u55,u56,u57,u58,u59,u60,u61,u62,u63,u64,u65,u66,u67,u68,u69,u70,u71,u72,u73,u74,u75,u76,u77,u78,u79,u80,u81,u82,u83,u84,u85,u86,u87,u88,u89,u90,u91,u92,u93,u94,u95,u96,u97,u98,u99,aa,ab,ad,ae,af,ag,ah,ai,aj,ak,al,am,an,ao,ap,aq,ar,au,aw,ax,ay,az,aA,aB,aC,aD,aE,aF,aG,aH,aI,aJ,aK,aL,aM,aN,aO,aP,aQ,aR,aS,aT,aU,aV,aW,aX,aY,aZ,ba,bc,bd,be,bf,bg,bh,bi,bj,bk,bl,bm,bn,bo,bp,bq,br,bt,bu,bv,bw,bx,bz,bA,bB,bC,bD,bE,bF,bG,bH,bI,bJ,bK,bL,bM,bN,bO,bP,bQ,bR,bS,bT,bU,bV,bW,bX,bY,bZ,ca,cb,cc,ce,cf,cg,ch,ci,cj,ck,cl,cn,cp,cq,cr,cs,ct,cu,cx,cy,cz,cA,cB,cC,cD,cE,cF,cG,cH,cI,cJ,cK,cL,cM,cN,cO,cP,cQ,cR,cS,cT,cU,cV,cW,cX,cY,cZ,da,db,dc,de,df,dg,dh,di,dj,dk,dl,dm,dn,dp,dq,dr,ds,dt,du,dv,dw,dx,dy,dz,dA,dB,dC,dD,dE,dF,dG,dH,dI,dJ,dK,dL,dM,dN,dO,dP,dQ,dR,dS,dT,dU,dV,dW,dX,dY,dZ,ea,eb,ec,ee,ef,eg,eh,ej,ek,em,en],[]⟩ w:=by
 have HQ:=hid hQ
 have HS2:=hid hS2
 have HX:Hid (∀m,m<8→w.cell? ⟨GS,m,none⟩=some (.int .u32 ((S.getD m 0:Nat):Int))):=hid (by
  intro m hm
  rw [cell_of_row _ GS m _ T (0,0) hG,← Array.getElem?_toList,hcur]
  exact nums_get .u32 (by omega))
 have HO:=hid hO
 have HCO:=hid hco
 have hRL:(List.replicate 32 0:List Nat).length=32:=by simp
 have HEQ:=hid (outQ_eq hS8)
 obtain⟨O,hOe⟩:∃O:List Nat,O=List.replicate 32 0:=⟨_,rfl⟩
 rw [← hOe] at HCO hRL HEQ
 clear hQ hS2 hG hcur hO hco hOe
 conv=>arg 2;whnf
 go_wp2
 go_loopw [31] (fun x31 wr=>∃i:Nat,i≤8∧x31 = .int .i64 i∧Far GO w wr ∧ ∃co':Array Value,wr.heap[GO]? = some (.cells co' TO (0,0))∧co'.toList=nums .u8 (outQ O S i)) (fun x31 _=>8 - (intOf x31).toNat)
 case atStart=>exact⟨0,by omega,rfl,Far.refl _ _,co,HO.out,HCO.out⟩
 case round=>
  obtain⟨i,hi,rfl,hf,co1,hh,hcl⟩:=hrel
  clear HO HCO
  have HF:=hid hf
  have HH:=hid hh
  have HCL:=hid hcl
  by_cases hlt8:i<8
  ·have c1:wr.cell? ⟨GS,i,none⟩=some (.int .u32 ((S.getD i 0:Nat):Int)):=by
    rw [World.cell?_of_block (hf.block _ (World.block_lt_of_cell? w _ (HX.out i hlt8)) (by simp;omega))];exact HX.out i hlt8
   have hx:=getDlt HS2.out (by omega) i
   obtain⟨x,hxe⟩:∃x,x=S.getD i 0:=⟨_,rfl⟩
   rw [← hxe] at c1 hx
   have HXE:=hid hxe
   have i8:(i:Int)<8:=by omega
   clear hf hh hcl hxe
   go_wp2
   generalize wr=W2 at *
   go_loopw [32,33] (fun x32 x33 wr=>∃(t q:Nat) (j:Int),Hid (j=3 - (t:Int))∧t≤4∧Hid (q=x / 256 ^ t)∧q<4294967296∧x33 = .int .i64 j∧x32 = .int .u32 (q:Int)∧Far GO W2 wr ∧ ∃co':Array Value,wr.heap[GO]? = some (.cells co' TO (0,0))∧co'.toList=nums .u8 (outS (outQ O S i) i x t)) (fun _ x33 _=>(intOf x33+1).toNat)
   case atStart=>exact⟨0,x,3,hid rfl,by omega,hid (by simp),hx,rfl,rfl,Far.refl _ _,co1,HH.out,HCL.out⟩
   case round=>
    obtain⟨t,q,j,hj,ht,hq,hq2,rfl,rfl,hf,co2,hh,hcl⟩:=hrel
    have hj':=hj.out
    by_cases hj0:0≤j
    ·obtain⟨d,rfl⟩:∃d:Nat,j=(d:Int):=⟨j.toNat,by omega⟩
     have hdt:d+t=3:=by omega
     obtain⟨ix,hix⟩:∃ix:Nat,ix=4*i+d:=⟨_,rfl⟩
     obtain⟨i4,hi4⟩:∃i4:Nat,i4=4*i:=⟨_,rfl⟩
     have e4:4*(i:Int)=(i4:Int):=by omega
     have ei:(i4:Int)+(d:Int)=(ix:Int):=by omega
     have hix32:(ix:Int)<32:=by omega
     obtain⟨dd,hdd⟩:∃dd:Nat,dd=q % 256:=⟨_,rfl⟩
     obtain⟨q3,hq3⟩:∃q3:Nat,q3=q / 256:=⟨_,rfl⟩
     have ed:(q:Int) % 256=(dd:Int):=by omega
     have eq2:(q:Int) / 256=(q3:Int):=by omega
     have hd256:dd<256:=by omega
     have hq3b:q3<4294967296:=by omega
     have HQ3:=hid (show q3=x / 256 ^ (t+1) by rw [hq3,hq.out,Nat.pow_succ,Nat.div_div_eq_div_mul])
     have hol:(outS (outQ O S i) i x t).length=32:=by rw [outS_len,outQ_len,hRL]
     have c3:wr.cell? ⟨GO,ix,none⟩=some (.int .u8 (((outS (outQ O S i) i x t).getD ix 0:Nat):Int)):=by
      rw [cell_of_row _ GO ix _ TO (0,0) hh,← Array.getElem?_toList,hcl]
      exact nums_get .u8 (by omega)
     have hz:=frozen_of_row _ GO ix _ TO hh
     have ST:=hid (show Far GO W2 (wr.setCell ⟨GO,ix,none⟩ (.int .u8 (dd:Int))) ∧ ∃co'':Array Value,(wr.setCell ⟨GO,ix,none⟩ (.int .u8 (dd:Int))).heap[GO]? = some (.cells co'' TO (0,0))∧co''.toList=nums .u8 (outS (outQ O S i) i x (t+1)) from by
      refine⟨hf.trans (Far.set _),_,heap_setCell_same wr GO ix _ TO _ hh,?_⟩
      rw [Array.toList_setIfInBounds,hcl,outS,hdd,hq.out,hix,show 3 - t=d by omega];simp [nums,List.map_set])
     have HDT:=hid hdt
     clear hf hh hcl hix hi4 hdd hq3 hol hj' hdt
     generalize (outS (outQ O S i) i x t).getD ix 0=old at *
     go_wp2
     go_roundw
     case rel=>
      obtain⟨h1,co'',h2,h3⟩:=ST.out
      exact⟨t+1,q3,_,hid (by have:=HDT.out;omega),by have:=HDT.out;omega,HQ3,hq3b,rfl,rfl,h1,co'',h2,h3⟩
     case measure=>simp only [intOf];omega
    ·have ht4:t=4:=by omega
     subst ht4
     have hjn:j = -1:=by omega
     subst hjn
     have F1:=hid (HF.out.trans hf)
     have F2:=hid hh
     have F3:=hid (show co2.toList=nums .u8 (outQ O S (i+1)) by rw [hcl,outQ,HXE.out])
     clear hf hh hcl hj'
     go_wp2
     go_roundw
     case rel=>exact⟨i+1,by omega,by go_num,F1.out,co2,F2.out,F3.out⟩
     case measure=>simp only [intOf];omega
  ·have hi8:i=8:=by omega
   subst hi8
   rw [HEQ.out] at hcl
   have F3:=hid hcl
   clear hf hh hcl
   go_wp2
   refine HQ.out _ _ _ _ _ _ _ _ _ _ _ _ _ _ _ _ _ _ _ _ _ _ _ _ _ _ HH.out F3.out HF.out
end Go.Proofs.YtnbmpgballopeaaGreatDoor
namespace Go.Proofs.YtnbmpgballopeaaGreatDoor
open Go.RowKit
set_option maxRecDepth 1000000 in
set_option maxHeartbeats 16000000 in
theorem hpF{u0 u1 u2 u3 u6 u8 u9 u10 u12 u13 u14 u15 u16 u17 u18 u19 u20 u21 u22 u23 u24 u25 u26 u27 u28 u29 u30 u31 u32 u33 u34 u35 u36 u37 u38 u39 u40 u41 u42 u43 u44 u45 u46 u47 u48 u49 u50 u51 u52 u53 u54 u55 u56 u57 u58 u59 u60 u61 u62 u63 u64 u65 u66 u67 u68 u69 u70 u71 u72 u73 u74 u75 u76 u77 u78 u79 u80 u81 u82 u83 u84 u85 u86 u87 u88 u89 u90 u91 u92 u93 u94 u95 u96 u97 u98 u99 aa ab ad ae af ag ah ai aj ak al am an ao ap aq ar au aw ax ay az aA aB aC aD aE aF aG aH aI aJ aK aL aM aN aO aP aQ aR aS aT aU aV aW aX aY aZ ba bc bd be bf bg bh bi bj bk bl bm bn bo bp bq br bt bu bv bw bx bz bA bB bC bD bE bF bG bH bI bJ bK bL bM bN bO bP bQ bR bS bT bU bV bW bX bY bZ ca cb cc ce cf cg ch ci cj ck cl cn cp cq cr cs ct cu cx cy cz cA cB cC cD cE cF cG cH cI cJ cK cL cM cN cO cP cQ cR cS cT cU cV cW cX cY cZ da db dc de df dg dh di dj dk dl dm dn dp dq dr ds dt du dv dw dx dy dz dA dB dC dD dE dF dG dH dI dJ dK dL dM dN dO dP dQ dR dS dT dU dV dW dX dY dZ ea eb ec ee ef eg eh ej ek em en:Value}{Q:Exit→Act→World→Prop}{GS GK gm LP cm p B0:Nat}{P K S:List Nat}{cur:Array Value}{T:TypeId}{w:World}(hO:w.ownsRow B0 5 1 (.slice (some ⟨gm,0,none⟩) LP cm) LP (nums .u8 P))(hP:∀d∈P,d<256)(hp:p+64≤LP)(hLP:LP<8589934592)(hS8:S.length=8)(hS2:∀d∈S,d<4294967296)(hG:w.heap[GS]? = some (.cells cur T (0,0)))(hcur:cur.toList=nums .u32 S)(hK2:∀d∈K,d<4294967296)(hkc:∀n,n<64→w.cell? ⟨GK,n,none⟩=some (.int .u32 ((K.getD n 0:Nat):Int)))
  (hQ:∀(n12 n13 n14 n15 n16 n17 n18 n19 n20 n21 n22 n23 n24 n25 n26 n27 n28 n29 n73 n74 n75 n76 n77 n78 n79 n80 n81 n82 n83 n84 n85 n86 n87 n88 n89 n90 n91 n92 n93 n94 n95 n96 n97 n98 n99 fh fi fj fk fl fm fn fo fp fq fr fs ft fu fv fw fx fy fz fA fB fC fD fE fF fG fH fI fJ fK fL fM fN fO fP fQ fR fS fT fU fV fW fX fY fZ ga gb gd gf gg gh gi gj gk gl gn gp gq gr gs gu gv gx gy gz gA gB gC gD gE gF gG gH gI gJ gK gL gM gN gO gP gQ gR gS gT gU gV gW gX gY gZ ha he hl ho hu hw hy hA hB hC hD hE hF hH hI hJ hK hM hR hT hU hY ia ib ic ie ig ii ij ik il im io ip iq ir it iu iv iw iy iz iA iB iC iD iE iF iG iH iI iJ iK iL iM iN iO iP iQ iR iS iT iU iV iW iX iY iZ ja eo ep es et eu ev ew ex ey ez eA eB eC eD eE eF eG eH eI eJ eK eL:Value) (cur':Array Value) (w':World),w'.heap[GS]? = some (.cells cur' T (0,0))→cur'.toList=nums .u32 (comp K S ((P.drop p).take 64))→Far GS w w'→Q .normal ⟨#[u0,u1,u2,u3,.pointer (some ⟨GS,0,none⟩),.pointer (some ⟨GK,0,none⟩),u6,.slice (some ⟨gm,0,none⟩) LP cm,u8,u9,u10,.int .i64 (p:Int),n12,n13,n14,n15,n16,n17,n18,n19,n20,n21,n22,n23,n24,n25,n26,n27,n28,n29,u30,u31,u32,u33,u34,u35,u36,u37,u38,u39,u40,u41,u42,u43,u44,u45,u46,u47,u48,u49,u50,u51,u52,u53,u54,u55,u56,u57,u58,u59,u60,u61,u62,u63,u64,u65,u66,u67,u68,u69,u70,u71,u72,n73,n74,n75,n76,n77,n78,n79,n80,n81,n82,n83,n84,n85,n86,n87,n88,n89,n90,n91,n92,n93,n94,n95,n96,n97,n98,n99,fh,fi,fj,fk,fl,fm,fn,fo,fp,fq,fr,fs,ft,fu,fv,fw,fx,fy,fz,fA,fB,fC,fD,fE,fF,fG,fH,fI,fJ,fK,fL,fM,fN,fO,fP,fQ,fR,fS,fT,fU,fV,fW,fX,fY,fZ,ga,gb,gd,gf,gg,gh,gi,gj,gk,gl,gn,gp,gq,gr,gs,gu,gv,gx,gy,gz,gA,gB,gC,gD,gE,gF,gG,gH,gI,gJ,gK,gL,gM,gN,gO,gP,gQ,gR,gS,gT,gU,gV,gW,gX,gY,gZ,ha,he,hl,ho,hu,hw,hy,hA,hB,hC,hD,hE,hF,hH,hI,hJ,hK,hM,hR,hT,hU,hY,ia,ib,ic,ie,ig,ii,ij,ik,il,im,io,ip,iq,ir,it,iu,iv,iw,iy,iz,iA,iB,iC,iD,iE,iF,iG,iH,iI,iJ,iK,iL,iM,iN,iO,iP,iQ,iR,iS,iT,iU,iV,iW,iX,iY,iZ,ja,eo,ep,es,et,eu,ev,ew,ex,ey,ez,eA,eB,eC,eD,eE,eF,eG,eH,eI,eJ,eK,eL,dO,dP,dQ,dR,dS,dT,dU,dV,dW,dX,dY,dZ,ea,eb,ec,ee,ef,eg,eh,ej,ek,em,en],[]⟩ w'):
  Code.wp Tryz.prog (inBk (headC ((Tryz.f83.body.bind (pickR 16)).getD .skip))) Q ⟨#[u0,u1,u2,u3,.pointer (some ⟨GS,0,none⟩),.pointer (some ⟨GK,0,none⟩),u6,.slice (some ⟨gm,0,none⟩) LP cm,u8,u9,u10,.int .i64 (p:Int),u12,u13,u14,u15,u16,u17,u18,u19,u20,u21,u22,u23,u24,u25,u26,u27,u28,u29,u30,u31,u32,u33,u34,u35,u36,u37,u38,u39,u40,u41,u42,u43,u44,u45,u46,u47,u48,u49,u50,u51,u52,u53,u54,u55,u56,u57,u58,u59,u60,u61,u62,u63,u64,u65,u66,u67,u68,u69,u70,u71,u72,u73,u74,u75,u76,u77,u78,u79,u80,u81,u82,u83,u84,u85,u86,u87,u88,u89,u90,u91,u92,u93,u94,u95,u96,u97,u98,u99,aa,ab,ad,ae,af,ag,ah,ai,aj,ak,al,am,an,ao,ap,aq,ar,au,aw,ax,ay,az,aA,aB,aC,aD,aE,aF,aG,aH,aI,aJ,aK,aL,aM,aN,aO,aP,aQ,aR,aS,aT,aU,aV,aW,aX,aY,aZ,ba,bc,bd,be,bf,bg,bh,bi,bj,bk,bl,bm,bn,bo,bp,bq,br,bt,bu,bv,bw,bx,bz,bA,bB,bC,bD,bE,bF,bG,bH,bI,bJ,bK,bL,bM,bN,bO,bP,bQ,bR,bS,bT,bU,bV,bW,bX,bY,bZ,ca,cb,cc,ce,cf,cg,ch,ci,cj,ck,cl,cn,cp,cq,cr,cs,ct,cu,cx,cy,cz,cA,cB,cC,cD,cE,cF,cG,cH,cI,cJ,cK,cL,cM,cN,cO,cP,cQ,cR,cS,cT,cU,cV,cW,cX,cY,cZ,da,db,dc,de,df,dg,dh,di,dj,dk,dl,dm,dn,dp,dq,dr,ds,dt,du,dv,dw,dx,dy,dz,dA,dB,dC,dD,dE,dF,dG,dH,dI,dJ,dK,dL,dM,dN,dO,dP,dQ,dR,dS,dT,dU,dV,dW,dX,dY,dZ,ea,eb,ec,ee,ef,eg,eh,ej,ek,em,en],[]⟩ w:=by
 have hcode:inBk (headC ((Tryz.f83.body.bind (pickR 16)).getD .skip))=Code.seq (headC (inBk (headC ((Tryz.f83.body.bind (pickR 16)).getD .skip)))) (.seq (headC ((Tryz.f83.body.bind (pickR 17)).getD .skip)) (.seq (headC ((Tryz.f83.body.bind (pickR 21)).getD .skip)) (.seq (headC ((Tryz.f83.body.bind (pickR 27)).getD .skip)) (.seq (headC ((Tryz.f83.body.bind (pickR 28)).getD .skip)) ((Tryz.f83.body.bind (pickR 34)).getD .skip))))):=by kernel_rfl
 rw [hcode]
 have hgm:gm<w.heap.size:=(hO.lt gm rfl).2
 have hGlt:=(Array.getElem?_eq_some_iff.1 hG).1
 obtain⟨blk,hblk⟩:∃blk,blk=(P.drop p).take 64:=⟨_,rfl⟩
 have hb256:∀d∈blk,d<256:=fun d hd=>hP d (List.mem_of_mem_drop (List.mem_of_mem_take (hblk ▸ hd)))
 match S,hS8 with
 | [z0,z1,z2,z3,z4,z5,z6,z7],hS8=>
  have gc:∀(w':World),Below w.heap.size w w' → ∀m,m<8→w'.cell? ⟨GS,m,none⟩=some (.int .u32 (([z0,z1,z2,z3,z4,z5,z6,z7].getD m 0:Nat):Int)):=by
   intro w' hb m hm
   rw [cell_of_row _ GS m _ T (0,0) ((hb.block GS hGlt).trans hG),← Array.getElem?_toList,hcur]
   exact nums_get .u32 (by simp;omega)
  refine wp_seq (hp16 ?_)
  intro n73 v1 w1 o1 b1
  refine wp_seq (hpA (own_below hO b1) hP hp hLP o1 hgm b1.size ?_)
  intro n13 n74 n75 n76 n77 n78 n79 n80 n81 n82 n83 n84 n85 n86 n87 n88 n89 n90 n91 n92 n93 n94 n95 n96 n97 n98 n99 fh fi fj fk fl fm fn fo fp fq fr fs ft fu fv fw fx fy v2 w2 o2 b2
  refine wp_seq (hpB hb256 (hblk ▸ o2) (Nat.le_trans b1.size b2.size) ?_)
  intro n14 n15 n16 fz fA fB fC fD fE fF fG fH fI fJ fK fL fM fN fO fP fQ fR fS fT fU fV fW fX fY fZ ga gb gd gf gg gh gi gj gk gl gn gp gq gr gs gu gv gx gy gz gA gB gC gD gE gF gG gH gI gJ gK gL gM gN gO v3 w3 o3 b3
  have B3:=(b1.trans b2).trans b3
  refine wp_seq (hp27 (gc _ B3 0 (by omega)) (gc _ B3 1 (by omega)) (gc _ B3 2 (by omega)) (gc _ B3 3 (by omega)) (gc _ B3 4 (by omega)) (gc _ B3 5 (by omega)) (gc _ B3 6 (by omega)) (gc _ B3 7 (by omega)) ?_)
  intro gP gQ gR gS gT gU gV gW gX gY gZ ha he hl ho hu w4 q4
  have hv3:∃gw cw,v3 = .slice (some ⟨gw,0,none⟩) 64 cw:=by
   rcases o3.2 with⟨_,h0⟩|⟨g,c,cur,e,_⟩
   ·omega
   ·exact⟨g,c,e⟩
  obtain⟨gw,cw,rfl⟩:=hv3
  have o4:=own_below o3 (q4.below _)
  have B4:=B3.trans (q4.below w.heap.size)
  have ok:(St.mk z0 z1 z2 z3 z4 z5 z6 z7).ok:=⟨hS2 z0 (by simp),hS2 z1 (by simp),hS2 z2 (by simp),hS2 z3 (by simp),hS2 z4 (by simp),hS2 z5 (by simp),hS2 z6 (by simp),hS2 z7 (by simp)⟩
  refine wp_seq (hpC (GK:=GK) (K:=K) (W:=schedN blk 48) ok hK2 (schedN_lt hb256 48) (fun n hn=>cell_keep' (hkc n hn) B4) (fun n hn=>(o4.cellAt n (by omega)).trans (nums_get .u32 (by rw [schedN_len];omega))) ?_)
  intro n25 n26 n27 hw hy hA hB hC hD hE hF hH hI hJ hK hM hR hT hU hY ia ib ic ie ig ii ij ik il im io ip iq ir it iu iv iw iy iz iA iB iC iD iE iF iG iH iI iJ iK iL iM iN iO iP iQ iR iS iT iU iV iW iX iY iZ ja s w5 hs hok q5
  have B5:=B4.trans (q5.below w.heap.size)
  refine hpD hS8 ((B5.block GS hGlt).trans hG) hcur ?_
  intro n28 n29 eo ep es et eu ev ew ex ey ez eA eB eC eD eE eF eG eH eI eJ eK eL cur' w6 h6 hc6 f6
  refine hQ _ _ _ _ _ _ _ _ _ _ _ _ _ _ _ _ _ _ _ _ _ _ _ _ _ _ _ _ _ _ _ _ _ _ _ _ _ _ _ _ _ _ _ _ _ _ _ _ _ _ _ _ _ _ _ _ _ _ _ _ _ _ _ _ _ _ _ _ _ _ _ _ _ _ _ _ _ _ _ _ _ _ _ _ _ _ _ _ _ _ _ _ _ _ _ _ _ _ _ _ _ _ _ _ _ _ _ _ _ _ _ _ _ _ _ _ _ _ _ _ _ _ _ _ _ _ _ _ _ _ _ _ _ _ _ _ _ _ _ _ _ _ _ _ _ _ _ _ _ _ _ _ _ _ _ _ _ _ _ _ _ _ _ _ _ _ _ _ _ _ _ _ _ _ _ _ _ _ _ _ _ _ _ _ _ _ _ _ _ _ _ _ _ _ _ _ _ _ _ _ _ _ _ _ _ _ _ _ _ _ _ _ _ _ _ _ _ _ _ _ _ _ _ _ _ _ _ cur' w6 h6 ?_ ((Far.of B5).trans f6)
  rw [hc6,← hblk]
  have e:[s.a,s.b,s.c,s.d,s.e,s.f,s.g,s.h]=((St.mk z0 z1 z2 z3 z4 z5 z6 z7).rounds K (schedN blk 48) 64).list:=by
   rw [hs];rfl
  rw [e]
  rfl
end Go.Proofs.YtnbmpgballopeaaGreatDoor
namespace Go.Proofs.YtnbmpgballopeaaGreatDoor
open Go.RowKit
set_option maxRecDepth 1000000 in
set_option maxHeartbeats 16000000 in
theorem hpG{u0 u1 u2 u3 u6 u8 u9 u10 u11 u12 u13 u14 u15 u16 u17 u18 u19 u20 u21 u22 u23 u24 u25 u26 u27 u28 u29 u30 u31 u32 u33 u34 u35 u36 u37 u38 u39 u40 u41 u42 u43 u44 u45 u46 u47 u48 u49 u50 u51 u52 u53 u54 u55 u56 u57 u58 u59 u60 u61 u62 u63 u64 u65 u66 u67 u68 u69 u70 u71 u72 u73 u74 u75 u76 u77 u78 u79 u80 u81 u82 u83 u84 u85 u86 u87 u88 u89 u90 u91 u92 u93 u94 u95 u96 u97 u98 u99 aa ab ad ae af ag ah ai aj ak al am an ao ap aq ar au aw ax ay az aA aB aC aD aE aF aG aH aI aJ aK aL aM aN aO aP aQ aR aS aT aU aV aW aX aY aZ ba bc bd be bf bg bh bi bj bk bl bm bn bo bp bq br bt bu bv bw bx bz bA bB bC bD bE bF bG bH bI bJ bK bL bM bN bO bP bQ bR bS bT bU bV bW bX bY bZ ca cb cc ce cf cg ch ci cj ck cl cn cp cq cr cs ct cu cx cy cz cA cB cC cD cE cF cG cH cI cJ cK cL cM cN cO cP cQ cR cS cT cU cV cW cX cY cZ da db dc de df dg dh di dj dk dl dm dn dp dq dr ds dt du dv dw dx dy dz dA dB dC dD dE dF dG dH dI dJ dK dL dM dN dO dP dQ dR dS dT dU dV dW dX dY dZ ea eb ec ee ef eg eh ej ek em en:Value}{Q:Exit→Act→World→Prop}{GS GK gm LP cm B0:Nat}{P K S:List Nat}{cur:Array Value}{T:TypeId}{w:World}(hO:w.ownsRow B0 5 1 (.slice (some ⟨gm,0,none⟩) LP cm) LP (nums .u8 P))(hP:∀d∈P,d<256)(h64:LP % 64=0)(hLP:LP<8589934592)(hS8:S.length=8)(hS2:∀d∈S,d<4294967296)(hG:w.heap[GS]? = some (.cells cur T (0,0)))(hcur:cur.toList=nums .u32 S)(hK2:∀d∈K,d<4294967296)(hkc:∀n,n<64→w.cell? ⟨GK,n,none⟩=some (.int .u32 ((K.getD n 0:Nat):Int)))(hne1:GK≠GS)(hne2:gm≠GS)
  (hQ:∀(n11 n12 n13 n14 n15 n16 n17 n18 n19 n20 n21 n22 n23 n24 n25 n26 n27 n28 n29 n67 n68 n69 n70 n71 n72 n73 n74 n75 n76 n77 n78 n79 n80 n81 n82 n83 n84 n85 n86 n87 n88 n89 n90 n91 n92 n93 n94 n95 n96 n97 n98 n99 fh fi fj fk fl fm fn fo fp fq fr fs ft fu fv fw fx fy fz fA fB fC fD fE fF fG fH fI fJ fK fL fM fN fO fP fQ fR fS fT fU fV fW fX fY fZ ga gb gd gf gg gh gi gj gk gl gn gp gq gr gs gu gv gx gy gz gA gB gC gD gE gF gG gH gI gJ gK gL gM gN gO gP gQ gR gS gT gU gV gW gX gY gZ ha he hl ho hu hw hy hA hB hC hD hE hF hH hI hJ hK hM hR hT hU hY ia ib ic ie ig ii ij ik il im io ip iq ir it iu iv iw iy iz iA iB iC iD iE iF iG iH iI iJ iK iL iM iN iO iP iQ iR iS iT iU iV iW iX iY iZ ja eo ep es et eu ev ew ex ey ez eA eB eC eD eE eF eG eH eI eJ eK eL:Value) (cur':Array Value) (w':World),w'.heap[GS]? = some (.cells cur' T (0,0))→cur'.toList=nums .u32 (runB K S P (LP / 64))→Far GS w w'→Q .normal ⟨#[u0,u1,u2,u3,.pointer (some ⟨GS,0,none⟩),.pointer (some ⟨GK,0,none⟩),u6,.slice (some ⟨gm,0,none⟩) LP cm,u8,u9,u10,n11,n12,n13,n14,n15,n16,n17,n18,n19,n20,n21,n22,n23,n24,n25,n26,n27,n28,n29,u30,u31,u32,u33,u34,u35,u36,u37,u38,u39,u40,u41,u42,u43,u44,u45,u46,u47,u48,u49,u50,u51,u52,u53,u54,u55,u56,u57,u58,u59,u60,u61,u62,u63,u64,u65,u66,n67,n68,n69,n70,n71,n72,n73,n74,n75,n76,n77,n78,n79,n80,n81,n82,n83,n84,n85,n86,n87,n88,n89,n90,n91,n92,n93,n94,n95,n96,n97,n98,n99,fh,fi,fj,fk,fl,fm,fn,fo,fp,fq,fr,fs,ft,fu,fv,fw,fx,fy,fz,fA,fB,fC,fD,fE,fF,fG,fH,fI,fJ,fK,fL,fM,fN,fO,fP,fQ,fR,fS,fT,fU,fV,fW,fX,fY,fZ,ga,gb,gd,gf,gg,gh,gi,gj,gk,gl,gn,gp,gq,gr,gs,gu,gv,gx,gy,gz,gA,gB,gC,gD,gE,gF,gG,gH,gI,gJ,gK,gL,gM,gN,gO,gP,gQ,gR,gS,gT,gU,gV,gW,gX,gY,gZ,ha,he,hl,ho,hu,hw,hy,hA,hB,hC,hD,hE,hF,hH,hI,hJ,hK,hM,hR,hT,hU,hY,ia,ib,ic,ie,ig,ii,ij,ik,il,im,io,ip,iq,ir,it,iu,iv,iw,iy,iz,iA,iB,iC,iD,iE,iF,iG,iH,iI,iJ,iK,iL,iM,iN,iO,iP,iQ,iR,iS,iT,iU,iV,iW,iX,iY,iZ,ja,eo,ep,es,et,eu,ev,ew,ex,ey,ez,eA,eB,eC,eD,eE,eF,eG,eH,eI,eJ,eK,eL,dO,dP,dQ,dR,dS,dT,dU,dV,dW,dX,dY,dZ,ea,eb,ec,ee,ef,eg,eh,ej,ek,em,en],[]⟩ w'):
  Code.wp Tryz.prog (headC ((Tryz.f83.body.bind (pickR 13)).getD .skip)) Q ⟨#[u0,u1,u2,u3,.pointer (some ⟨GS,0,none⟩),.pointer (some ⟨GK,0,none⟩),u6,.slice (some ⟨gm,0,none⟩) LP cm,u8,u9,u10,u11,u12,u13,u14,u15,u16,u17,u18,u19,u20,u21,u22,u23,u24,u25,u26,u27,u28,u29,u30,u31,u32,u33,u34,u35,u36,u37,u38,u39,u40,u41,u42,u43,u44,u45,u46,u47,u48,u49,u50,u51,u52,u53,u54,u55,u56,u57,u58,u59,u60,u61,u62,u63,u64,u65,u66,u67,u68,u69,u70,u71,u72,u73,u74,u75,u76,u77,u78,u79,u80,u81,u82,u83,u84,u85,u86,u87,u88,u89,u90,u91,u92,u93,u94,u95,u96,u97,u98,u99,aa,ab,ad,ae,af,ag,ah,ai,aj,ak,al,am,an,ao,ap,aq,ar,au,aw,ax,ay,az,aA,aB,aC,aD,aE,aF,aG,aH,aI,aJ,aK,aL,aM,aN,aO,aP,aQ,aR,aS,aT,aU,aV,aW,aX,aY,aZ,ba,bc,bd,be,bf,bg,bh,bi,bj,bk,bl,bm,bn,bo,bp,bq,br,bt,bu,bv,bw,bx,bz,bA,bB,bC,bD,bE,bF,bG,bH,bI,bJ,bK,bL,bM,bN,bO,bP,bQ,bR,bS,bT,bU,bV,bW,bX,bY,bZ,ca,cb,cc,ce,cf,cg,ch,ci,cj,ck,cl,cn,cp,cq,cr,cs,ct,cu,cx,cy,cz,cA,cB,cC,cD,cE,cF,cG,cH,cI,cJ,cK,cL,cM,cN,cO,cP,cQ,cR,cS,cT,cU,cV,cW,cX,cY,cZ,da,db,dc,de,df,dg,dh,di,dj,dk,dl,dm,dn,dp,dq,dr,ds,dt,du,dv,dw,dx,dy,dz,dA,dB,dC,dD,dE,dF,dG,dH,dI,dJ,dK,dL,dM,dN,dO,dP,dQ,dR,dS,dT,dU,dV,dW,dX,dY,dZ,ea,eb,ec,ee,ef,eg,eh,ej,ek,em,en],[]⟩ w:=by
 have hcode:headC ((Tryz.f83.body.bind (pickR 13)).getD .skip)=Code.seq (headC (headC ((Tryz.f83.body.bind (pickR 13)).getD .skip))) (.block 4 (.loop (.seq (headC ((Tryz.f83.body.bind (pickR 14)).getD .skip)) (.seq (.block 5 (inBk (headC ((Tryz.f83.body.bind (pickR 16)).getD .skip)))) ((Tryz.f83.body.bind (pickR 15)).getD .skip))))):=by kernel_rfl
 rw [hcode]
 have HO:=hid hO
 have HP:=hid hP
 have HK2:=hid hK2
 have HKC:=hid hkc
 have HQ:=hid hQ
 have HS2:=hid hS2
 have HG:=hid hG
 have HC:=hid hcur
 have H64:=hid h64
 clear hcode hO hP hK2 hkc hQ hS2 hG hcur h64
 refine wp_seq_k fun K1 hK1=>?_
 conv=>arg 2;whnf
 go_wp2
 refine(wp_loop (fun a' w'=>∃(N:Nat→Value) (p j:Nat) (cur':Array Value),p=64*j∧p≤LP∧w'.heap[GS]? = some (.cells cur' T (0,0))∧cur'.toList=nums .u32 (runB K S P j)∧Far GS w w'∧a'=⟨List.toArray (u0::u1::u2::u3 :: .pointer (some ⟨GS,0,none⟩) :: .pointer (some ⟨GK,0,none⟩)::u6 :: .slice (some ⟨gm,0,none⟩) LP cm::u8::u9::u10 :: .int .i64 (p:Int)::N 0::N 1::N 2::N 3::N 4::N 5::N 6::N 7::N 8::N 9::N 10::N 11::N 12::N 13::N 14::N 15::N 16::N 17::u30::u31::u32::u33::u34::u35::u36::u37::u38::u39::u40::u41::u42::u43::u44::u45::u46::u47::u48::u49::u50::u51::u52::u53::u54::u55::u56::u57::u58::u59::u60::u61::u62::u63::u64::u65::u66::N 18::N 19::N 20::N 21::N 22::N 23::N 24::N 25::N 26::N 27::N 28::N 29::N 30::N 31::N 32::N 33::N 34::N 35::N 36::N 37::N 38::N 39::N 40::N 41::N 42::N 43::N 44::N 45::N 46::N 47::N 48::N 49::N 50::N 51::N 52::N 53::N 54::N 55::N 56::N 57::N 58::N 59::N 60::N 61::N 62::N 63::N 64::N 65::N 66::N 67::N 68::N 69::N 70::N 71::N 72::N 73::N 74::N 75::N 76::N 77::N 78::N 79::N 80::N 81::N 82::N 83::N 84::N 85::N 86::N 87::N 88::N 89::N 90::N 91::N 92::N 93::N 94::N 95::N 96::N 97::N 98::N 99::N 100::N 101::N 102::N 103::N 104::N 105::N 106::N 107::N 108::N 109::N 110::N 111::N 112::N 113::N 114::N 115::N 116::N 117::N 118::N 119::N 120::N 121::N 122::N 123::N 124::N 125::N 126::N 127::N 128::N 129::N 130::N 131::N 132::N 133::N 134::N 135::N 136::N 137::N 138::N 139::N 140::N 141::N 142::N 143::N 144::N 145::N 146::N 147::N 148::N 149::N 150::N 151::N 152::N 153::N 154::N 155::N 156::N 157::N 158::N 159::N 160::N 161::N 162::N 163::N 164::N 165::N 166::N 167::N 168::N 169::N 170::N 171::N 172::N 173::N 174::N 175::N 176::N 177::N 178::N 179::N 180::N 181::N 182::N 183::N 184::N 185::N 186::N 187::N 188::N 189::N 190::N 191::N 192::N 193::N 194::N 195::N 196::N 197::N 198::N 199::N 200::N 201::N 202::N 203::N 204::N 205::N 206::N 207::N 208::N 209::N 210::N 211::N 212::N 213::N 214::N 215::N 216::N 217::N 218::N 219::N 220::N 221::N 222::N 223::N 224::N 225::N 226::N 227::N 228::N 229::N 230::N 231::N 232::dO::dP::dQ::dR::dS::dT::dU::dV::dW::dX::dY::dZ::ea::eb::ec::ee::ef::eg::eh::ej::ek::em::en::[]),[]⟩) (fun a' _=>LP - (intOf (a'.tmps.getD 11 undef)).toNat) ?_ ?_)
 ·exact⟨fun k=>[u12,u13,u14,u15,u16,u17,u18,u19,u20,u21,u22,u23,u24,u25,u26,u27,u28,u29,u67,u68,u69,u70,u71,u72,u73,u74,u75,u76,u77,u78,u79,u80,u81,u82,u83,u84,u85,u86,u87,u88,u89,u90,u91,u92,u93,u94,u95,u96,u97,u98,u99,aa,ab,ad,ae,af,ag,ah,ai,aj,ak,al,am,an,ao,ap,aq,ar,au,aw,ax,ay,az,aA,aB,aC,aD,aE,aF,aG,aH,aI,aJ,aK,aL,aM,aN,aO,aP,aQ,aR,aS,aT,aU,aV,aW,aX,aY,aZ,ba,bc,bd,be,bf,bg,bh,bi,bj,bk,bl,bm,bn,bo,bp,bq,br,bt,bu,bv,bw,bx,bz,bA,bB,bC,bD,bE,bF,bG,bH,bI,bJ,bK,bL,bM,bN,bO,bP,bQ,bR,bS,bT,bU,bV,bW,bX,bY,bZ,ca,cb,cc,ce,cf,cg,ch,ci,cj,ck,cl,cn,cp,cq,cr,cs,ct,cu,cx,cy,cz,cA,cB,cC,cD,cE,cF,cG,cH,cI,cJ,cK,cL,cM,cN,cO,cP,cQ,cR,cS,cT,cU,cV,cW,cX,cY,cZ,da,db,dc,de,df,dg,dh,di,dj,dk,dl,dm,dn,dp,dq,dr,ds,dt,du,dv,dw,dx,dy,dz,dA,dB,dC,dD,dE,dF,dG,dH,dI,dJ,dK,dL,dM,dN].getD k undef,0,0,cur,rfl,by omega,HG.out,HC.out,Far.refl _ _,by kernel_rfl⟩
 ·rintro _ wr ⟨N,p,j,cur',hpj,hpL,hg,hc,hf,rfl⟩
  have HPJ:=hid hpj
  have HG':=hid hg
  have HC':=hid hc
  have HF:=hid hf
  clear hpj hg hc hf HG HC
  have hpb:p<8589934592:=by omega
  by_cases hlt:p<LP
  ·have hp64:p+64≤LP:=by have:=HPJ.out;have:=H64.out;omega
   refine wp_seq_k fun K2 hK2'=>?_
   conv=>arg 2;whnf
   go_wp2
   refine(hpF (GS:=GS) (GK:=GK) (B0:=B0) (P:=P) (K:=K) (S:=runB K S P j) (cur:=cur') (T:=T) (Far.own HO.out HF.out (by simp [Value.ownBlock];exact hne2)) HP.out hp64 hLP (runB_len hS8 j) (runB_lt HS2.out j) HG'.out HC'.out HK2.out (fun n hn=>?_) ?_)
   ·rw [World.cell?_of_block (HF.out.block _ (World.block_lt_of_cell? w _ (HKC.out n hn)) (by simpa using hne1))]
    exact HKC.out n hn
   ·intro m12 m13 m14 m15 m16 m17 m18 m19 m20 m21 m22 m23 m24 m25 m26 m27 m28 m29 m73 m74 m75 m76 m77 m78 m79 m80 m81 m82 m83 m84 m85 m86 m87 m88 m89 m90 m91 m92 m93 m94 m95 m96 m97 m98 m99 jb jc jd je jf jg jh ji jj jk jl jm jn jo jp jq jr js jt ju jv jw jx jy jz jA jB jC jD jE jF jG jH jI jJ jK jL jM jN jO jP jQ jR jS jT jU jV jW jX jY jZ ka kb kc kd ke kf kg kh ki kj kk kl km kn ko kp kq kr ks kt ku kv kw kx ky kz kB kC kD kE kF kG kH kI kJ kK kL kM kN kO kP kQ kR kS kT kU kV kW kX kY kZ la lb lc ld lf lg lh li lj lk ll lm ln lo lp lq lr ls lu lv lw lx ly lz lA lB lC lD lE lF lG lH lI lJ lK lL lM lN lO lP lQ lR lS lT lU lV lW lX lY lZ ma mb mc md me mf mg mh mi mj ml mm mn mo mp mq mr ms mt mu mv mw mx my mz mA mB mC mD mE cur2 w2 hg2 hc2 hf2
    have HG2:=hid hg2
    have HC2:=hid hc2
    have HF2:=hid (HF.out.trans hf2)
    clear hg2 hc2 hf2
    simp only [Exit.inBlock,Exit.then]
    go_wp2
    conv=>arg 2;whnf
    go_wp2
    refine⟨⟨fun k=>[m12,m13,m14,m15,m16,m17,m18,m19,m20,m21,m22,m23,m24,m25,m26,m27,m28,m29,.int .i64 (p:Int),.slice (some ⟨gm,0,none⟩) LP cm,.int .i64 (LP:Int),.bool true,.int .i64 (p:Int),.int .i64 ((p:Int)+64),m73,m74,m75,m76,m77,m78,m79,m80,m81,m82,m83,m84,m85,m86,m87,m88,m89,m90,m91,m92,m93,m94,m95,m96,m97,m98,m99,jb,jc,jd,je,jf,jg,jh,ji,jj,jk,jl,jm,jn,jo,jp,jq,jr,js,jt,ju,jv,jw,jx,jy,jz,jA,jB,jC,jD,jE,jF,jG,jH,jI,jJ,jK,jL,jM,jN,jO,jP,jQ,jR,jS,jT,jU,jV,jW,jX,jY,jZ,ka,kb,kc,kd,ke,kf,kg,kh,ki,kj,kk,kl,km,kn,ko,kp,kq,kr,ks,kt,ku,kv,kw,kx,ky,kz,kB,kC,kD,kE,kF,kG,kH,kI,kJ,kK,kL,kM,kN,kO,kP,kQ,kR,kS,kT,kU,kV,kW,kX,kY,kZ,la,lb,lc,ld,lf,lg,lh,li,lj,lk,ll,lm,ln,lo,lp,lq,lr,ls,lu,lv,lw,lx,ly,lz,lA,lB,lC,lD,lE,lF,lG,lH,lI,lJ,lK,lL,lM,lN,lO,lP,lQ,lR,lS,lT,lU,lV,lW,lX,lY,lZ,ma,mb,mc,md,me,mf,mg,mh,mi,mj,ml,mm,mn,mo,mp,mq,mr,ms,mt,mu,mv,mw,mx,my,mz,mA,mB,mC,mD,mE].getD k undef,p+64,j+1,cur2,by have:=HPJ.out;omega,hp64,HG2.out,?_,HF2.out,by rw [Int.natCast_add];kernel_rfl⟩,?_⟩
    ·rw [HC2.out,runB,HPJ.out]
    ·show LP - (p+64)<LP - p
     omega
  ·have hpe:p=LP:=by omega
   have hj:LP / 64=j:=by have:=HPJ.out;omega
   refine wp_seq_k fun K2 hK2'=>?_
   conv=>arg 2;whnf
   go_wp2
   refine HQ.out _ _ _ _ _ _ _ _ _ _ _ _ _ _ _ _ _ _ _ _ _ _ _ _ _ _ _ _ _ _ _ _ _ _ _ _ _ _ _ _ _ _ _ _ _ _ _ _ _ _ _ _ _ _ _ _ _ _ _ _ _ _ _ _ _ _ _ _ _ _ _ _ _ _ _ _ _ _ _ _ _ _ _ _ _ _ _ _ _ _ _ _ _ _ _ _ _ _ _ _ _ _ _ _ _ _ _ _ _ _ _ _ _ _ _ _ _ _ _ _ _ _ _ _ _ _ _ _ _ _ _ _ _ _ _ _ _ _ _ _ _ _ _ _ _ _ _ _ _ _ _ _ _ _ _ _ _ _ _ _ _ _ _ _ _ _ _ _ _ _ _ _ _ _ _ _ _ _ _ _ _ _ _ _ _ _ _ _ _ _ _ _ _ _ _ _ _ _ _ _ _ _ _ _ _ _ _ _ _ _ _ _ _ _ _ _ _ _ _ _ _ _ _ _ _ _ _ _ _ _ _ _ _ _  _ _ HG'.out (by rw [hj];exact HC'.out) HF.out
end Go.Proofs.YtnbmpgballopeaaGreatDoor
namespace Go.Proofs.YtnbmpgballopeaaGreatDoor
open Go.RowKit
def lenS:Value→Nat
 | .slice _ l _=>l
 | _=>0
@[simp] theorem lenS_slice(a:Option Addr)(l c:Nat):lenS (.slice a l c)=l:=rfl
set_option maxRecDepth 1000000 in
set_option maxHeartbeats 16000000 in
theorem hpH{u0 u1 u2 u3 u4 u5 u6 u8 u9 u10 u11 u12 u13 u14 u15 u16 u17 u18 u19 u20 u21 u22 u23 u24 u25 u26 u27 u28 u29 u30 u31 u32 u33 u34 u35 u36 u37 u38 u39 u40 u41 u42 u43 u44 u45 u46 u47 u48 u49 u50 u51 u52 u53 u54 u55 u56 u57 u58 u59 u60 u61 u62 u63 u64 u65 u66 u67 u68 u69 u70 u71 u72 u73 u74 u75 u76 u77 u78 u79 u80 u81 u82 u83 u84 u85 u86 u87 u88 u89 u90 u91 u92 u93 u94 u95 u96 u97 u98 u99 aa ab ad ae af ag ah ai aj ak al am an ao ap aq ar au aw ax ay az aA aB aC aD aE aF aG aH aI aJ aK aL aM aN aO aP aQ aR aS aT aU aV aW aX aY aZ ba bc bd be bf bg bh bi bj bk bl bm bn bo bp bq br bt bu bv bw bx bz bA bB bC bD bE bF bG bH bI bJ bK bL bM bN bO bP bQ bR bS bT bU bV bW bX bY bZ ca cb cc ce cf cg ch ci cj ck cl cn cp cq cr cs ct cu cx cy cz cA cB cC cD cE cF cG cH cI cJ cK cL cM cN cO cP cQ cR cS cT cU cV cW cX cY cZ da db dc de df dg dh di dj dk dl dm dn dp dq dr ds dt du dv dw dx dy dz dA dB dC dD dE dF dG dH dI dJ dK dL dM dN dO dP dQ dR dS dT dU dV dW dX dY dZ ea eb ec ee ef eg eh ej ek em en:Value}{Q:Exit→Act→World→Prop}{B n:Nat}{v7:Value}{bs:List Nat}{w:World}(hL:bs.length=n)(hn:n≤1048576)(hW:w.ownsRow B 5 1 v7 (bs++(128::List.replicate 0 0)).length (nums .u8 (bs++(128::List.replicate 0 0))))(hBw:B≤w.heap.size)
  (hQ:∀(n40 n41 n42 n43 n44 n45 n46:Value) (v:Value) (w':World),w'.ownsRow B 5 1 v (n+1+zerosN n) (nums .u8 (bs++(128::List.replicate (zerosN n) 0)))→Below B w w'→Q .normal ⟨#[u0,u1,u2,u3,u4,u5,u6,v,u8,u9,u10,u11,u12,u13,u14,u15,u16,u17,u18,u19,u20,u21,u22,u23,u24,u25,u26,u27,u28,u29,u30,u31,u32,u33,u34,u35,u36,u37,u38,u39,n40,n41,n42,n43,n44,n45,n46,u47,u48,u49,u50,u51,u52,u53,u54,u55,u56,u57,u58,u59,u60,u61,u62,u63,u64,u65,u66,u67,u68,u69,u70,u71,u72,u73,u74,u75,u76,u77,u78,u79,u80,u81,u82,u83,u84,u85,u86,u87,u88,u89,u90,u91,u92,u93,u94,u95,u96,u97,u98,u99,aa,ab,ad,ae,af,ag,ah,ai,aj,ak,al,am,an,ao,ap,aq,ar,au,aw,ax,ay,az,aA,aB,aC,aD,aE,aF,aG,aH,aI,aJ,aK,aL,aM,aN,aO,aP,aQ,aR,aS,aT,aU,aV,aW,aX,aY,aZ,ba,bc,bd,be,bf,bg,bh,bi,bj,bk,bl,bm,bn,bo,bp,bq,br,bt,bu,bv,bw,bx,bz,bA,bB,bC,bD,bE,bF,bG,bH,bI,bJ,bK,bL,bM,bN,bO,bP,bQ,bR,bS,bT,bU,bV,bW,bX,bY,bZ,ca,cb,cc,ce,cf,cg,ch,ci,cj,ck,cl,cn,cp,cq,cr,cs,ct,cu,cx,cy,cz,cA,cB,cC,cD,cE,cF,cG,cH,cI,cJ,cK,cL,cM,cN,cO,cP,cQ,cR,cS,cT,cU,cV,cW,cX,cY,cZ,da,db,dc,de,df,dg,dh,di,dj,dk,dl,dm,dn,dp,dq,dr,ds,dt,du,dv,dw,dx,dy,dz,dA,dB,dC,dD,dE,dF,dG,dH,dI,dJ,dK,dL,dM,dN,dO,dP,dQ,dR,dS,dT,dU,dV,dW,dX,dY,dZ,ea,eb,ec,ee,ef,eg,eh,ej,ek,em,en],[]⟩ w'):
  Code.wp Tryz.prog (headC ((Tryz.f83.body.bind (pickR 3)).getD .skip)) Q ⟨#[u0,u1,u2,u3,u4,u5,u6,v7,u8,u9,u10,u11,u12,u13,u14,u15,u16,u17,u18,u19,u20,u21,u22,u23,u24,u25,u26,u27,u28,u29,u30,u31,u32,u33,u34,u35,u36,u37,u38,u39,u40,u41,u42,u43,u44,u45,u46,u47,u48,u49,u50,u51,u52,u53,u54,u55,u56,u57,u58,u59,u60,u61,u62,u63,u64,u65,u66,u67,u68,u69,u70,u71,u72,u73,u74,u75,u76,u77,u78,u79,u80,u81,u82,u83,u84,u85,u86,u87,u88,u89,u90,u91,u92,u93,u94,u95,u96,u97,u98,u99,aa,ab,ad,ae,af,ag,ah,ai,aj,ak,al,am,an,ao,ap,aq,ar,au,aw,ax,ay,az,aA,aB,aC,aD,aE,aF,aG,aH,aI,aJ,aK,aL,aM,aN,aO,aP,aQ,aR,aS,aT,aU,aV,aW,aX,aY,aZ,ba,bc,bd,be,bf,bg,bh,bi,bj,bk,bl,bm,bn,bo,bp,bq,br,bt,bu,bv,bw,bx,bz,bA,bB,bC,bD,bE,bF,bG,bH,bI,bJ,bK,bL,bM,bN,bO,bP,bQ,bR,bS,bT,bU,bV,bW,bX,bY,bZ,ca,cb,cc,ce,cf,cg,ch,ci,cj,ck,cl,cn,cp,cq,cr,cs,ct,cu,cx,cy,cz,cA,cB,cC,cD,cE,cF,cG,cH,cI,cJ,cK,cL,cM,cN,cO,cP,cQ,cR,cS,cT,cU,cV,cW,cX,cY,cZ,da,db,dc,de,df,dg,dh,di,dj,dk,dl,dm,dn,dp,dq,dr,ds,dt,du,dv,dw,dx,dy,dz,dA,dB,dC,dD,dE,dF,dG,dH,dI,dJ,dK,dL,dM,dN,dO,dP,dQ,dR,dS,dT,dU,dV,dW,dX,dY,dZ,ea,eb,ec,ee,ef,eg,eh,ej,ek,em,en],[]⟩ w:=by
 have HL:=hid hL
 have HQ:=hid hQ
 have HW:=hid hW
 clear hQ hL hW
 conv=>arg 2;whnf
 go_wp2
 go_loopw [7] (fun x7 wr=>∃(z:Nat) (v:Value),z≤zerosN n∧v=x7∧wr.ownsRow B 5 1 v (bs++(128::List.replicate z 0)).length (nums .u8 (bs++(128::List.replicate z 0)))∧Below B w wr) (fun x7 _=>n+1+zerosN n - lenS x7)
 case atStart=>exact⟨0,v7,by omega,rfl,HW.out,Below.refl _ _⟩
 case round=>
  obtain⟨z,v,hz,rfl,hown,hbw⟩:=hrel
  clear HW
  have hlen:(bs++(128::List.replicate z 0)).length=n+1+z:=by simp [HL.out];omega
  have hzN:zerosN n≤64:=by unfold zerosN;split <;> omega
  have hmore:=zeros_more (L:=n) hz
  rw [hlen] at hown
  obtain⟨av,cv,rfl,rv⟩:=Rd.of_owns hown
  have HO:=hid hown
  have HBW:=hid hbw
  have hbs:=hbw.size
  obtain⟨r,hr⟩:∃r:Nat,r=(n+1+z) % 64:=⟨_,rfl⟩
  obtain⟨nz,hnz⟩:∃nz:Nat,nz=n+1+z:=⟨_,rfl⟩
  rw [← hnz] at HO ⊢
  have er:(nz:Int) % 64=(r:Int):=by omega
  have er2:(nz:Int).tmod 64=(r:Int):=by rw [Int.tmod_eq_emod_of_nonneg (by omega)];exact er
  rw [← hr] at hmore
  have hnzb:nz<4294967296:=by omega
  have HNZ:=hid hnz
  by_cases hgo:z<zerosN n
  ·have hr56:r≠56:=hmore.2 hgo
   have tr:((r:Int) != 56)=true:=by simp;omega
   have hz1:z+1≤zerosN n:=hgo
   have HZ1:=hid (show zerosN n - z - 1+1=zerosN n - z by omega)
   clear hown rv hbw hmore hr hlen hr56 hnz
   have hBs:B≤wr.heap.size:=by omega
   go_wp2_with (at_builtin;refine wpList_push rfl _ _ 28 rfl tyBs B HO.out rfl rfl rfl rfl hnzb (by decide) hBs ?_)
   intro v6 w6 own6 b6 hs6 _
   have el:bs++(128::List.replicate (z+1) 0)=(bs++(128::List.replicate z 0))++[0]:=by
    rw [List.replicate_succ',List.append_assoc];rfl
   have enz:(bs++(128::List.replicate z 0)).length=nz:=by rw [HNZ.out];simp [HL.out];omega
   have O6:=hid (show w6.ownsRow B 5 1 v6 (bs++(128::List.replicate (z+1) 0)).length (nums .u8 (bs++(128::List.replicate (z+1) 0))) by
    rw [el,List.length_append,List.length_singleton,← nums_snoc .u8 (show(0:Int)=((0:Nat):Int) from rfl),enz];exact own6)
   have B6:=hid (HBW.out.trans b6)
   obtain⟨a6,c6,rfl,_⟩:=Rd.of_owns own6
   clear own6 b6 hs6 el enz
   go_wp2
   go_roundw
   case rel=>exact⟨z+1,_,hz1,rfl,O6.out,B6.out⟩
   case measure=>simp;have:=HNZ.out;omega
  ·have hr56:r=56:=by
    rcases Nat.lt_or_ge z (zerosN n) with h|h
    ·exact absurd h hgo
    ·rcases Nat.decEq r 56 with h2|h2
     ·exact absurd (hmore.1 h2) hgo
     ·exact h2
   have tr:((r:Int) != 56)=false:=by simp;omega
   have hzz:z=zerosN n:=by omega
   have F1:=hid (show wr.ownsRow B 5 1 (.slice av nz cv) (n+1+zerosN n) (nums .u8 (bs++(128::List.replicate (zerosN n) 0))) by rw [← hzz,← hnz];exact HO.out)
   clear hown rv hbw hmore hr hlen hgo hr56 hnz hzz HO
   go_wp2
   refine HQ.out _ _ _ _ _ _ _ _ _ F1.out HBW.out
end Go.Proofs.YtnbmpgballopeaaGreatDoor
namespace Go.Proofs.YtnbmpgballopeaaGreatDoor
open Go.RowKit
set_option maxRecDepth 1000000 in
set_option maxHeartbeats 16000000 in
theorem hpI{u0 u1 u2 u3 u4 u5 u6 u7 u10 u11 u12 u13 u14 u15 u16 u17 u18 u19 u20 u21 u22 u23 u24 u25 u26 u27 u28 u29 u30 u31 u32 u33 u34 u35 u36 u37 u38 u39 u40 u41 u42 u43 u44 u45 u46 u47 u48 u49 u50 u51 u52 u53 u54 u55 u56 u57 u58 u59 u60 u61 u62 u63 u64 u65 u66 u67 u68 u69 u70 u71 u72 u73 u74 u75 u76 u77 u78 u79 u80 u81 u82 u83 u84 u85 u86 u87 u88 u89 u90 u91 u92 u93 u94 u95 u96 u97 u98 u99 aa ab ad ae af ag ah ai aj ak al am an ao ap aq ar au aw ax ay az aA aB aC aD aE aF aG aH aI aJ aK aL aM aN aO aP aQ aR aS aT aU aV aW aX aY aZ ba bc bd be bf bg bh bi bj bk bl bm bn bo bp bq br bt bu bv bw bx bz bA bB bC bD bE bF bG bH bI bJ bK bL bM bN bO bP bQ bR bS bT bU bV bW bX bY bZ ca cb cc ce cf cg ch ci cj ck cl cn cp cq cr cs ct cu cx cy cz cA cB cC cD cE cF cG cH cI cJ cK cL cM cN cO cP cQ cR cS cT cU cV cW cX cY cZ da db dc de df dg dh di dj dk dl dm dn dp dq dr ds dt du dv dw dx dy dz dA dB dC dD dE dF dG dH dI dJ dK dL dM dN dO dP dQ dR dS dT dU dV dW dX dY dZ ea eb ec ee ef eg eh ej ek em en:Value}{Q:Exit→Act→World→Prop}{N8:Nat}{v9:Value}{w:World}(hN:N8<18446744073709551616)(hS:SlV .u8 w v9 [])
  (hQ:∀(n8 n10 n52 n53 n54 n55 n56 n57 n58 n59 n60 n61 n62 n63:Value) (v:Value) (w':World),SlV .u8 w' v (beN 8 N8)→Below w.heap.size w w'→Q .normal ⟨#[u0,u1,u2,u3,u4,u5,u6,u7,n8,v,n10,u11,u12,u13,u14,u15,u16,u17,u18,u19,u20,u21,u22,u23,u24,u25,u26,u27,u28,u29,u30,u31,u32,u33,u34,u35,u36,u37,u38,u39,u40,u41,u42,u43,u44,u45,u46,u47,u48,u49,u50,u51,n52,n53,n54,n55,n56,n57,n58,n59,n60,n61,n62,n63,u64,u65,u66,u67,u68,u69,u70,u71,u72,u73,u74,u75,u76,u77,u78,u79,u80,u81,u82,u83,u84,u85,u86,u87,u88,u89,u90,u91,u92,u93,u94,u95,u96,u97,u98,u99,aa,ab,ad,ae,af,ag,ah,ai,aj,ak,al,am,an,ao,ap,aq,ar,au,aw,ax,ay,az,aA,aB,aC,aD,aE,aF,aG,aH,aI,aJ,aK,aL,aM,aN,aO,aP,aQ,aR,aS,aT,aU,aV,aW,aX,aY,aZ,ba,bc,bd,be,bf,bg,bh,bi,bj,bk,bl,bm,bn,bo,bp,bq,br,bt,bu,bv,bw,bx,bz,bA,bB,bC,bD,bE,bF,bG,bH,bI,bJ,bK,bL,bM,bN,bO,bP,bQ,bR,bS,bT,bU,bV,bW,bX,bY,bZ,ca,cb,cc,ce,cf,cg,ch,ci,cj,ck,cl,cn,cp,cq,cr,cs,ct,cu,cx,cy,cz,cA,cB,cC,cD,cE,cF,cG,cH,cI,cJ,cK,cL,cM,cN,cO,cP,cQ,cR,cS,cT,cU,cV,cW,cX,cY,cZ,da,db,dc,de,df,dg,dh,di,dj,dk,dl,dm,dn,dp,dq,dr,ds,dt,du,dv,dw,dx,dy,dz,dA,dB,dC,dD,dE,dF,dG,dH,dI,dJ,dK,dL,dM,dN,dO,dP,dQ,dR,dS,dT,dU,dV,dW,dX,dY,dZ,ea,eb,ec,ee,ef,eg,eh,ej,ek,em,en],[]⟩ w'):
  Code.wp Tryz.prog (headC ((Tryz.f83.body.bind (pickR 7)).getD .skip)) Q ⟨#[u0,u1,u2,u3,u4,u5,u6,u7,.int .u64 (N8:Int),v9,u10,u11,u12,u13,u14,u15,u16,u17,u18,u19,u20,u21,u22,u23,u24,u25,u26,u27,u28,u29,u30,u31,u32,u33,u34,u35,u36,u37,u38,u39,u40,u41,u42,u43,u44,u45,u46,u47,u48,u49,u50,u51,u52,u53,u54,u55,u56,u57,u58,u59,u60,u61,u62,u63,u64,u65,u66,u67,u68,u69,u70,u71,u72,u73,u74,u75,u76,u77,u78,u79,u80,u81,u82,u83,u84,u85,u86,u87,u88,u89,u90,u91,u92,u93,u94,u95,u96,u97,u98,u99,aa,ab,ad,ae,af,ag,ah,ai,aj,ak,al,am,an,ao,ap,aq,ar,au,aw,ax,ay,az,aA,aB,aC,aD,aE,aF,aG,aH,aI,aJ,aK,aL,aM,aN,aO,aP,aQ,aR,aS,aT,aU,aV,aW,aX,aY,aZ,ba,bc,bd,be,bf,bg,bh,bi,bj,bk,bl,bm,bn,bo,bp,bq,br,bt,bu,bv,bw,bx,bz,bA,bB,bC,bD,bE,bF,bG,bH,bI,bJ,bK,bL,bM,bN,bO,bP,bQ,bR,bS,bT,bU,bV,bW,bX,bY,bZ,ca,cb,cc,ce,cf,cg,ch,ci,cj,ck,cl,cn,cp,cq,cr,cs,ct,cu,cx,cy,cz,cA,cB,cC,cD,cE,cF,cG,cH,cI,cJ,cK,cL,cM,cN,cO,cP,cQ,cR,cS,cT,cU,cV,cW,cX,cY,cZ,da,db,dc,de,df,dg,dh,di,dj,dk,dl,dm,dn,dp,dq,dr,ds,dt,du,dv,dw,dx,dy,dz,dA,dB,dC,dD,dE,dF,dG,dH,dI,dJ,dK,dL,dM,dN,dO,dP,dQ,dR,dS,dT,dU,dV,dW,dX,dY,dZ,ea,eb,ec,ee,ef,eg,eh,ej,ek,em,en],[]⟩ w:=by
 have HQ:=hid hQ
 have HS:=hid hS
 clear hQ hS
 conv=>arg 2;whnf
 go_wp2
 go_loopw [8,9,10] (fun x8 x9 x10 wr=>∃(i q:Nat) (v:Value),i≤8∧x10 = .int .i64 i∧x8 = .int .u64 (q:Int)∧q<18446744073709551616∧v=x9∧Hid (q=N8 / 256 ^ i)∧SlV .u8 wr v (beN i N8)∧Below w.heap.size w wr) (fun _ _ x10 _=>8 - (intOf x10).toNat)
 case atStart=>exact⟨0,N8,_,by omega,rfl,rfl,hN,rfl,hid (by simp),HS.out,Below.refl _ _⟩
 case round=>
  obtain⟨i,q,v,hi,rfl,rfl,hq64,rfl,hq,⟨a9,c9,rfl,s9⟩,hb9⟩:=hrel
  clear HS
  by_cases hlt:i<8
  ·obtain⟨d,hd⟩:∃d:Nat,d=q % 256:=⟨_,rfl⟩
   obtain⟨q2,hq2⟩:∃q2:Nat,q2=q / 256:=⟨_,rfl⟩
   have ed:(q:Int) % 256=(d:Int):=by omega
   have eq2:(q:Int) / 256=(q2:Int):=by omega
   have hd256:d<256:=by omega
   have hq264:q2<18446744073709551616:=by omega
   have HQ2:=hid (show q2=N8 / 256 ^ (i+1) by rw [hq2,hq.out,Nat.pow_succ,Nat.div_div_eq_div_mul])
   have HB2:=hid (show beN (i+1) N8=d::beN i N8 by rw [beN,hd,hq.out])
   have O1:=hid (own_lit .u8 wr #[.int .u8 (d:Int)] 5 [d] (n:=1) (B:=wr.heap.size) rfl rfl (Nat.le_refl _) (by decide))
   have bb:=(Below.refl wr.heap.size wr).alloc (Nat.le_refl _) (.cells #[.int .u8 (d:Int)] 5)
   have S2:=hid (s9.below bb)
   have BB:=hid (hb9.trans (bb.mono hb9.size))
   have HBs:=hid hb9.size
   have hl9:=beN_len i N8
   clear hd hq2 s9 hb9 bb
   go_wp2_with (at_builtin;refine wpList_cat rfl _ _ 28 rfl tyBs wr.heap.size O1.out rfl rfl S2.out (nums_oneCell _ _) ?c4 ?c5 ?c6 ?_)
   case c4=>omega
   case c5=>unfold maxLen;omega
   case c6=>simp
   intro v7 w7 own7 b7 hs7 _
   rw [nums_append] at own7
   have OW:=hid (show w7.ownsRow wr.heap.size 5 1 v7 (beN (i+1) N8).length (nums .u8 (beN (i+1) N8)) by rw [HB2.out,List.length_cons,hl9,Nat.add_comm];exact own7)
   have B7:=hid (BB.out.trans (b7.mono HBs.out))
   clear own7 b7 hs7 hl9
   go_wp2
   go_roundw
   case rel=>exact⟨i+1,q2,v7,by omega,by go_num,rfl,hq264,rfl,HQ2.out |> hid,SlV.of_owns OW.out,B7.out⟩
   case measure=>simp [intOf];omega
  ·have hge:8≤i:=by omega
   have hi8:i=8:=by omega
   have HB:=hid hb9
   have S9:=hid (show SlV .u8 wr (.slice a9 (beN i N8).length c9) (beN 8 N8) by rw [← hi8];exact s9.toV)
   clear s9 hb9 hi8
   go_wp2
   refine HQ.out _ _ _ _ _ _ _ _ _ _ _ _ _ _ _ _ S9.out HB.out
end Go.Proofs.YtnbmpgballopeaaGreatDoor
namespace Go.Proofs.YtnbmpgballopeaaGreatDoor
open Go.RowKit
theorem alloc3h(w:World)(a b c:Obj):(((w.alloc a).alloc b).alloc c).heap[w.heap.size]? = some a∧(((w.alloc a).alloc b).alloc c).heap[w.heap.size+1]? = some b∧(((w.alloc a).alloc b).alloc c).heap[w.heap.size+1+1]? = some c ∧
  (((w.alloc a).alloc b).alloc c).heap.size=w.heap.size+1+1+1∧Below w.heap.size w (((w.alloc a).alloc b).alloc c):=by
 have e1:(w.alloc a).heap.size=w.heap.size+1:=by simp
 have e2:((w.alloc a).alloc b).heap.size=w.heap.size+1+1:=by simp
 have h0:=heap_alloc_new w a
 have h1:=heap_alloc_new (w.alloc a) b
 have h2:=heap_alloc_new ((w.alloc a).alloc b) c
 rw [e1] at h1
 rw [e2] at h2
 refine⟨?_,?_,h2,by simp,(((Below.refl w.heap.size w).alloc (Nat.le_refl _) a).alloc (by omega) b).alloc (by omega) c⟩
 ·rw [Below.heap_alloc _ _ _ (by omega),Below.heap_alloc _ _ _ (by omega)];exact h0
 ·rw [Below.heap_alloc _ _ _ (by omega)];exact h1
def HRes(K S b:List Nat)(w:World)(e:Ending)(w':World):Prop:=e = .returned (hv (hashS K S b))∧Below w.heap.size w w'
theorem hash_len{K S b:List Nat}(h:S.length=8):(hashS K S b).length=32:=by
 have:=runB_len (K:=K) (bs:=b++padN b.length) h ((b++padN b.length).length / 64)
 rw [hashS]
 generalize runB K S (b++padN b.length) ((b++padN b.length).length / 64)=L at this ⊢
 match L,this with
 | [a1,a2,a3,a4,a5,a6,a7,a8],_=>rfl
theorem infoO:(Tryz.prog.info? 42).map (·.size)=some 32:=by kernel_rfl
def z32A:Array Value:=#[.int .u8 0,.int .u8 0,.int .u8 0,.int .u8 0,.int .u8 0,.int .u8 0,.int .u8 0,.int .u8 0,.int .u8 0,.int .u8 0,.int .u8 0,.int .u8 0,.int .u8 0,.int .u8 0,.int .u8 0,.int .u8 0,.int .u8 0,.int .u8 0,.int .u8 0,.int .u8 0,.int .u8 0,.int .u8 0,.int .u8 0,.int .u8 0,.int .u8 0,.int .u8 0,.int .u8 0,.int .u8 0,.int .u8 0,.int .u8 0,.int .u8 0,.int .u8 0]
theorem z32_list:z32A.toList=nums .u8 (List.replicate 32 0):=by kernel_rfl
theorem z32_run(w:World):(Instr.build 42 #[]).run Tryz.prog w = .ok (.agg z32A) w:=by kernel_rfl
set_option maxRecDepth 1000000 in
set_option maxHeartbeats 16000000 in
theorem rhash_walk(a:Option Addr)(n cap:Nat)(bs S K:List Nat)(hb:∀d∈bs,d<256)(hn:n≤1048576)(hS8:S.length=8)(hS2:∀d∈S,d<4294967296)(hK8:K.length=64)(hK2:∀d∈K,d<4294967296)(w:World)(h:Sl .u8 w a n cap bs):
  Calls Tryz.prog 83 #[.slice a n cap,.agg (nums .u32 S).toArray,.agg (nums .u32 K).toArray] w (HRes K S bs w):=by
 have hbody:Tryz.f83.body=some (Code.seq (headC ((Tryz.f83.body.bind (pickR 0)).getD .skip)) (.seq (headC ((Tryz.f83.body.bind (pickR 1)).getD .skip)) (.seq (headC ((Tryz.f83.body.bind (pickR 2)).getD .skip)) (.seq (headC ((Tryz.f83.body.bind (pickR 3)).getD .skip)) (.seq (headC ((Tryz.f83.body.bind (pickR 5)).getD .skip)) (.seq (headC ((Tryz.f83.body.bind (pickR 6)).getD .skip)) (.seq (headC ((Tryz.f83.body.bind (pickR 7)).getD .skip)) (.seq (headC ((Tryz.f83.body.bind (pickR 12)).getD .skip)) (.seq (headC ((Tryz.f83.body.bind (pickR 13)).getD .skip)) (.seq (headC ((Tryz.f83.body.bind (pickR 39)).getD .skip)) (.seq (headC ((Tryz.f83.body.bind (pickR 40)).getD .skip)) (.seq (headC ((Tryz.f83.body.bind (pickR 49)).getD .skip)) (.ret))))))))))))):=by kernel_rfl
 have HL:=hid h.len
 have HI:=hid h
 have HX:=hid hb
 have HS2:=hid hS2
 have HK2:=hid hK2
 have A3:=alloc3h w (.cells (nums .u32 S).toArray 47) (.cells (nums .u32 K).toArray 48) (.cells #[.int .u8 0,.int .u8 0,.int .u8 0,.int .u8 0,.int .u8 0,.int .u8 0,.int .u8 0,.int .u8 0,.int .u8 0,.int .u8 0,.int .u8 0,.int .u8 0,.int .u8 0,.int .u8 0,.int .u8 0,.int .u8 0,.int .u8 0,.int .u8 0,.int .u8 0,.int .u8 0,.int .u8 0,.int .u8 0,.int .u8 0,.int .u8 0,.int .u8 0,.int .u8 0,.int .u8 0,.int .u8 0,.int .u8 0,.int .u8 0,.int .u8 0,.int .u8 0] 42)
 have A3':=hid A3
 clear A3 h hb hS2 hK2
 have hSA:=hid (show(nums .u32 S).toArray.toList=nums .u32 S by simp)
 have hKA:=hid (show(nums .u32 K).toArray.toList=nums .u32 K by simp)
 generalize (nums .u32 S).toArray=sA at *
 generalize (nums .u32 K).toArray=kA at *
 refine calls_of_wp Tryz.func83 hbody ?_
 clear hbody
 simp only [Tryz.ntmps83,List.size_toArray,List.length_cons,List.length_nil,Nat.reduceAdd,Nat.reduceSub,Array.replicate_succ,
   Array.replicate_zero,List.push_toArray,List.append_toArray,List.nil_append,List.cons_append]
 go_wp2
 conv=>arg 2;whnf
 go_wp2
 generalize (((w.alloc (.cells sA 47)).alloc (.cells kA 48)).alloc (.cells #[.int .u8 0,.int .u8 0,.int .u8 0,.int .u8 0,.int .u8 0,.int .u8 0,.int .u8 0,.int .u8 0,.int .u8 0,.int .u8 0,.int .u8 0,.int .u8 0,.int .u8 0,.int .u8 0,.int .u8 0,.int .u8 0,.int .u8 0,.int .u8 0,.int .u8 0,.int .u8 0,.int .u8 0,.int .u8 0,.int .u8 0,.int .u8 0,.int .u8 0,.int .u8 0,.int .u8 0,.int .u8 0,.int .u8 0,.int .u8 0,.int .u8 0,.int .u8 0] 42))=W3 at *
 obtain⟨x0,x1,x2,x3,x4⟩:=A3'.out
 have hGs:=hid x0
 have hGk:=hid (own_of_heap (B:=w.heap.size) (n:=64) (L:=nums .u32 K) x1 hKA.out (by rw [nums_length];exact hK8) (by omega) (by decide))
 have hG6:=hid x2
 have B3:=hid x4
 have o1:=World.ownsRow_made (base:=W3.heap.size) (e:=5) (size:=1) W3 #[] 0 (Nat.le_refl _) (by simp) (by simp)
 have bb3:=hid ((Below.refl _ W3).alloc (Nat.le_refl _) (.cells #[] 5))
 have S1:=hid ((HI.out.below B3.out).below bb3.out)
 have O1:=hid o1
 generalize hg1:w.heap.size+1=G1 at *
 generalize hg6:G1+1=G6 at *
 have l01:w.heap.size<G1:=by omega
 have l16:G1<G6:=by omega
 have l63:G6<W3.heap.size:=by omega
 have lw3:w.heap.size≤W3.heap.size:=by omega
 clear A3' x0 x1 x2 x3 x4 HI o1 hg1 hg6
 conv=>arg 2;whnf
 go_wp2_with (at_builtin;refine wpList_cat rfl _ _ 28 rfl tyBs W3.heap.size O1.out rfl rfl S1.out (nums_oneCell _ _) ?c1 ?c2 ?c3 ?_)
 case c1=>omega
 case c2=>unfold maxLen;omega
 case c3=>simp
 intro v2 w2 own2 b2 hs2 _
 have B2:=hid (bb3.out.trans b2)
 have O2:=hid (show w2.ownsRow W3.heap.size 5 1 v2 bs.length (nums .u8 bs) by rw [HL.out];simpa using own2)
 clear own2 b2 hs2 O1 bb3 S1
 have hB2s:=hid B2.out.size
 have hbl:bs.length<4294967296:=by rw [HL.out];omega
 go_wp2
 conv=>arg 2;whnf
 go_wp2_with (at_builtin;refine wpList_push rfl _ _ 28 rfl tyBs W3.heap.size O2.out rfl rfl rfl rfl hbl (by decide) hB2s.out ?_)
 intro v4 w4 own4 b4 hs4 _
 have O4:=hid (show w4.ownsRow W3.heap.size 5 1 v4 (bs++(128::List.replicate 0 0)).length (nums .u8 (bs++(128::List.replicate 0 0))) by
  rw [List.replicate_zero,List.length_append,List.length_singleton,← nums_snoc .u8 (show(128:Int)=((128:Nat):Int) from rfl)];exact own4)
 have B4:=hid (B2.out.trans b4)
 clear own4 b4 hs4 O2 B2 hB2s hbl
 go_wp2
 refine hpH HL.out hn O4.out B4.out.size ?_
 intro h40 h41 h42 h43 h44 h45 h46 v5 w5 o5 b5
 have O5:=hid o5
 have B5:=hid (B4.out.trans (b5.mono (Nat.le_refl _)))
 clear o5 b5 O4 B4
 obtain⟨N8,hN8e⟩:∃N8:Nat,N8=8*n:=⟨_,rfl⟩
 have e8:8*(n:Int)=(N8:Int):=by omega
 have hN8b:N8<18446744073709551616:=by omega
 have HN8:=hid hN8e
 clear hN8e
 go_wp2
 conv=>arg 2;whnf
 go_wp2
 have O0:=hid (World.ownsRow_made (base:=w5.heap.size) (e:=5) (size:=1) w5 #[] 0 (Nat.le_refl _) (by simp) (by simp))
 have b0:=hid ((Below.refl w5.heap.size w5).alloc (Nat.le_refl _) (.cells #[] 5))
 conv=>arg 2;whnf
 go_wp2
 refine hpI hN8b (SlV.of_owns (xs:=[]) O0.out) ?_
 intro k8 k10 k52 k53 k54 k55 k56 k57 k58 k59 k60 k61 k62 k63 v7 w7 s7 b7
 have B7b:=hid (b0.out.trans (b7.mono (by simp)))
 have O7:=hid (own_below O5.out B7b.out)
 have B7:=hid (B5.out.trans (B7b.out.mono B5.out.size))
 obtain⟨a9,c9,rfl,s9⟩:=s7
 have hl8:(beN 8 N8).length=8:=beN_len 8 N8
 rw [hl8] at s9 ⊢
 have S9:=hid s9
 have hzN:zerosN n≤64:=by unfold zerosN;split <;> omega
 obtain⟨nz,hnz⟩:∃nz:Nat,nz=n+1+zerosN n:=⟨_,rfl⟩
 rw [← hnz] at O7
 have HNZ:=hid hnz
 have P0:=hid (show(bs++(128::List.replicate (zerosN n) 0))++beN 8 N8=bs++padN bs.length by
  rw [HL.out,padN_eq (by omega),HN8.out,List.append_assoc];rfl)
 have hlP:=hid (show(bs++padN bs.length).length=nz+8 by rw [← P0.out,List.length_append,hl8];congr 1;rw [HNZ.out];simp [HL.out];omega)
 have hnzb:nz≤1048641:=by omega
 have hs7:=B7.out.size
 clear s9 b7 O5 B5 b0 B7b O0 hnz hzN
 go_wp2
 conv=>arg 2;whnf
 go_wp2_with (at_builtin;refine wpList_cat rfl _ _ 28 rfl tyBs W3.heap.size O7.out rfl rfl S9.out (nums_oneCell _ _) ?c7 ?c8 ?c9 ?_)
 case c7=>omega
 case c8=>unfold maxLen;omega
 case c9=>exact hs7
 intro v8 w8 own8 b8 hs8 _
 rw [nums_append,P0.out] at own8
 have hP256:=hid (show ∀d∈bs++padN bs.length,d<256 from fun d hd=>by
  rcases List.mem_append.1 hd with h|h
  ·exact HX.out d h
  ·rw [padN] at h
   rcases List.mem_cons.1 h with rfl|h
   ·decide
   ·rcases List.mem_append.1 h with h|h
    ·rw [List.eq_of_mem_replicate h];decide
    ·exact beN_lt _ _ d h)
 have hNP:=hid (show hashS K S bs=(runB K S (bs++padN bs.length) ((nz+8) / 64)).flatMap bytes4 by rw [hashS,hlP.out])
 have hlP64:(nz+8) % 64=0:=by
  have h1:=HNZ.out
  rw [h1]
  unfold zerosN
  split <;> omega
 generalize bs++padN bs.length=P at *
 obtain⟨LP,hLP⟩:∃LP:Nat,LP=nz+8:=⟨_,rfl⟩
 rw [← hLP] at own8 hlP hNP hlP64
 have hLPb:LP<8589934592:=by rw [hLP];omega
 obtain⟨a8,c8,rfl,_⟩:=Rd.of_owns own8
 have O8:=hid own8
 have B8:=hid (B7.out.trans b8)
 obtain⟨gm,rfl,hLc8⟩:=own_addr O8.out (by omega)
 have hgm:W3.heap.size≤gm:=(O8.out.lt gm rfl).1
 have HGK8:=hid (own_below hGk.out B8.out)
 have HG68:=hid (show w8.heap[G6]? = _ from(B8.out.block G6 l63).trans hG6.out)
 have HGS8:=hid (show w8.heap[w.heap.size]? = _ from(B8.out.block w.heap.size (by omega)).trans hGs.out)
 have HW8:=hid (B3.out.trans (B8.out.mono lw3))
 clear own8 b8 hs8 B7 P0 S9 O7 hs7 hLP HNZ HN8 hGk hG6 hGs B3
 go_wp2
 refine hpG (S:=S) (K:=K) O8.out hP256.out hlP64 hLPb hS8 HS2.out HGS8.out hSA.out HK2.out (fun n hn=>(HGK8.out.cellAt n (by omega)).trans (nums_get .u32 (by omega))) (by omega) (by omega) ?_
 intro g11 g12 g13 g14 g15 g16 g17 g18 g19 g20 g21 g22 g23 g24 g25 g26 g27 g28 g29 g67 g68 g69 g70 g71 g72 g73 g74 g75 g76 g77 g78 g79 g80 g81 g82 g83 g84 g85 g86 g87 g88 g89 g90 g91 g92 g93 g94 g95 g96 g97 g98 g99 g100 g101 g102 g103 g104 g105 g106 g107 g108 g109 g110 g111 g112 g113 g114 g115 g116 g117 g118 g119 g120 g121 g122 g123 g124 g125 g126 g127 g128 g129 g130 g131 g132 g133 g134 g135 g136 g137 g138 g139 g140 g141 g142 g143 g144 g145 g146 g147 g148 g149 g150 g151 g152 g153 g154 g155 g156 g157 g158 g159 g160 g161 g162 g163 g164 g165 g166 g167 g168 g169 g170 g171 g172 g173 g174 g175 g176 g177 g178 g179 g180 g181 g182 g183 g184 g185 g186 g187 g188 g189 g190 g191 g192 g193 g194 g195 g196 g197 g198 g199 g200 g201 g202 g203 g204 g205 g206 g207 g208 g209 g210 g211 g212 g213 g214 g215 g216 g217 g218 g219 g220 g221 g222 g223 g224 g225 g226 g227 g228 g229 g230 g231 g232 g233 g234 g235 g236 g237 g238 g239 g240 g241 g242 g243 g244 g245 g246 g247 g248 g249 g250 g251 g252 g253 g254 g255 g256 g257 g258 g259 g260 g261 g262 g263 g264 g265 g266 g267 g268 g269 g270 g271 g272 g273 g274 g275 g276 g277 g278 g279 g280 g281 cur2 w9 g9 c9' f9
 have G9:=hid g9
 have C9:=hid c9'
 have HG69:=hid (show w9.heap[G6]? = _ from(f9.block G6 (by have:=B8.out.size;omega) (by simp;omega)).trans HG68.out)
 have HW9:=hid (HW8.out.trans (f9.below (Nat.le_refl _) HW8.out.size))
 clear g9 c9' f9
 go_wp2
 have ZR:=z32_run
 have hz:=hid (heap_alloc_new w9 (.cells #[.int .u8 0,.int .u8 0,.int .u8 0,.int .u8 0,.int .u8 0,.int .u8 0,.int .u8 0,.int .u8 0,.int .u8 0,.int .u8 0,.int .u8 0,.int .u8 0,.int .u8 0,.int .u8 0,.int .u8 0,.int .u8 0,.int .u8 0,.int .u8 0,.int .u8 0,.int .u8 0,.int .u8 0,.int .u8 0,.int .u8 0,.int .u8 0,.int .u8 0,.int .u8 0,.int .u8 0,.int .u8 0,.int .u8 0,.int .u8 0,.int .u8 0,.int .u8 0] 42))
 have HWz:=hid (HW9.out.trans ((Below.refl w9.heap.size w9).alloc (Nat.le_refl _) (.cells #[.int .u8 0,.int .u8 0,.int .u8 0,.int .u8 0,.int .u8 0,.int .u8 0,.int .u8 0,.int .u8 0,.int .u8 0,.int .u8 0,.int .u8 0,.int .u8 0,.int .u8 0,.int .u8 0,.int .u8 0,.int .u8 0,.int .u8 0,.int .u8 0,.int .u8 0,.int .u8 0,.int .u8 0,.int .u8 0,.int .u8 0,.int .u8 0,.int .u8 0,.int .u8 0,.int .u8 0,.int .u8 0,.int .u8 0,.int .u8 0,.int .u8 0,.int .u8 0] 42) |>.mono HW9.out.size))
 have G9z:=hid (show(w9.alloc (.cells #[.int .u8 0,.int .u8 0,.int .u8 0,.int .u8 0,.int .u8 0,.int .u8 0,.int .u8 0,.int .u8 0,.int .u8 0,.int .u8 0,.int .u8 0,.int .u8 0,.int .u8 0,.int .u8 0,.int .u8 0,.int .u8 0,.int .u8 0,.int .u8 0,.int .u8 0,.int .u8 0,.int .u8 0,.int .u8 0,.int .u8 0,.int .u8 0,.int .u8 0,.int .u8 0,.int .u8 0,.int .u8 0,.int .u8 0,.int .u8 0,.int .u8 0,.int .u8 0] 42)).heap[w.heap.size]? = _ from(Below.heap_alloc w9 (.cells #[.int .u8 0,.int .u8 0,.int .u8 0,.int .u8 0,.int .u8 0,.int .u8 0,.int .u8 0,.int .u8 0,.int .u8 0,.int .u8 0,.int .u8 0,.int .u8 0,.int .u8 0,.int .u8 0,.int .u8 0,.int .u8 0,.int .u8 0,.int .u8 0,.int .u8 0,.int .u8 0,.int .u8 0,.int .u8 0,.int .u8 0,.int .u8 0,.int .u8 0,.int .u8 0,.int .u8 0,.int .u8 0,.int .u8 0,.int .u8 0,.int .u8 0,.int .u8 0] 42) _ (Array.getElem?_eq_some_iff.1 G9.out).1).trans G9.out)
 have H6z:=hid (show(w9.alloc (.cells #[.int .u8 0,.int .u8 0,.int .u8 0,.int .u8 0,.int .u8 0,.int .u8 0,.int .u8 0,.int .u8 0,.int .u8 0,.int .u8 0,.int .u8 0,.int .u8 0,.int .u8 0,.int .u8 0,.int .u8 0,.int .u8 0,.int .u8 0,.int .u8 0,.int .u8 0,.int .u8 0,.int .u8 0,.int .u8 0,.int .u8 0,.int .u8 0,.int .u8 0,.int .u8 0,.int .u8 0,.int .u8 0,.int .u8 0,.int .u8 0,.int .u8 0,.int .u8 0] 42)).heap[G6]? = _ from(Below.heap_alloc w9 (.cells #[.int .u8 0,.int .u8 0,.int .u8 0,.int .u8 0,.int .u8 0,.int .u8 0,.int .u8 0,.int .u8 0,.int .u8 0,.int .u8 0,.int .u8 0,.int .u8 0,.int .u8 0,.int .u8 0,.int .u8 0,.int .u8 0,.int .u8 0,.int .u8 0,.int .u8 0,.int .u8 0,.int .u8 0,.int .u8 0,.int .u8 0,.int .u8 0,.int .u8 0,.int .u8 0,.int .u8 0,.int .u8 0,.int .u8 0,.int .u8 0,.int .u8 0,.int .u8 0] 42) _ (Array.getElem?_eq_some_iff.1 HG69.out).1).trans HG69.out)
 have hG6l:=(Array.getElem?_eq_some_iff.1 HG69.out).1
 conv=>arg 2;whnf
 go_wp2_with (refine wpList_store_row rfl _ _ _ rfl w9.heap.size z32A rfl rfl _ _ hz.out infoO rfl (by kernel_rfl) ?_)
 generalize w9.alloc (.cells #[.int .u8 0,.int .u8 0,.int .u8 0,.int .u8 0,.int .u8 0,.int .u8 0,.int .u8 0,.int .u8 0,.int .u8 0,.int .u8 0,.int .u8 0,.int .u8 0,.int .u8 0,.int .u8 0,.int .u8 0,.int .u8 0,.int .u8 0,.int .u8 0,.int .u8 0,.int .u8 0,.int .u8 0,.int .u8 0,.int .u8 0,.int .u8 0,.int .u8 0,.int .u8 0,.int .u8 0,.int .u8 0,.int .u8 0,.int .u8 0,.int .u8 0,.int .u8 0] 42)=wz at *
 have F1:Far w9.heap.size wz (wz.setRow w9.heap.size z32A):=⟨rfl,rfl,rfl,by simp [World.setRow],fun k _ hk=>setRow_other wz w9.heap.size k _ (by simpa using hk)⟩
 have h0lt:=(Array.getElem?_eq_some_iff.1 G9.out).1
 have OZ:=hid (setRow_heap wz w9.heap.size _ z32A _ _ hz.out)
 have GZ:=hid (show(wz.setRow w9.heap.size z32A).heap[w.heap.size]? = _ from(F1.block _ (Array.getElem?_eq_some_iff.1 G9z.out).1 (by simp;omega)).trans G9z.out)
 have SZ:=hid (show(wz.setRow w9.heap.size z32A).heap[G6]? = _ from(F1.block _ (Array.getElem?_eq_some_iff.1 H6z.out).1 (by simp;omega)).trans H6z.out)
 have BZ:=hid (HWz.out.trans (F1.below HW9.out.size HWz.out.size))
 have hw9:=HW9.out.size
 clear F1 hz G9z H6z HWz ZR
 generalize wz.setRow w9.heap.size z32A=ws at *
 go_wp2
 refine hpE (runB_len hS8 _) (runB_lt HS2.out _) GZ.out C9.out OZ.out z32_list (by omega) ?_
 intro e31 e32 e33 e283 e284 e285 e286 e287 e288 e289 e290 e291 e292 e293 e294 e295 e296 e297 e298 e299 e300 e301 e302 e303 co w10 h10 c10 f10
 have H10:=hid h10
 have hcs:co.size=32:=by rw [← Array.length_toList,c10,nums_length,← hNP.out];exact hash_len hS8
 have C10:=hid (show co=(nums .u8 (hashS K S bs)).toArray by rw [hNP.out,← c10])
 have S10:=hid (show w10.heap[G6]? = _ from(f10.block _ (Array.getElem?_eq_some_iff.1 SZ.out).1 (by simp;omega)).trans SZ.out)
 have B10:=hid (BZ.out.trans (f10.below hw9 BZ.out.size))
 have i10:(Tryz.prog.info? 42).map (·.size)=some co.size:=by rw [hcs];exact infoO
 have a10:co.all (·.oneCell')=true:=by rw [C10.out];simp [nums,Value.oneCell']
 have g10:(#[.int .u8 0,.int .u8 0,.int .u8 0,.int .u8 0,.int .u8 0,.int .u8 0,.int .u8 0,.int .u8 0,.int .u8 0,.int .u8 0,.int .u8 0,.int .u8 0,.int .u8 0,.int .u8 0,.int .u8 0,.int .u8 0,.int .u8 0,.int .u8 0,.int .u8 0,.int .u8 0,.int .u8 0,.int .u8 0,.int .u8 0,.int .u8 0,.int .u8 0,.int .u8 0,.int .u8 0,.int .u8 0,.int .u8 0,.int .u8 0,.int .u8 0,.int .u8 0]:Array Value).size=co.size:=by rw [hcs];rfl
 clear h10 c10 f10 hcs
 go_wp2
 conv=>arg 2;whnf
 go_wp2_with (first|(refine wpList_load_row rfl _ _ rfl w9.heap.size rfl _ co _ _ H10.out Tryz.underlying42 rfl i10 ?_)|(refine wpList_store_row rfl _ _ _ rfl G6 co rfl rfl _ _ S10.out i10 g10 a10 ?_))
 refine bodyPost_ret (results_cell_row rfl _ _ G6 _ co _ _ rfl (setRow_heap w10 G6 _ co _ _ S10.out) Tryz.underlying42 rfl i10) rfl ?_
 exact⟨by rw [C10.out];rfl,below_setRow B10.out (by omega) _⟩
end Go.Proofs.YtnbmpgballopeaaGreatDoor

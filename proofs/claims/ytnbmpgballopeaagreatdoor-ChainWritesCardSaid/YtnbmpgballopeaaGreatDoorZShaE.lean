/- Plain: the digest of bytes (a block into a state; blocks one behind the other; what is laid behind). No program in sight. -/
import Derived.Laws.BitsAllLaws
import Derived.Outline
import Derived.Test.YtnbmpgballopeaaGreatDoorZParts
namespace Go.Proofs.YtnbmpgballopeaaGreatDoor
def rot(n x:Nat):Nat:=x / 2 ^ n ||| x*2 ^ (32 - n) % 4294967296
def sgp(x:Nat):Nat:=rot 7 x ^^^ rot 18 x ^^^ x / 8
def sgq(x:Nat):Nat:=rot 17 x ^^^ rot 19 x ^^^ x / 1024
def sga(a:Nat):Nat:=rot 2 a ^^^ rot 13 a ^^^ rot 22 a
def sge(e:Nat):Nat:=rot 6 e ^^^ rot 11 e ^^^ rot 25 e
def chf(e f g:Nat):Nat:=(e &&& f) ^^^ ((4294967295 - e) &&& g)
def maj(a b c:Nat):Nat:=(a &&& b) ^^^ (a &&& c) ^^^ (b &&& c)
def word(b:List Nat)(i:Nat):Nat:=((b.getD (4*i) 0*256+b.getD (4*i+1) 0)*256+b.getD (4*i+2) 0)*256+b.getD (4*i+3) 0
def wnext(w:List Nat)(i:Nat):Nat:=(w.getD (i - 16) 0+sgp (w.getD (i - 15) 0)+w.getD (i - 7) 0+sgq (w.getD (i - 2) 0)) % 4294967296
def wordsN(b:List Nat):Nat→List Nat
 | 0=>[]
 | n+1=>wordsN b n++[word b n]
def schedN(b:List Nat):Nat→List Nat
 | 0=>wordsN b 16
 | n+1=>schedN b n++[wnext (schedN b n) (16+n)]
structure St where
 a:Nat
 b:Nat
 c:Nat
 d:Nat
 e:Nat
 f:Nat
 g:Nat
 h:Nat
def St.step(s:St)(k w:Nat):St:=
 ⟨((s.h+sge s.e+chf s.e s.f s.g+k+w)+(sga s.a+maj s.a s.b s.c)) % 4294967296,s.a,s.b,s.c,(s.d+(s.h+sge s.e+chf s.e s.f s.g+k+w)) % 4294967296,s.e,s.f,s.g⟩
def St.rounds(s:St)(K W:List Nat):Nat→St
 | 0=>s
 | n+1=>(s.rounds K W n).step (K.getD n 0) (W.getD n 0)
def St.list(s:St):List Nat:=[s.a,s.b,s.c,s.d,s.e,s.f,s.g,s.h]
def stOf(S:List Nat):St:=⟨S.getD 0 0,S.getD 1 0,S.getD 2 0,S.getD 3 0,S.getD 4 0,S.getD 5 0,S.getD 6 0,S.getD 7 0⟩
def addL(S T:List Nat):List Nat:=List.zipWith (fun x y=>(x+y) % 4294967296) S T
def comp(K S b:List Nat):List Nat:=addL S ((stOf S).rounds K (schedN b 48) 64).list
def runB(K S bs:List Nat):Nat→List Nat
 | 0=>S
 | k+1=>comp K (runB K S bs k) ((bs.drop (64*k)).take 64)
def bytes4(x:Nat):List Nat:=[x / 16777216 % 256,x / 65536 % 256,x / 256 % 256,x % 256]
def beN:Nat→Nat→List Nat
 | 0,_=>[]
 | n+1,x=>x / 256 ^ n % 256::beN n x
def padN(n:Nat):List Nat:=128::(List.replicate (if n % 64<56 then 55 - n % 64 else 119 - n % 64) 0++beN 8 (n*8 % 18446744073709551616))
def hashS(K S b:List Nat):List Nat:=(runB K S (b++padN b.length) ((b++padN b.length).length / 64)).flatMap bytes4
def H0:List Nat:=[0x6a09e667,0xbb67ae85,0x3c6ef372,0xa54ff53a,0x510e527f,0x9b05688c,0x1f83d9ab,0x5be0cd19]
def K0:List Nat:=[
 0x428a2f98,0x71374491,0xb5c0fbcf,0xe9b5dba5,0x3956c25b,0x59f111f1,0x923f82a4,0xab1c5ed5,
 0xd807aa98,0x12835b01,0x243185be,0x550c7dc3,0x72be5d74,0x80deb1fe,0x9bdc06a7,0xc19bf174,
 0xe49b69c1,0xefbe4786,0x0fc19dc6,0x240ca1cc,0x2de92c6f,0x4a7484aa,0x5cb0a9dc,0x76f988da,
 0x983e5152,0xa831c66d,0xb00327c8,0xbf597fc7,0xc6e00bf3,0xd5a79147,0x06ca6351,0x14292967,
 0x27b70a85,0x2e1b2138,0x4d2c6dfc,0x53380d13,0x650a7354,0x766a0abb,0x81c2c92e,0x92722c85,
 0xa2bfe8a1,0xa81a664b,0xc24b8b70,0xc76c51a3,0xd192e819,0xd6990624,0xf40e3585,0x106aa070,
 0x19a4c116,0x1e376c08,0x2748774c,0x34b0bcb5,0x391c0cb3,0x4ed8aa4a,0x5b9cca4f,0x682e6ff3,
 0x748f82ee,0x78a5636f,0x84c87814,0x8cc70208,0x90befffa,0xa4506ceb,0xbef9a3f7,0xc67178f2]
def sha(b:List Nat):List Nat:=hashS K0 H0 b
theorem rot_lt{n x:Nat}(hx:x<4294967296):rot n x<4294967296:=by
 unfold rot
 have h1:x / 2 ^ n<2 ^ 32:=Nat.lt_of_le_of_lt (Nat.div_le_self _ _) (by omega)
 exact Nat.or_lt_two_pow h1 (by omega)
theorem xor_lt{x y:Nat}(hx:x<4294967296)(hy:y<4294967296):x ^^^ y<4294967296:=Nat.xor_lt_two_pow (n:=32) hx hy
theorem and_lt{x y:Nat}(hy:y<4294967296):x &&& y<4294967296:=Nat.and_lt_two_pow (n:=32) _ hy
theorem chf_lt{e f g:Nat}(hf:f<4294967296)(hg:g<4294967296):chf e f g<4294967296:=xor_lt (and_lt hf) (and_lt hg)
theorem maj_lt{a b c:Nat}(hb:b<4294967296)(hc:c<4294967296):maj a b c<4294967296:=xor_lt (xor_lt (and_lt hb) (and_lt hc)) (and_lt hc)
theorem sga_lt{x:Nat}(hx:x<4294967296):sga x<4294967296:=xor_lt (xor_lt (rot_lt hx) (rot_lt hx)) (rot_lt hx)
theorem sge_lt{x:Nat}(hx:x<4294967296):sge x<4294967296:=xor_lt (xor_lt (rot_lt hx) (rot_lt hx)) (rot_lt hx)
theorem sgp_lt{x:Nat}(hx:x<4294967296):sgp x<4294967296:=xor_lt (xor_lt (rot_lt hx) (rot_lt hx)) (by omega)
theorem sgq_lt{x:Nat}(hx:x<4294967296):sgq x<4294967296:=xor_lt (xor_lt (rot_lt hx) (rot_lt hx)) (by omega)
theorem getDlt{l:List Nat}{M:Nat}(h:∀d∈l,d<M)(hM:0<M)(i:Nat):l.getD i 0<M:=by
 rw [List.getD_eq_getElem?_getD]
 cases hi:l[i]? with
 | none=>exact hM
 | some v=>exact h v (List.mem_of_getElem? hi)
theorem word_lt{b:List Nat}(h:∀d∈b,d<256)(i:Nat):word b i<4294967296:=by
 have h0:=getDlt h (by omega) (4*i)
 have h1:=getDlt h (by omega) (4*i+1)
 have h2:=getDlt h (by omega) (4*i+2)
 have h3:=getDlt h (by omega) (4*i+3)
 unfold word
 omega
theorem wordsN_len(b:List Nat)(n:Nat):(wordsN b n).length=n:=by
 induction n with
 | zero=>rfl
 | succ n ih=>simp [wordsN,ih]
theorem schedN_len(b:List Nat)(n:Nat):(schedN b n).length=16+n:=by
 induction n with
 | zero=>exact wordsN_len b 16
 | succ n ih=>simp [schedN,ih];omega
theorem wordsN_lt{b:List Nat}(h:∀d∈b,d<256)(n:Nat):∀x∈wordsN b n,x<4294967296:=by
 induction n with
 | zero=>simp [wordsN]
 | succ n ih=>
  intro x hx
  simp only [wordsN,List.mem_append,List.mem_singleton] at hx
  rcases hx with hx|rfl
  ·exact ih x hx
  ·exact word_lt h n
theorem schedN_lt{b:List Nat}(h:∀d∈b,d<256)(n:Nat):∀x∈schedN b n,x<4294967296:=by
 induction n with
 | zero=>exact wordsN_lt h 16
 | succ n ih=>
  intro x hx
  simp only [schedN,List.mem_append,List.mem_singleton] at hx
  rcases hx with hx|rfl
  ·exact ih x hx
  ·exact Nat.mod_lt _ (by omega)
structure St.ok (s:St):Prop where
 a:s.a<4294967296
 b:s.b<4294967296
 c:s.c<4294967296
 d:s.d<4294967296
 e:s.e<4294967296
 f:s.f<4294967296
 g:s.g<4294967296
 h:s.h<4294967296
theorem St.ok.step{s:St}(h:s.ok)(k w:Nat):(s.step k w).ok:=⟨Nat.mod_lt _ (by omega),h.a,h.b,h.c,Nat.mod_lt _ (by omega),h.e,h.f,h.g⟩
theorem St.ok.rounds{s:St}(h:s.ok)(K W:List Nat)(n:Nat):(s.rounds K W n).ok:=by
 induction n with
 | zero=>exact h
 | succ n ih=>exact ih.step _ _
theorem stOf_ok{S:List Nat}(h:∀d∈S,d<4294967296):(stOf S).ok:=
 ⟨getDlt h (by omega) _,getDlt h (by omega) _,getDlt h (by omega) _,getDlt h (by omega) _,getDlt h (by omega) _,getDlt h (by omega) _,getDlt h (by omega) _,getDlt h (by omega) _⟩
theorem comp_len{K S b:List Nat}(h:S.length=8):(comp K S b).length=8:=by simp [comp,addL,h,St.list]
theorem comp_lt{K S b:List Nat}:∀d∈comp K S b,d<4294967296:=by
 intro d hd
 unfold comp addL at hd
 obtain⟨i,hi,rfl⟩:=List.getElem_of_mem hd
 rw [List.getElem_zipWith]
 exact Nat.mod_lt _ (by omega)
theorem runB_len{K S bs:List Nat}(h:S.length=8)(n:Nat):(runB K S bs n).length=8:=by
 induction n with
 | zero=>exact h
 | succ n ih=>exact comp_len ih
theorem runB_lt{K S bs:List Nat}(h:∀d∈S,d<4294967296)(n:Nat):∀d∈runB K S bs n,d<4294967296:=by
 cases n with
 | zero=>exact h
 | succ n=>exact comp_lt
theorem runB_front{K S:List Nat}(xs ys:List Nat)(n:Nat)(h:64*n≤xs.length):runB K S (xs++ys) n=runB K S xs n:=by
 induction n with
 | zero=>rfl
 | succ n ih=>
  rw [runB,runB,ih (by omega),List.drop_append_of_le_length (by omega),List.take_append_of_le_length (by rw [List.length_drop];omega)]
end Go.Proofs.YtnbmpgballopeaaGreatDoor
/- Contracts of math/bits.RotateLeft32 at the counts that the digest uses. -/
namespace Go.Proofs.YtnbmpgballopeaaGreatDoor
open Go.RowKit
theorem rot_or(n x:Nat)(hx:x<4294967296):bits .or .u32 ((x*2 ^ (32 - n) % 4294967296:Nat):Int) ((x / 2 ^ n:Nat):Int)=((rot n x:Nat):Int):=by
 rw [u32_or_nat _ _ (Nat.mod_lt _ (by omega)) (Nat.lt_of_le_of_lt (Nat.div_le_self _ _) hx),Nat.or_comm]
 rfl
theorem rot2_walk(x:Nat)(hx:x<4294967296)(w:World):Calls Tryz.prog 88 #[.int .u32 (x:Int),.int .i64 (-2)] w fun e w'=>e = .returned (.int .u32 ((rot 2 x:Nat):Int))∧w=w':=by
 have R:=hid (rot_or 2 x hx)
 have e1:bits .and .u64 (IntKind.u64.wrap (-2)) 31=30:=by decide
 go_enter Tryz.func88,Tryz.ntmps88
 go_wp2
 go_ret
 exact⟨by rw [← R.out];rfl,rfl⟩
theorem rot6_walk(x:Nat)(hx:x<4294967296)(w:World):Calls Tryz.prog 88 #[.int .u32 (x:Int),.int .i64 (-6)] w fun e w'=>e = .returned (.int .u32 ((rot 6 x:Nat):Int))∧w=w':=by
 have R:=hid (rot_or 6 x hx)
 have e1:bits .and .u64 (IntKind.u64.wrap (-6)) 31=26:=by decide
 go_enter Tryz.func88,Tryz.ntmps88
 go_wp2
 go_ret
 exact⟨by rw [← R.out];rfl,rfl⟩
theorem rot7_walk(x:Nat)(hx:x<4294967296)(w:World):Calls Tryz.prog 88 #[.int .u32 (x:Int),.int .i64 (-7)] w fun e w'=>e = .returned (.int .u32 ((rot 7 x:Nat):Int))∧w=w':=by
 have R:=hid (rot_or 7 x hx)
 have e1:bits .and .u64 (IntKind.u64.wrap (-7)) 31=25:=by decide
 go_enter Tryz.func88,Tryz.ntmps88
 go_wp2
 go_ret
 exact⟨by rw [← R.out];rfl,rfl⟩
theorem rot11_walk(x:Nat)(hx:x<4294967296)(w:World):Calls Tryz.prog 88 #[.int .u32 (x:Int),.int .i64 (-11)] w fun e w'=>e = .returned (.int .u32 ((rot 11 x:Nat):Int))∧w=w':=by
 have R:=hid (rot_or 11 x hx)
 have e1:bits .and .u64 (IntKind.u64.wrap (-11)) 31=21:=by decide
 go_enter Tryz.func88,Tryz.ntmps88
 go_wp2
 go_ret
 exact⟨by rw [← R.out];rfl,rfl⟩
theorem rot13_walk(x:Nat)(hx:x<4294967296)(w:World):Calls Tryz.prog 88 #[.int .u32 (x:Int),.int .i64 (-13)] w fun e w'=>e = .returned (.int .u32 ((rot 13 x:Nat):Int))∧w=w':=by
 have R:=hid (rot_or 13 x hx)
 have e1:bits .and .u64 (IntKind.u64.wrap (-13)) 31=19:=by decide
 go_enter Tryz.func88,Tryz.ntmps88
 go_wp2
 go_ret
 exact⟨by rw [← R.out];rfl,rfl⟩
theorem rot17_walk(x:Nat)(hx:x<4294967296)(w:World):Calls Tryz.prog 88 #[.int .u32 (x:Int),.int .i64 (-17)] w fun e w'=>e = .returned (.int .u32 ((rot 17 x:Nat):Int))∧w=w':=by
 have R:=hid (rot_or 17 x hx)
 have e1:bits .and .u64 (IntKind.u64.wrap (-17)) 31=15:=by decide
 go_enter Tryz.func88,Tryz.ntmps88
 go_wp2
 go_ret
 exact⟨by rw [← R.out];rfl,rfl⟩
theorem rot18_walk(x:Nat)(hx:x<4294967296)(w:World):Calls Tryz.prog 88 #[.int .u32 (x:Int),.int .i64 (-18)] w fun e w'=>e = .returned (.int .u32 ((rot 18 x:Nat):Int))∧w=w':=by
 have R:=hid (rot_or 18 x hx)
 have e1:bits .and .u64 (IntKind.u64.wrap (-18)) 31=14:=by decide
 go_enter Tryz.func88,Tryz.ntmps88
 go_wp2
 go_ret
 exact⟨by rw [← R.out];rfl,rfl⟩
theorem rot19_walk(x:Nat)(hx:x<4294967296)(w:World):Calls Tryz.prog 88 #[.int .u32 (x:Int),.int .i64 (-19)] w fun e w'=>e = .returned (.int .u32 ((rot 19 x:Nat):Int))∧w=w':=by
 have R:=hid (rot_or 19 x hx)
 have e1:bits .and .u64 (IntKind.u64.wrap (-19)) 31=13:=by decide
 go_enter Tryz.func88,Tryz.ntmps88
 go_wp2
 go_ret
 exact⟨by rw [← R.out];rfl,rfl⟩
theorem rot22_walk(x:Nat)(hx:x<4294967296)(w:World):Calls Tryz.prog 88 #[.int .u32 (x:Int),.int .i64 (-22)] w fun e w'=>e = .returned (.int .u32 ((rot 22 x:Nat):Int))∧w=w':=by
 have R:=hid (rot_or 22 x hx)
 have e1:bits .and .u64 (IntKind.u64.wrap (-22)) 31=10:=by decide
 go_enter Tryz.func88,Tryz.ntmps88
 go_wp2
 go_ret
 exact⟨by rw [← R.out];rfl,rfl⟩
theorem rot25_walk(x:Nat)(hx:x<4294967296)(w:World):Calls Tryz.prog 88 #[.int .u32 (x:Int),.int .i64 (-25)] w fun e w'=>e = .returned (.int .u32 ((rot 25 x:Nat):Int))∧w=w':=by
 have R:=hid (rot_or 25 x hx)
 have e1:bits .and .u64 (IntKind.u64.wrap (-25)) 31=7:=by decide
 go_enter Tryz.func88,Tryz.ntmps88
 go_wp2
 go_ret
 exact⟨by rw [← R.out];rfl,rfl⟩
end Go.Proofs.YtnbmpgballopeaaGreatDoor
/- The walk of sha.mix: a block into a state. -/
namespace Go.Proofs.YtnbmpgballopeaaGreatDoor
open Go.RowKit
def Tabs(w:World):Prop:=(∀i,i<8→w.cell? ⟨0,i,none⟩=some (.int .u32 ((H0.getD i 0:Nat):Int))) ∧ ∀i,i<64→w.cell? ⟨1,i,none⟩=some (.int .u32 ((K0.getD i 0:Nat):Int))
theorem Tabs.below{w w':World}(h:Tabs w)(hb:Below w.heap.size w w'):Tabs w':=
 ⟨fun i hi=>by rw [hb.cell (World.block_lt_of_cell? w _ (h.1 i hi))];exact h.1 i hi,fun i hi=>by rw [hb.cell (World.block_lt_of_cell? w _ (h.2 i hi))];exact h.2 i hi⟩
def padW(l:List Nat)(n:Nat):List Nat:=l++List.replicate (n - l.length) 0
theorem padW_len{l:List Nat}{n:Nat}(h:l.length≤n):(padW l n).length=n:=by simp [padW];omega
theorem padW_set{l:List Nat}{n k:Nat}(hl:l.length=k)(hk:k<n)(d:Nat):(padW l n).set k d=padW (l++[d]) n:=by
 subst hl
 obtain⟨m,hm⟩:∃m,n - l.length=m+1:=⟨n - l.length - 1,by omega⟩
 have h2:n - (l++[d]).length=m:=by simp;omega
 unfold padW
 rw [hm,h2,List.set_append_right _ _ (Nat.le_refl _),Nat.sub_self,List.replicate_succ,List.set_cons_zero]
 simp
theorem padW_get{l:List Nat}{n i:Nat}(h:i<l.length):(padW l n).getD i 0=l.getD i 0:=by
 simp [padW,List.getD_eq_getElem?_getD,List.getElem?_append_left h]
theorem pad_zero'(n:Nat):nums .u32 (padW [] n)=List.replicate n (Value.int .u32 0):=by simp [padW,nums]
theorem pad_zero:nums .u32 (padW [] 64)=List.replicate 64 (Value.int .u32 0):=pad_zero' 64
theorem or4{a b c d:Nat}(ha:a<256)(hb:b<256)(hc:c<256)(hd:d<256):
  bits .or .u32 (bits .or .u32 (bits .or .u32 ((a:Int)*16777216) ((b:Int)*65536)) ((c:Int)*256)) (d:Int)=((((a*256+b)*256+c)*256+d:Nat):Int):=by
 rw [show(a:Int)*16777216=((a*16777216:Nat):Int) by omega,show(b:Int)*65536=((b*65536:Nat):Int) by omega,show(c:Int)*256=((c*256:Nat):Int) by omega]
 rw [u32_or_nat _ _ (by omega) (by omega),nat_join 24 _ _ (by omega) (by omega),u32_or_nat _ _ (by omega) (by omega),nat_join 16 _ _ (by omega) (by omega),u32_or_nat _ _ (by omega) (by omega),nat_join 8 _ _ (by omega) (by omega)]
 omega
theorem sgp_rule{x:Nat}(hx:x<4294967296):bits .xor .u32 (bits .xor .u32 ((rot 7 x:Nat):Int) ((rot 18 x:Nat):Int)) ((x:Int) / 8)=((sgp x:Nat):Int):=by
 rw [show(x:Int) / 8=((x / 8:Nat):Int) by omega,u32_xor_nat _ _ (rot_lt hx) (rot_lt hx),u32_xor_nat _ _ (xor_lt (rot_lt hx) (rot_lt hx)) (by omega)];rfl
theorem sgq_rule{x:Nat}(hx:x<4294967296):bits .xor .u32 (bits .xor .u32 ((rot 17 x:Nat):Int) ((rot 19 x:Nat):Int)) ((x:Int) / 1024)=((sgq x:Nat):Int):=by
 rw [show(x:Int) / 1024=((x / 1024:Nat):Int) by omega,u32_xor_nat _ _ (rot_lt hx) (rot_lt hx),u32_xor_nat _ _ (xor_lt (rot_lt hx) (rot_lt hx)) (by omega)];rfl
theorem sge_rule{x:Nat}(hx:x<4294967296):bits .xor .u32 (bits .xor .u32 ((rot 6 x:Nat):Int) ((rot 11 x:Nat):Int)) ((rot 25 x:Nat):Int)=((sge x:Nat):Int):=by
 rw [u32_xor_nat _ _ (rot_lt hx) (rot_lt hx),u32_xor_nat _ _ (xor_lt (rot_lt hx) (rot_lt hx)) (rot_lt hx)];rfl
theorem sga_rule{x:Nat}(hx:x<4294967296):bits .xor .u32 (bits .xor .u32 ((rot 2 x:Nat):Int) ((rot 13 x:Nat):Int)) ((rot 22 x:Nat):Int)=((sga x:Nat):Int):=by
 rw [u32_xor_nat _ _ (rot_lt hx) (rot_lt hx),u32_xor_nat _ _ (xor_lt (rot_lt hx) (rot_lt hx)) (rot_lt hx)];rfl
theorem not_u32{e:Nat}(he:e<4294967296):bits .xor .u32 4294967295 (e:Int)=((4294967295 - e:Nat):Int):=by
 have h:(4294967295:Nat) ^^^ e=4294967295 - e:=by
  rw [show(4294967295:Nat) - e=2 ^ 32 - (e+1) by omega]
  apply Nat.eq_of_testBit_eq
  intro i
  rw [Nat.testBit_two_pow_sub_succ (by omega),Nat.testBit_xor,show(4294967295:Nat)=2 ^ 32 - 1 by rfl,Nat.testBit_two_pow_sub_one]
  by_cases hi:i<32
  ·simp [hi]
  ·have:e.testBit i=false:=Nat.testBit_lt_two_pow (Nat.lt_of_lt_of_le (show e<2 ^ 32 by omega) (Nat.pow_le_pow_right (by omega) (by omega)))
   simp [hi,this]
 have:=u32_xor_nat 4294967295 e (by omega) he
 rw [h] at this
 exact this
theorem ch_rule{e f g:Nat}(he:e<4294967296)(hf:f<4294967296)(hg:g<4294967296):bits .xor .u32 (bits .and .u32 (e:Int) (f:Int)) (bits .and .u32 (bits .xor .u32 4294967295 (e:Int)) (g:Int))=((chf e f g:Nat):Int):=by
 rw [not_u32 he,u32_and_nat _ _ he hf,u32_and_nat _ _ (by omega) hg,u32_xor_nat _ _ (and_lt hf) (and_lt hg)];rfl
theorem maj_rule{a b c:Nat}(ha:a<4294967296)(hb:b<4294967296)(hc:c<4294967296):bits .xor .u32 (bits .xor .u32 (bits .and .u32 (a:Int) (b:Int)) (bits .and .u32 (a:Int) (c:Int))) (bits .and .u32 (b:Int) (c:Int))=((maj a b c:Nat):Int):=by
 rw [u32_and_nat _ _ ha hb,u32_and_nat _ _ ha hc,u32_and_nat _ _ hb hc,u32_xor_nat _ _ (and_lt hb) (and_lt hc),u32_xor_nat _ _ (xor_lt (and_lt hb) (and_lt hc)) (and_lt hc)];rfl
def putN(cur:Array Value)(so:Nat)(L:List Nat):Nat→Array Value
 | 0=>cur
 | k+1=>(putN cur so L k).setIfInBounds (so+k) (.int .u32 ((L.getD k 0:Nat):Int))
theorem putN_size(cur:Array Value)(so:Nat)(L:List Nat)(k:Nat):(putN cur so L k).size=cur.size:=by
 induction k with
 | zero=>rfl
 | succ k ih=>simp [putN,ih]
theorem putN_far(cur:Array Value)(so:Nat)(L:List Nat)(k j:Nat)(h:j<so∨so+k≤j):(putN cur so L k)[j]? = cur[j]?:=by
 induction k with
 | zero=>rfl
 | succ k ih=>rw [putN,Array.getElem?_setIfInBounds_ne (by omega),ih (by omega)]
theorem putN_in(cur:Array Value)(so:Nat)(L:List Nat)(k i:Nat)(h:i<k)(hs:so+i<cur.size):(putN cur so L k)[so+i]? = some (.int .u32 ((L.getD i 0:Nat):Int)):=by
 induction k with
 | zero=>omega
 | succ k ih=>
  rw [putN]
  by_cases hk:i=k
  ·subst hk
   rw [Array.getElem?_setIfInBounds_self_of_lt (by rw [putN_size];exact hs)]
  ·rw [Array.getElem?_setIfInBounds_ne (by omega),ih (by omega)]
theorem K0_lt:∀d∈K0,d<4294967296:=by decide
theorem H0_lt:∀d∈H0,d<4294967296:=by decide
def RndRel(s:St)(W:List Nat)(x11 x12 x13 x14 x15 x16 x17 x18 x0:Value):Prop:=
 ∃n a b c d e f g h:Nat,n≤64∧x0 = .int .i64 n∧x11 = .int .u32 a∧x12 = .int .u32 b∧x13 = .int .u32 c∧x14 = .int .u32 d∧x15 = .int .u32 e∧x16 = .int .u32 f∧x17 = .int .u32 g∧x18 = .int .u32 h∧Hid (St.mk a b c d e f g h=s.rounds K0 W n)∧(St.mk a b c d e f g h).ok
theorem list8_of{S:List Nat}(h:S.length=8){z0 z1 z2 z3 z4 z5 z6 z7:Nat}(e:stOf S=⟨z0,z1,z2,z3,z4,z5,z6,z7⟩):S=[z0,z1,z2,z3,z4,z5,z6,z7]:=by
 match S,h with
 | [a,b,c,d,e1,f,g,h1],_=>
  simp only [stOf,List.getD_cons_zero,List.getD_cons_succ,St.mk.injEq] at e
  obtain⟨rfl,rfl,rfl,rfl,rfl,rfl,rfl,rfl⟩:=e
  rfl
theorem comp_eq{S blk:List Nat}(h:S.length=8){z0 z1 z2 z3 z4 z5 z6 z7 a b c d e f g h1:Nat}(e0:stOf S=⟨z0,z1,z2,z3,z4,z5,z6,z7⟩)
  (e1:St.mk a b c d e f g h1=(St.mk z0 z1 z2 z3 z4 z5 z6 z7).rounds K0 (schedN blk 48) 64):comp K0 S blk=[(z0+a) % 4294967296,(z1+b) % 4294967296,(z2+c) % 4294967296,(z3+d) % 4294967296,(z4+e) % 4294967296,(z5+f) % 4294967296,(z6+g) % 4294967296,(z7+h1) % 4294967296]:=by
 have hs:=list8_of h e0
 unfold comp
 rw [e0,← e1,hs]
 rfl
theorem addM(z x:Nat):((z:Int)+(x:Int)) % 4294967296=(((z+x) % 4294967296:Nat):Int):=by omega
def MixRes(H so:Nat)(T:TypeId)(cur:Array Value)(L:List Nat)(w:World)(e:Ending)(w':World):Prop:=e = .returned (.tuple #[])∧Far H w w'∧w'.heap[H]? = some (.cells (putN cur so L 8) T (0,0))
end Go.Proofs.YtnbmpgballopeaaGreatDoor
/- A Hasher in memory; what it has taken. Plain facts, no walk. -/
namespace Go.Proofs.YtnbmpgballopeaaGreatDoor
open Go.RowKit
structure HsAt (cur:Array Value) (ho:Nat) (S R:List Nat) (k n:Nat):Prop where
 sl:S.length=8
 rl:R.length=64
 sz:ho+74≤cur.size
 s:∀i,i<8→cur[ho+i]? = some (.int .u32 ((S.getD i 0:Nat):Int))
 r:∀i,i<64→cur[ho+8+i]? = some (.int .u8 ((R.getD i 0:Nat):Int))
 k:cur[ho+72]? = some (.int .i64 (k:Int))
 n:cur[ho+73]? = some (.int .u64 (n:Int))
def OutEq(ho:Nat)(cur cur':Array Value):Prop:=cur'.size=cur.size ∧ ∀j,j<ho∨ho+74≤j→cur'[j]? = cur[j]?
theorem OutEq.refl(ho:Nat)(cur:Array Value):OutEq ho cur cur:=⟨rfl,fun _ _=>rfl⟩
theorem OutEq.trans{ho:Nat}{a b c:Array Value}(h:OutEq ho a b)(k:OutEq ho b c):OutEq ho a c:=⟨k.1.trans h.1,fun j hj=>(k.2 j hj).trans (h.2 j hj)⟩
theorem HsAt.setN{cur:Array Value}{ho:Nat}{S R:List Nat}{k n:Nat}(h:HsAt cur ho S R k n)(m:Nat):HsAt (cur.setIfInBounds (ho+73) (.int .u64 (m:Int))) ho S R k m∧OutEq ho cur (cur.setIfInBounds (ho+73) (.int .u64 (m:Int))):=by
 have hz:=h.sz
 refine⟨⟨h.sl,h.rl,by simpa using h.sz,fun i hi=>?_,fun i hi=>?_,?_,?_⟩,by simp,fun j hj=>?_⟩
 ·rw [Array.getElem?_setIfInBounds_ne (by omega)];exact h.s i hi
 ·rw [Array.getElem?_setIfInBounds_ne (by omega)];exact h.r i hi
 ·rw [Array.getElem?_setIfInBounds_ne (by omega)];exact h.k
 ·rw [Array.getElem?_setIfInBounds_self_of_lt (by omega)]
 ·rw [Array.getElem?_setIfInBounds_ne (by omega)]
theorem HsAt.setK{cur:Array Value}{ho:Nat}{S R:List Nat}{k n:Nat}(h:HsAt cur ho S R k n)(m:Nat):HsAt (cur.setIfInBounds (ho+72) (.int .i64 (m:Int))) ho S R m n∧OutEq ho cur (cur.setIfInBounds (ho+72) (.int .i64 (m:Int))):=by
 have hz:=h.sz
 refine⟨⟨h.sl,h.rl,by simpa using h.sz,fun i hi=>?_,fun i hi=>?_,?_,?_⟩,by simp,fun j hj=>?_⟩
 ·rw [Array.getElem?_setIfInBounds_ne (by omega)];exact h.s i hi
 ·rw [Array.getElem?_setIfInBounds_ne (by omega)];exact h.r i hi
 ·rw [Array.getElem?_setIfInBounds_self_of_lt (by omega)]
 ·rw [Array.getElem?_setIfInBounds_ne (by omega)];exact h.n
 ·rw [Array.getElem?_setIfInBounds_ne (by omega)]
theorem HsAt.mixed{cur:Array Value}{ho:Nat}{S R L:List Nat}{k n:Nat}(h:HsAt cur ho S R k n)(hL:L.length=8):HsAt (putN cur ho L 8) ho L R k n∧OutEq ho cur (putN cur ho L 8):=by
 have hz:=h.sz
 refine⟨⟨hL,h.rl,by rw [putN_size];exact h.sz,fun i hi=>putN_in _ _ _ _ _ hi (by omega),fun i hi=>?_,?_,?_⟩,putN_size _ _ _ _,fun j hj=>putN_far _ _ _ _ _ (by omega)⟩
 ·rw [putN_far _ _ _ _ _ (by omega)];exact h.r i hi
 ·rw [putN_far _ _ _ _ _ (by omega)];exact h.k
 ·rw [putN_far _ _ _ _ _ (by omega)];exact h.n
theorem HsAt.copied{cur:Array Value}{ho:Nat}{S R ds:List Nat}{k n off:Nat}(h:HsAt cur ho S R k n)(hd:off+ds.length≤64):
  HsAt (splice cur.toList (ho+8+off) (nums .u8 ds)).toArray ho S (splice R off ds) k n∧OutEq ho cur (splice cur.toList (ho+8+off) (nums .u8 ds)).toArray:=by
 have hz:=h.sz
 have hfit:ho+8+off+(nums .u8 ds).length≤cur.toList.length:=by simp;omega
 have far:∀j,j<ho+8+off∨ho+8+off+ds.length≤j→(splice cur.toList (ho+8+off) (nums .u8 ds)).toArray[j]? = cur[j]?:=by
  intro j hj
  rw [List.getElem?_toArray,splice_get _ _ _ hfit]
  rcases hj with hj|hj
  ·rw [if_pos hj];simp
  ·rw [if_neg (by omega),if_neg (by simp;omega)];simp
 have hRl:(splice R off ds).length=64:=by rw [length_splice _ _ _ (by rw [h.rl];exact hd),h.rl]
 refine⟨⟨h.sl,hRl,?_,fun i hi=>?_,fun i hi=>?_,?_,?_⟩,?_,fun j hj=>far j (by omega)⟩
 ·rw [List.size_toArray,length_splice _ _ _ hfit];simpa using h.sz
 ·rw [far _ (by omega)];exact h.s i hi
 ·by_cases c:i<off∨off+ds.length≤i
  ·rw [far _ (by omega),h.r i hi]
   congr 3
   rw [List.getD_eq_getElem?_getD,List.getD_eq_getElem?_getD,splice_get _ _ _ (by rw [h.rl];exact hd)]
   rcases c with c|c
   ·rw [if_pos c]
   ·rw [if_neg (by omega),if_neg (by omega)]
  ·rw [List.getElem?_toArray,splice_get _ _ _ hfit,if_neg (by omega),if_pos (by simp;omega),nums_get .u8 (by omega)]
   congr 3
   rw [List.getD_eq_getElem?_getD,List.getD_eq_getElem?_getD,splice_get _ _ _ (by rw [h.rl];exact hd),if_neg (by omega),if_pos (by omega)]
   congr 2
   omega
 ·rw [far _ (by omega)];exact h.k
 ·rw [far _ (by omega)];exact h.n
 ·rw [List.size_toArray,length_splice _ _ _ hfit];simp
theorem HsAt.rest{w:World}{H:Nat}{T:TypeId}{cur:Array Value}{ho:Nat}{S R:List Nat}{k n:Nat}(h:HsAt cur ho S R k n)(hh:w.heap[H]? = some (.cells cur T (0,0))):Sl .u8 w (some ⟨H,ho+8,none⟩) 64 64 R:=by
 refine⟨by simp [h.rl],Nat.le_refl _,by decide,(fun e=>by cases e),H,ho+8,fun _=>rfl,fun j u hu=>?_⟩
 have hj:j<64:=by
  have:=(List.getElem?_eq_some_iff.1 hu).1
  rw [nums_length,h.rl] at this
  exact this
 rw [cell_of_row w H _ cur T (0,0) hh,h.r j hj]
 rw [nums_get .u8 (by rw [h.rl];exact hj)] at hu
 exact hu
structure Took (all S R:List Nat) (k:Nat):Prop where
 s:S=runB K0 H0 all (all.length / 64)
 kk:k=all.length % 64
 l:R.length=64
 r:R.take k=all.drop (64*(all.length / 64))
 b:∀d∈R,d<256
theorem splice_lt{R ds:List Nat}{off:Nat}(h:∀d∈R,d<256)(h':∀d∈ds,d<256):∀d∈splice R off ds,d<256:=by
 intro d hd
 unfold splice at hd
 rcases List.mem_append.1 hd with hd|hd
 ·exact h d (List.mem_of_mem_take hd)
 ·rcases List.mem_append.1 hd with hd|hd
  ·exact h' d hd
  ·exact h d (List.mem_of_mem_drop hd)
theorem splice_take{R ds:List Nat}{off:Nat}(h:off+ds.length≤R.length):(splice R off ds).take (off+ds.length)=R.take off++ds:=by
 unfold splice
 rw [← List.append_assoc,List.take_append_of_le_length (by simp;omega),List.take_of_length_le (by simp;omega)]
theorem Took.fill{all S R bs:List Nat}{k:Nat}(h:Took all S R k)(hk:k+bs.length<64)(hb:∀d∈bs,d<256):Took (all++bs) S (splice R k bs) (k+bs.length):=by
 have hk':=h.kk
 have hl:=h.l
 have hq:(all++bs).length / 64=all.length / 64:=by rw [List.length_append];omega
 have hle:64*(all.length / 64)≤all.length:=by omega
 refine⟨?_,?_,?_,?_,splice_lt h.b hb⟩
 ·rw [hq,runB_front _ _ _ hle];exact h.s
 ·rw [List.length_append];omega
 ·rw [length_splice _ _ _ (by omega)];exact hl
 ·rw [hq,splice_take (R:=R) (ds:=bs) (off:=k) (by omega),h.r,List.drop_append_of_le_length hle]
theorem Took.full{all S R bs:List Nat}{k:Nat}(h:Took all S R k)(h0:0<k)(hk:64≤k+bs.length):
  splice R k (bs.take (64 - k))=((all++bs).drop (64*(all.length / 64))).take 64∧S=runB K0 H0 (all++bs) (all.length / 64)∧bs.drop (64 - k)=(all++bs).drop (64*(all.length / 64+1))∧64*(all.length / 64+1)≤(all++bs).length:=by
 have hk':=h.kk
 have hl:=h.l
 have hkl:k<64:=by omega
 have htl:(bs.take (64 - k)).length=64 - k:=by rw [List.length_take];omega
 have hle:64*(all.length / 64)≤all.length:=by omega
 have hdl:(all.drop (64*(all.length / 64))).length=k:=by rw [List.length_drop];omega
 refine⟨?_,?_,?_,by rw [List.length_append];omega⟩
 ·have e1:splice R k (bs.take (64 - k))=R.take k++bs.take (64 - k):=by
   unfold splice
   rw [htl,show k+(64 - k)=64 by omega,List.drop_of_length_le (by omega),List.append_nil]
  rw [e1,h.r,List.drop_append_of_le_length hle]
  generalize all.drop (64*(all.length / 64))=D at *
  rw [List.take_append,hdl,List.take_of_length_le (l:=D) (by omega)]
 ·rw [runB_front _ _ _ hle];exact h.s
 ·have e:all.drop (64*(all.length / 64+1))=[]:=List.drop_of_length_le (by omega)
  rw [List.drop_append,e,List.nil_append]
  congr 1
  omega
theorem Took.zero{all S R bs:List Nat}(h:Took all S R 0):bs=(all++bs).drop (64*(all.length / 64))∧S=runB K0 H0 (all++bs) (all.length / 64)∧64*(all.length / 64)≤(all++bs).length:=by
 have hk':=h.kk
 have e:64*(all.length / 64)=all.length:=by omega
 refine⟨by rw [e,List.drop_left],?_,by rw [List.length_append];omega⟩
 rw [runB_front _ _ _ (by omega)];exact h.s
theorem Took.last{A S R xs:List Nat}{q:Nat}(hx:xs=A.drop (64*q))(hq:64*q≤A.length)(hS:S=runB K0 H0 A q)(hl:xs.length<64)(hR:R.length=64)(hRb:∀d∈R,d<256)(hb:∀d∈xs,d<256):Took A S (splice R 0 xs) xs.length:=by
 have h1:xs.length=A.length - 64*q:=by rw [hx,List.length_drop]
 have e:A.length / 64=q:=by omega
 refine⟨by rw [e];exact hS,by omega,by rw [length_splice _ _ _ (by omega)];exact hR,?_,splice_lt hRb hb⟩
 have:=splice_take (R:=R) (ds:=xs) (off:=0) (by omega)
 rw [Nat.zero_add] at this
 rw [this,e,List.take_zero,List.nil_append]
 exact hx
theorem Took.start{R:List Nat}(hR:R.length=64)(hb:∀d∈R,d<256):Took [] H0 R 0:=⟨rfl,rfl,hR,by simp,hb⟩
def WrRes(H ho:Nat)(T:TypeId)(cur:Array Value)(A:List Nat)(w:World)(e:Ending)(w':World):Prop:=
 e = .returned (.tuple #[])∧Far H w w' ∧ ∃cur' S' R' k',w'.heap[H]? = some (.cells cur' T (0,0))∧OutEq ho cur cur'∧HsAt cur' ho S' R' k' A.length∧Took A S' R' k'
theorem Tabs.far{H:Nat}{w w':World}(h:Tabs w)(hf:Far H w w')(h0:H≠0)(h1:H≠1):Tabs w':=by
 refine⟨fun i hi=>?_,fun i hi=>?_⟩
 ·have:=h.1 i hi
  rw [World.cell?_of_block (hf.block _ (World.block_lt_of_cell? w _ this) (by simpa using Ne.symm h0))];exact this
 ·have:=h.2 i hi
  rw [World.cell?_of_block (hf.block _ (World.block_lt_of_cell? w _ this) (by simpa using Ne.symm h1))];exact this
end Go.Proofs.YtnbmpgballopeaaGreatDoor
/- Plain: what is laid behind the bytes, as the program lays it. No program in sight. -/
namespace Go.Proofs.YtnbmpgballopeaaGreatDoor
open Go.RowKit
theorem beN_len(n x:Nat):(beN n x).length=n:=by
 induction n with
 | zero=>rfl
 | succ n ih=>simp [beN,ih]
theorem beN_lt(n x:Nat):∀d∈beN n x,d<256:=by
 induction n with
 | zero=>simp [beN]
 | succ n ih=>
  intro d hd
  simp only [beN,List.mem_cons] at hd
  rcases hd with rfl|hd
  ·omega
  ·exact ih d hd
def setsE(E:List Nat)(sz X:Nat):Nat→List Nat
 | 0=>E
 | i+1=>(setsE E sz X i).set (sz - 1 - i) (X / 256 ^ i % 256)
theorem setsE_len(E:List Nat)(sz X i:Nat):(setsE E sz X i).length=E.length:=by
 induction i with
 | zero=>rfl
 | succ i ih=>simp [setsE,ih]
theorem setsE_eq(E:List Nat)(sz X i:Nat)(hi:i≤sz)(hs:sz≤E.length):setsE E sz X i=E.take (sz - i)++(beN i X++E.drop sz):=by
 induction i with
 | zero=>simp [setsE,beN]
 | succ i ih=>
  obtain⟨m,hm⟩:∃m,sz - i=m+1:=⟨sz - i - 1,by omega⟩
  have h1:sz - 1 - i=m:=by omega
  have h2:sz - (i+1)=m:=by omega
  rw [setsE,ih (by omega),hm,h1,h2,beN]
  rw [List.take_succ_eq_append_getElem (by omega),List.append_assoc,List.set_append_right _ _ (by simp;omega)]
  simp [Nat.min_eq_left (show m≤E.length by omega)]
def szOf(k:Nat):Nat:=if k<56 then 64 else 128
def endE(D:List Nat)(n:Nat):List Nat:=setsE (D++128::List.replicate (127 - D.length) 0) (szOf D.length) (n*8 % 18446744073709551616) 8
theorem endE_len{D:List Nat}{n:Nat}(h:D.length<64):(endE D n).length=128:=by
 unfold endE
 rw [setsE_len]
 simp
 omega
theorem endE_eq{D:List Nat}{n:Nat}(hk:D.length=n % 64):(endE D n).take (szOf D.length)=D++padN n:=by
 have hlt:D.length<64:=by omega
 have hsz:szOf D.length=64∧D.length<56∨szOf D.length=128 ∧ ¬ D.length<56:=by
  unfold szOf
  split
  ·exact .inl ⟨rfl,by assumption⟩
  ·exact .inr ⟨rfl,by assumption⟩
 have hl:(D++128::List.replicate (127 - D.length) 0).length=128:=by simp;omega
 unfold endE
 rw [setsE_eq _ _ _ _ (by omega) (by omega)]
 have e1:(D++128::List.replicate (127 - D.length) 0).take (szOf D.length - 8)=D++128::List.replicate (szOf D.length - 8 - D.length - 1) 0:=by
  rw [List.take_append,List.take_of_length_le (by omega)]
  obtain⟨m,hm⟩:∃m,szOf D.length - 8 - D.length=m+1:=⟨szOf D.length - 8 - D.length - 1,by omega⟩
  rw [hm,List.take_succ_cons,List.take_replicate,Nat.min_eq_left (by omega),Nat.add_sub_cancel]
 rw [e1,List.take_append,List.take_of_length_le (by simp;omega),List.take_append,List.take_of_length_le (by rw [beN_len];simp;omega)]
 have e2:szOf D.length - (D++128::List.replicate (szOf D.length - 8 - D.length - 1) 0).length - (beN 8 (n*8 % 18446744073709551616)).length=0:=by
  rw [beN_len];simp;omega
 rw [e2,List.take_zero,List.append_nil,padN]
 have e3:szOf D.length - 8 - D.length - 1=if n % 64<56 then 55 - n % 64 else 119 - n % 64:=by
  rw [← hk]
  rcases hsz with⟨h1,h2⟩|⟨h1,h2⟩
  ·rw [if_pos h2,h1];omega
  ·rw [if_neg h2,h1];omega
 rw [e3]
 simp
theorem endE_lt{D:List Nat}{n:Nat}(h:∀d∈D,d<256)(hk:D.length<64):∀d∈endE D n,d<256:=by
 have hsz:szOf D.length≤128∧64≤szOf D.length:=by unfold szOf;split <;> omega
 intro d hd
 unfold endE at hd
 rw [setsE_eq _ _ _ _ (by omega) (by simp;omega)] at hd
 have base:∀d∈D++128::List.replicate (127 - D.length) 0,d<256:=by
  intro d hd
  rcases List.mem_append.1 hd with hd|hd
  ·exact h d hd
  ·rcases List.mem_cons.1 hd with rfl|hd
   ·decide
   ·rw [List.eq_of_mem_replicate hd];decide
 rcases List.mem_append.1 hd with hd|hd
 ·exact base d (List.mem_of_mem_take hd)
 ·rcases List.mem_append.1 hd with hd|hd
  ·exact beN_lt _ _ d hd
  ·exact base d (List.mem_of_mem_drop hd)
theorem took_sum{A S R:List Nat}{k:Nat}(h:Took A S R k):
  (A++padN A.length).drop (64*(A.length / 64))=(endE (R.take k) A.length).take (szOf k)∧S=runB K0 H0 (A++padN A.length) (A.length / 64)∧(A++padN A.length).length=64*(A.length / 64)+szOf k:=by
 have hkk:=h.kk
 have hl:=h.l
 have hD:(R.take k).length=k:=by rw [List.length_take];omega
 have hD':(R.take k).length=A.length % 64:=by omega
 have e:=endE_eq (n:=A.length) hD'
 rw [hD] at e
 have hle:64*(A.length / 64)≤A.length:=by omega
 refine⟨?_,?_,?_⟩
 ·rw [e,h.r,List.drop_append_of_le_length hle]
 ·rw [runB_front _ _ _ hle];exact h.s
 ·rw [List.length_append,padN]
  simp only [List.length_cons,List.length_append,List.length_replicate,beN_len]
  unfold szOf
  rw [← hkk]
  split <;> omega
def outL(S:List Nat):Nat→List Nat
 | 0=>List.replicate 32 0
 | i+1=>((((outL S i).set (4*i) (S.getD i 0 / 16777216 % 256)).set (4*i+1) (S.getD i 0 / 65536 % 256)).set (4*i+2) (S.getD i 0 / 256 % 256)).set (4*i+3) (S.getD i 0 % 256)
theorem outL_len(S:List Nat)(i:Nat):(outL S i).length=32:=by
 induction i with
 | zero=>simp [outL]
 | succ i ih=>simp [outL,ih]
theorem outL_eq(a b c d e f g h:Nat):outL [a,b,c,d,e,f,g,h] 8=[a,b,c,d,e,f,g,h].flatMap bytes4:=by simp [outL,bytes4,List.replicate]
theorem bytes4_lt(x:Nat):∀d∈bytes4 x,d<256:=by
 intro d hd
 simp only [bytes4,List.mem_cons,List.not_mem_nil,or_false] at hd
 omega
theorem sha_lt(b:List Nat):∀d∈sha b,d<256:=by
 intro d hd
 simp only [sha,hashS,List.mem_flatMap] at hd
 obtain⟨x,_,hx⟩:=hd
 exact bytes4_lt x d hx
theorem sha_len(b:List Nat):(sha b).length=32:=by
 have h:=runB_len (K:=K0) (S:=H0) (bs:=b++padN b.length) rfl ((b++padN b.length).length / 64)
 unfold sha hashS
 generalize runB K0 H0 (b++padN b.length) ((b++padN b.length).length / 64)=L at *
 rw [List.length_flatMap]
 have:L.map (fun a=>(bytes4 a).length)=L.map (fun _=>4):=rfl
 rw [this,List.map_const',List.sum_replicate_nat,h]
theorem dig8(x j:Nat):(x:Int) / 2 ^ (8*j) % 256=((x / 256 ^ j % 256:Nat):Int):=by
 rw [show(256:Nat) ^ j=2 ^ (8*j) from by rw [Nat.pow_mul],Int.natCast_emod,Int.natCast_ediv,Int.natCast_pow];rfl
theorem sl_sub{k:IntKind}{e:TypeId}{w:World}{B g n cap p m c:Nat}{os:List Nat}(h:w.ownsRow B e 1 (.slice (some ⟨g,0,none⟩) n cap) n (nums k os))(hp:p+m≤n)(hm:m≤c)(hc:c≤maxLen):Sl k w (some ⟨g,p,none⟩) m c ((os.drop p).take m):=by
 have hl:os.length=n:=by have:=h.1;simpa using this
 refine⟨by simp;omega,hm,hc,(fun e=>by cases e),g,p,fun _=>rfl,fun j u hu=>?_⟩
 have hj:j<m:=by
  have:=(List.getElem?_eq_some_iff.1 hu).1
  simp at this
  omega
 rw [nums,List.map_take,List.map_drop,List.getElem?_take,if_pos hj,List.getElem?_drop] at hu
 rw [h.cellAt (p+j) (by omega)]
 exact hu
theorem end_block{P E:List Nat}{q sz p j:Nat}(h:P.drop (64*q)=E.take sz)(hp:p=64*j)(hs:p+64≤sz):(P.drop (64*(q+j))).take 64=(E.drop p).take 64:=by
 have e:P.drop (64*(q+j))=(E.take sz).drop p:=by
  rw [← h,List.drop_drop,hp,Nat.mul_add]
 rw [e,List.drop_take,List.take_take,Nat.min_eq_left (by omega)]
end Go.Proofs.YtnbmpgballopeaaGreatDoor

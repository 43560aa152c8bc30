/- The zero values of more than 64 cells, where the seat gives no constants for them. -/
import Derived.Test.YtnophelfpoldfaaGreatDoorGKey
import Derived.RangeFuncNested
import Derived.RangeFuncBound
import Derived.RangeFuncCalls
import Derived.RangeFuncLeaves
import Derived.RangeFuncFrom
import Derived.RangeFuncBox
import Derived.Shelf.Abstract
import Derived.Shelf.RegionOpen
import Derived.WalkKit
import Derived.OwnWalkIn
import Derived.TacticsInMore
import Derived.LoopNIn
import Derived.LoopIn
import Derived.Test.YtnophelfpoldfaaGreatDoorDsn
namespace Go.Proofs.YtnophelfpoldfaaGreatDoor
open Go.RowKit

end Go.Proofs.YtnophelfpoldfaaGreatDoor

/- Plain: the digest of bytes (a block into a state; blocks one behind the other; what is laid behind). No program in sight. -/
namespace Go.Proofs.YtnophelfpoldfaaGreatDoor

def rot (n x : Nat) : Nat := x / 2 ^ n ||| x * 2 ^ (32 - n) % 4294967296
def sgp (x : Nat) : Nat := rot 7 x ^^^ rot 18 x ^^^ x / 8
def sgq (x : Nat) : Nat := rot 17 x ^^^ rot 19 x ^^^ x / 1024
def sga (a : Nat) : Nat := rot 2 a ^^^ rot 13 a ^^^ rot 22 a
def sge (e : Nat) : Nat := rot 6 e ^^^ rot 11 e ^^^ rot 25 e
def chf (e f g : Nat) : Nat := (e &&& f) ^^^ ((4294967295 - e) &&& g)
def maj (a b c : Nat) : Nat := (a &&& b) ^^^ (a &&& c) ^^^ (b &&& c)
def word (b : List Nat) (i : Nat) : Nat := ((b.getD (4 * i) 0 * 256 + b.getD (4 * i + 1) 0) * 256 + b.getD (4 * i + 2) 0) * 256 + b.getD (4 * i + 3) 0
def wnext (w : List Nat) (i : Nat) : Nat := (w.getD (i - 16) 0 + sgp (w.getD (i - 15) 0) + w.getD (i - 7) 0 + sgq (w.getD (i - 2) 0)) % 4294967296
def wordsN (b : List Nat) : Nat → List Nat
  | 0 => []
  | n + 1 => wordsN b n ++ [word b n]
def schedN (b : List Nat) : Nat → List Nat
  | 0 => wordsN b 16
  | n + 1 => schedN b n ++ [wnext (schedN b n) (16 + n)]
structure St where
  a : Nat
  b : Nat
  c : Nat
  d : Nat
  e : Nat
  f : Nat
  g : Nat
  h : Nat
def St.step (s : St) (k w : Nat) : St :=
  ⟨((s.h + sge s.e + chf s.e s.f s.g + k + w) + (sga s.a + maj s.a s.b s.c)) % 4294967296, s.a, s.b, s.c, (s.d + (s.h + sge s.e + chf s.e s.f s.g + k + w)) % 4294967296, s.e, s.f, s.g⟩
def St.rounds (s : St) (K W : List Nat) : Nat → St
  | 0 => s
  | n + 1 => (s.rounds K W n).step (K.getD n 0) (W.getD n 0)
def St.list (s : St) : List Nat := [s.a, s.b, s.c, s.d, s.e, s.f, s.g, s.h]
def stOf (S : List Nat) : St := ⟨S.getD 0 0, S.getD 1 0, S.getD 2 0, S.getD 3 0, S.getD 4 0, S.getD 5 0, S.getD 6 0, S.getD 7 0⟩
def addL (S T : List Nat) : List Nat := List.zipWith (fun x y => (x + y) % 4294967296) S T
/-- a block of 64 bytes into a state of 8 words -/
def comp (K S b : List Nat) : List Nat := addL S ((stOf S).rounds K (schedN b 48) 64).list
def runB (K S bs : List Nat) : Nat → List Nat
  | 0 => S
  | k + 1 => comp K (runB K S bs k) ((bs.drop (64 * k)).take 64)
def bytes4 (x : Nat) : List Nat := [x / 16777216 % 256, x / 65536 % 256, x / 256 % 256, x % 256]
def beN : Nat → Nat → List Nat
  | 0, _ => []
  | n + 1, x => x / 256 ^ n % 256 :: beN n x
/-- what is laid behind: 128, noughts, the size in bits -/
def padN (n : Nat) : List Nat := 128 :: (List.replicate (if n % 64 < 56 then 55 - n % 64 else 119 - n % 64) 0 ++ beN 8 (n * 8 % 18446744073709551616))
def hashS (K S b : List Nat) : List Nat := (runB K S (b ++ padN b.length) ((b ++ padN b.length).length / 64)).flatMap bytes4
def H0 : List Nat := [0x6a09e667, 0xbb67ae85, 0x3c6ef372, 0xa54ff53a, 0x510e527f, 0x9b05688c, 0x1f83d9ab, 0x5be0cd19]
def K0 : List Nat := [
  0x428a2f98, 0x71374491, 0xb5c0fbcf, 0xe9b5dba5, 0x3956c25b, 0x59f111f1, 0x923f82a4, 0xab1c5ed5,
  0xd807aa98, 0x12835b01, 0x243185be, 0x550c7dc3, 0x72be5d74, 0x80deb1fe, 0x9bdc06a7, 0xc19bf174,
  0xe49b69c1, 0xefbe4786, 0x0fc19dc6, 0x240ca1cc, 0x2de92c6f, 0x4a7484aa, 0x5cb0a9dc, 0x76f988da,
  0x983e5152, 0xa831c66d, 0xb00327c8, 0xbf597fc7, 0xc6e00bf3, 0xd5a79147, 0x06ca6351, 0x14292967,
  0x27b70a85, 0x2e1b2138, 0x4d2c6dfc, 0x53380d13, 0x650a7354, 0x766a0abb, 0x81c2c92e, 0x92722c85,
  0xa2bfe8a1, 0xa81a664b, 0xc24b8b70, 0xc76c51a3, 0xd192e819, 0xd6990624, 0xf40e3585, 0x106aa070,
  0x19a4c116, 0x1e376c08, 0x2748774c, 0x34b0bcb5, 0x391c0cb3, 0x4ed8aa4a, 0x5b9cca4f, 0x682e6ff3,
  0x748f82ee, 0x78a5636f, 0x84c87814, 0x8cc70208, 0x90befffa, 0xa4506ceb, 0xbef9a3f7, 0xc67178f2]
def sha (b : List Nat) : List Nat := hashS K0 H0 b
theorem sha_abc : (sha [97, 98, 99]).take 4 = [0xba, 0x78, 0x16, 0xbf] := by decide +kernel
theorem sha_nil : (sha []).getD 0 0 = 0xe3 ∧ (sha []).getD 31 0 = 0x55 := by decide +kernel

theorem rot_lt {n x : Nat} (hx : x < 4294967296) : rot n x < 4294967296 := by
  unfold rot
  have h1 : x / 2 ^ n < 2 ^ 32 := Nat.lt_of_le_of_lt (Nat.div_le_self _ _) (by omega)
  exact Nat.or_lt_two_pow h1 (by omega)
theorem xor_lt {x y : Nat} (hx : x < 4294967296) (hy : y < 4294967296) : x ^^^ y < 4294967296 := Nat.xor_lt_two_pow (n := 32) hx hy
theorem and_lt {x y : Nat} (hy : y < 4294967296) : x &&& y < 4294967296 := Nat.and_lt_two_pow (n := 32) _ hy
theorem chf_lt {e f g : Nat} (hf : f < 4294967296) (hg : g < 4294967296) : chf e f g < 4294967296 := xor_lt (and_lt hf) (and_lt hg)
theorem maj_lt {a b c : Nat} (hb : b < 4294967296) (hc : c < 4294967296) : maj a b c < 4294967296 := xor_lt (xor_lt (and_lt hb) (and_lt hc)) (and_lt hc)
theorem sga_lt {x : Nat} (hx : x < 4294967296) : sga x < 4294967296 := xor_lt (xor_lt (rot_lt hx) (rot_lt hx)) (rot_lt hx)
theorem sge_lt {x : Nat} (hx : x < 4294967296) : sge x < 4294967296 := xor_lt (xor_lt (rot_lt hx) (rot_lt hx)) (rot_lt hx)
theorem sgp_lt {x : Nat} (hx : x < 4294967296) : sgp x < 4294967296 := xor_lt (xor_lt (rot_lt hx) (rot_lt hx)) (by omega)
theorem sgq_lt {x : Nat} (hx : x < 4294967296) : sgq x < 4294967296 := xor_lt (xor_lt (rot_lt hx) (rot_lt hx)) (by omega)
theorem getDlt {l : List Nat} {M : Nat} (h : ∀ d ∈ l, d < M) (hM : 0 < M) (i : Nat) : l.getD i 0 < M := by
  rw [List.getD_eq_getElem?_getD]
  cases hi : l[i]? with
  | none => exact hM
  | some v => exact h v (List.mem_of_getElem? hi)
theorem word_lt {b : List Nat} (h : ∀ d ∈ b, d < 256) (i : Nat) : word b i < 4294967296 := by
  have h0 := getDlt h (by omega) (4 * i)
  have h1 := getDlt h (by omega) (4 * i + 1)
  have h2 := getDlt h (by omega) (4 * i + 2)
  have h3 := getDlt h (by omega) (4 * i + 3)
  unfold word
  omega
theorem wordsN_len (b : List Nat) (n : Nat) : (wordsN b n).length = n := by
  induction n with
  | zero => rfl
  | succ n ih => simp [wordsN, ih]
theorem schedN_len (b : List Nat) (n : Nat) : (schedN b n).length = 16 + n := by
  induction n with
  | zero => exact wordsN_len b 16
  | succ n ih => simp [schedN, ih]; omega
theorem wordsN_lt {b : List Nat} (h : ∀ d ∈ b, d < 256) (n : Nat) : ∀ x ∈ wordsN b n, x < 4294967296 := by
  induction n with
  | zero => simp [wordsN]
  | succ n ih =>
    intro x hx
    simp only [wordsN, List.mem_append, List.mem_singleton] at hx
    rcases hx with hx | rfl
    · exact ih x hx
    · exact word_lt h n
theorem schedN_lt {b : List Nat} (h : ∀ d ∈ b, d < 256) (n : Nat) : ∀ x ∈ schedN b n, x < 4294967296 := by
  induction n with
  | zero => exact wordsN_lt h 16
  | succ n ih =>
    intro x hx
    simp only [schedN, List.mem_append, List.mem_singleton] at hx
    rcases hx with hx | rfl
    · exact ih x hx
    · exact Nat.mod_lt _ (by omega)
structure St.ok (s : St) : Prop where
  a : s.a < 4294967296
  b : s.b < 4294967296
  c : s.c < 4294967296
  d : s.d < 4294967296
  e : s.e < 4294967296
  f : s.f < 4294967296
  g : s.g < 4294967296
  h : s.h < 4294967296
theorem St.ok.step {s : St} (h : s.ok) (k w : Nat) : (s.step k w).ok := ⟨Nat.mod_lt _ (by omega), h.a, h.b, h.c, Nat.mod_lt _ (by omega), h.e, h.f, h.g⟩
theorem St.ok.rounds {s : St} (h : s.ok) (K W : List Nat) (n : Nat) : (s.rounds K W n).ok := by
  induction n with
  | zero => exact h
  | succ n ih => exact ih.step _ _
theorem stOf_ok {S : List Nat} (h : ∀ d ∈ S, d < 4294967296) : (stOf S).ok :=
  ⟨getDlt h (by omega) _, getDlt h (by omega) _, getDlt h (by omega) _, getDlt h (by omega) _, getDlt h (by omega) _, getDlt h (by omega) _, getDlt h (by omega) _, getDlt h (by omega) _⟩
theorem comp_len {K S b : List Nat} (h : S.length = 8) : (comp K S b).length = 8 := by simp [comp, addL, h, St.list]
theorem comp_lt {K S b : List Nat} : ∀ d ∈ comp K S b, d < 4294967296 := by
  intro d hd
  unfold comp addL at hd
  obtain ⟨i, hi, rfl⟩ := List.getElem_of_mem hd
  rw [List.getElem_zipWith]
  exact Nat.mod_lt _ (by omega)
theorem runB_len {K S bs : List Nat} (h : S.length = 8) (n : Nat) : (runB K S bs n).length = 8 := by
  induction n with
  | zero => exact h
  | succ n ih => exact comp_len ih
theorem runB_lt {K S bs : List Nat} (h : ∀ d ∈ S, d < 4294967296) (n : Nat) : ∀ d ∈ runB K S bs n, d < 4294967296 := by
  cases n with
  | zero => exact h
  | succ n => exact comp_lt
/-- only the blocks count -/
theorem runB_front {K S : List Nat} (xs ys : List Nat) (n : Nat) (h : 64 * n ≤ xs.length) : runB K S (xs ++ ys) n = runB K S xs n := by
  induction n with
  | zero => rfl
  | succ n ih =>
    rw [runB, runB, ih (by omega), List.drop_append_of_le_length (by omega), List.take_append_of_le_length (by rw [List.length_drop]; omega)]
theorem runB_take {K S : List Nat} (xs : List Nat) (n m : Nat) (h : 64 * n ≤ m) : runB K S (xs.take m) n = runB K S xs n := by
  by_cases hm : m ≤ xs.length
  · conv => rhs; rw [← List.take_append_drop m xs]
    rw [runB_front _ _ _ (by simp; omega)]
  · rw [List.take_of_length_le (by omega)]
/-- first some blocks, then others -/
theorem runB_add {K S : List Nat} (xs : List Nat) (n m : Nat) : runB K S xs (n + m) = runB K (runB K S xs n) (xs.drop (64 * n)) m := by
  induction m with
  | zero => rfl
  | succ m ih => rw [← Nat.add_assoc, runB, runB, ih, List.drop_drop, show 64 * (n + m) = 64 * n + 64 * m by omega]
end Go.Proofs.YtnophelfpoldfaaGreatDoor

/- A disk's Read, no sector in its queue. -/
namespace Go.Proofs.YtnophelfpoldfaaGreatDoor
open Go.RowKit Go.Shelf

attribute [local go_sem] Oper.semAt_some
set_option maxRecDepth 100000 in
set_option maxHeartbeats 4000000 in
theorem back_run (F : Fence) (n : Nat) (h : F.fn 81) (hro : F.round = none) (l Bs : Nat) (J : List Empty → World → Prop) (W : World) (hBs : W.cell? ⟨Bs, 0, none⟩ = some (.slice none 0 0)) (h0 : J [] W) :
    CallsIn F n Tryz.prog 81 #[.func (.yield l) #[] #[], .pointer (some ⟨Bs, 0, none⟩)] W fun e W' => (∃ v, e = .returned v) ∧ J [] W' := by
  refine callsIn_of_wp Tryz.func81 rfl h ?_ hro
  simp only [Tryz.ntmps81, List.size_toArray, List.length_cons, List.length_nil, Nat.reduceAdd, Nat.reduceSub, Array.replicate_succ, Array.replicate_zero, List.push_toArray, List.append_toArray, List.nil_append, List.cons_append]
  gi_wp2
  gi_loopw [3] (fun i wr => i = .int .i64 (-1) ∧ J [] wr) (fun _ _ => 0)
  case atStart => exact ⟨rfl, h0⟩
  case round =>
    obtain ⟨rfl, hJs⟩ := hrel
    gi_wp2
    go_end0
    exact ⟨⟨_, rfl⟩, hJs⟩
set_option maxRecDepth 100000 in
set_option maxHeartbeats 4000000 in
theorem back_in (F : Fence) (n : Nat) (h : F.fn 72) (hro : F.round = none) (a : Option Addr) (len cap : Nat) (w : World) :
    CallsIn F n Tryz.prog 72 #[.slice a len cap] w fun e w' => e = .returned (.func (.func 81) #[] #[.pointer (some ⟨w.heap.size, 0, none⟩)]) ∧ w' = w.alloc (.cells #[.slice a len cap] 55) := by
  refine callsIn_of_wp Tryz.func72 rfl h ?_ hro
  simp only [Tryz.ntmps72, List.size_toArray, List.length_cons, List.length_nil, Nat.reduceAdd, Nat.reduceSub, Array.replicate_succ, Array.replicate_zero, List.push_toArray, List.append_toArray, List.nil_append, List.cons_append]
  gi_wp2
  go_ret
  exact ⟨rfl, rfl⟩
theorem back_stops (F : Fence) (n : Nat) (h : F.fn 81) (hro : F.round = none) (Bs : Nat) (n₀ : Nat) (w : World) (hBs : Bs < w.heap.size) (hc : w.cell? ⟨Bs, 0, none⟩ = some (.slice none 0 0)) :
    SeqStopsK F n Tryz.prog 81 #[.pointer (some ⟨Bs, 0, none⟩)] (fun x : Empty => x.elim) (Below n₀) (fun _ => True) (fun _ => True) 0 w := fun l J Jx W hW _ _ _ h0 => by
  have hc' := (hW.cell (p := ⟨Bs, 0, none⟩) hBs).trans hc
  exact (back_run F n h hro l Bs J W hc' h0).mono fun e W' ⟨he, hj⟩ => ⟨he, .inl ⟨_, trivial, hj⟩⟩
def NormO (K : Act → World → Prop) : Exit → Act → World → Prop
  | .normal, a, w => K a w
  | _, _, _ => False
def RdR (w : World) (bs : List Nat) (e : Ending) (w' : World) : Prop := ∃ v, e = .returned (.tuple #[v, .int .i64 0]) ∧ w'.ownsRow w.heap.size 5 1 v bs.length (nums .u8 bs) ∧ Below w.heap.size w w'
set_option maxRecDepth 100000 in
set_option maxHeartbeats 8000000 in
theorem dread_walk {w : World} {db B : Nat} {sv : Value} {C : List (List Nat)} (h : DiskAt w db B sv (.slice none 0 0) C []) (pos : Nat) (bs : List Nat) (hp : C[pos]? = some bs) :
    Calls Tryz.prog 53 #[.pointer (some ⟨db, 0, none⟩), .int .i64 (pos : Int)] w (RdR w bs) := by
  have H := hid h
  have hpl := (List.getElem?_eq_some_iff.1 hp).1
  have few := h.few
  have c0 := h.c0
  have c1 := h.c1
  have c3 := h.c3
  obtain ⟨sa, sc, rfl⟩ := h.sv_eq
  have HP := hid hp
  clear h hp
  have A3 := alloc3p w (.cells #[.int .i64 (pos : Int)] 3) (.cells #[.slice none 0 0] 22) (.cells #[.int .i64 0] 27)
  have b3 := A3.2.2.2
  have p0 := gen_cell (j := 0) (row_range (L := [.int .i64 (pos : Int)]) A3.1) rfl
  have p3 := cell_keep b3 c3
  have q0 := cell_keep b3 c0
  have q1 := cell_keep b3 c1
  have B3 := hid b3
  have A3' := hid A3
  have t1 : decide ((pos : Int) < 0) = false := decide_eq_false (by omega)
  have t2 : decide ((pos : Int) ≥ (C.length : Int)) = false := decide_eq_false (by omega)
  have t3 : decide ((C.length : Int) ≤ (pos : Int)) = false := decide_eq_false (by omega)
  have t4 : decide (C.length ≤ pos) = false := decide_eq_false (by omega)
  clear A3 b3 c0 c1 c3
  refine (callsIn_wide (n := 3)).1 ?_
  refine callsIn_of_wp_marks Tryz.func53 rfl trivial ?_ rfl
  simp only [Tryz.ntmps53, List.size_toArray, List.length_cons, List.length_nil, Nat.reduceAdd, Nat.reduceSub, Array.replicate_succ, Array.replicate_zero, List.push_toArray, List.append_toArray, List.nil_append, List.cons_append]
  gi_wp2
  generalize ((w.alloc (.cells #[.int .i64 (pos : Int)] 3)).alloc (.cells #[.slice none 0 0] 22)).alloc (.cells #[.int .i64 0] 27) = w3 at *
  gi_region
  gi_wp2_with (refine ⟨trivial, ?_⟩; gi_at_call 72; refine (back_in Fence.wide _ trivial rfl _ _ _ _).mono ?_; rintro e w' ⟨rfl, rfl⟩)
  have hbox := gen_cell (j := 0) (row_range (L := [.slice none 0 0]) (heap_alloc_new w3.drew (.cells #[.slice none 0 0] 55))) rfl
  refine wpIn_rangeFunc_ownF rfl (by omega) (gf := 81) (lb := #[.pointer (some ⟨w3.drew.heap.size, 0, none⟩)]) rfl trivial (enters_of Tryz.func81 (by kernel_rfl) rfl)
    (back_stops Fence.wide _ trivial rfl w3.drew.heap.size w3.heap.size (w3.drew.alloc (.cells #[.slice none 0 0] 55)) (by simp) hbox) belowK_t (belowK_b (by simp)) (Below.refl _ _) (fun x => x.elim)
    (fun _ W => Below w3.heap.size w3 W) (fun _ _ _ => False) (ownFrom_below (Nat.le_refl _) (by simp)) (fun _ _ _ _ _ hs _ _ => hs) ((Below.refl w3.heap.size w3).drew.alloc (by simp) _)
    (fun x => x.elim) (fun _ x => x.elim) (fun _ _ x => x.elim) ?done ?stop
  case stop =>
    rintro D c pre W hD _ h _
    exact h.elim
  case done =>
    rintro D xs W hD _ hB hK
    have c0' := cell_keep hB q0
    have p0' := cell_keep hB p0
    obtain ⟨vs, ho, hs⟩ := H.out.sure
    obtain ⟨sg, rfl⟩ := own_blockG ho (by omega)
    obtain ⟨v, hv⟩ : ∃ v, vs[pos]? = some v := ⟨_, List.getElem?_eq_getElem (by rw [hs.1]; exact hpl)⟩
    have hby := hs.2 pos v bs hv HP.out
    obtain ⟨va, vn, vc, rfl, hsl, hb8, _⟩ := hby.1
    have hn : vn = 64 := by have := hsl.len; omega
    subst hn
    have BW : Below w.heap.size w W := B3.out.trans (hB.mono B3.out.size)
    have s0 : W.cell? ⟨sg, pos, none⟩ = some (.slice va 64 vc) := cell_keep BW (by have := ho.cellAt pos (by omega); rw [this]; exact hv)
    have CW := fun (wx : World) (hx : Sl .u8 wx va 64 vc bs) => hid (clone8_walk va 64 vc bs wx hx (by decide))
    have SL := hid (hsl.below BW)
    have r1 := hid (heap_keep A3'.out.2.1 hB)
    have r2 := hid (heap_keep A3'.out.2.2.1 hB)
    have BWh := hid BW
    have HK := hid hK
    have HD := hid hD
    clear BW hsl hb8 hby hv ho hs hbox q0 p0 p3 q1 t1 t2 t3 t4 hB hK hD A3'
    gi_wp2
    have hmo : Tryz.prog.follows .mixedOrders = true := by kernel_rfl
    rename_i K9 a9
    have A9 := hid a9
    clear a9
    refine Code.wpIn_mono (Q := NormO K9) (fun e a w h => by cases e <;> first | exact h | exact h.elim) ?_
    gi_region_with_o (refine ⟨trivial, ?_⟩; gi_at_call 29; refine (callsIn_wide.2 (CW _ (by first | exact SL.out | exact SL.out.below (Below.refl _ _).drew)).out).mono ?_; rintro e w5 ⟨v5, rfl, o5, b5⟩; have O5 := hid o5; have B5 := hid (show Below W.heap.size W w5 from by first | exact b5 | exact (Below.refl _ _).drew.trans b5); obtain ⟨a5, c5, rfl, _⟩ := Rd.of_owns o5; have x1 : w5.cell? ⟨w.heap.size + 1, 0, none⟩ = some (.slice none 0 0) := gen_cell (j := 0) (row_range (L := [.slice none 0 0]) (heap_keep r1.out B5.out)) rfl; have z1 : w5.frozen? ⟨w.heap.size + 1, 0, none⟩ = false := frozen_of_row _ _ _ _ _ (heap_keep r1.out B5.out); have x2 : w5.cell? ⟨w.heap.size + 1 + 1, 0, none⟩ = some (.int .i64 0) := gen_cell (j := 0) (row_range (L := [.int .i64 0]) (heap_keep r2.out B5.out)) rfl; have z2 : w5.frozen? ⟨w.heap.size + 1 + 1, 0, none⟩ = false := frozen_of_row _ _ _ _ _ (heap_keep r2.out B5.out); clear o5 b5)
    all_goals
      show K9 _ _
      refine A9.out _ _ ?_
      have k5 := heap_keep HK.out B5.out
      have k6 := (KeepsOthers.setCell w5 ⟨w.heap.size + 1, 0, none⟩ (.slice a5 bs.length c5)).same D _ k5 rfl
      have k7 := (KeepsOthers.setCell (w5.setCell ⟨w.heap.size + 1, 0, none⟩ (.slice a5 bs.length c5)) ⟨w.heap.size + 1 + 1, 0, none⟩ (.int .i64 0)).same D _ k6 rfl
      have f7 : Below w.heap.size w ((w5.setCell ⟨w.heap.size + 1, 0, none⟩ (.slice a5 bs.length c5)).setCell ⟨w.heap.size + 1 + 1, 0, none⟩ (.int .i64 0)) :=
        ((BWh.out.trans (B5.out.mono BWh.out.size)).setCell (p := ⟨w.heap.size + 1, 0, none⟩) (by simp) _).setCell (p := ⟨w.heap.size + 1 + 1, 0, none⟩) (by simp; omega) _
      have y1 : ((w5.setCell ⟨w.heap.size + 1, 0, none⟩ (.slice a5 bs.length c5)).setCell ⟨w.heap.size + 1 + 1, 0, none⟩ (.int .i64 0)).cell? ⟨w.heap.size + 1, 0, none⟩ = some (.slice a5 bs.length c5) := by
        have h1 := World.cell?_setCell_same' w5 ⟨w.heap.size + 1, 0, none⟩ (.slice a5 bs.length c5) (by rw [x1]; rfl)
        exact (Keep.far' (Far.set (H := w.heap.size + 1 + 1) (j := 0) (.int .i64 0))).cell h1 (by simp)
      have y2 : ((w5.setCell ⟨w.heap.size + 1, 0, none⟩ (.slice a5 bs.length c5)).setCell ⟨w.heap.size + 1 + 1, 0, none⟩ (.int .i64 0)).cell? ⟨w.heap.size + 1 + 1, 0, none⟩ = some (.int .i64 0) :=
        World.cell?_setCell_same' _ ⟨w.heap.size + 1 + 1, 0, none⟩ (.int .i64 0) (by rw [(Keep.far' (Far.set (H := w.heap.size + 1) (j := 0) (.slice a5 bs.length c5))).cell x2 (by simp)]; rfl)
      have o7 := Far.own (Far.own O5.out (Far.set (H := w.heap.size + 1) (j := 0) (.slice a5 bs.length c5)) (fun e => by have := (O5.out.lt _ e).1; have := (Array.getElem?_eq_some_iff.1 r2.out).1; have e0 : W.drew.heap.size = W.heap.size := rfl; omega)) (Far.set (H := w.heap.size + 1 + 1) (j := 0) (.int .i64 0)) (fun e => by have := (O5.out.lt _ e).1; have := (Array.getElem?_eq_some_iff.1 r2.out).1; have e0 : W.drew.heap.size = W.heap.size := rfl; omega)
      generalize (w5.setCell ⟨w.heap.size + 1, 0, none⟩ (.slice a5 bs.length c5)).setCell ⟨w.heap.size + 1 + 1, 0, none⟩ (.int .i64 0) = w8 at *
      gi_wp2
      refine ⟨by simp, .inl ⟨_, _, rfl, run_takeDeferred k7, ?_⟩⟩
      have hc1 := cell_kept y1 (grownBy_putObj' _ D (.deferred none)) (fun r e => by cases e; exact ⟨_, k7, rfl⟩)
      have hc2 := cell_kept y2 (grownBy_putObj' _ D (.deferred none)) (fun r e => by cases e; exact ⟨_, k7, rfl⟩)
      have kd : Keep (fun i => i = D) w8 (w8.putObj D (.deferred none)) := Keep.grown (grownBy_putObj' w8 D _) (fun i hi => by cases hi; rfl)
      have hDw : w.heap.size ≤ D := by have h1 := HD.out; have := B3.out.size; simp at h1; omega
      refine ⟨.tuple #[.slice a5 bs.length c5, .int .i64 0], ?_, .slice a5 bs.length c5, rfl, ?_, f7.trans (kd.below (fun i hi => by rw [hi]; exact hDw) f7.size)⟩
      · simp [results, Tryz.f53, go_sem, hc1, hc2]
      · refine kd.own (own_mono o7 BWh.out.size) (fun g hg e => ?_)
        obtain ⟨cur, hc⟩ := own_obj o7 hg
        rw [e, k7] at hc
        cases hc
end Go.Proofs.YtnophelfpoldfaaGreatDoor

/- The journal's lay: a record's sectors are written and made sure. -/
namespace Go.Proofs.YtnophelfpoldfaaGreatDoor
open Go.RowKit

def chunk (b : List Nat) (j : Nat) : List Nat := (b.drop (64 * j)).take 64
def layB (C : List (List Nat)) (p : Nat) (b : List Nat) : Nat → List (List Nat)
  | 0 => C
  | j + 1 => (layB C p b j).set (p + j) (chunk b j)
theorem layB_len (C : List (List Nat)) (p : Nat) (b : List Nat) : ∀ j, (layB C p b j).length = C.length
  | 0 => rfl
  | j + 1 => List.length_set.trans (layB_len C p b j)
/-- a part of a slice of bytes -/
theorem sl_part {w : World} {g off n c : Nat} {bs : List Nat} (h : Sl .u8 w (some ⟨g, off, none⟩) n c bs) {i m : Nat} (hi : i + m ≤ n) (hm : 0 < m) : Sl .u8 w (some ⟨g, off + i, none⟩) m (c - i) ((bs.drop i).take m) := by
  have hl := h.len
  obtain ⟨h1, h2, h3, h4, b, o, ha, hc⟩ := h
  have := ha (by omega)
  simp only [Option.some.injEq, Addr.mk.injEq] at this
  obtain ⟨rfl, rfl, _⟩ := this
  refine ⟨by rw [nums_length, List.length_take, List.length_drop, hl]; omega, by omega, by omega, (fun e => nomatch e), g, off + i, fun _ => rfl, fun j u hu => ?_⟩
  have hj := (List.getElem?_eq_some_iff.1 hu).1
  rw [nums_length, List.length_take, List.length_drop, hl] at hj
  rw [Nat.add_assoc]
  refine hc (i + j) u ?_
  rw [← hu]
  simp only [nums, List.getElem?_map, List.getElem?_take, List.getElem?_drop]
  rw [if_pos (by omega)]
structure LayI (w : World) (db B : Nat) (sv : Value) (C : List (List Nat)) (p : Nat) (bs : List Nat) (j : Nat) (wr : World) : Prop where
  ex : ∃ Q qv, DiskAt wr db B sv qv C Q ∧ Q.length = j ∧ layQ C Q = layB C p bs j ∧ ∀ g, qv.ownBlock = some g → w.heap.size ≤ g
  keep : Keep (fun i => i = db) w wr
structure Laid (w : World) (db B : Nat) (sv : Value) (C : List (List Nat)) (p : Nat) (bs : List Nat) (K : Nat) (e : Ending) (w' : World) : Prop where
  ret : e = .returned (.int .i64 0)
  dsk : DiskAt w' db B sv (.slice none 0 0) (layB C p bs K) []
  keep : Keep (fun i => i = db ∨ sv.ownBlock = some i) w w'
set_option maxRecDepth 100000 in
set_option maxHeartbeats 8000000 in
theorem jlay_walk {w : World} {db B : Nat} {sv : Value} {C : List (List Nat)} (h : DiskAt w db B sv (.slice none 0 0) C []) (half : Nat) (hh : half ≤ 1) (pl : Nat) (g c K : Nat) (bs : List Nat) (hb : ByA w (.slice (some ⟨g, 0, none⟩) (64 * K) c) bs) (hK : 0 < K) (hf : pl + K ≤ C.length / 2) :
    Calls Tryz.prog 28 #[.pointer (some ⟨db, 0, none⟩), .int .i64 (half : Int), .int .i64 (pl : Int), .slice (some ⟨g, 0, none⟩) (64 * K) c] w (Laid w db B sv C (half * (C.length / 2) + pl) bs K) := by
  have H := hid h
  have BY := hid hb
  have few := h.few
  obtain ⟨sz, hsz⟩ : ∃ sz, sz = C.length / 2 := ⟨_, rfl⟩
  obtain ⟨hs, hhs⟩ : ∃ hs, hs = half * sz := ⟨_, rfl⟩
  obtain ⟨p, hp⟩ : ∃ p, p = hs + pl := ⟨_, rfl⟩
  have hs2 : hs ≤ sz := by rw [hhs]; have := Nat.mul_le_mul_right sz hh; omega
  have r1 : IntKind.i64.wrap ((half : Int) * (sz : Int)) = (hs : Int) := by rw [← Int.natCast_mul, ← hhs, IntKind.wrap_i64]; omega
  have r2 : IntKind.i64.wrap ((hs : Int) + (pl : Int)) = (p : Int) := by rw [IntKind.wrap_i64]; omega
  have NB := hid (show p + K ≤ C.length ∧ p + K ≤ 4096 ∧ K ≤ 4096 from by omega)
  have SZ := hid hsz
  rw [← hsz, ← hhs, ← hp]
  obtain ⟨n, hn⟩ : ∃ n, n = 64 * K := ⟨_, rfl⟩
  rw [← hn] at BY ⊢
  have HN := hid hn
  have cn : n ≤ c := by
    obtain ⟨a', n', c', e, hsl, _⟩ := BY.out
    simp only [Value.slice.injEq] at e
    obtain ⟨_, rfl, rfl⟩ := e
    exact hsl.2.1
  clear h hb hsz hhs hp hn hs2 few hf
  go_enter Tryz.func28, Tryz.ntmps28
  go_upto_region 2 with (fail)
  go_loopw [9] (fun x9 wr => ∃ j i : Nat, i = 64 * j ∧ j ≤ K ∧ x9 = .int .i64 (i : Int) ∧ LayI w db B sv C p bs j wr) (fun x9 _ => 64 * K - (intOf x9).toNat)
  case atStart => exact ⟨0, 0, rfl, by omega, rfl, ⟨[], _, H.out, rfl, rfl, fun g h => nomatch h⟩, Keep.refl _ _⟩
  case round =>
    obtain ⟨j, i, hij, hj, rfl, hI⟩ := hrel
    obtain ⟨Q, qv, hD, hl, hq, hfr⟩ := hI.ex
    have D := hid hD
    have HQ := hid (And.intro hl hq)
    have FR := hid hfr
    have KK := hid hI.keep
    have IJ := hid hij
    clear hI hD hl hq hfr
    by_cases hlt : j < K
    case neg =>
      have t1 : decide (i < n) = false := decide_eq_false (by have := HN.out; omega)
      obtain rfl : j = K := by omega
      clear hlt hj hij
      go_wp2_with (fail)
      refine (dsync_walk D.out (by rw [HQ.out.1]; have := NB.out; omega)).mono ?_
      rintro e w5 ⟨rfl, s5⟩
      have S5 := hid s5
      clear s5
      go_wp2_with (fail)
      go_ret
      refine ⟨rfl, by have := S5.out.dsk; rw [HQ.out.2] at this; exact this, (KK.out.mono (fun i hi => .inl hi)).trans S5.out.keep⟩
    have t1 : decide (i < n) = true := decide_eq_true (by have := HN.out; omega)
    obtain ⟨i2, hi2⟩ : ∃ i2, i2 = i + 64 := ⟨_, rfl⟩
    obtain ⟨pj, hpj⟩ : ∃ pj, pj = p + j := ⟨_, rfl⟩
    have nb := NB.out
    have hn := HN.out
    have r3 : ((i : Int)).tdiv 64 = (j : Int) := by rw [Int.tdiv_eq_ediv_of_nonneg (by omega)]; omega
    have r3' : IntKind.i64.wrap (j : Int) = (j : Int) := by rw [IntKind.wrap_i64]; omega
    have r4 : IntKind.i64.wrap ((p : Int) + (j : Int)) = (pj : Int) := by rw [IntKind.wrap_i64]; omega
    have r5 : IntKind.i64.wrap ((i : Int) + 64) = (i2 : Int) := by rw [IntKind.wrap_i64]; omega
    have s1 : (0 : Int) ≤ (i : Int) := by omega
    have s2 : (i : Int) ≤ (i2 : Int) := by omega
    have s3 : (i2 : Int) ≤ (c : Int) := by omega
    have s4 : i ≤ i2 := by omega
    have s5 : i2 ≤ c := by omega
    have s6 : i2 - i = 64 := by omega
    have s7 : ¬ (c = i) := by omega
    have s8 : i ≤ c := by omega
    have PJ := hid hpj
    have I2 := hid hi2
    have LT := hid hlt
    have BYr := hid (BY.out.keep KK.out (fun k _ e => by rw [e]; exact H.out.noBy))
    have SLr := hid (show Sl .u8 wr (some ⟨g, 0 + i, none⟩) 64 (c - i) (chunk bs j) from by
      obtain ⟨a', n', c', e, hsl, _⟩ := BYr.out
      simp only [Value.slice.injEq] at e
      obtain ⟨rfl, rfl, rfl⟩ := e
      have := sl_part hsl (i := i) (m := 64) (by omega) (by omega)
      rw [hij] at this ⊢
      exact this)
    have hb8 := hid (show ∀ d ∈ chunk bs j, d < 256 from fun d hd => by
      obtain ⟨_, _, _, _, _, hb, _⟩ := BYr.out
      exact hb d (List.mem_of_mem_drop (List.mem_of_mem_take hd)))
    clear nb hn hi2 hpj hij hlt hj
    rw [Nat.zero_add] at SLr
    go_upto_region 4 with (fail)
    refine wp_region_held_drew (S := fun _ => True) (by kernel_rfl) (trivial) (fun hHeld => ?_)
    try simp only [List.size_toArray, List.length_cons, List.length_nil, Nat.reduceAdd, Array.replicate_succ, Array.replicate_zero, List.push_toArray, List.nil_append, List.cons_append]
    refine wpAnyH_take (i := 0) (oi := { dst := some 17, op := Op.move (Operand.tmp 0), type := 24, pos := "journal.go:54", after := #[], guard := none }) (v := ?v1001) rfl (by kernel_rfl) (by kernel_rfl) (by kernel_rfl) (fun _ _ _ h => h) (Or.inl ⟨by rfl, ?hy1001⟩) hHeld ?_
    case hy1001 => (intro w hSw; (try dsimp only at hSw); go_simp; (try with_reducible rfl))
    (try simp only [Act.put, List.setIfInBounds_toArray, List.set_cons_zero, List.set_cons_succ])
    refine wpAnyH_take (i := 1) (oi := { dst := some 18, op := Op.move (Operand.tmp 1), type := 3, pos := "journal.go:54", after := #[], guard := none }) (v := ?v1002) rfl (by kernel_rfl) (by kernel_rfl) (by kernel_rfl) (fun _ _ _ h => h) (Or.inl ⟨by rfl, ?hy1002⟩) hHeld ?_
    case hy1002 => (intro w hSw; (try dsimp only at hSw); go_simp; (try with_reducible rfl))
    (try simp only [Act.put, List.setIfInBounds_toArray, List.set_cons_zero, List.set_cons_succ])
    refine wpAnyH_take (i := 2) (oi := { dst := some 19, op := Op.move (Operand.tmp 0), type := 24, pos := "journal.go:54", after := #[], guard := none }) (v := ?v1003) rfl (by kernel_rfl) (by kernel_rfl) (by kernel_rfl) (fun _ _ _ h => h) (Or.inl ⟨by rfl, ?hy1003⟩) hHeld ?_
    case hy1003 => (intro w hSw; (try dsimp only at hSw); go_simp; (try with_reducible rfl))
    (try simp only [Act.put, List.setIfInBounds_toArray, List.set_cons_zero, List.set_cons_succ])
    refine wpAnyH_take (i := 5) (oi := { dst := some 22, op := Op.move (Operand.tmp 2), type := 3, pos := "journal.go:54", after := #[], guard := none }) (v := ?v1004) rfl (by kernel_rfl) (by kernel_rfl) (by kernel_rfl) (fun _ _ _ h => h) (Or.inl ⟨by rfl, ?hy1004⟩) hHeld ?_
    case hy1004 => (intro w hSw; (try dsimp only at hSw); go_simp; (try with_reducible rfl))
    (try simp only [Act.put, List.setIfInBounds_toArray, List.set_cons_zero, List.set_cons_succ])
    refine wpAnyH_take (i := 7) (oi := { dst := some 24, op := Op.move (Operand.tmp 9), type := 3, pos := "journal.go:54", after := #[], guard := none }) (v := ?v1005) rfl (by kernel_rfl) (by kernel_rfl) (by kernel_rfl) (fun _ _ _ h => h) (Or.inl ⟨by rfl, ?hy1005⟩) hHeld ?_
    case hy1005 => (intro w hSw; (try dsimp only at hSw); go_simp; (try with_reducible rfl))
    (try simp only [Act.put, List.setIfInBounds_toArray, List.set_cons_zero, List.set_cons_succ])
    refine wpAnyH_take (i := 8) (oi := { dst := some 25, op := Op.binOp BinOp.quo 3 (Operand.tmp 24) (Operand.const (Value.int IntKind.i64 64)) 3, type := 3, pos := "journal.go:54", after := #[{ on := 7, ground := Ground.data }], guard := none }) (v := ?v1006) rfl (by kernel_rfl) (by kernel_rfl) (by kernel_rfl) (fun _ _ _ h => h) (Or.inl ⟨by rfl, ?hy1006⟩) hHeld ?_
    case hy1006 => (intro w hSw; (try dsimp only at hSw); go_simp; (try with_reducible rfl))
    (try simp only [Act.put, List.setIfInBounds_toArray, List.set_cons_zero, List.set_cons_succ])
    refine wpAnyH_take (i := 10) (oi := { dst := some 27, op := Op.move (Operand.tmp 3), type := 22, pos := "journal.go:54", after := #[], guard := none }) (v := ?v1007) rfl (by kernel_rfl) (by kernel_rfl) (by kernel_rfl) (fun _ _ _ h => h) (Or.inl ⟨by rfl, ?hy1007⟩) hHeld ?_
    case hy1007 => (intro w hSw; (try dsimp only at hSw); go_simp; (try with_reducible rfl))
    (try simp only [Act.put, List.setIfInBounds_toArray, List.set_cons_zero, List.set_cons_succ])
    refine wpAnyH_take (i := 11) (oi := { dst := some 28, op := Op.move (Operand.tmp 9), type := 3, pos := "journal.go:54", after := #[], guard := none }) (v := ?v1008) rfl (by kernel_rfl) (by kernel_rfl) (by kernel_rfl) (fun _ _ _ h => h) (Or.inl ⟨by rfl, ?hy1008⟩) hHeld ?_
    case hy1008 => (intro w hSw; (try dsimp only at hSw); go_simp; (try with_reducible rfl))
    (try simp only [Act.put, List.setIfInBounds_toArray, List.set_cons_zero, List.set_cons_succ])
    refine wpAnyH_take (i := 12) (oi := { dst := some 29, op := Op.move (Operand.tmp 9), type := 3, pos := "journal.go:54", after := #[], guard := none }) (v := ?v1009) rfl (by kernel_rfl) (by kernel_rfl) (by kernel_rfl) (fun _ _ _ h => h) (Or.inl ⟨by rfl, ?hy1009⟩) hHeld ?_
    case hy1009 => (intro w hSw; (try dsimp only at hSw); go_simp; (try with_reducible rfl))
    (try simp only [Act.put, List.setIfInBounds_toArray, List.set_cons_zero, List.set_cons_succ])
    refine wpAnyH_take (i := 13) (oi := { dst := some 30, op := Op.binOp BinOp.add 3 (Operand.tmp 29) (Operand.const (Value.int IntKind.i64 64)) 3, type := 3, pos := "journal.go:54", after := #[{ on := 12, ground := Ground.data }], guard := none }) (v := ?v1010) rfl (by kernel_rfl) (by kernel_rfl) (by kernel_rfl) (fun _ _ _ h => h) (Or.inl ⟨by rfl, ?hy1010⟩) hHeld ?_
    case hy1010 => (intro w hSw; (try dsimp only at hSw); go_simp; (try with_reducible rfl))
    (try simp only [Act.put, List.setIfInBounds_toArray, List.set_cons_zero, List.set_cons_succ])
    refine wpAnyH_take (i := 14) (oi := { dst := some 31, op := Op.slice 22 (Operand.tmp 27) (some (Operand.tmp 28)) (some (Operand.tmp 30)) none, type := 22, pos := "journal.go:54", after := #[{ on := 10, ground := Ground.data }, { on := 11, ground := Ground.data }, { on := 13, ground := Ground.data }], guard := none }) (v := ?v1011) rfl (by kernel_rfl) (by kernel_rfl) (by kernel_rfl) (fun _ _ _ h => h) (Or.inl ⟨by rfl, ?hy1011⟩) hHeld ?_
    case hy1011 => (intro w hSw; (try dsimp only at hSw); go_simp; (try with_reducible rfl))
    (try simp only [Act.put, List.setIfInBounds_toArray, List.set_cons_zero, List.set_cons_succ])
    refine wpAnyH_ready (rs := [3]) (by kernel_rfl) (by simp) ?_
    refine AllReadyH.cons (o := { dst := some 20, op := Op.call { callee := Callee.value (Operand.func 27), args := #[Operand.tmp 19], argTypes := #[24] }, type := 3, pos := "journal.go:54", after := #[{ on := 2, ground := Ground.data }], guard := none }) rfl (fun K hK => ?_) ?_
    go_simp; refine (dsize_walk (D.out.below (Below.refl _ _).drew)).mono ?_; rintro e wq ⟨rfl, rfl⟩; rw [← SZ.out]
    refine hK.out _ _ (trivial) (fun hHeld => ?_)
    clear hK K
    (try simp only [List.setIfInBounds_toArray, List.set_cons_zero, List.set_cons_succ])
    refine wpAnyH_take (i := 4) (oi := { dst := some 21, op := Op.binOp BinOp.mul 3 (Operand.tmp 18) (Operand.tmp 20) 3, type := 3, pos := "journal.go:54", after := #[{ on := 1, ground := Ground.data }, { on := 3, ground := Ground.data }], guard := none }) (v := ?v1012) rfl (by kernel_rfl) (by kernel_rfl) (by kernel_rfl) (fun _ _ _ h => h) (Or.inl ⟨by rfl, ?hy1012⟩) hHeld ?_
    case hy1012 => (intro w hSw; (try dsimp only at hSw); go_simp; (try with_reducible rfl))
    (try simp only [Act.put, List.setIfInBounds_toArray, List.set_cons_zero, List.set_cons_succ])
    refine wpAnyH_take (i := 6) (oi := { dst := some 23, op := Op.binOp BinOp.add 3 (Operand.tmp 21) (Operand.tmp 22) 3, type := 3, pos := "journal.go:54", after := #[{ on := 4, ground := Ground.data }, { on := 5, ground := Ground.data }], guard := none }) (v := ?v1013) rfl (by kernel_rfl) (by kernel_rfl) (by kernel_rfl) (fun _ _ _ h => h) (Or.inl ⟨by rfl, ?hy1013⟩) hHeld ?_
    case hy1013 => (intro w hSw; (try dsimp only at hSw); go_simp; (try with_reducible rfl))
    (try simp only [Act.put, List.setIfInBounds_toArray, List.set_cons_zero, List.set_cons_succ])
    refine wpAnyH_take (i := 9) (oi := { dst := some 26, op := Op.binOp BinOp.add 3 (Operand.tmp 23) (Operand.tmp 25) 3, type := 3, pos := "journal.go:54", after := #[{ on := 6, ground := Ground.data }, { on := 8, ground := Ground.data }], guard := none }) (v := ?v1014) rfl (by kernel_rfl) (by kernel_rfl) (by kernel_rfl) (fun _ _ _ h => h) (Or.inl ⟨by rfl, ?hy1014⟩) hHeld ?_
    case hy1014 => (intro w hSw; (try dsimp only at hSw); go_simp; (try with_reducible rfl))
    (try simp only [Act.put, List.setIfInBounds_toArray, List.set_cons_zero, List.set_cons_succ])
    refine wpAnyH_ready (rs := [15]) (by kernel_rfl) (by simp) ?_
    refine AllReadyH.cons (o := { dst := some 32, op := Op.call { callee := Callee.value (Operand.func 44), args := #[Operand.tmp 17, Operand.tmp 26, Operand.tmp 31], argTypes := #[24, 3, 22] }, type := 27, pos := "journal.go:54", after := #[{ on := 0, ground := Ground.data }, { on := 9, ground := Ground.data }, { on := 14, ground := Ground.data }, { on := 3, ground := Ground.chain }], guard := none }) rfl (fun K hK => ?_) ?_
    go_simp; refine (dwrite_walk (D.out.below (Below.refl _ _).drew) pj (by have := PJ.out; have := NB.out; have := LT.out; omega) _ (c - i) (chunk bs j) (SLr.out.below (Below.refl _ _).drew) hb8.out (by rw [HQ.out.1]; have := NB.out; have := LT.out; omega)).mono ?_; rintro e w6 ⟨rfl, d6, k6⟩; have D6 := hid d6; have K6 := hid k6; clear d6 k6
    refine hK.out _ _ (trivial) (fun hHeld => ?_)
    clear hK K
    (try simp only [List.setIfInBounds_toArray, List.set_cons_zero, List.set_cons_succ])
    refine wpAnyH_take (i := 16) (oi := { dst := some 10, op := Op.assign (Operand.tmp 32), type := 27, pos := "journal.go:54", after := #[{ on := 15, ground := Ground.data }, { on := 15, ground := Ground.chain }, { on := 0, ground := Ground.phase }, { on := 1, ground := Ground.phase }, { on := 2, ground := Ground.phase }, { on := 3, ground := Ground.phase }, { on := 4, ground := Ground.phase }, { on := 5, ground := Ground.phase }, { on := 6, ground := Ground.phase }, { on := 7, ground := Ground.phase }, { on := 8, ground := Ground.phase }, { on := 9, ground := Ground.phase }, { on := 10, ground := Ground.phase }, { on := 11, ground := Ground.phase }, { on := 12, ground := Ground.phase }, { on := 13, ground := Ground.phase }, { on := 14, ground := Ground.phase }, { on := 15, ground := Ground.phase }], guard := none }) (v := ?v1015) rfl (by kernel_rfl) (by kernel_rfl) (by kernel_rfl) (fun _ _ _ h => h) (Or.inl ⟨by rfl, ?hy1015⟩) hHeld ?_
    case hy1015 => (intro w hSw; (try dsimp only at hSw); go_simp; (try with_reducible rfl))
    (try simp only [Act.put, List.setIfInBounds_toArray, List.set_cons_zero, List.set_cons_succ])
    refine wpAnyH_done (by kernel_rfl) ?_ _
    rotate_left
    exact AllReadyH.nil
    exact AllReadyH.nil
    all_goals
      obtain ⟨qv', v', d6, n6⟩ := D6.out
      have I6 := hid (show LayI w db B sv C p bs (j + 1) w6 from by
        refine ⟨⟨_, qv', d6, by rw [List.length_append, HQ.out.1]; rfl, ?_, fun g hg => ?_⟩, ?_⟩
        · rw [layQ_snoc, HQ.out.2]
          show (layB C p bs j).set pj (chunk bs j) = (layB C p bs j).set (p + j) (chunk bs j)
          rw [PJ.out]
        · rcases n6 with h | h
          · exact FR.out g (h ▸ hg)
          · exact Nat.le_trans KK.out.size (h g hg)
        · refine KK.out.then ((Keep.of (S := fun i => i = db ∨ qv.ownBlock = some i) (Below.refl _ wr).drew).trans K6.out) (fun i hi e => ?_)
          rcases e with e | e
          · exact e
          · have := FR.out i e; omega)
      clear D6 K6 hHeld d6 n6 r1 r2 r3 r3' r4 s1 s2 s3 s4 s5 s6 s7 s8
      go_wp2_with (fail)
      go_roundw
      case rel => exact ⟨j + 1, i2, by have := I2.out; have := IJ.out; omega, by have := LT.out; omega, by go_num, I6.out⟩
      case measure => simp [intOf]; have := I2.out; have := IJ.out; have := LT.out; omega
end Go.Proofs.YtnophelfpoldfaaGreatDoor

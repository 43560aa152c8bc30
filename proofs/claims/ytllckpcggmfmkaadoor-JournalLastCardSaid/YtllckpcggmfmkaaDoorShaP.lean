/- Plain: the digest of bytes (a block into a state; blocks one behind the other; what is laid behind). No program in sight. -/
import Derived.Test.YtllckpcggmfmkaaDoorByt
namespace Go.Proofs.YtllckpcggmfmkaaDoor

def rot (n x : Nat) : Nat := x / 2 ^ n ||| x * 2 ^ (32 - n) % 4294967296
def sgp (x : Nat) : Nat := rot 7 x ^^^ rot 18 x ^^^ x / 8
def sgq (x : Nat) : Nat := rot 17 x ^^^ rot 19 x ^^^ x / 1024
def sga (a : Nat) : Nat := rot 2 a ^^^ rot 13 a ^^^ rot 22 a
def sge (e : Nat) : Nat := rot 6 e ^^^ rot 11 e ^^^ rot 25 e
def chf (e f g : Nat) : Nat := (e &&& f) ^^^ ((4294967295 - e) &&& g)
def maj (a b c : Nat) : Nat := (a &&& b) ^^^ (a &&& c) ^^^ (b &&& c)
def word (b : List Nat) (i : Nat) : Nat := ((b.getD (4 * i) 0 * 256 + b.getD (4 * i + 1) 0) * 256 + b.getD (4 * i + 2) 0) * 256 + b.getD (4 * i + 3) 0
def wnext (w : List Nat) (i : Nat) : Nat := (w.getD (i - 16) 0 + sgp (w.getD (i - 15) 0) + w.getD (i - 7) 0 + sgq (w.getD (i - 2) 0)) % 4294967296
def wordsN (b : List Nat) : Nat → List Nat
  | 0 => []
  | n + 1 => wordsN b n ++ [word b n]
def schedN (b : List Nat) : Nat → List Nat
  | 0 => wordsN b 16
  | n + 1 => schedN b n ++ [wnext (schedN b n) (16 + n)]
structure St where
  a : Nat
  b : Nat
  c : Nat
  d : Nat
  e : Nat
  f : Nat
  g : Nat
  h : Nat
def St.step (s : St) (k w : Nat) : St :=
  ⟨((s.h + sge s.e + chf s.e s.f s.g + k + w) + (sga s.a + maj s.a s.b s.c)) % 4294967296, s.a, s.b, s.c, (s.d + (s.h + sge s.e + chf s.e s.f s.g + k + w)) % 4294967296, s.e, s.f, s.g⟩
def St.rounds (s : St) (K W : List Nat) : Nat → St
  | 0 => s
  | n + 1 => (s.rounds K W n).step (K.getD n 0) (W.getD n 0)
def St.list (s : St) : List Nat := [s.a, s.b, s.c, s.d, s.e, s.f, s.g, s.h]
def stOf (S : List Nat) : St := ⟨S.getD 0 0, S.getD 1 0, S.getD 2 0, S.getD 3 0, S.getD 4 0, S.getD 5 0, S.getD 6 0, S.getD 7 0⟩
def addL (S T : List Nat) : List Nat := List.zipWith (fun x y => (x + y) % 4294967296) S T
/-- a block of 64 bytes into a state of 8 words -/
def comp (K S b : List Nat) : List Nat := addL S ((stOf S).rounds K (schedN b 48) 64).list
def runB (K S bs : List Nat) : Nat → List Nat
  | 0 => S
  | k + 1 => comp K (runB K S bs k) ((bs.drop (64 * k)).take 64)
def bytes4 (x : Nat) : List Nat := [x / 16777216 % 256, x / 65536 % 256, x / 256 % 256, x % 256]
def beN : Nat → Nat → List Nat
  | 0, _ => []
  | n + 1, x => x / 256 ^ n % 256 :: beN n x
/-- what is laid behind: 128, noughts, the size in bits -/
def padN (n : Nat) : List Nat := 128 :: (List.replicate (if n % 64 < 56 then 55 - n % 64 else 119 - n % 64) 0 ++ beN 8 (n * 8 % 18446744073709551616))
def hashS (K S b : List Nat) : List Nat := (runB K S (b ++ padN b.length) ((b ++ padN b.length).length / 64)).flatMap bytes4
def H0 : List Nat := [0x6a09e667, 0xbb67ae85, 0x3c6ef372, 0xa54ff53a, 0x510e527f, 0x9b05688c, 0x1f83d9ab, 0x5be0cd19]
def K0 : List Nat := [
  0x428a2f98, 0x71374491, 0xb5c0fbcf, 0xe9b5dba5, 0x3956c25b, 0x59f111f1, 0x923f82a4, 0xab1c5ed5,
  0xd807aa98, 0x12835b01, 0x243185be, 0x550c7dc3, 0x72be5d74, 0x80deb1fe, 0x9bdc06a7, 0xc19bf174,
  0xe49b69c1, 0xefbe4786, 0x0fc19dc6, 0x240ca1cc, 0x2de92c6f, 0x4a7484aa, 0x5cb0a9dc, 0x76f988da,
  0x983e5152, 0xa831c66d, 0xb00327c8, 0xbf597fc7, 0xc6e00bf3, 0xd5a79147, 0x06ca6351, 0x14292967,
  0x27b70a85, 0x2e1b2138, 0x4d2c6dfc, 0x53380d13, 0x650a7354, 0x766a0abb, 0x81c2c92e, 0x92722c85,
  0xa2bfe8a1, 0xa81a664b, 0xc24b8b70, 0xc76c51a3, 0xd192e819, 0xd6990624, 0xf40e3585, 0x106aa070,
  0x19a4c116, 0x1e376c08, 0x2748774c, 0x34b0bcb5, 0x391c0cb3, 0x4ed8aa4a, 0x5b9cca4f, 0x682e6ff3,
  0x748f82ee, 0x78a5636f, 0x84c87814, 0x8cc70208, 0x90befffa, 0xa4506ceb, 0xbef9a3f7, 0xc67178f2]
def sha (b : List Nat) : List Nat := hashS K0 H0 b
theorem sha_abc : (sha [97, 98, 99]).take 4 = [0xba, 0x78, 0x16, 0xbf] := by decide +kernel
theorem sha_nil : (sha []).getD 0 0 = 0xe3 ∧ (sha []).getD 31 0 = 0x55 := by decide +kernel

theorem rot_lt {n x : Nat} (hx : x < 4294967296) : rot n x < 4294967296 := by
  unfold rot
  have h1 : x / 2 ^ n < 2 ^ 32 := Nat.lt_of_le_of_lt (Nat.div_le_self _ _) (by omega)
  exact Nat.or_lt_two_pow h1 (by omega)
theorem xor_lt {x y : Nat} (hx : x < 4294967296) (hy : y < 4294967296) : x ^^^ y < 4294967296 := Nat.xor_lt_two_pow (n := 32) hx hy
theorem and_lt {x y : Nat} (hy : y < 4294967296) : x &&& y < 4294967296 := Nat.and_lt_two_pow (n := 32) _ hy
theorem chf_lt {e f g : Nat} (hf : f < 4294967296) (hg : g < 4294967296) : chf e f g < 4294967296 := xor_lt (and_lt hf) (and_lt hg)
theorem maj_lt {a b c : Nat} (hb : b < 4294967296) (hc : c < 4294967296) : maj a b c < 4294967296 := xor_lt (xor_lt (and_lt hb) (and_lt hc)) (and_lt hc)
theorem sga_lt {x : Nat} (hx : x < 4294967296) : sga x < 4294967296 := xor_lt (xor_lt (rot_lt hx) (rot_lt hx)) (rot_lt hx)
theorem sge_lt {x : Nat} (hx : x < 4294967296) : sge x < 4294967296 := xor_lt (xor_lt (rot_lt hx) (rot_lt hx)) (rot_lt hx)
theorem sgp_lt {x : Nat} (hx : x < 4294967296) : sgp x < 4294967296 := xor_lt (xor_lt (rot_lt hx) (rot_lt hx)) (by omega)
theorem sgq_lt {x : Nat} (hx : x < 4294967296) : sgq x < 4294967296 := xor_lt (xor_lt (rot_lt hx) (rot_lt hx)) (by omega)
theorem getDlt {l : List Nat} {M : Nat} (h : ∀ d ∈ l, d < M) (hM : 0 < M) (i : Nat) : l.getD i 0 < M := by
  rw [List.getD_eq_getElem?_getD]
  cases hi : l[i]? with
  | none => exact hM
  | some v => exact h v (List.mem_of_getElem? hi)
theorem word_lt {b : List Nat} (h : ∀ d ∈ b, d < 256) (i : Nat) : word b i < 4294967296 := by
  have h0 := getDlt h (by omega) (4 * i)
  have h1 := getDlt h (by omega) (4 * i + 1)
  have h2 := getDlt h (by omega) (4 * i + 2)
  have h3 := getDlt h (by omega) (4 * i + 3)
  unfold word
  omega
theorem wordsN_len (b : List Nat) (n : Nat) : (wordsN b n).length = n := by
  induction n with
  | zero => rfl
  | succ n ih => simp [wordsN, ih]
theorem schedN_len (b : List Nat) (n : Nat) : (schedN b n).length = 16 + n := by
  induction n with
  | zero => exact wordsN_len b 16
  | succ n ih => simp [schedN, ih]; omega
theorem wordsN_lt {b : List Nat} (h : ∀ d ∈ b, d < 256) (n : Nat) : ∀ x ∈ wordsN b n, x < 4294967296 := by
  induction n with
  | zero => simp [wordsN]
  | succ n ih =>
    intro x hx
    simp only [wordsN, List.mem_append, List.mem_singleton] at hx
    rcases hx with hx | rfl
    · exact ih x hx
    · exact word_lt h n
theorem schedN_lt {b : List Nat} (h : ∀ d ∈ b, d < 256) (n : Nat) : ∀ x ∈ schedN b n, x < 4294967296 := by
  induction n with
  | zero => exact wordsN_lt h 16
  | succ n ih =>
    intro x hx
    simp only [schedN, List.mem_append, List.mem_singleton] at hx
    rcases hx with hx | rfl
    · exact ih x hx
    · exact Nat.mod_lt _ (by omega)
structure St.ok (s : St) : Prop where
  a : s.a < 4294967296
  b : s.b < 4294967296
  c : s.c < 4294967296
  d : s.d < 4294967296
  e : s.e < 4294967296
  f : s.f < 4294967296
  g : s.g < 4294967296
  h : s.h < 4294967296
theorem St.ok.step {s : St} (h : s.ok) (k w : Nat) : (s.step k w).ok := ⟨Nat.mod_lt _ (by omega), h.a, h.b, h.c, Nat.mod_lt _ (by omega), h.e, h.f, h.g⟩
theorem St.ok.rounds {s : St} (h : s.ok) (K W : List Nat) (n : Nat) : (s.rounds K W n).ok := by
  induction n with
  | zero => exact h
  | succ n ih => exact ih.step _ _
theorem stOf_ok {S : List Nat} (h : ∀ d ∈ S, d < 4294967296) : (stOf S).ok :=
  ⟨getDlt h (by omega) _, getDlt h (by omega) _, getDlt h (by omega) _, getDlt h (by omega) _, getDlt h (by omega) _, getDlt h (by omega) _, getDlt h (by omega) _, getDlt h (by omega) _⟩
theorem comp_len {K S b : List Nat} (h : S.length = 8) : (comp K S b).length = 8 := by simp [comp, addL, h, St.list]
theorem comp_lt {K S b : List Nat} : ∀ d ∈ comp K S b, d < 4294967296 := by
  intro d hd
  unfold comp addL at hd
  obtain ⟨i, hi, rfl⟩ := List.getElem_of_mem hd
  rw [List.getElem_zipWith]
  exact Nat.mod_lt _ (by omega)
theorem runB_len {K S bs : List Nat} (h : S.length = 8) (n : Nat) : (runB K S bs n).length = 8 := by
  induction n with
  | zero => exact h
  | succ n ih => exact comp_len ih
theorem runB_lt {K S bs : List Nat} (h : ∀ d ∈ S, d < 4294967296) (n : Nat) : ∀ d ∈ runB K S bs n, d < 4294967296 := by
  cases n with
  | zero => exact h
  | succ n => exact comp_lt
/-- only the blocks count -/
theorem runB_front {K S : List Nat} (xs ys : List Nat) (n : Nat) (h : 64 * n ≤ xs.length) : runB K S (xs ++ ys) n = runB K S xs n := by
  induction n with
  | zero => rfl
  | succ n ih =>
    rw [runB, runB, ih (by omega), List.drop_append_of_le_length (by omega), List.take_append_of_le_length (by rw [List.length_drop]; omega)]
theorem runB_take {K S : List Nat} (xs : List Nat) (n m : Nat) (h : 64 * n ≤ m) : runB K S (xs.take m) n = runB K S xs n := by
  by_cases hm : m ≤ xs.length
  · conv => rhs; rw [← List.take_append_drop m xs]
    rw [runB_front _ _ _ (by simp; omega)]
  · rw [List.take_of_length_le (by omega)]
/-- first some blocks, then others -/
theorem runB_add {K S : List Nat} (xs : List Nat) (n m : Nat) : runB K S xs (n + m) = runB K (runB K S xs n) (xs.drop (64 * n)) m := by
  induction m with
  | zero => rfl
  | succ m ih => rw [← Nat.add_assoc, runB, runB, ih, List.drop_drop, show 64 * (n + m) = 64 * n + 64 * m by omega]
end Go.Proofs.YtllckpcggmfmkaaDoor

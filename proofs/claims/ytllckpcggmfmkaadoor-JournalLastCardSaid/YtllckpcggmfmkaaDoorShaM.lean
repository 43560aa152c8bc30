/- The walk of sha.mix: a block into a state. -/
import Derived.Test.YtllckpcggmfmkaaDoorShaR
import Derived.Test.YtllckpcggmfmkaaDoorHash
import Derived.Outline
namespace Go.Proofs.YtllckpcggmfmkaaDoor
open Go.RowKit

/-- the tables of the program lie as its text has them -/
def Tabs (w : World) : Prop := (∀ i, i < 8 → w.cell? ⟨0, i, none⟩ = some (.int .u32 ((H0.getD i 0 : Nat) : Int))) ∧ ∀ i, i < 64 → w.cell? ⟨1, i, none⟩ = some (.int .u32 ((K0.getD i 0 : Nat) : Int))
theorem Tabs.below {w w' : World} (h : Tabs w) (hb : Below w.heap.size w w') : Tabs w' :=
  ⟨fun i hi => by rw [hb.cell (World.block_lt_of_cell? w _ (h.1 i hi))]; exact h.1 i hi, fun i hi => by rw [hb.cell (World.block_lt_of_cell? w _ (h.2 i hi))]; exact h.2 i hi⟩
def padW (l : List Nat) (n : Nat) : List Nat := l ++ List.replicate (n - l.length) 0
theorem padW_len {l : List Nat} {n : Nat} (h : l.length ≤ n) : (padW l n).length = n := by simp [padW]; omega
theorem padW_set {l : List Nat} {n k : Nat} (hl : l.length = k) (hk : k < n) (d : Nat) : (padW l n).set k d = padW (l ++ [d]) n := by
  subst hl
  obtain ⟨m, hm⟩ : ∃ m, n - l.length = m + 1 := ⟨n - l.length - 1, by omega⟩
  have h2 : n - (l ++ [d]).length = m := by simp; omega
  unfold padW
  rw [hm, h2, List.set_append_right _ _ (Nat.le_refl _), Nat.sub_self, List.replicate_succ, List.set_cons_zero]
  simp
theorem padW_get {l : List Nat} {n i : Nat} (h : i < l.length) : (padW l n).getD i 0 = l.getD i 0 := by
  simp [padW, List.getD_eq_getElem?_getD, List.getElem?_append_left h]
theorem pad_zero' (n : Nat) : nums .u32 (padW [] n) = List.replicate n (Value.int .u32 0) := by simp [padW, nums]
theorem pad_zero : nums .u32 (padW [] 64) = List.replicate 64 (Value.int .u32 0) := pad_zero' 64
theorem or4 {a b c d : Nat} (ha : a < 256) (hb : b < 256) (hc : c < 256) (hd : d < 256) :
    bits .or .u32 (bits .or .u32 (bits .or .u32 ((a : Int) * 16777216) ((b : Int) * 65536)) ((c : Int) * 256)) (d : Int) = ((((a * 256 + b) * 256 + c) * 256 + d : Nat) : Int) := by
  rw [show (a : Int) * 16777216 = ((a * 16777216 : Nat) : Int) by omega, show (b : Int) * 65536 = ((b * 65536 : Nat) : Int) by omega, show (c : Int) * 256 = ((c * 256 : Nat) : Int) by omega]
  rw [u32_or_nat _ _ (by omega) (by omega), nat_join 24 _ _ (by omega) (by omega), u32_or_nat _ _ (by omega) (by omega), nat_join 16 _ _ (by omega) (by omega), u32_or_nat _ _ (by omega) (by omega), nat_join 8 _ _ (by omega) (by omega)]
  omega
theorem sgp_rule {x : Nat} (hx : x < 4294967296) : bits .xor .u32 (bits .xor .u32 ((rot 7 x : Nat) : Int) ((rot 18 x : Nat) : Int)) ((x : Int) / 8) = ((sgp x : Nat) : Int) := by
  rw [show (x : Int) / 8 = ((x / 8 : Nat) : Int) by omega, u32_xor_nat _ _ (rot_lt hx) (rot_lt hx), u32_xor_nat _ _ (xor_lt (rot_lt hx) (rot_lt hx)) (by omega)]; rfl
theorem sgq_rule {x : Nat} (hx : x < 4294967296) : bits .xor .u32 (bits .xor .u32 ((rot 17 x : Nat) : Int) ((rot 19 x : Nat) : Int)) ((x : Int) / 1024) = ((sgq x : Nat) : Int) := by
  rw [show (x : Int) / 1024 = ((x / 1024 : Nat) : Int) by omega, u32_xor_nat _ _ (rot_lt hx) (rot_lt hx), u32_xor_nat _ _ (xor_lt (rot_lt hx) (rot_lt hx)) (by omega)]; rfl
theorem sge_rule {x : Nat} (hx : x < 4294967296) : bits .xor .u32 (bits .xor .u32 ((rot 6 x : Nat) : Int) ((rot 11 x : Nat) : Int)) ((rot 25 x : Nat) : Int) = ((sge x : Nat) : Int) := by
  rw [u32_xor_nat _ _ (rot_lt hx) (rot_lt hx), u32_xor_nat _ _ (xor_lt (rot_lt hx) (rot_lt hx)) (rot_lt hx)]; rfl
theorem sga_rule {x : Nat} (hx : x < 4294967296) : bits .xor .u32 (bits .xor .u32 ((rot 2 x : Nat) : Int) ((rot 13 x : Nat) : Int)) ((rot 22 x : Nat) : Int) = ((sga x : Nat) : Int) := by
  rw [u32_xor_nat _ _ (rot_lt hx) (rot_lt hx), u32_xor_nat _ _ (xor_lt (rot_lt hx) (rot_lt hx)) (rot_lt hx)]; rfl
theorem not_u32 {e : Nat} (he : e < 4294967296) : bits .xor .u32 4294967295 (e : Int) = ((4294967295 - e : Nat) : Int) := by
  have h : (4294967295 : Nat) ^^^ e = 4294967295 - e := by
    rw [show (4294967295 : Nat) - e = 2 ^ 32 - (e + 1) by omega]
    apply Nat.eq_of_testBit_eq
    intro i
    rw [Nat.testBit_two_pow_sub_succ (by omega), Nat.testBit_xor, show (4294967295 : Nat) = 2 ^ 32 - 1 by rfl, Nat.testBit_two_pow_sub_one]
    by_cases hi : i < 32
    · simp [hi]
    · have : e.testBit i = false := Nat.testBit_lt_two_pow (Nat.lt_of_lt_of_le (show e < 2 ^ 32 by omega) (Nat.pow_le_pow_right (by omega) (by omega)))
      simp [hi, this]
  have := u32_xor_nat 4294967295 e (by omega) he
  rw [h] at this
  exact this
theorem ch_rule {e f g : Nat} (he : e < 4294967296) (hf : f < 4294967296) (hg : g < 4294967296) : bits .xor .u32 (bits .and .u32 (e : Int) (f : Int)) (bits .and .u32 (bits .xor .u32 4294967295 (e : Int)) (g : Int)) = ((chf e f g : Nat) : Int) := by
  rw [not_u32 he, u32_and_nat _ _ he hf, u32_and_nat _ _ (by omega) hg, u32_xor_nat _ _ (and_lt hf) (and_lt hg)]; rfl
theorem maj_rule {a b c : Nat} (ha : a < 4294967296) (hb : b < 4294967296) (hc : c < 4294967296) : bits .xor .u32 (bits .xor .u32 (bits .and .u32 (a : Int) (b : Int)) (bits .and .u32 (a : Int) (c : Int))) (bits .and .u32 (b : Int) (c : Int)) = ((maj a b c : Nat) : Int) := by
  rw [u32_and_nat _ _ ha hb, u32_and_nat _ _ ha hc, u32_and_nat _ _ hb hc, u32_xor_nat _ _ (and_lt hb) (and_lt hc), u32_xor_nat _ _ (xor_lt (and_lt hb) (and_lt hc)) (and_lt hc)]; rfl
/-- cells of an array that are set, one behind the other -/
def putN (cur : Array Value) (so : Nat) (L : List Nat) : Nat → Array Value
  | 0 => cur
  | k + 1 => (putN cur so L k).setIfInBounds (so + k) (.int .u32 ((L.getD k 0 : Nat) : Int))
theorem putN_size (cur : Array Value) (so : Nat) (L : List Nat) (k : Nat) : (putN cur so L k).size = cur.size := by
  induction k with
  | zero => rfl
  | succ k ih => simp [putN, ih]
theorem putN_far (cur : Array Value) (so : Nat) (L : List Nat) (k j : Nat) (h : j < so ∨ so + k ≤ j) : (putN cur so L k)[j]? = cur[j]? := by
  induction k with
  | zero => rfl
  | succ k ih => rw [putN, Array.getElem?_setIfInBounds_ne (by omega), ih (by omega)]
theorem putN_in (cur : Array Value) (so : Nat) (L : List Nat) (k i : Nat) (h : i < k) (hs : so + i < cur.size) : (putN cur so L k)[so + i]? = some (.int .u32 ((L.getD i 0 : Nat) : Int)) := by
  induction k with
  | zero => omega
  | succ k ih =>
    rw [putN]
    by_cases hk : i = k
    · subst hk
      rw [Array.getElem?_setIfInBounds_self_of_lt (by rw [putN_size]; exact hs)]
    · rw [Array.getElem?_setIfInBounds_ne (by omega), ih (by omega)]
theorem K0_lt : ∀ d ∈ K0, d < 4294967296 := by decide
theorem H0_lt : ∀ d ∈ H0, d < 4294967296 := by decide
def RndRel (s : St) (W : List Nat) (x11 x12 x13 x14 x15 x16 x17 x18 x0 : Value) : Prop :=
  ∃ n a b c d e f g h : Nat, n ≤ 64 ∧ x0 = .int .i64 n ∧ x11 = .int .u32 a ∧ x12 = .int .u32 b ∧ x13 = .int .u32 c ∧ x14 = .int .u32 d ∧ x15 = .int .u32 e ∧ x16 = .int .u32 f ∧ x17 = .int .u32 g ∧ x18 = .int .u32 h ∧ Hid (St.mk a b c d e f g h = s.rounds K0 W n) ∧ (St.mk a b c d e f g h).ok
theorem list8_of {S : List Nat} (h : S.length = 8) {z0 z1 z2 z3 z4 z5 z6 z7 : Nat} (e : stOf S = ⟨z0, z1, z2, z3, z4, z5, z6, z7⟩) : S = [z0, z1, z2, z3, z4, z5, z6, z7] := by
  match S, h with
  | [a, b, c, d, e1, f, g, h1], _ =>
    simp only [stOf, List.getD_cons_zero, List.getD_cons_succ, St.mk.injEq] at e
    obtain ⟨rfl, rfl, rfl, rfl, rfl, rfl, rfl, rfl⟩ := e
    rfl
theorem comp_eq {S blk : List Nat} (h : S.length = 8) {z0 z1 z2 z3 z4 z5 z6 z7 a b c d e f g h1 : Nat} (e0 : stOf S = ⟨z0, z1, z2, z3, z4, z5, z6, z7⟩)
    (e1 : St.mk a b c d e f g h1 = (St.mk z0 z1 z2 z3 z4 z5 z6 z7).rounds K0 (schedN blk 48) 64) : comp K0 S blk = [(z0 + a) % 4294967296, (z1 + b) % 4294967296, (z2 + c) % 4294967296, (z3 + d) % 4294967296, (z4 + e) % 4294967296, (z5 + f) % 4294967296, (z6 + g) % 4294967296, (z7 + h1) % 4294967296] := by
  have hs := list8_of h e0
  unfold comp
  rw [e0, ← e1, hs]
  rfl
theorem addM (z x : Nat) : ((z : Int) + (x : Int)) % 4294967296 = (((z + x) % 4294967296 : Nat) : Int) := by omega
def MixRes (H so : Nat) (T : TypeId) (cur : Array Value) (L : List Nat) (w : World) (e : Ending) (w' : World) : Prop := e = .returned (.tuple #[]) ∧ Far H w w' ∧ w'.heap[H]? = some (.cells (putN cur so L 8) T (0, 0))
end Go.Proofs.YtllckpcggmfmkaaDoor

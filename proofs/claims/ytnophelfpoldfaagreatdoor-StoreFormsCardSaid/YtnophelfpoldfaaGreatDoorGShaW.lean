/- Contracts of math/bits.RotateLeft32 at the counts that the digest uses. -/
import Derived.Test.YtnophelfpoldfaaGreatDoorGShaP
import Derived.Laws.BitsAllLaws
import Derived.Test.YtnophelfpoldfaaGreatDoorGKey
import Derived.Outline
namespace Go.Proofs.YtnophelfpoldfaaGreatDoor
open Go.RowKit

theorem rot_or (n x : Nat) (hx : x < 4294967296) : bits .or .u32 ((x * 2 ^ (32 - n) % 4294967296 : Nat) : Int) ((x / 2 ^ n : Nat) : Int) = ((rot n x : Nat) : Int) := by
  rw [u32_or_nat _ _ (Nat.mod_lt _ (by omega)) (Nat.lt_of_le_of_lt (Nat.div_le_self _ _) hx), Nat.or_comm]
  rfl
theorem shl_u32 (x c : Nat) : IntKind.u32.wrap ((x : Int) * (c : Int)) = ((x * c % 4294967296 : Nat) : Int) := by
  rw [IntKind.wrap_u32]; omega
theorem rot2_walk (x : Nat) (hx : x < 4294967296) (w : World) : Calls Tryz.prog 86 #[.int .u32 (x : Int), .int .i64 (-2)] w fun e w' => e = .returned (.int .u32 ((rot 2 x : Nat) : Int)) ∧ w = w' := by
  have R := hid (rot_or 2 x hx)
  have e1 : bits .and .u64 (IntKind.u64.wrap (-2)) 31 = 30 := by decide
  go_enter Tryz.func86, Tryz.ntmps86
  go_wp2
  go_ret
  exact ⟨by rw [← R.out]; rfl, rfl⟩
theorem rot6_walk (x : Nat) (hx : x < 4294967296) (w : World) : Calls Tryz.prog 86 #[.int .u32 (x : Int), .int .i64 (-6)] w fun e w' => e = .returned (.int .u32 ((rot 6 x : Nat) : Int)) ∧ w = w' := by
  have R := hid (rot_or 6 x hx)
  have e1 : bits .and .u64 (IntKind.u64.wrap (-6)) 31 = 26 := by decide
  go_enter Tryz.func86, Tryz.ntmps86
  go_wp2
  go_ret
  exact ⟨by rw [← R.out]; rfl, rfl⟩
theorem rot7_walk (x : Nat) (hx : x < 4294967296) (w : World) : Calls Tryz.prog 86 #[.int .u32 (x : Int), .int .i64 (-7)] w fun e w' => e = .returned (.int .u32 ((rot 7 x : Nat) : Int)) ∧ w = w' := by
  have R := hid (rot_or 7 x hx)
  have e1 : bits .and .u64 (IntKind.u64.wrap (-7)) 31 = 25 := by decide
  go_enter Tryz.func86, Tryz.ntmps86
  go_wp2
  go_ret
  exact ⟨by rw [← R.out]; rfl, rfl⟩
theorem rot11_walk (x : Nat) (hx : x < 4294967296) (w : World) : Calls Tryz.prog 86 #[.int .u32 (x : Int), .int .i64 (-11)] w fun e w' => e = .returned (.int .u32 ((rot 11 x : Nat) : Int)) ∧ w = w' := by
  have R := hid (rot_or 11 x hx)
  have e1 : bits .and .u64 (IntKind.u64.wrap (-11)) 31 = 21 := by decide
  go_enter Tryz.func86, Tryz.ntmps86
  go_wp2
  go_ret
  exact ⟨by rw [← R.out]; rfl, rfl⟩
theorem rot13_walk (x : Nat) (hx : x < 4294967296) (w : World) : Calls Tryz.prog 86 #[.int .u32 (x : Int), .int .i64 (-13)] w fun e w' => e = .returned (.int .u32 ((rot 13 x : Nat) : Int)) ∧ w = w' := by
  have R := hid (rot_or 13 x hx)
  have e1 : bits .and .u64 (IntKind.u64.wrap (-13)) 31 = 19 := by decide
  go_enter Tryz.func86, Tryz.ntmps86
  go_wp2
  go_ret
  exact ⟨by rw [← R.out]; rfl, rfl⟩
theorem rot17_walk (x : Nat) (hx : x < 4294967296) (w : World) : Calls Tryz.prog 86 #[.int .u32 (x : Int), .int .i64 (-17)] w fun e w' => e = .returned (.int .u32 ((rot 17 x : Nat) : Int)) ∧ w = w' := by
  have R := hid (rot_or 17 x hx)
  have e1 : bits .and .u64 (IntKind.u64.wrap (-17)) 31 = 15 := by decide
  go_enter Tryz.func86, Tryz.ntmps86
  go_wp2
  go_ret
  exact ⟨by rw [← R.out]; rfl, rfl⟩
theorem rot18_walk (x : Nat) (hx : x < 4294967296) (w : World) : Calls Tryz.prog 86 #[.int .u32 (x : Int), .int .i64 (-18)] w fun e w' => e = .returned (.int .u32 ((rot 18 x : Nat) : Int)) ∧ w = w' := by
  have R := hid (rot_or 18 x hx)
  have e1 : bits .and .u64 (IntKind.u64.wrap (-18)) 31 = 14 := by decide
  go_enter Tryz.func86, Tryz.ntmps86
  go_wp2
  go_ret
  exact ⟨by rw [← R.out]; rfl, rfl⟩
theorem rot19_walk (x : Nat) (hx : x < 4294967296) (w : World) : Calls Tryz.prog 86 #[.int .u32 (x : Int), .int .i64 (-19)] w fun e w' => e = .returned (.int .u32 ((rot 19 x : Nat) : Int)) ∧ w = w' := by
  have R := hid (rot_or 19 x hx)
  have e1 : bits .and .u64 (IntKind.u64.wrap (-19)) 31 = 13 := by decide
  go_enter Tryz.func86, Tryz.ntmps86
  go_wp2
  go_ret
  exact ⟨by rw [← R.out]; rfl, rfl⟩
theorem rot22_walk (x : Nat) (hx : x < 4294967296) (w : World) : Calls Tryz.prog 86 #[.int .u32 (x : Int), .int .i64 (-22)] w fun e w' => e = .returned (.int .u32 ((rot 22 x : Nat) : Int)) ∧ w = w' := by
  have R := hid (rot_or 22 x hx)
  have e1 : bits .and .u64 (IntKind.u64.wrap (-22)) 31 = 10 := by decide
  go_enter Tryz.func86, Tryz.ntmps86
  go_wp2
  go_ret
  exact ⟨by rw [← R.out]; rfl, rfl⟩
theorem rot25_walk (x : Nat) (hx : x < 4294967296) (w : World) : Calls Tryz.prog 86 #[.int .u32 (x : Int), .int .i64 (-25)] w fun e w' => e = .returned (.int .u32 ((rot 25 x : Nat) : Int)) ∧ w = w' := by
  have R := hid (rot_or 25 x hx)
  have e1 : bits .and .u64 (IntKind.u64.wrap (-25)) 31 = 7 := by decide
  go_enter Tryz.func86, Tryz.ntmps86
  go_wp2
  go_ret
  exact ⟨by rw [← R.out]; rfl, rfl⟩
end Go.Proofs.YtnophelfpoldfaaGreatDoor

/- The walk of sha.mix: a block into a state. -/
namespace Go.Proofs.YtnophelfpoldfaaGreatDoor
open Go.RowKit

/-- the tables of the program lie as its text has them -/
def Tabs (w : World) : Prop := (∀ i, i < 8 → w.cell? ⟨1, i, none⟩ = some (.int .u32 ((H0.getD i 0 : Nat) : Int))) ∧ ∀ i, i < 64 → w.cell? ⟨2, i, none⟩ = some (.int .u32 ((K0.getD i 0 : Nat) : Int))
theorem Tabs.below {w w' : World} (h : Tabs w) (hb : Below w.heap.size w w') : Tabs w' :=
  ⟨fun i hi => by rw [hb.cell (World.block_lt_of_cell? w _ (h.1 i hi))]; exact h.1 i hi, fun i hi => by rw [hb.cell (World.block_lt_of_cell? w _ (h.2 i hi))]; exact h.2 i hi⟩
def padW (l : List Nat) (n : Nat) : List Nat := l ++ List.replicate (n - l.length) 0
theorem padW_len {l : List Nat} {n : Nat} (h : l.length ≤ n) : (padW l n).length = n := by simp [padW]; omega
theorem padW_set {l : List Nat} {n k : Nat} (hl : l.length = k) (hk : k < n) (d : Nat) : (padW l n).set k d = padW (l ++ [d]) n := by
  subst hl
  obtain ⟨m, hm⟩ : ∃ m, n - l.length = m + 1 := ⟨n - l.length - 1, by omega⟩
  have h2 : n - (l ++ [d]).length = m := by simp; omega
  unfold padW
  rw [hm, h2, List.set_append_right _ _ (Nat.le_refl _), Nat.sub_self, List.replicate_succ, List.set_cons_zero]
  simp
theorem padW_get {l : List Nat} {n i : Nat} (h : i < l.length) : (padW l n).getD i 0 = l.getD i 0 := by
  simp [padW, List.getD_eq_getElem?_getD, List.getElem?_append_left h]
theorem pad_zero' (n : Nat) : nums .u32 (padW [] n) = List.replicate n (Value.int .u32 0) := by simp [padW, nums]
theorem pad_zero : nums .u32 (padW [] 64) = List.replicate 64 (Value.int .u32 0) := pad_zero' 64
theorem or4 {a b c d : Nat} (ha : a < 256) (hb : b < 256) (hc : c < 256) (hd : d < 256) :
    bits .or .u32 (bits .or .u32 (bits .or .u32 ((a : Int) * 16777216) ((b : Int) * 65536)) ((c : Int) * 256)) (d : Int) = ((((a * 256 + b) * 256 + c) * 256 + d : Nat) : Int) := by
  rw [show (a : Int) * 16777216 = ((a * 16777216 : Nat) : Int) by omega, show (b : Int) * 65536 = ((b * 65536 : Nat) : Int) by omega, show (c : Int) * 256 = ((c * 256 : Nat) : Int) by omega]
  rw [u32_or_nat _ _ (by omega) (by omega), nat_join 24 _ _ (by omega) (by omega), u32_or_nat _ _ (by omega) (by omega), nat_join 16 _ _ (by omega) (by omega), u32_or_nat _ _ (by omega) (by omega), nat_join 8 _ _ (by omega) (by omega)]
  omega
theorem sgp_rule {x : Nat} (hx : x < 4294967296) : bits .xor .u32 (bits .xor .u32 ((rot 7 x : Nat) : Int) ((rot 18 x : Nat) : Int)) ((x : Int) / 8) = ((sgp x : Nat) : Int) := by
  rw [show (x : Int) / 8 = ((x / 8 : Nat) : Int) by omega, u32_xor_nat _ _ (rot_lt hx) (rot_lt hx), u32_xor_nat _ _ (xor_lt (rot_lt hx) (rot_lt hx)) (by omega)]; rfl
theorem sgq_rule {x : Nat} (hx : x < 4294967296) : bits .xor .u32 (bits .xor .u32 ((rot 17 x : Nat) : Int) ((rot 19 x : Nat) : Int)) ((x : Int) / 1024) = ((sgq x : Nat) : Int) := by
  rw [show (x : Int) / 1024 = ((x / 1024 : Nat) : Int) by omega, u32_xor_nat _ _ (rot_lt hx) (rot_lt hx), u32_xor_nat _ _ (xor_lt (rot_lt hx) (rot_lt hx)) (by omega)]; rfl
theorem sge_rule {x : Nat} (hx : x < 4294967296) : bits .xor .u32 (bits .xor .u32 ((rot 6 x : Nat) : Int) ((rot 11 x : Nat) : Int)) ((rot 25 x : Nat) : Int) = ((sge x : Nat) : Int) := by
  rw [u32_xor_nat _ _ (rot_lt hx) (rot_lt hx), u32_xor_nat _ _ (xor_lt (rot_lt hx) (rot_lt hx)) (rot_lt hx)]; rfl
theorem sga_rule {x : Nat} (hx : x < 4294967296) : bits .xor .u32 (bits .xor .u32 ((rot 2 x : Nat) : Int) ((rot 13 x : Nat) : Int)) ((rot 22 x : Nat) : Int) = ((sga x : Nat) : Int) := by
  rw [u32_xor_nat _ _ (rot_lt hx) (rot_lt hx), u32_xor_nat _ _ (xor_lt (rot_lt hx) (rot_lt hx)) (rot_lt hx)]; rfl
theorem not_u32 {e : Nat} (he : e < 4294967296) : bits .xor .u32 4294967295 (e : Int) = ((4294967295 - e : Nat) : Int) := by
  have h : (4294967295 : Nat) ^^^ e = 4294967295 - e := by
    rw [show (4294967295 : Nat) - e = 2 ^ 32 - (e + 1) by omega]
    apply Nat.eq_of_testBit_eq
    intro i
    rw [Nat.testBit_two_pow_sub_succ (by omega), Nat.testBit_xor, show (4294967295 : Nat) = 2 ^ 32 - 1 by rfl, Nat.testBit_two_pow_sub_one]
    by_cases hi : i < 32
    · simp [hi]
    · have : e.testBit i = false := Nat.testBit_lt_two_pow (Nat.lt_of_lt_of_le (show e < 2 ^ 32 by omega) (Nat.pow_le_pow_right (by omega) (by omega)))
      simp [hi, this]
  have := u32_xor_nat 4294967295 e (by omega) he
  rw [h] at this
  exact this
theorem ch_rule {e f g : Nat} (he : e < 4294967296) (hf : f < 4294967296) (hg : g < 4294967296) : bits .xor .u32 (bits .and .u32 (e : Int) (f : Int)) (bits .and .u32 (bits .xor .u32 4294967295 (e : Int)) (g : Int)) = ((chf e f g : Nat) : Int) := by
  rw [not_u32 he, u32_and_nat _ _ he hf, u32_and_nat _ _ (by omega) hg, u32_xor_nat _ _ (and_lt hf) (and_lt hg)]; rfl
theorem maj_rule {a b c : Nat} (ha : a < 4294967296) (hb : b < 4294967296) (hc : c < 4294967296) : bits .xor .u32 (bits .xor .u32 (bits .and .u32 (a : Int) (b : Int)) (bits .and .u32 (a : Int) (c : Int))) (bits .and .u32 (b : Int) (c : Int)) = ((maj a b c : Nat) : Int) := by
  rw [u32_and_nat _ _ ha hb, u32_and_nat _ _ ha hc, u32_and_nat _ _ hb hc, u32_xor_nat _ _ (and_lt hb) (and_lt hc), u32_xor_nat _ _ (xor_lt (and_lt hb) (and_lt hc)) (and_lt hc)]; rfl
/-- cells of an array that are set, one behind the other -/
def putN (cur : Array Value) (so : Nat) (L : List Nat) : Nat → Array Value
  | 0 => cur
  | k + 1 => (putN cur so L k).setIfInBounds (so + k) (.int .u32 ((L.getD k 0 : Nat) : Int))
theorem putN_size (cur : Array Value) (so : Nat) (L : List Nat) (k : Nat) : (putN cur so L k).size = cur.size := by
  induction k with
  | zero => rfl
  | succ k ih => simp [putN, ih]
theorem putN_far (cur : Array Value) (so : Nat) (L : List Nat) (k j : Nat) (h : j < so ∨ so + k ≤ j) : (putN cur so L k)[j]? = cur[j]? := by
  induction k with
  | zero => rfl
  | succ k ih => rw [putN, Array.getElem?_setIfInBounds_ne (by omega), ih (by omega)]
theorem putN_in (cur : Array Value) (so : Nat) (L : List Nat) (k i : Nat) (h : i < k) (hs : so + i < cur.size) : (putN cur so L k)[so + i]? = some (.int .u32 ((L.getD i 0 : Nat) : Int)) := by
  induction k with
  | zero => omega
  | succ k ih =>
    rw [putN]
    by_cases hk : i = k
    · subst hk
      rw [Array.getElem?_setIfInBounds_self_of_lt (by rw [putN_size]; exact hs)]
    · rw [Array.getElem?_setIfInBounds_ne (by omega), ih (by omega)]
theorem K0_lt : ∀ d ∈ K0, d < 4294967296 := by decide
theorem H0_lt : ∀ d ∈ H0, d < 4294967296 := by decide
def RndRel (s : St) (W : List Nat) (x11 x12 x13 x14 x15 x16 x17 x18 x0 : Value) : Prop :=
  ∃ n a b c d e f g h : Nat, n ≤ 64 ∧ x0 = .int .i64 n ∧ x11 = .int .u32 a ∧ x12 = .int .u32 b ∧ x13 = .int .u32 c ∧ x14 = .int .u32 d ∧ x15 = .int .u32 e ∧ x16 = .int .u32 f ∧ x17 = .int .u32 g ∧ x18 = .int .u32 h ∧ Hid (St.mk a b c d e f g h = s.rounds K0 W n) ∧ (St.mk a b c d e f g h).ok
theorem list8_of {S : List Nat} (h : S.length = 8) {z0 z1 z2 z3 z4 z5 z6 z7 : Nat} (e : stOf S = ⟨z0, z1, z2, z3, z4, z5, z6, z7⟩) : S = [z0, z1, z2, z3, z4, z5, z6, z7] := by
  match S, h with
  | [a, b, c, d, e1, f, g, h1], _ =>
    simp only [stOf, List.getD_cons_zero, List.getD_cons_succ, St.mk.injEq] at e
    obtain ⟨rfl, rfl, rfl, rfl, rfl, rfl, rfl, rfl⟩ := e
    rfl
theorem comp_eq {S blk : List Nat} (h : S.length = 8) {z0 z1 z2 z3 z4 z5 z6 z7 a b c d e f g h1 : Nat} (e0 : stOf S = ⟨z0, z1, z2, z3, z4, z5, z6, z7⟩)
    (e1 : St.mk a b c d e f g h1 = (St.mk z0 z1 z2 z3 z4 z5 z6 z7).rounds K0 (schedN blk 48) 64) : comp K0 S blk = [(z0 + a) % 4294967296, (z1 + b) % 4294967296, (z2 + c) % 4294967296, (z3 + d) % 4294967296, (z4 + e) % 4294967296, (z5 + f) % 4294967296, (z6 + g) % 4294967296, (z7 + h1) % 4294967296] := by
  have hs := list8_of h e0
  unfold comp
  rw [e0, ← e1, hs]
  rfl
theorem addM (z x : Nat) : ((z : Int) + (x : Int)) % 4294967296 = (((z + x) % 4294967296 : Nat) : Int) := by omega
def MixRes (H so : Nat) (T : TypeId) (cur : Array Value) (L : List Nat) (w : World) (e : Ending) (w' : World) : Prop := e = .returned (.tuple #[]) ∧ Far H w w' ∧ w'.heap[H]? = some (.cells (putN cur so L 8) T (0, 0))
end Go.Proofs.YtnophelfpoldfaaGreatDoor

/- The walk of sha.mix: a block into a state. -/
namespace Go.Proofs.YtnophelfpoldfaaGreatDoor
open Go.RowKit

set_option maxRecDepth 100000 in
set_option maxHeartbeats 4000000 in
theorem mix_walk (H so : Nat) (T : TypeId) (cur : Array Value) (S : List Nat) (bb boff cap : Nat) (blk : List Nat) (w : World) (hH : w.heap[H]? = some (.cells cur T (0, 0))) (hS : ∀ i, i < 8 → cur[so + i]? = some (.int .u32 ((S.getD i 0 : Nat) : Int))) (hS2 : ∀ d ∈ S, d < 4294967296) (hS8 : S.length = 8)
    (hB : Sl .u8 w (some ⟨bb, boff, none⟩) 64 cap blk) (hb : ∀ d ∈ blk, d < 256) (ht : Tabs w) :
    Calls Tryz.prog 75 #[.pointer (some ⟨H, so, none⟩), .slice (some ⟨bb, boff, none⟩) 64 cap] w (MixRes H so T cur (comp K0 S blk) w) := by
  have HL := hid hB.len
  have HB := hid hB
  have HX := hid hb
  have HT := hid ht
  have HH := hid hH
  have hcap := hB.2.1
  have O0 := hid (own_new w (List.replicate 64 (Value.int .u32 0)).toArray 165 (size := 1) (n := 64) (B := w.heap.size) (by simp) (Nat.le_refl _) (by decide))
  clear hB hb ht hH
  go_enter Tryz.func75, Tryz.ntmps75
  go_wp2
  go_loopw [26] (fun x0 wr => ∃ k : Nat, k ≤ 16 ∧ x0 = .int .i64 k ∧ wr.ownsRow w.heap.size 165 1 (.slice (some ⟨w.heap.size, 0, none⟩) 64 64) 64 (nums .u32 (padW (wordsN blk k) 64)) ∧ Below w.heap.size w wr) (fun x0 _ => 16 - (intOf x0).toNat)
  case atStart => exact ⟨0, by omega, rfl, by rw [wordsN, pad_zero]; exact O0.out, (Below.refl _ _).alloc (Nat.le_refl _) _⟩
  case round =>
    obtain ⟨k, hk, rfl, ho, hb⟩ := hrel
    clear O0
    by_cases hlt : k < 16
    · obtain ⟨b', off', ha, hc⟩ := HB.out.opened
      have hab := ha (by omega)
      simp only [Option.some.injEq, Addr.mk.injEq, and_true] at hab
      obtain ⟨rfl, rfl⟩ := hab
      obtain ⟨p0, hp0⟩ : ∃ p0 : Nat, p0 = 4 * k := ⟨_, rfl⟩
      have q0 : (4 : Int) * (k : Int) = (p0 : Int) := by omega
      have f0 := hc p0 (by omega)
      have f1 := hc (p0 + 1) (by omega)
      have f2 := hc (p0 + 2) (by omega)
      have f3 := hc (p0 + 3) (by omega)
      have d0 := getDlt HX.out (by omega) p0
      have d1 := getDlt HX.out (by omega) (p0 + 1)
      have d2 := getDlt HX.out (by omega) (p0 + 2)
      have d3 := getDlt HX.out (by omega) (p0 + 3)
      have HW := hid (show word blk k = ((blk.getD p0 0 * 256 + blk.getD (p0 + 1) 0) * 256 + blk.getD (p0 + 2) 0) * 256 + blk.getD (p0 + 3) 0 by rw [hp0]; rfl)
      generalize blk.getD p0 0 = v0 at *
      generalize blk.getD (p0 + 1) 0 = v1 at *
      generalize blk.getD (p0 + 2) 0 = v2 at *
      generalize blk.getD (p0 + 3) 0 = v3 at *
      have c0 := (hb.cell (World.block_lt_of_cell? w _ f0)).trans f0
      have c1 := (hb.cell (World.block_lt_of_cell? w _ f1)).trans f1
      have c2 := (hb.cell (World.block_lt_of_cell? w _ f2)).trans f2
      have c3 := (hb.cell (World.block_lt_of_cell? w _ f3)).trans f3
      have hg := ho.cellAt k (by omega)
      rw [nums_get .u32 (by rw [padW_len (by rw [wordsN_len]; omega)]; omega)] at hg
      have hof := ho.frozenAt k
      have i0 : (p0 : Int) < 64 := by omega
      have i1 : (p0 : Int) + 1 < 64 := by omega
      have i2 : (p0 : Int) + 2 < 64 := by omega
      have i3 : (p0 : Int) + 3 < 64 := by omega
      have OR := hid (or4 d0 d1 d2 d3)
      have HB' := hid hb
      have HO := hid ho
      clear hb ho f0 f1 f2 f3 hc ha hp0
      generalize (padW (wordsN blk k) 64).getD k 0 = old at *
      go_wp2_with fail
      go_region
      have OW := hid (own_store HO.out k (z := ((((v0 * 256 + v1) * 256 + v2) * 256 + v3 : Nat) : Int)) rfl)
      rw [OR.out]
      go_wp2
      go_roundw
      case rel =>
        refine ⟨k + 1, by omega, by go_num, ?_, (HB'.out.trans (OW.out.2.mono (Nat.le_refl _))).drew⟩
        rw [wordsN, ← padW_set (wordsN_len blk k) (by omega), HW.out]
        exact own_below OW.out.1 ((Below.refl _ _).drew)
      case measure => simp [intOf]; omega
    · have hge : 16 ≤ k := by omega
      have HB' := hid hb
      have HO := hid (show wr.ownsRow w.heap.size 165 1 (.slice (some ⟨w.heap.size, 0, none⟩) 64 64) 64 (nums .u32 (padW (schedN blk 0) 64)) by
        have e : k = 16 := by omega
        rw [e] at ho
        exact ho)
      clear hb ho
      go_wp2
      go_loopw [6] (fun x0 wr => ∃ i j : Nat, Hid (i = 16 + j) ∧ j ≤ 48 ∧ i ≤ 64 ∧ x0 = .int .i64 i ∧ wr.ownsRow w.heap.size 165 1 (.slice (some ⟨w.heap.size, 0, none⟩) 64 64) 64 (nums .u32 (padW (schedN blk j) 64)) ∧ Below w.heap.size w wr) (fun x0 _ => 64 - (intOf x0).toNat)
      case atStart => exact ⟨16, 0, hid rfl, by omega, by omega, rfl, HO.out, HB'.out⟩
      case round =>
        obtain ⟨i, j, hij, hj, hi, rfl, ho, hb⟩ := hrel
        clear HO HB' hlt hk hge
        by_cases hlt : i < 64
        · obtain ⟨a15, h15⟩ : ∃ a15 : Nat, a15 = i - 15 := ⟨_, rfl⟩
          obtain ⟨a2, h2⟩ : ∃ a2 : Nat, a2 = i - 2 := ⟨_, rfl⟩
          obtain ⟨a16, h16⟩ : ∃ a16 : Nat, a16 = i - 16 := ⟨_, rfl⟩
          obtain ⟨a7, h7⟩ : ∃ a7 : Nat, a7 = i - 7 := ⟨_, rfl⟩
          have hij' := hij.out
          have e15 : (i : Int) - 15 = (a15 : Int) := by omega
          have e2 : (i : Int) - 2 = (a2 : Int) := by omega
          have e16 : (i : Int) - 16 = (a16 : Int) := by omega
          have e7 : (i : Int) - 7 = (a7 : Int) := by omega
          have g15 : a15 < i := by omega
          have g2 : a2 < i := by omega
          have g16 : a16 < i := by omega
          have g7 : a7 < i := by omega
          have hWl := schedN_len blk j
          have hPl := padW_len (l := schedN blk j) (n := 64) (by omega)
          have get : ∀ q, q < i → wr.cell? ⟨w.heap.size, q, none⟩ = some (.int .u32 (((schedN blk j).getD q 0 : Nat) : Int)) := by
            intro q hq
            rw [ho.cellAt q (by omega), nums_get .u32 (by omega), padW_get (by omega)]
          have c15 := get a15 g15
          have c2 := get a2 g2
          have c16 := get a16 g16
          have c7 := get a7 g7
          have cc := ho.cellAt i (by omega)
          rw [nums_get .u32 (by omega)] at cc
          have hof := ho.frozenAt i
          have l15 := getDlt (schedN_lt HX.out j) (by omega) a15
          have l2 := getDlt (schedN_lt HX.out j) (by omega) a2
          have l16 := getDlt (schedN_lt HX.out j) (by omega) a16
          have l7 := getDlt (schedN_lt HX.out j) (by omega) a7
          have HN := hid (show wnext (schedN blk j) i = ((schedN blk j).getD a16 0 + sgp ((schedN blk j).getD a15 0) + (schedN blk j).getD a7 0 + sgq ((schedN blk j).getD a2 0)) % 4294967296 by rw [h15, h2, h16, h7]; rfl)
          have HS := hid (show padW (schedN blk (j + 1)) 64 = (padW (schedN blk j) 64).set i (wnext (schedN blk j) i) by rw [schedN, padW_set (by omega) (by omega), hij'])
          generalize (schedN blk j).getD a15 0 = y15 at *
          generalize (schedN blk j).getD a2 0 = y2 at *
          generalize (schedN blk j).getD a16 0 = y16 at *
          generalize (schedN blk j).getD a7 0 = y7 at *
          generalize (padW (schedN blk j) 64).getD i 0 = old at *
          have R1 := sgp_rule l15
          have R2 := sgq_rule l2
          have s1 := sgp_lt l15
          have s2 := sgq_lt l2
          have HO := hid ho
          have HB' := hid hb
          have i64 : (i : Int) < 64 := by omega
          have i15 : (a15 : Int) < 64 := by omega
          have i2 : (a2 : Int) < 64 := by omega
          have i16 : (a16 : Int) < 64 := by omega
          have i7 : (a7 : Int) < 64 := by omega
          clear ho hb get hWl hPl h15 h2 h16 h7 hij'
          go_wp2_with fail
          go_quiet (fail)
          go_wp2_with fail
          refine (rot7_walk y15 l15 _).mono ?_
          rintro e w' ⟨rfl, rfl⟩
          go_wp2_with fail
          refine (rot18_walk y15 l15 _).mono ?_
          rintro e w' ⟨rfl, rfl⟩
          go_wp2_with fail
          refine (rot17_walk y2 l2 _).mono ?_
          rintro e w' ⟨rfl, rfl⟩
          go_wp2_with fail
          refine (rot19_walk y2 l2 _).mono ?_
          rintro e w' ⟨rfl, rfl⟩
          go_wp2_with fail
          go_region
          have es : (((y16 : Int) + (sgp y15 : Int) + (y7 : Int) + (sgq y2 : Int)) % 4294967296) = ((wnext (schedN blk j) i : Nat) : Int) := by rw [HN.out]; omega
          rw [es]
          have OW := hid (own_store (own_below HO.out (below_drewN (Below.refl _ _) (nq + 1))) i (z := ((wnext (schedN blk j) i : Nat) : Int)) rfl)
          generalize wnext (schedN blk j) i = z at *
          clear R1 R2 c15 c2 c16 c7
          go_wp2
          go_roundw
          case rel =>
            refine ⟨i + 1, j + 1, hid (by rw [hij.out]; omega), by have := hij.out; omega, by omega, by go_num, ?_, (below_drewN HB'.out (nq + 1)).trans OW.out.2⟩
            rw [HS.out]
            exact OW.out.1
          case measure => simp [intOf]; omega
        · have hge : 64 ≤ i := by omega
          have HO := hid (show wr.ownsRow w.heap.size 165 1 (.slice (some ⟨w.heap.size, 0, none⟩) 64 64) 64 (nums .u32 (padW (schedN blk 48) 64)) by
            have e : j = 48 := by have := hij.out; omega
            rw [e] at ho
            exact ho)
          have HB' := hid hb
          have hSok := stOf_ok hS2
          have hHlt : H < w.heap.size := (Array.getElem?_eq_some_iff.1 HH.out).1
          have sc : ∀ q, q < 8 → wr.cell? ⟨H, so + q, none⟩ = some (.int .u32 ((S.getD q 0 : Nat) : Int)) := by
            intro q hq
            rw [hb.cell (p := ⟨H, so + q, none⟩) hHlt, cell_of_row w H (so + q) cur T (0, 0) HH.out]
            exact hS q hq
          have s0 := sc 0 (by omega)
          rw [Nat.add_zero] at s0
          have s1 := sc 1 (by omega)
          have s2 := sc 2 (by omega)
          have s3 := sc 3 (by omega)
          have s4 := sc 4 (by omega)
          have s5 := sc 5 (by omega)
          have s6 := sc 6 (by omega)
          have s7 := sc 7 (by omega)
          have HS0 := hid (show stOf S = ⟨S.getD 0 0, S.getD 1 0, S.getD 2 0, S.getD 3 0, S.getD 4 0, S.getD 5 0, S.getD 6 0, S.getD 7 0⟩ from rfl)
          rw [HS0.out] at hSok
          have HSR := hid (show S = S from rfl)
          clear ho hb sc HSR
          generalize S.getD 0 0 = z0 at *
          generalize S.getD 1 0 = z1 at *
          generalize S.getD 2 0 = z2 at *
          generalize S.getD 3 0 = z3 at *
          generalize S.getD 4 0 = z4 at *
          generalize S.getD 5 0 = z5 at *
          generalize S.getD 6 0 = z6 at *
          generalize S.getD 7 0 = z7 at *
          have HSO := hid hSok
          clear hSok
          go_wp2_with fail
          go_quiet (fail)
          clear s0 s1 s2 s3 s4 s5 s6 s7
          have HO2 := hid (own_below HO.out (below_drewN (Below.refl _ _) nq))
          have HB2 := hid (below_drewN HB'.out nq)
          clear HO HB'
          generalize wr.drewN nq = W1 at *
          go_wp2
          go_loopw [11, 12, 13, 14, 15, 16, 17, 18, 140] (fun x11 x12 x13 x14 x15 x16 x17 x18 x0 wr => RndRel ⟨z0, z1, z2, z3, z4, z5, z6, z7⟩ (schedN blk 48) x11 x12 x13 x14 x15 x16 x17 x18 x0 ∧ Qt W1 wr) (fun _ _ _ _ _ _ _ _ x0 _ => 64 - (intOf x0).toNat)
          case atStart => exact ⟨⟨0, z0, z1, z2, z3, z4, z5, z6, z7, by omega, rfl, rfl, rfl, rfl, rfl, rfl, rfl, rfl, rfl, hid rfl, HSO.out⟩, Qt.refl _⟩
          case round =>
            obtain ⟨⟨n, a, b, c, d, e, f, g, h8, hn, rfl, rfl, rfl, rfl, rfl, rfl, rfl, rfl, rfl, hst, hok⟩, hq⟩ := hrel
            obtain ⟨la, lb, lc, ld, le, lf, lg, lh⟩ := hok
            simp only at la lb lc ld le lf lg lh
            by_cases hlt : n < 64
            · have kc := (HT.out.below (HB2.out.trans ((hq.below w.heap.size)))).2 n hlt
              have kl := getDlt K0_lt (by omega) n
              have wc := own_below HO2.out (hq.below _)
              have wl := getDlt (schedN_lt HX.out 48) (by omega) n
              have wc := wc.cellAt n (by omega)
              rw [nums_get .u32 (by rw [padW_len (by rw [schedN_len]; omega)]; omega), padW_get (by rw [schedN_len]; omega)] at wc
              have HN := hid (show (St.mk z0 z1 z2 z3 z4 z5 z6 z7).rounds K0 (schedN blk 48) (n + 1) = (St.mk a b c d e f g h8).step (K0.getD n 0) ((schedN blk 48).getD n 0) by rw [St.rounds, ← hst.out])
              generalize K0.getD n 0 = kn at *
              generalize (schedN blk 48).getD n 0 = wn at *
              have HQ := hid hq
              have R1 := sge_rule le
              have R2 := ch_rule le lf lg
              rw [show (4294967295 : Int) = IntKind.u32.max from rfl] at R2
              have R3 := sga_rule la
              have R4 := maj_rule la lb lc
              have b1 := sge_lt le
              have b2 := chf_lt (e := e) lf lg
              have b3 := sga_lt la
              have b4 := maj_lt (a := a) lb lc
              have i64 : (n : Int) < 64 := by omega
              clear hq
              go_wp2_with fail
              refine (rot6_walk e le _).mono ?_
              rintro e1 w' ⟨rfl, rfl⟩
              go_wp2_with fail
              refine (rot11_walk e le _).mono ?_
              rintro e1 w' ⟨rfl, rfl⟩
              go_wp2_with fail
              refine (rot25_walk e le _).mono ?_
              rintro e1 w' ⟨rfl, rfl⟩
              go_wp2_with fail
              go_quiet (fail)
              go_wp2_with fail
              refine (rot2_walk a la _).mono ?_
              rintro e1 w' ⟨rfl, rfl⟩
              go_wp2_with fail
              refine (rot13_walk a la _).mono ?_
              rintro e1 w' ⟨rfl, rfl⟩
              go_wp2_with fail
              refine (rot22_walk a la _).mono ?_
              rintro e1 w' ⟨rfl, rfl⟩
              go_wp2
              go_roundw
              case rel =>
                refine ⟨⟨n + 1, ((h8 + sge e + chf e f g + kn + wn) + (sga a + maj a b c)) % 4294967296, a, b, c, (d + (h8 + sge e + chf e f g + kn + wn)) % 4294967296, e, f, g, by omega, by go_num, congrArg (Value.int .u32) (by omega), rfl, rfl, rfl, congrArg (Value.int .u32) (by omega), rfl, rfl, rfl, hid ?_, ?_⟩, HQ.out.dN _⟩
                · rw [HN.out]; rfl
                · exact ⟨Nat.mod_lt _ (by omega), la, lb, lc, Nat.mod_lt _ (by omega), le, lf, lg⟩
              case measure => simp [intOf]; omega
            · have hge : 64 ≤ n := by omega
              have hst64 := hst.out
              rw [show n = 64 by omega] at hst64
              have HC := hid (comp_eq (S := S) hS8 HS0.out hst64)
              have hHlt : H < w.heap.size := (Array.getElem?_eq_some_iff.1 HH.out).1
              have HW := hid (show Far H w wr from Far.of (HB2.out.trans (hq.below w.heap.size)))
              have HH2 := hid (show wr.heap[H]? = some (.cells cur T (0, 0)) by rw [(HB2.out.trans (hq.below w.heap.size)).block H hHlt]; exact HH.out)
              have ix0 : ∀ w, (Instr.index 123 (.agg #[.int .u32 (a : Int), .int .u32 (b : Int), .int .u32 (c : Int), .int .u32 (d : Int), .int .u32 (e : Int), .int .u32 (f : Int), .int .u32 (g : Int), .int .u32 (h8 : Int)]) (.int .i64 0)).run Tryz.prog w = .ok (.int .u32 (a : Int)) w := fun _ => by kernel_rfl
              have ix1 : ∀ w, (Instr.index 123 (.agg #[.int .u32 (a : Int), .int .u32 (b : Int), .int .u32 (c : Int), .int .u32 (d : Int), .int .u32 (e : Int), .int .u32 (f : Int), .int .u32 (g : Int), .int .u32 (h8 : Int)]) (.int .i64 1)).run Tryz.prog w = .ok (.int .u32 (b : Int)) w := fun _ => by kernel_rfl
              have ix2 : ∀ w, (Instr.index 123 (.agg #[.int .u32 (a : Int), .int .u32 (b : Int), .int .u32 (c : Int), .int .u32 (d : Int), .int .u32 (e : Int), .int .u32 (f : Int), .int .u32 (g : Int), .int .u32 (h8 : Int)]) (.int .i64 2)).run Tryz.prog w = .ok (.int .u32 (c : Int)) w := fun _ => by kernel_rfl
              have ix3 : ∀ w, (Instr.index 123 (.agg #[.int .u32 (a : Int), .int .u32 (b : Int), .int .u32 (c : Int), .int .u32 (d : Int), .int .u32 (e : Int), .int .u32 (f : Int), .int .u32 (g : Int), .int .u32 (h8 : Int)]) (.int .i64 3)).run Tryz.prog w = .ok (.int .u32 (d : Int)) w := fun _ => by kernel_rfl
              have ix4 : ∀ w, (Instr.index 123 (.agg #[.int .u32 (a : Int), .int .u32 (b : Int), .int .u32 (c : Int), .int .u32 (d : Int), .int .u32 (e : Int), .int .u32 (f : Int), .int .u32 (g : Int), .int .u32 (h8 : Int)]) (.int .i64 4)).run Tryz.prog w = .ok (.int .u32 (e : Int)) w := fun _ => by kernel_rfl
              have ix5 : ∀ w, (Instr.index 123 (.agg #[.int .u32 (a : Int), .int .u32 (b : Int), .int .u32 (c : Int), .int .u32 (d : Int), .int .u32 (e : Int), .int .u32 (f : Int), .int .u32 (g : Int), .int .u32 (h8 : Int)]) (.int .i64 5)).run Tryz.prog w = .ok (.int .u32 (f : Int)) w := fun _ => by kernel_rfl
              have ix6 : ∀ w, (Instr.index 123 (.agg #[.int .u32 (a : Int), .int .u32 (b : Int), .int .u32 (c : Int), .int .u32 (d : Int), .int .u32 (e : Int), .int .u32 (f : Int), .int .u32 (g : Int), .int .u32 (h8 : Int)]) (.int .i64 6)).run Tryz.prog w = .ok (.int .u32 (g : Int)) w := fun _ => by kernel_rfl
              have ix7 : ∀ w, (Instr.index 123 (.agg #[.int .u32 (a : Int), .int .u32 (b : Int), .int .u32 (c : Int), .int .u32 (d : Int), .int .u32 (e : Int), .int .u32 (f : Int), .int .u32 (g : Int), .int .u32 (h8 : Int)]) (.int .i64 7)).run Tryz.prog w = .ok (.int .u32 (h8 : Int)) w := fun _ => by kernel_rfl
              have hS' := hid hS
              clear hst hst64 hq
              generalize comp K0 S blk = L at *
              go_wp2
              go_loopw [214] (fun x0 wr' => ∃ m : Nat, m ≤ 8 ∧ x0 = .int .i64 m ∧ Far H w wr' ∧ wr'.heap[H]? = some (.cells (putN cur so L m) T (0, 0))) (fun x0 _ => 8 - (intOf x0).toNat)
              case atStart => exact ⟨0, by omega, rfl, HW.out, HH2.out⟩
              case round =>
                obtain ⟨m, hm, rfl, hf, hh⟩ := hrel
                clear HW HH2
                have HF := hid hf
                have HHm := hid hh
                by_cases hlt8 : m < 8
                · have hc : wr.cell? ⟨H, so + m, none⟩ = some (.int .u32 ((S.getD m 0 : Nat) : Int)) := by
                    rw [cell_of_row _ H (so + m) _ T (0, 0) hh, putN_far _ _ _ _ _ (.inr (Nat.le_refl _))]
                    exact hS'.out m hlt8
                  have hz := frozen_of_row _ H (so + m) _ T hh
                  have hZ : S = [z0, z1, z2, z3, z4, z5, z6, z7] := list8_of hS8 HS0.out
                  rw [hZ] at hc
                  have ST := hid (show Far H w ((wr.setCell ⟨H, so + m, none⟩ (.int .u32 ((L.getD m 0 : Nat) : Int))).drew) ∧ ((wr.setCell ⟨H, so + m, none⟩ (.int .u32 ((L.getD m 0 : Nat) : Int))).drew).heap[H]? = some (.cells (putN cur so L (m + 1)) T (0, 0)) from
                    ⟨(hf.trans (Far.set _)).trans (Far.of (Below.refl _ _).drew), heap_setCell_same wr H (so + m) _ T _ hh⟩)
                  have hcase : m = 0 ∨ m = 1 ∨ m = 2 ∨ m = 3 ∨ m = 4 ∨ m = 5 ∨ m = 6 ∨ m = 7 := by omega
                  clear hf hh hZ
                  rcases hcase with rfl | rfl | rfl | rfl | rfl | rfl | rfl | rfl
                  all_goals simp only [List.getD_cons_zero, List.getD_cons_succ, Nat.add_zero] at hc hz
                  all_goals go_wp2_with fail
                  all_goals go_region
                  all_goals rw [addM]
                  all_goals replace ST := ST.out
                  all_goals rw [HC.out] at ST
                  all_goals simp only [List.getD_cons_zero, List.getD_cons_succ, Nat.add_zero] at ST
                  all_goals rw [← HC.out] at ST
                  all_goals clear hc hz
                  all_goals replace ST := hid ST
                  all_goals go_wp2
                  all_goals go_roundw
                  all_goals first | exact ⟨_, by omega, by go_num, ST.out.1, ST.out.2⟩ | (simp [intOf]; done) | (simp [intOf]; omega)
                · have hge8 : 8 ≤ m := by omega
                  have F := hid (show MixRes H so T cur L w (.returned (.tuple #[])) wr from ⟨rfl, hf, by rw [← show m = 8 by omega]; exact hh⟩)
                  clear hf hh
                  go_wp2
                  go_end0
                  exact F.out
end Go.Proofs.YtnophelfpoldfaaGreatDoor

/- The walks of sha.New and sha.Sum. -/
import Derived.Test.YtdopbhahcpjjgaaDoorZc
import Derived.Test.YtdopbhahcpjjgaaDoorShaV
import Derived.Test.YtdopbhahcpjjgaaDoorShaH
namespace Go.Proofs.YtdopbhahcpjjgaaDoor
open Go.RowKit

noncomputable def hs0 : Array Value := ((((((((Tryd.zeroCells114.setIfInBounds 0 (.int .u32 1779033703)).setIfInBounds 1 (.int .u32 3144134277)).setIfInBounds 2 (.int .u32 1013904242)).setIfInBounds 3 (.int .u32 2773480762)).setIfInBounds 4 (.int .u32 1359893119)).setIfInBounds 5 (.int .u32 2600822924)).setIfInBounds 6 (.int .u32 528734635)).setIfInBounds 7 (.int .u32 1541459225))
theorem hs0_list : hs0.toList = nums .u32 H0 ++ (nums .u8 (List.replicate 64 0) ++ [.int .i64 ((0 : Nat) : Int), .int .u64 ((0 : Nat) : Int)]) := by kernel_rfl
theorem HsAt.ofList {cur : Array Value} {S R : List Nat} {k n : Nat} (hS : S.length = 8) (hR : R.length = 64) (h : cur.toList = nums .u32 S ++ (nums .u8 R ++ [.int .i64 (k : Int), .int .u64 (n : Int)])) : HsAt cur 0 S R k n := by
  have hsz : cur.size = 74 := by
    have := congrArg List.length h
    simpa [hS, hR] using this
  have g : ∀ j : Nat, cur[j]? = (nums .u32 S ++ (nums .u8 R ++ [.int .i64 (k : Int), .int .u64 (n : Int)]))[j]? := by
    intro j; rw [← h]; simp
  refine ⟨hS, hR, by omega, fun i hi => ?_, fun i hi => ?_, ?_, ?_⟩
  · rw [g, List.getElem?_append_left (by simp; omega), Nat.zero_add, nums_get .u32 (by omega)]
  · rw [g, List.getElem?_append_right (by simp; omega), List.getElem?_append_left (by simp; omega), show 0 + 8 + i - (nums IntKind.u32 S).length = i by rw [nums_length, hS]; omega, nums_get .u8 (by omega)]
  · rw [g, List.getElem?_append_right (by simp; omega), List.getElem?_append_right (by simp; omega), nums_length, nums_length, hS, hR]; rfl
  · rw [g, List.getElem?_append_right (by simp; omega), List.getElem?_append_right (by simp; omega), nums_length, nums_length, hS, hR]; rfl
theorem hs0_at : HsAt hs0 0 H0 (List.replicate 64 0) 0 0 := HsAt.ofList rfl (by rw [List.length_replicate]) hs0_list
theorem rep_lt : ∀ d ∈ List.replicate 64 0, d < 256 := by intro d hd; rw [List.eq_of_mem_replicate hd]; decide
def NewRes (w : World) (e : Ending) (w' : World) : Prop := ∃ g cur T, e = .returned (.pointer (some ⟨g, 0, none⟩)) ∧ w.heap.size ≤ g ∧ Below w.heap.size w w' ∧ w'.heap[g]? = some (.cells cur T (0, 0)) ∧ HsAt cur 0 H0 (List.replicate 64 0) 0 0
set_option maxRecDepth 100000 in
theorem new_walk (w : World) (ht : Tabs w) : Calls Tryd.prog 39 #[] w (NewRes w) := by
  have t0 : w.cell? ⟨0, 0, none⟩ = some (.int .u32 1779033703) := ht.1 0 (by decide)
  have t1 : w.cell? ⟨0, 1, none⟩ = some (.int .u32 3144134277) := ht.1 1 (by decide)
  have t2 : w.cell? ⟨0, 2, none⟩ = some (.int .u32 1013904242) := ht.1 2 (by decide)
  have t3 : w.cell? ⟨0, 3, none⟩ = some (.int .u32 2773480762) := ht.1 3 (by decide)
  have t4 : w.cell? ⟨0, 4, none⟩ = some (.int .u32 1359893119) := ht.1 4 (by decide)
  have t5 : w.cell? ⟨0, 5, none⟩ = some (.int .u32 2600822924) := ht.1 5 (by decide)
  have t6 : w.cell? ⟨0, 6, none⟩ = some (.int .u32 528734635) := ht.1 6 (by decide)
  have t7 : w.cell? ⟨0, 7, none⟩ = some (.int .u32 1541459225) := ht.1 7 (by decide)
  have FIN := hid (show NewRes w (.returned (.pointer (some ⟨w.heap.size, 0, none⟩))) (w.alloc (.cells hs0 114)) from ⟨_, _, _, rfl, Nat.le_refl _, (Below.refl _ _).alloc (Nat.le_refl _) _, heap_alloc_new w _, hs0_at⟩)
  clear ht
  go_enter Tryd.func39, Tryd.ntmps39
  go_wp2
  go_ret
  exact FIN.out
end Go.Proofs.YtdopbhahcpjjgaaDoor

/- Plain: what is laid behind the bytes, as the program lays it. No program in sight. -/
namespace Go.Proofs.YtdopbhahcpjjgaaDoor
open Go.RowKit

theorem beN_len (n x : Nat) : (beN n x).length = n := by
  induction n with
  | zero => rfl
  | succ n ih => simp [beN, ih]
theorem beN_lt (n x : Nat) : ∀ d ∈ beN n x, d < 256 := by
  induction n with
  | zero => simp [beN]
  | succ n ih =>
    intro d hd
    simp only [beN, List.mem_cons] at hd
    rcases hd with rfl | hd
    · omega
    · exact ih d hd
def setsE (E : List Nat) (sz X : Nat) : Nat → List Nat
  | 0 => E
  | i + 1 => (setsE E sz X i).set (sz - 1 - i) (X / 256 ^ i % 256)
theorem setsE_len (E : List Nat) (sz X i : Nat) : (setsE E sz X i).length = E.length := by
  induction i with
  | zero => rfl
  | succ i ih => simp [setsE, ih]
theorem setsE_eq (E : List Nat) (sz X i : Nat) (hi : i ≤ sz) (hs : sz ≤ E.length) : setsE E sz X i = E.take (sz - i) ++ (beN i X ++ E.drop sz) := by
  induction i with
  | zero => simp [setsE, beN]
  | succ i ih =>
    obtain ⟨m, hm⟩ : ∃ m, sz - i = m + 1 := ⟨sz - i - 1, by omega⟩
    have h1 : sz - 1 - i = m := by omega
    have h2 : sz - (i + 1) = m := by omega
    rw [setsE, ih (by omega), hm, h1, h2, beN]
    rw [List.take_succ_eq_append_getElem (by omega), List.append_assoc, List.set_append_right _ _ (by simp; omega)]
    simp [Nat.min_eq_left (show m ≤ E.length by omega)]
def szOf (k : Nat) : Nat := if k < 56 then 64 else 128
/-- the end as the program lays it -/
def endE (D : List Nat) (n : Nat) : List Nat := setsE (D ++ 128 :: List.replicate (127 - D.length) 0) (szOf D.length) (n * 8 % 18446744073709551616) 8
theorem endE_len {D : List Nat} {n : Nat} (h : D.length < 64) : (endE D n).length = 128 := by
  unfold endE
  rw [setsE_len]
  simp
  omega
theorem endE_eq {D : List Nat} {n : Nat} (hk : D.length = n % 64) : (endE D n).take (szOf D.length) = D ++ padN n := by
  have hlt : D.length < 64 := by omega
  have hsz : szOf D.length = 64 ∧ D.length < 56 ∨ szOf D.length = 128 ∧ ¬ D.length < 56 := by
    unfold szOf
    split
    · exact .inl ⟨rfl, by assumption⟩
    · exact .inr ⟨rfl, by assumption⟩
  have hl : (D ++ 128 :: List.replicate (127 - D.length) 0).length = 128 := by simp; omega
  unfold endE
  rw [setsE_eq _ _ _ _ (by omega) (by omega)]
  have e1 : (D ++ 128 :: List.replicate (127 - D.length) 0).take (szOf D.length - 8) = D ++ 128 :: List.replicate (szOf D.length - 8 - D.length - 1) 0 := by
    rw [List.take_append, List.take_of_length_le (by omega)]
    obtain ⟨m, hm⟩ : ∃ m, szOf D.length - 8 - D.length = m + 1 := ⟨szOf D.length - 8 - D.length - 1, by omega⟩
    rw [hm, List.take_succ_cons, List.take_replicate, Nat.min_eq_left (by omega), Nat.add_sub_cancel]
  rw [e1, List.take_append, List.take_of_length_le (by simp; omega), List.take_append, List.take_of_length_le (by rw [beN_len]; simp; omega)]
  have e2 : szOf D.length - (D ++ 128 :: List.replicate (szOf D.length - 8 - D.length - 1) 0).length - (beN 8 (n * 8 % 18446744073709551616)).length = 0 := by
    rw [beN_len]; simp; omega
  rw [e2, List.take_zero, List.append_nil, padN]
  have e3 : szOf D.length - 8 - D.length - 1 = if n % 64 < 56 then 55 - n % 64 else 119 - n % 64 := by
    rw [← hk]
    rcases hsz with ⟨h1, h2⟩ | ⟨h1, h2⟩
    · rw [if_pos h2, h1]; omega
    · rw [if_neg h2, h1]; omega
  rw [e3]
  simp
theorem endE_lt {D : List Nat} {n : Nat} (h : ∀ d ∈ D, d < 256) (hk : D.length < 64) : ∀ d ∈ endE D n, d < 256 := by
  have hsz : szOf D.length ≤ 128 ∧ 64 ≤ szOf D.length := by unfold szOf; split <;> omega
  intro d hd
  unfold endE at hd
  rw [setsE_eq _ _ _ _ (by omega) (by simp; omega)] at hd
  have base : ∀ d ∈ D ++ 128 :: List.replicate (127 - D.length) 0, d < 256 := by
    intro d hd
    rcases List.mem_append.1 hd with hd | hd
    · exact h d hd
    · rcases List.mem_cons.1 hd with rfl | hd
      · decide
      · rw [List.eq_of_mem_replicate hd]; decide
  rcases List.mem_append.1 hd with hd | hd
  · exact base d (List.mem_of_mem_take hd)
  · rcases List.mem_append.1 hd with hd | hd
    · exact beN_lt _ _ d hd
    · exact base d (List.mem_of_mem_drop hd)
/-- what the digest is, out of a Hasher's state -/
theorem took_sum {A S R : List Nat} {k : Nat} (h : Took A S R k) :
    (A ++ padN A.length).drop (64 * (A.length / 64)) = (endE (R.take k) A.length).take (szOf k) ∧ S = runB K0 H0 (A ++ padN A.length) (A.length / 64) ∧ (A ++ padN A.length).length = 64 * (A.length / 64) + szOf k := by
  have hkk := h.kk
  have hl := h.l
  have hD : (R.take k).length = k := by rw [List.length_take]; omega
  have hD' : (R.take k).length = A.length % 64 := by omega
  have e := endE_eq (n := A.length) hD'
  rw [hD] at e
  have hle : 64 * (A.length / 64) ≤ A.length := by omega
  refine ⟨?_, ?_, ?_⟩
  · rw [e, h.r, List.drop_append_of_le_length hle]
  · rw [runB_front _ _ _ hle]; exact h.s
  · rw [List.length_append, padN]
    simp only [List.length_cons, List.length_append, List.length_replicate, beN_len]
    unfold szOf
    rw [← hkk]
    split <;> omega
def outL (S : List Nat) : Nat → List Nat
  | 0 => List.replicate 32 0
  | i + 1 => ((((outL S i).set (4 * i) (S.getD i 0 / 16777216 % 256)).set (4 * i + 1) (S.getD i 0 / 65536 % 256)).set (4 * i + 2) (S.getD i 0 / 256 % 256)).set (4 * i + 3) (S.getD i 0 % 256)
theorem outL_len (S : List Nat) (i : Nat) : (outL S i).length = 32 := by
  induction i with
  | zero => simp [outL]
  | succ i ih => simp [outL, ih]
theorem outL_eq (a b c d e f g h : Nat) : outL [a, b, c, d, e, f, g, h] 8 = [a, b, c, d, e, f, g, h].flatMap bytes4 := by simp [outL, bytes4, List.replicate]
theorem bytes4_lt (x : Nat) : ∀ d ∈ bytes4 x, d < 256 := by
  intro d hd
  simp only [bytes4, List.mem_cons, List.not_mem_nil, or_false] at hd
  omega
theorem sha_lt (b : List Nat) : ∀ d ∈ sha b, d < 256 := by
  intro d hd
  simp only [sha, hashS, List.mem_flatMap] at hd
  obtain ⟨x, _, hx⟩ := hd
  exact bytes4_lt x d hx
theorem sha_len (b : List Nat) : (sha b).length = 32 := by
  have h := runB_len (K := K0) (S := H0) (bs := b ++ padN b.length) rfl ((b ++ padN b.length).length / 64)
  unfold sha hashS
  generalize runB K0 H0 (b ++ padN b.length) ((b ++ padN b.length).length / 64) = L at *
  rw [List.length_flatMap]
  have : L.map (fun a => (bytes4 a).length) = L.map (fun _ => 4) := rfl
  rw [this, List.map_const', List.sum_replicate_nat, h]
theorem dig8 (x j : Nat) : (x : Int) / 2 ^ (8 * j) % 256 = ((x / 256 ^ j % 256 : Nat) : Int) := by
  rw [show (256 : Nat) ^ j = 2 ^ (8 * j) from by rw [Nat.pow_mul], Int.natCast_emod, Int.natCast_ediv, Int.natCast_pow]; rfl
/-- a piece of a row of the call's own -/
theorem sl_sub {k : IntKind} {e : TypeId} {w : World} {B g n cap p m c : Nat} {os : List Nat} (h : w.ownsRow B e 1 (.slice (some ⟨g, 0, none⟩) n cap) n (nums k os)) (hp : p + m ≤ n) (hm : m ≤ c) (hc : c ≤ maxLen) : Sl k w (some ⟨g, p, none⟩) m c ((os.drop p).take m) := by
  have hl : os.length = n := by have := h.1; simpa using this
  refine ⟨by simp; omega, hm, hc, (fun e => by cases e), g, p, fun _ => rfl, fun j u hu => ?_⟩
  have hj : j < m := by
    have := (List.getElem?_eq_some_iff.1 hu).1
    simp at this
    omega
  rw [nums, List.map_take, List.map_drop, List.getElem?_take, if_pos hj, List.getElem?_drop] at hu
  rw [h.cellAt (p + j) (by omega)]
  exact hu
/-- the next block of the end -/
theorem end_block {P E : List Nat} {q sz p j : Nat} (h : P.drop (64 * q) = E.take sz) (hp : p = 64 * j) (hs : p + 64 ≤ sz) : (P.drop (64 * (q + j))).take 64 = (E.drop p).take 64 := by
  have e : P.drop (64 * (q + j)) = (E.take sz).drop p := by
    rw [← h, List.drop_drop, hp, Nat.mul_add]
  rw [e, List.drop_take, List.take_take, Nat.min_eq_left (by omega)]
end Go.Proofs.YtdopbhahcpjjgaaDoor

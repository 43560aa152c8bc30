/- A Hasher in memory; what it has taken. Plain facts, no walk. -/
import Derived.Test.YtdopbhahcpjjgaaDoorShPR
import Derived.Test.YtdopbhahcpjjgaaDoorSlice
namespace Go.Proofs.YtdopbhahcpjjgaaDoor
open Go.RowKit

structure HsAt (cur : Array Value) (ho : Nat) (S R : List Nat) (k n : Nat) : Prop where
  sl : S.length = 8
  rl : R.length = 64
  sz : ho + 74 ≤ cur.size
  s : ∀ i, i < 8 → cur[ho + i]? = some (.int .u32 ((S.getD i 0 : Nat) : Int))
  r : ∀ i, i < 64 → cur[ho + 8 + i]? = some (.int .u8 ((R.getD i 0 : Nat) : Int))
  k : cur[ho + 72]? = some (.int .i64 (k : Int))
  n : cur[ho + 73]? = some (.int .u64 (n : Int))
def OutEq (ho : Nat) (cur cur' : Array Value) : Prop := cur'.size = cur.size ∧ ∀ j, j < ho ∨ ho + 74 ≤ j → cur'[j]? = cur[j]?
theorem OutEq.refl (ho : Nat) (cur : Array Value) : OutEq ho cur cur := ⟨rfl, fun _ _ => rfl⟩
theorem OutEq.trans {ho : Nat} {a b c : Array Value} (h : OutEq ho a b) (k : OutEq ho b c) : OutEq ho a c := ⟨k.1.trans h.1, fun j hj => (k.2 j hj).trans (h.2 j hj)⟩
theorem HsAt.setN {cur : Array Value} {ho : Nat} {S R : List Nat} {k n : Nat} (h : HsAt cur ho S R k n) (m : Nat) : HsAt (cur.setIfInBounds (ho + 73) (.int .u64 (m : Int))) ho S R k m ∧ OutEq ho cur (cur.setIfInBounds (ho + 73) (.int .u64 (m : Int))) := by
  have hz := h.sz
  refine ⟨⟨h.sl, h.rl, by simpa using h.sz, fun i hi => ?_, fun i hi => ?_, ?_, ?_⟩, by simp, fun j hj => ?_⟩
  · rw [Array.getElem?_setIfInBounds_ne (by omega)]; exact h.s i hi
  · rw [Array.getElem?_setIfInBounds_ne (by omega)]; exact h.r i hi
  · rw [Array.getElem?_setIfInBounds_ne (by omega)]; exact h.k
  · rw [Array.getElem?_setIfInBounds_self_of_lt (by omega)]
  · rw [Array.getElem?_setIfInBounds_ne (by omega)]
theorem HsAt.setK {cur : Array Value} {ho : Nat} {S R : List Nat} {k n : Nat} (h : HsAt cur ho S R k n) (m : Nat) : HsAt (cur.setIfInBounds (ho + 72) (.int .i64 (m : Int))) ho S R m n ∧ OutEq ho cur (cur.setIfInBounds (ho + 72) (.int .i64 (m : Int))) := by
  have hz := h.sz
  refine ⟨⟨h.sl, h.rl, by simpa using h.sz, fun i hi => ?_, fun i hi => ?_, ?_, ?_⟩, by simp, fun j hj => ?_⟩
  · rw [Array.getElem?_setIfInBounds_ne (by omega)]; exact h.s i hi
  · rw [Array.getElem?_setIfInBounds_ne (by omega)]; exact h.r i hi
  · rw [Array.getElem?_setIfInBounds_self_of_lt (by omega)]
  · rw [Array.getElem?_setIfInBounds_ne (by omega)]; exact h.n
  · rw [Array.getElem?_setIfInBounds_ne (by omega)]
theorem HsAt.mixed {cur : Array Value} {ho : Nat} {S R L : List Nat} {k n : Nat} (h : HsAt cur ho S R k n) (hL : L.length = 8) : HsAt (putN cur ho L 8) ho L R k n ∧ OutEq ho cur (putN cur ho L 8) := by
  have hz := h.sz
  refine ⟨⟨hL, h.rl, by rw [putN_size]; exact h.sz, fun i hi => putN_in _ _ _ _ _ hi (by omega), fun i hi => ?_, ?_, ?_⟩, putN_size _ _ _ _, fun j hj => putN_far _ _ _ _ _ (by omega)⟩
  · rw [putN_far _ _ _ _ _ (by omega)]; exact h.r i hi
  · rw [putN_far _ _ _ _ _ (by omega)]; exact h.k
  · rw [putN_far _ _ _ _ _ (by omega)]; exact h.n
theorem HsAt.copied {cur : Array Value} {ho : Nat} {S R ds : List Nat} {k n off : Nat} (h : HsAt cur ho S R k n) (hd : off + ds.length ≤ 64) :
    HsAt (splice cur.toList (ho + 8 + off) (nums .u8 ds)).toArray ho S (splice R off ds) k n ∧ OutEq ho cur (splice cur.toList (ho + 8 + off) (nums .u8 ds)).toArray := by
  have hz := h.sz
  have hfit : ho + 8 + off + (nums .u8 ds).length ≤ cur.toList.length := by simp; omega
  have far : ∀ j, j < ho + 8 + off ∨ ho + 8 + off + ds.length ≤ j → (splice cur.toList (ho + 8 + off) (nums .u8 ds)).toArray[j]? = cur[j]? := by
    intro j hj
    rw [List.getElem?_toArray, splice_get _ _ _ hfit]
    rcases hj with hj | hj
    · rw [if_pos hj]; simp
    · rw [if_neg (by omega), if_neg (by simp; omega)]; simp
  have hRl : (splice R off ds).length = 64 := by rw [length_splice _ _ _ (by rw [h.rl]; exact hd), h.rl]
  refine ⟨⟨h.sl, hRl, ?_, fun i hi => ?_, fun i hi => ?_, ?_, ?_⟩, ?_, fun j hj => far j (by omega)⟩
  · rw [List.size_toArray, length_splice _ _ _ hfit]; simpa using h.sz
  · rw [far _ (by omega)]; exact h.s i hi
  · by_cases c : i < off ∨ off + ds.length ≤ i
    · rw [far _ (by omega), h.r i hi]
      congr 3
      rw [List.getD_eq_getElem?_getD, List.getD_eq_getElem?_getD, splice_get _ _ _ (by rw [h.rl]; exact hd)]
      rcases c with c | c
      · rw [if_pos c]
      · rw [if_neg (by omega), if_neg (by omega)]
    · rw [List.getElem?_toArray, splice_get _ _ _ hfit, if_neg (by omega), if_pos (by simp; omega), nums_get .u8 (by omega)]
      congr 3
      rw [List.getD_eq_getElem?_getD, List.getD_eq_getElem?_getD, splice_get _ _ _ (by rw [h.rl]; exact hd), if_neg (by omega), if_pos (by omega)]
      congr 2
      omega
  · rw [far _ (by omega)]; exact h.k
  · rw [far _ (by omega)]; exact h.n
  · rw [List.size_toArray, length_splice _ _ _ hfit]; simp

theorem HsAt.rest {w : World} {H : Nat} {T : TypeId} {cur : Array Value} {ho : Nat} {S R : List Nat} {k n : Nat} (h : HsAt cur ho S R k n) (hh : w.heap[H]? = some (.cells cur T (0, 0))) : Sl .u8 w (some ⟨H, ho + 8, none⟩) 64 64 R := by
  refine ⟨by simp [h.rl], Nat.le_refl _, by decide, (fun e => by cases e), H, ho + 8, fun _ => rfl, fun j u hu => ?_⟩
  have hj : j < 64 := by
    have := (List.getElem?_eq_some_iff.1 hu).1
    rw [nums_length, h.rl] at this
    exact this
  rw [cell_of_row w H _ cur T (0, 0) hh, h.r j hj]
  rw [nums_get .u8 (by rw [h.rl]; exact hj)] at hu
  exact hu
/-- the bytes taken; the state and the rest behind them -/
structure Took (all S R : List Nat) (k : Nat) : Prop where
  s : S = runB K0 H0 all (all.length / 64)
  kk : k = all.length % 64
  l : R.length = 64
  r : R.take k = all.drop (64 * (all.length / 64))
  b : ∀ d ∈ R, d < 256
theorem splice_lt {R ds : List Nat} {off : Nat} (h : ∀ d ∈ R, d < 256) (h' : ∀ d ∈ ds, d < 256) : ∀ d ∈ splice R off ds, d < 256 := by
  intro d hd
  unfold splice at hd
  rcases List.mem_append.1 hd with hd | hd
  · exact h d (List.mem_of_mem_take hd)
  · rcases List.mem_append.1 hd with hd | hd
    · exact h' d hd
    · exact h d (List.mem_of_mem_drop hd)
theorem splice_take {R ds : List Nat} {off : Nat} (h : off + ds.length ≤ R.length) : (splice R off ds).take (off + ds.length) = R.take off ++ ds := by
  unfold splice
  rw [← List.append_assoc, List.take_append_of_le_length (by simp; omega), List.take_of_length_le (by simp; omega)]
theorem Took.fill {all S R bs : List Nat} {k : Nat} (h : Took all S R k) (hk : k + bs.length < 64) (hb : ∀ d ∈ bs, d < 256) : Took (all ++ bs) S (splice R k bs) (k + bs.length) := by
  have hk' := h.kk
  have hl := h.l
  have hq : (all ++ bs).length / 64 = all.length / 64 := by rw [List.length_append]; omega
  have hle : 64 * (all.length / 64) ≤ all.length := by omega
  refine ⟨?_, ?_, ?_, ?_, splice_lt h.b hb⟩
  · rw [hq, runB_front _ _ _ hle]; exact h.s
  · rw [List.length_append]; omega
  · rw [length_splice _ _ _ (by omega)]; exact hl
  · rw [hq, splice_take (R := R) (ds := bs) (off := k) (by omega), h.r, List.drop_append_of_le_length hle]
/-- the rest is full: it is the next block -/
theorem Took.full {all S R bs : List Nat} {k : Nat} (h : Took all S R k) (h0 : 0 < k) (hk : 64 ≤ k + bs.length) :
    splice R k (bs.take (64 - k)) = ((all ++ bs).drop (64 * (all.length / 64))).take 64 ∧ S = runB K0 H0 (all ++ bs) (all.length / 64) ∧ bs.drop (64 - k) = (all ++ bs).drop (64 * (all.length / 64 + 1)) ∧ 64 * (all.length / 64 + 1) ≤ (all ++ bs).length := by
  have hk' := h.kk
  have hl := h.l
  have hkl : k < 64 := by omega
  have htl : (bs.take (64 - k)).length = 64 - k := by rw [List.length_take]; omega
  have hle : 64 * (all.length / 64) ≤ all.length := by omega
  have hdl : (all.drop (64 * (all.length / 64))).length = k := by rw [List.length_drop]; omega
  refine ⟨?_, ?_, ?_, by rw [List.length_append]; omega⟩
  · have e1 : splice R k (bs.take (64 - k)) = R.take k ++ bs.take (64 - k) := by
      unfold splice
      rw [htl, show k + (64 - k) = 64 by omega, List.drop_of_length_le (by omega), List.append_nil]
    rw [e1, h.r, List.drop_append_of_le_length hle]
    generalize all.drop (64 * (all.length / 64)) = D at *
    rw [List.take_append, hdl, List.take_of_length_le (l := D) (by omega)]
  · rw [runB_front _ _ _ hle]; exact h.s
  · have e : all.drop (64 * (all.length / 64 + 1)) = [] := List.drop_of_length_le (by omega)
    rw [List.drop_append, e, List.nil_append]
    congr 1
    omega
theorem Took.zero {all S R bs : List Nat} (h : Took all S R 0) : bs = (all ++ bs).drop (64 * (all.length / 64)) ∧ S = runB K0 H0 (all ++ bs) (all.length / 64) ∧ 64 * (all.length / 64) ≤ (all ++ bs).length := by
  have hk' := h.kk
  have e : 64 * (all.length / 64) = all.length := by omega
  refine ⟨by rw [e, List.drop_left], ?_, by rw [List.length_append]; omega⟩
  rw [runB_front _ _ _ (by omega)]; exact h.s
theorem Took.last {A S R xs : List Nat} {q : Nat} (hx : xs = A.drop (64 * q)) (hq : 64 * q ≤ A.length) (hS : S = runB K0 H0 A q) (hl : xs.length < 64) (hR : R.length = 64) (hRb : ∀ d ∈ R, d < 256) (hb : ∀ d ∈ xs, d < 256) : Took A S (splice R 0 xs) xs.length := by
  have h1 : xs.length = A.length - 64 * q := by rw [hx, List.length_drop]
  have e : A.length / 64 = q := by omega
  refine ⟨by rw [e]; exact hS, by omega, by rw [length_splice _ _ _ (by omega)]; exact hR, ?_, splice_lt hRb hb⟩
  have := splice_take (R := R) (ds := xs) (off := 0) (by omega)
  rw [Nat.zero_add] at this
  rw [this, e, List.take_zero, List.nil_append]
  exact hx
theorem Took.start {R : List Nat} (hR : R.length = 64) (hb : ∀ d ∈ R, d < 256) : Took [] H0 R 0 := ⟨rfl, rfl, hR, by simp, hb⟩
def WrRes (H ho : Nat) (T : TypeId) (cur : Array Value) (A : List Nat) (w : World) (e : Ending) (w' : World) : Prop :=
  e = .returned (.tuple #[]) ∧ Far H w w' ∧ ∃ cur' S' R' k', w'.heap[H]? = some (.cells cur' T (0, 0)) ∧ OutEq ho cur cur' ∧ HsAt cur' ho S' R' k' A.length ∧ Took A S' R' k'
theorem Tabs.far {H : Nat} {w w' : World} (h : Tabs w) (hf : Far H w w') (h0 : H ≠ 0) (h1 : H ≠ 1) : Tabs w' := by
  refine ⟨fun i hi => ?_, fun i hi => ?_⟩
  · have := h.1 i hi
    rw [World.cell?_of_block (hf.block _ (World.block_lt_of_cell? w _ this) (by simpa using Ne.symm h0))]; exact this
  · have := h.2 i hi
    rw [World.cell?_of_block (hf.block _ (World.block_lt_of_cell? w _ this) (by simpa using Ne.symm h1))]; exact this
end Go.Proofs.YtdopbhahcpjjgaaDoor

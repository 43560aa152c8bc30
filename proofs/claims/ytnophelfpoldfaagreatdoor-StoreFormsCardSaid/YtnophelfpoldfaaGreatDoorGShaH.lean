/- Slices of bytes cut in front, wherever they lie; the builtin copy into a block, all other blocks left alone. -/
import Derived.Test.YtnophelfpoldfaaGreatDoorGKey
import Derived.Laws.CopyOwn
import Derived.Deep.RegionLaw
import Derived.Test.YtnophelfpoldfaaGreatDoorGShaW
namespace Go.Proofs.YtnophelfpoldfaaGreatDoor
open Go.RowKit

theorem szBs (w : World) : (sizeOf (Tryz.prog.elem 22)).run Tryz.prog w = .ok 1 w := by
  have h := infoU8
  have e : Tryz.prog.elem 22 = 5 := by kernel_rfl
  rw [e]
  cases hi : Tryz.prog.info? 5 with
  | none => rw [hi] at h; cases h
  | some i =>
    rw [hi] at h
    simp only [Option.map_some, Option.some.injEq, Prod.mk.injEq] at h
    simp [sizeOf, typeInfo, hi, h.2.1]
theorem undBs : Tryz.prog.underlying 22 = some (.slice (Tryz.prog.elem 22)) := by kernel_rfl
/-- a slice that does not lie in block H -/
def ApH (H : Nat) (a : Option Addr) (n : Nat) : Prop := 0 < n → ∀ b off, a = some ⟨b, off, none⟩ → b ≠ H
theorem Sl.cut {k : IntKind} {w : World} {a : Option Addr} {n cap m : Nat} {xs : List Nat} (h : Sl k w a n cap xs) (hm : m ≤ n) :
    Sl k w (if cap = m then a else a.map (·.add (m * 1))) (n - m) (cap - m) (xs.drop m) ∧ ∀ H, ApH H a n → ApH H (if cap = m then a else a.map (·.add (m * 1))) (n - m) := by
  have hl := h.len
  obtain ⟨_, h2, h3, h4, b, off, ha, hc⟩ := h
  by_cases h0 : n = m
  · subst h0
    have e : xs.drop n = [] := List.drop_eq_nil_of_le (by omega)
    rw [e]
    refine ⟨⟨by simp [nums], by omega, by omega, ?_, 0, 0, by omega, by simp [nums]⟩, fun H _ h => by omega⟩
    intro hn
    split at hn
    · have := h4 hn; omega
    · cases a with
      | none => have := h4 rfl; omega
      | some a => simp at hn
  · obtain rfl := ha (by omega)
    have hadd : (⟨b, off, none⟩ : Addr).add (m * 1) = ⟨b, off + m, none⟩ := by unfold Addr.add; split <;> simp_all
    rw [if_neg (by omega)]
    simp only [Option.map_some, hadd]
    refine ⟨⟨by simp; omega, by omega, by omega, (fun e => by cases e), b, off + m, fun _ => rfl, fun j u hu => ?_⟩, fun H hH _ b' off' he => ?_⟩
    · rw [nums, List.map_drop, List.getElem?_drop] at hu
      rw [Nat.add_assoc]
      exact hc _ _ hu
    · simp only [Option.some.injEq, Addr.mk.injEq, and_true] at he
      exact hH (by omega) b' off (by rw [he.1])
/-- 'x[m:]' -/
theorem wpList_cutG {w w0 : World} {ops : Array Oper} {rest : List Oper} {o : Oper} {a : Act} {Q : Exit → Act → World → Prop} (hg : o.guard = none) (x lo : Operand) (hop : o.op = Op.slice 22 x (some lo) none none)
    {ad : Option Addr} {n c m : Nat} {xs : List Nat} (hS : Sl .u8 w0 ad n c xs) (hx : a.eval x = .slice ad n c) (hlo : a.eval lo = .int .i64 (m : Int)) (hm : m ≤ n)
    (h : ∀ ad', Sl .u8 w0 ad' (n - m) (c - m) (xs.drop m) → (∀ H, ApH H ad n → ApH H ad' (n - m)) → wpList Tryz.prog ops Q rest (a.put o.dst (.slice ad' (n - m) (c - m))) w) : wpList Tryz.prog ops Q (o :: rest) a w := by
  refine wpList_plain hg fun K hK => ?_
  have hc := hS.2.1
  have hs : (Instr.sliceAt 22 (.slice ad n c) (some (.int .i64 (m : Int))) none none).run Tryz.prog w = .ok (.slice (if c = m then ad else ad.map (·.add (m * 1))) (n - m) (c - m)) w := by
    rw [run_sliceAt_slice w _ _ _ _ _ undBs, run_slice_any w _ _ _ _ undBs]
    simp [Instr.sliceBounds, run_sliceBound w, szBs, Result.andThen, sliced, hm]
  obtain ⟨h1, h2⟩ := Sl.cut hS hm
  unfold Oper.wp execOp
  simp only [hop, hx, hlo, Option.map_some, Option.map_none, hs, Sem.run_bind, Result.andThen]
  exact hK _ _ (h _ h1 h2)
/-- 'x[m:h]' -/
theorem wpList_cutLH {w w0 : World} {ops : Array Oper} {rest : List Oper} {o : Oper} {a : Act} {Q : Exit → Act → World → Prop} (hg : o.guard = none) (x lo hi : Operand) (hop : o.op = Op.slice 22 x (some lo) (some hi) none)
    {ad : Option Addr} {n c m h : Nat} {xs : List Nat} (hS : Sl .u8 w0 ad n c xs) (hx : a.eval x = .slice ad n c) (hlo : a.eval lo = .int .i64 (m : Int)) (hhi : a.eval hi = .int .i64 (h : Int)) (hm : m ≤ h) (hh : h ≤ n)
    (hK' : ∀ ad', Sl .u8 w0 ad' (h - m) (c - m) ((xs.drop m).take (h - m)) → (∀ H, ApH H ad n → ApH H ad' (h - m)) → wpList Tryz.prog ops Q rest (a.put o.dst (.slice ad' (h - m) (c - m))) w) : wpList Tryz.prog ops Q (o :: rest) a w := by
  refine wpList_plain hg fun K hK => ?_
  have hc := hS.2.1
  have hs : (Instr.sliceAt 22 (.slice ad n c) (some (.int .i64 (m : Int))) (some (.int .i64 (h : Int))) none).run Tryz.prog w = .ok (.slice (if c = m then ad else ad.map (·.add (m * 1))) (h - m) (c - m)) w := by
    rw [run_sliceAt_slice w _ _ _ _ _ undBs, run_slice_lh w _ _ _ _ undBs _ _ _ _ (by omega) (by omega) (by omega)]
    simp [szBs, Result.andThen, sliced]
  obtain ⟨h1, h2⟩ := Sl.cut hS (show m ≤ n by omega)
  unfold Oper.wp execOp
  simp only [hop, hx, hlo, hhi, Option.map_some, Option.map_none, hs, Sem.run_bind, Result.andThen]
  exact hK _ _ (hK' _ (h1.take (m := h - m) (by omega)) fun H hH hp b off hb => h2 H hH (by omega) b off hb)
theorem szU8m : (Tryz.prog.info? 5).map (·.size) = some 1 := by
  have h := infoU8
  cases hi : Tryz.prog.info? 5 with
  | none => rw [hi] at h; cases h
  | some i =>
    rw [hi] at h
    simp only [Option.map_some, Option.some.injEq, Prod.mk.injEq] at h
    simp [h.2.1]
theorem splice_get {α : Type} (L : List α) (off : Nat) (cs : List α) (h : off + cs.length ≤ L.length) (j : Nat) : (splice L off cs)[j]? = if j < off then L[j]? else if j < off + cs.length then cs[j - off]? else L[j]? := by
  unfold splice
  by_cases h1 : j < off
  · rw [if_pos h1, List.getElem?_append_left (by rw [List.length_take]; omega), List.getElem?_take, if_pos h1]
  · rw [if_neg h1, List.getElem?_append_right (by rw [List.length_take]; omega), List.length_take, Nat.min_eq_left (by omega)]
    by_cases h2 : j < off + cs.length
    · rw [if_pos h2, List.getElem?_append_left (by omega)]
    · rw [if_neg h2, List.getElem?_append_right (by omega), List.getElem?_drop]
      congr 1
      omega
/-- the run of 'copy(d, s)', d in block g -/
theorem copy_far {P : Program} {w : World} {o : Oper} {a : Act} {K : Act → World → Prop} {Q : Exit → Act → World → Prop} (d s : Operand) (dT sT : TypeId)
    (ho : o.op = .call { callee := .builtin .copy, args := #[d, s], argTypes := #[dT, sT] }) {elem : TypeId} (hu : P.underlying dT = some (.slice elem)) (hsz : (P.info? elem).map (·.size) = some 1)
    {g off dLen dCap sLen sCap : Nat} {ad : Option Addr} (hd : a.eval d = .slice (some ⟨g, off, none⟩) dLen dCap) (hs : a.eval s = .slice ad sLen sCap)
    {cur : Array Value} {t : TypeId} (hg : w.heap[g]? = some (.cells cur t (0, 0))) {cs : List Value} (hr : Rd w 1 ad sLen sCap cs) (h1 : ∀ v ∈ cs, v.oneCell' = true) (hfit : off + dLen ≤ cur.size)
    (h : ∀ w', w'.heap[g]? = some (.cells (splice cur.toList off (cs.take (Nat.min sLen dLen))).toArray t (0, 0)) → Far g w w' → K (a.put o.dst (.int .i64 ((Nat.min sLen dLen : Nat) : Int))) w') : Oper.wp P o a w K Q := by
  obtain ⟨r1, r2, r3, r4, b, off', ha, hc⟩ := hr
  have hlen : (cs.take (Nat.min sLen dLen)).length = Nat.min sLen dLen := by
    have : Nat.min sLen dLen ≤ sLen := Nat.min_le_left _ _
    rw [List.length_take]; omega
  have hmd : Nat.min sLen dLen ≤ dLen := Nat.min_le_right _ _
  have hms : Nat.min sLen dLen ≤ sLen := Nat.min_le_left _ _
  by_cases h0 : Nat.min sLen dLen = 0
  · have hrun := run_copy_none (P := P) w dT sT o.type elem (some ⟨g, off, none⟩) ad dLen dCap sLen sCap hu hsz h0
    unfold Oper.wp
    simp [execOp, ho, resolve, invoke, builtin, hd, hs, hrun, Result.andThen]
    have := h w (by rw [h0]; simpa [splice] using hg) (Far.refl g w)
    rw [h0] at this
    exact this
  · obtain rfl := ha (by omega)
    have hrun := run_copy_row (P := P) w dT sT o.type elem g off dLen dCap ⟨b, off', none⟩ sLen sCap cur t (cs.take (Nat.min sLen dLen)) hu hsz hg hlen (fun j v hj => by
      have hadd : (⟨b, off', none⟩ : Addr).add j = ⟨b, off' + j, none⟩ := by unfold Addr.add; split <;> simp_all
      rw [hadd]
      rw [List.getElem?_take] at hj
      split at hj
      · exact hc j v hj
      · cases hj) (by rw [hlen]; omega) (fun v hv => h1 v (List.mem_of_mem_take hv))
    rw [hlen] at hrun
    have hf := h (w.setRow g (cur.toList.take off ++ cs.take (Nat.min sLen dLen) ++ cur.toList.drop (off + Nat.min sLen dLen)).toArray)
      (by rw [setRow_heap w g _ _ t _ hg, splice, hlen, List.append_assoc]) ⟨rfl, rfl, rfl, by simp [World.setRow], fun k _ hk => setRow_other w g k _ (by simpa using hk)⟩
    clear h hlen hmd hms h0
    generalize cs.take (Nat.min sLen dLen) = ds at *
    generalize Nat.min sLen dLen = M at *
    unfold Oper.wp
    simp only [execOp, ho, resolve, invoke, builtin, List.map_toArray, List.map_cons, List.map_nil, hd, hs]
    simp [hrun, Result.andThen]
    simp only [List.append_assoc] at hf
    exact hf
theorem wpList_copyF {P : Program} {w : World} {ops : Array Oper} {rest : List Oper} {o : Oper} {a : Act} {Q : Exit → Act → World → Prop} (hgd : o.guard = none) (d s : Operand) (dT sT : TypeId)
    (ho : o.op = .call { callee := .builtin .copy, args := #[d, s], argTypes := #[dT, sT] }) {elem : TypeId} (hu : P.underlying dT = some (.slice elem)) (hsz : (P.info? elem).map (·.size) = some 1)
    {g off dLen dCap sLen sCap : Nat} {ad : Option Addr} (hd : a.eval d = .slice (some ⟨g, off, none⟩) dLen dCap) (hs : a.eval s = .slice ad sLen sCap)
    {cur : Array Value} {t : TypeId} (hg : w.heap[g]? = some (.cells cur t (0, 0))) {cs : List Value} (hr : Rd w 1 ad sLen sCap cs) (h1 : ∀ v ∈ cs, v.oneCell' = true) (hfit : off + dLen ≤ cur.size)
    (h : ∀ w', w'.heap[g]? = some (.cells (splice cur.toList off (cs.take (Nat.min sLen dLen))).toArray t (0, 0)) → Far g w w' → wpList P ops Q rest (a.put o.dst (.int .i64 ((Nat.min sLen dLen : Nat) : Int))) w') : wpList P ops Q (o :: rest) a w :=
  wpList_plain hgd fun _ hK => copy_far d s dT sT ho hu hsz hd hs hg hr h1 hfit fun w' h2 h3 => hK _ _ (h w' h2 h3)
theorem step_copyF {P : Program} {ops : Array Oper} {o : Oper} {a : Act} {w : World} {K : Act → World → Prop} {Q : Exit → Act → World → Prop} {E : Prop} (hgd : o.guard = none) (d s : Operand) (dT sT : TypeId)
    (ho : o.op = .call { callee := .builtin .copy, args := #[d, s], argTypes := #[dT, sT] }) {elem : TypeId} (hu : P.underlying dT = some (.slice elem)) (hsz : (P.info? elem).map (·.size) = some 1)
    {g off dLen dCap sLen sCap : Nat} {ad : Option Addr} (hd : a.eval d = .slice (some ⟨g, off, none⟩) dLen dCap) (hs : a.eval s = .slice ad sLen sCap)
    {cur : Array Value} {t : TypeId} (hg : w.heap[g]? = some (.cells cur t (0, 0))) {cs : List Value} (hr : Rd w 1 ad sLen sCap cs) (h1 : ∀ v ∈ cs, v.oneCell' = true) (hfit : off + dLen ≤ cur.size)
    (h : ∀ w', w'.heap[g]? = some (.cells (splice cur.toList off (cs.take (Nat.min sLen dLen))).toArray t (0, 0)) → Far g w w' → K (a.put o.dst (.int .i64 ((Nat.min sLen dLen : Nat) : Int))) w') :
    if Region.wanted o (yielded ops a.tmps) = true then Oper.wp P o a w K Q else E := by
  have hw : Region.wanted o (yielded ops a.tmps) = true := by simp [Region.wanted, hgd]
  rw [if_pos hw]
  exact copy_far d s dT sT ho hu hsz hd hs hg hr h1 hfit h
end Go.Proofs.YtnophelfpoldfaaGreatDoor

/- A Hasher in memory; what it has taken. Plain facts, no walk. -/
namespace Go.Proofs.YtnophelfpoldfaaGreatDoor
open Go.RowKit

structure HsAt (cur : Array Value) (ho : Nat) (S R : List Nat) (k n : Nat) : Prop where
  sl : S.length = 8
  rl : R.length = 64
  sz : ho + 74 ≤ cur.size
  s : ∀ i, i < 8 → cur[ho + i]? = some (.int .u32 ((S.getD i 0 : Nat) : Int))
  r : ∀ i, i < 64 → cur[ho + 8 + i]? = some (.int .u8 ((R.getD i 0 : Nat) : Int))
  k : cur[ho + 72]? = some (.int .i64 (k : Int))
  n : cur[ho + 73]? = some (.int .u64 (n : Int))
def OutEq (ho : Nat) (cur cur' : Array Value) : Prop := cur'.size = cur.size ∧ ∀ j, j < ho ∨ ho + 74 ≤ j → cur'[j]? = cur[j]?
theorem OutEq.refl (ho : Nat) (cur : Array Value) : OutEq ho cur cur := ⟨rfl, fun _ _ => rfl⟩
theorem OutEq.trans {ho : Nat} {a b c : Array Value} (h : OutEq ho a b) (k : OutEq ho b c) : OutEq ho a c := ⟨k.1.trans h.1, fun j hj => (k.2 j hj).trans (h.2 j hj)⟩
theorem HsAt.setN {cur : Array Value} {ho : Nat} {S R : List Nat} {k n : Nat} (h : HsAt cur ho S R k n) (m : Nat) : HsAt (cur.setIfInBounds (ho + 73) (.int .u64 (m : Int))) ho S R k m ∧ OutEq ho cur (cur.setIfInBounds (ho + 73) (.int .u64 (m : Int))) := by
  have hz := h.sz
  refine ⟨⟨h.sl, h.rl, by simpa using h.sz, fun i hi => ?_, fun i hi => ?_, ?_, ?_⟩, by simp, fun j hj => ?_⟩
  · rw [Array.getElem?_setIfInBounds_ne (by omega)]; exact h.s i hi
  · rw [Array.getElem?_setIfInBounds_ne (by omega)]; exact h.r i hi
  · rw [Array.getElem?_setIfInBounds_ne (by omega)]; exact h.k
  · rw [Array.getElem?_setIfInBounds_self_of_lt (by omega)]
  · rw [Array.getElem?_setIfInBounds_ne (by omega)]
theorem HsAt.setK {cur : Array Value} {ho : Nat} {S R : List Nat} {k n : Nat} (h : HsAt cur ho S R k n) (m : Nat) : HsAt (cur.setIfInBounds (ho + 72) (.int .i64 (m : Int))) ho S R m n ∧ OutEq ho cur (cur.setIfInBounds (ho + 72) (.int .i64 (m : Int))) := by
  have hz := h.sz
  refine ⟨⟨h.sl, h.rl, by simpa using h.sz, fun i hi => ?_, fun i hi => ?_, ?_, ?_⟩, by simp, fun j hj => ?_⟩
  · rw [Array.getElem?_setIfInBounds_ne (by omega)]; exact h.s i hi
  · rw [Array.getElem?_setIfInBounds_ne (by omega)]; exact h.r i hi
  · rw [Array.getElem?_setIfInBounds_self_of_lt (by omega)]
  · rw [Array.getElem?_setIfInBounds_ne (by omega)]; exact h.n
  · rw [Array.getElem?_setIfInBounds_ne (by omega)]
theorem HsAt.mixed {cur : Array Value} {ho : Nat} {S R L : List Nat} {k n : Nat} (h : HsAt cur ho S R k n) (hL : L.length = 8) : HsAt (putN cur ho L 8) ho L R k n ∧ OutEq ho cur (putN cur ho L 8) := by
  have hz := h.sz
  refine ⟨⟨hL, h.rl, by rw [putN_size]; exact h.sz, fun i hi => putN_in _ _ _ _ _ hi (by omega), fun i hi => ?_, ?_, ?_⟩, putN_size _ _ _ _, fun j hj => putN_far _ _ _ _ _ (by omega)⟩
  · rw [putN_far _ _ _ _ _ (by omega)]; exact h.r i hi
  · rw [putN_far _ _ _ _ _ (by omega)]; exact h.k
  · rw [putN_far _ _ _ _ _ (by omega)]; exact h.n
theorem HsAt.copied {cur : Array Value} {ho : Nat} {S R ds : List Nat} {k n off : Nat} (h : HsAt cur ho S R k n) (hd : off + ds.length ≤ 64) :
    HsAt (splice cur.toList (ho + 8 + off) (nums .u8 ds)).toArray ho S (splice R off ds) k n ∧ OutEq ho cur (splice cur.toList (ho + 8 + off) (nums .u8 ds)).toArray := by
  have hz := h.sz
  have hfit : ho + 8 + off + (nums .u8 ds).length ≤ cur.toList.length := by simp; omega
  have far : ∀ j, j < ho + 8 + off ∨ ho + 8 + off + ds.length ≤ j → (splice cur.toList (ho + 8 + off) (nums .u8 ds)).toArray[j]? = cur[j]? := by
    intro j hj
    rw [List.getElem?_toArray, splice_get _ _ _ hfit]
    rcases hj with hj | hj
    · rw [if_pos hj]; simp
    · rw [if_neg (by omega), if_neg (by simp; omega)]; simp
  have hRl : (splice R off ds).length = 64 := by rw [length_splice _ _ _ (by rw [h.rl]; exact hd), h.rl]
  refine ⟨⟨h.sl, hRl, ?_, fun i hi => ?_, fun i hi => ?_, ?_, ?_⟩, ?_, fun j hj => far j (by omega)⟩
  · rw [List.size_toArray, length_splice _ _ _ hfit]; simpa using h.sz
  · rw [far _ (by omega)]; exact h.s i hi
  · by_cases c : i < off ∨ off + ds.length ≤ i
    · rw [far _ (by omega), h.r i hi]
      congr 3
      rw [List.getD_eq_getElem?_getD, List.getD_eq_getElem?_getD, splice_get _ _ _ (by rw [h.rl]; exact hd)]
      rcases c with c | c
      · rw [if_pos c]
      · rw [if_neg (by omega), if_neg (by omega)]
    · rw [List.getElem?_toArray, splice_get _ _ _ hfit, if_neg (by omega), if_pos (by simp; omega), nums_get .u8 (by omega)]
      congr 3
      rw [List.getD_eq_getElem?_getD, List.getD_eq_getElem?_getD, splice_get _ _ _ (by rw [h.rl]; exact hd), if_neg (by omega), if_pos (by omega)]
      congr 2
      omega
  · rw [far _ (by omega)]; exact h.k
  · rw [far _ (by omega)]; exact h.n
  · rw [List.size_toArray, length_splice _ _ _ hfit]; simp

theorem HsAt.rest {w : World} {H : Nat} {T : TypeId} {cur : Array Value} {ho : Nat} {S R : List Nat} {k n : Nat} (h : HsAt cur ho S R k n) (hh : w.heap[H]? = some (.cells cur T (0, 0))) : Sl .u8 w (some ⟨H, ho + 8, none⟩) 64 64 R := by
  refine ⟨by simp [h.rl], Nat.le_refl _, by decide, (fun e => by cases e), H, ho + 8, fun _ => rfl, fun j u hu => ?_⟩
  have hj : j < 64 := by
    have := (List.getElem?_eq_some_iff.1 hu).1
    rw [nums_length, h.rl] at this
    exact this
  rw [cell_of_row w H _ cur T (0, 0) hh, h.r j hj]
  rw [nums_get .u8 (by rw [h.rl]; exact hj)] at hu
  exact hu
/-- the bytes taken; the state and the rest behind them -/
structure Took (all S R : List Nat) (k : Nat) : Prop where
  s : S = runB K0 H0 all (all.length / 64)
  kk : k = all.length % 64
  l : R.length = 64
  r : R.take k = all.drop (64 * (all.length / 64))
  b : ∀ d ∈ R, d < 256
theorem splice_lt {R ds : List Nat} {off : Nat} (h : ∀ d ∈ R, d < 256) (h' : ∀ d ∈ ds, d < 256) : ∀ d ∈ splice R off ds, d < 256 := by
  intro d hd
  unfold splice at hd
  rcases List.mem_append.1 hd with hd | hd
  · exact h d (List.mem_of_mem_take hd)
  · rcases List.mem_append.1 hd with hd | hd
    · exact h' d hd
    · exact h d (List.mem_of_mem_drop hd)
theorem splice_take {R ds : List Nat} {off : Nat} (h : off + ds.length ≤ R.length) : (splice R off ds).take (off + ds.length) = R.take off ++ ds := by
  unfold splice
  rw [← List.append_assoc, List.take_append_of_le_length (by simp; omega), List.take_of_length_le (by simp; omega)]
theorem Took.fill {all S R bs : List Nat} {k : Nat} (h : Took all S R k) (hk : k + bs.length < 64) (hb : ∀ d ∈ bs, d < 256) : Took (all ++ bs) S (splice R k bs) (k + bs.length) := by
  have hk' := h.kk
  have hl := h.l
  have hq : (all ++ bs).length / 64 = all.length / 64 := by rw [List.length_append]; omega
  have hle : 64 * (all.length / 64) ≤ all.length := by omega
  refine ⟨?_, ?_, ?_, ?_, splice_lt h.b hb⟩
  · rw [hq, runB_front _ _ _ hle]; exact h.s
  · rw [List.length_append]; omega
  · rw [length_splice _ _ _ (by omega)]; exact hl
  · rw [hq, splice_take (R := R) (ds := bs) (off := k) (by omega), h.r, List.drop_append_of_le_length hle]
/-- the rest is full: it is the next block -/
theorem Took.full {all S R bs : List Nat} {k : Nat} (h : Took all S R k) (h0 : 0 < k) (hk : 64 ≤ k + bs.length) :
    splice R k (bs.take (64 - k)) = ((all ++ bs).drop (64 * (all.length / 64))).take 64 ∧ S = runB K0 H0 (all ++ bs) (all.length / 64) ∧ bs.drop (64 - k) = (all ++ bs).drop (64 * (all.length / 64 + 1)) ∧ 64 * (all.length / 64 + 1) ≤ (all ++ bs).length := by
  have hk' := h.kk
  have hl := h.l
  have hkl : k < 64 := by omega
  have htl : (bs.take (64 - k)).length = 64 - k := by rw [List.length_take]; omega
  have hle : 64 * (all.length / 64) ≤ all.length := by omega
  have hdl : (all.drop (64 * (all.length / 64))).length = k := by rw [List.length_drop]; omega
  refine ⟨?_, ?_, ?_, by rw [List.length_append]; omega⟩
  · have e1 : splice R k (bs.take (64 - k)) = R.take k ++ bs.take (64 - k) := by
      unfold splice
      rw [htl, show k + (64 - k) = 64 by omega, List.drop_of_length_le (by omega), List.append_nil]
    rw [e1, h.r, List.drop_append_of_le_length hle]
    generalize all.drop (64 * (all.length / 64)) = D at *
    rw [List.take_append, hdl, List.take_of_length_le (l := D) (by omega)]
  · rw [runB_front _ _ _ hle]; exact h.s
  · have e : all.drop (64 * (all.length / 64 + 1)) = [] := List.drop_of_length_le (by omega)
    rw [List.drop_append, e, List.nil_append]
    congr 1
    omega
theorem Took.zero {all S R bs : List Nat} (h : Took all S R 0) : bs = (all ++ bs).drop (64 * (all.length / 64)) ∧ S = runB K0 H0 (all ++ bs) (all.length / 64) ∧ 64 * (all.length / 64) ≤ (all ++ bs).length := by
  have hk' := h.kk
  have e : 64 * (all.length / 64) = all.length := by omega
  refine ⟨by rw [e, List.drop_left], ?_, by rw [List.length_append]; omega⟩
  rw [runB_front _ _ _ (by omega)]; exact h.s
theorem Took.last {A S R xs : List Nat} {q : Nat} (hx : xs = A.drop (64 * q)) (hq : 64 * q ≤ A.length) (hS : S = runB K0 H0 A q) (hl : xs.length < 64) (hR : R.length = 64) (hRb : ∀ d ∈ R, d < 256) (hb : ∀ d ∈ xs, d < 256) : Took A S (splice R 0 xs) xs.length := by
  have h1 : xs.length = A.length - 64 * q := by rw [hx, List.length_drop]
  have e : A.length / 64 = q := by omega
  refine ⟨by rw [e]; exact hS, by omega, by rw [length_splice _ _ _ (by omega)]; exact hR, ?_, splice_lt hRb hb⟩
  have := splice_take (R := R) (ds := xs) (off := 0) (by omega)
  rw [Nat.zero_add] at this
  rw [this, e, List.take_zero, List.nil_append]
  exact hx
theorem Took.start {R : List Nat} (hR : R.length = 64) (hb : ∀ d ∈ R, d < 256) : Took [] H0 R 0 := ⟨rfl, rfl, hR, by simp, hb⟩
def WrRes (H ho : Nat) (T : TypeId) (cur : Array Value) (A : List Nat) (w : World) (e : Ending) (w' : World) : Prop :=
  e = .returned (.tuple #[]) ∧ Far H w w' ∧ ∃ cur' S' R' k', w'.heap[H]? = some (.cells cur' T (0, 0)) ∧ OutEq ho cur cur' ∧ HsAt cur' ho S' R' k' A.length ∧ Took A S' R' k'
theorem Tabs.far {H : Nat} {w w' : World} (h : Tabs w) (hf : Far H w w') (h0 : H ≠ 1) (h1 : H ≠ 2) : Tabs w' := by
  refine ⟨fun i hi => ?_, fun i hi => ?_⟩
  · have := h.1 i hi
    rw [World.cell?_of_block (hf.block _ (World.block_lt_of_cell? w _ this) (by simpa using Ne.symm h0))]; exact this
  · have := h.2 i hi
    rw [World.cell?_of_block (hf.block _ (World.block_lt_of_cell? w _ this) (by simpa using Ne.symm h1))]; exact this
end Go.Proofs.YtnophelfpoldfaaGreatDoor

/- Slices of bytes cut in front, wherever they lie; the builtin copy into a block, all other blocks left alone. -/
import Derived.Test.YtdopbhahcpjjgaaDoorBkm
import Derived.Laws.CopyOwn
import Derived.Deep.RegionLaw
namespace Go.Proofs.YtdopbhahcpjjgaaDoor
open Go.RowKit

theorem szBs (w : World) : (sizeOf (Tryd.prog.elem 73)).run Tryd.prog w = .ok 1 w := by
  have h := infoU8
  have e : Tryd.prog.elem 73 = 5 := by kernel_rfl
  rw [e]
  cases hi : Tryd.prog.info? 5 with
  | none => rw [hi] at h; cases h
  | some i =>
    rw [hi] at h
    simp only [Option.map_some, Option.some.injEq, Prod.mk.injEq] at h
    simp [sizeOf, typeInfo, hi, h.2.1]
theorem undBs : Tryd.prog.underlying 73 = some (.slice (Tryd.prog.elem 73)) := by kernel_rfl
/-- a slice that does not lie in block H -/
def ApH (H : Nat) (a : Option Addr) (n : Nat) : Prop := 0 < n → ∀ b off, a = some ⟨b, off, none⟩ → b ≠ H
theorem Sl.cut {k : IntKind} {w : World} {a : Option Addr} {n cap m : Nat} {xs : List Nat} (h : Sl k w a n cap xs) (hm : m ≤ n) :
    Sl k w (if cap = m then a else a.map (·.add (m * 1))) (n - m) (cap - m) (xs.drop m) ∧ ∀ H, ApH H a n → ApH H (if cap = m then a else a.map (·.add (m * 1))) (n - m) := by
  have hl := h.len
  obtain ⟨_, h2, h3, h4, b, off, ha, hc⟩ := h
  by_cases h0 : n = m
  · subst h0
    have e : xs.drop n = [] := List.drop_eq_nil_of_le (by omega)
    rw [e]
    refine ⟨⟨by simp [nums], by omega, by omega, ?_, 0, 0, by omega, by simp [nums]⟩, fun H _ h => by omega⟩
    intro hn
    split at hn
    · have := h4 hn; omega
    · cases a with
      | none => have := h4 rfl; omega
      | some a => simp at hn
  · obtain rfl := ha (by omega)
    have hadd : (⟨b, off, none⟩ : Addr).add (m * 1) = ⟨b, off + m, none⟩ := by unfold Addr.add; split <;> simp_all
    rw [if_neg (by omega)]
    simp only [Option.map_some, hadd]
    refine ⟨⟨by simp; omega, by omega, by omega, (fun e => by cases e), b, off + m, fun _ => rfl, fun j u hu => ?_⟩, fun H hH _ b' off' he => ?_⟩
    · rw [nums, List.map_drop, List.getElem?_drop] at hu
      rw [Nat.add_assoc]
      exact hc _ _ hu
    · simp only [Option.some.injEq, Addr.mk.injEq, and_true] at he
      exact hH (by omega) b' off (by rw [he.1])
/-- 'x[m:]' -/
theorem wpList_cutG {w w0 : World} {ops : Array Oper} {rest : List Oper} {o : Oper} {a : Act} {Q : Exit → Act → World → Prop} (hg : o.guard = none) (x lo : Operand) (hop : o.op = Op.slice 73 x (some lo) none none)
    {ad : Option Addr} {n c m : Nat} {xs : List Nat} (hS : Sl .u8 w0 ad n c xs) (hx : a.eval x = .slice ad n c) (hlo : a.eval lo = .int .i64 (m : Int)) (hm : m ≤ n)
    (h : ∀ ad', Sl .u8 w0 ad' (n - m) (c - m) (xs.drop m) → (∀ H, ApH H ad n → ApH H ad' (n - m)) → wpList Tryd.prog ops Q rest (a.put o.dst (.slice ad' (n - m) (c - m))) w) : wpList Tryd.prog ops Q (o :: rest) a w := by
  refine wpList_plain hg fun K hK => ?_
  have hc := hS.2.1
  have hs : (Instr.sliceAt 73 (.slice ad n c) (some (.int .i64 (m : Int))) none none).run Tryd.prog w = .ok (.slice (if c = m then ad else ad.map (·.add (m * 1))) (n - m) (c - m)) w := by
    rw [run_sliceAt_slice w _ _ _ _ _ undBs, run_slice_any w _ _ _ _ undBs]
    simp [Instr.sliceBounds, run_sliceBound w, szBs, Result.andThen, sliced, hm]
  obtain ⟨h1, h2⟩ := Sl.cut hS hm
  unfold Oper.wp execOp
  simp only [hop, hx, hlo, Option.map_some, Option.map_none, hs, Sem.run_bind, Result.andThen]
  exact hK _ _ (h _ h1 h2)
/-- 'x[m:h]' -/
theorem wpList_cutLH {w w0 : World} {ops : Array Oper} {rest : List Oper} {o : Oper} {a : Act} {Q : Exit → Act → World → Prop} (hg : o.guard = none) (x lo hi : Operand) (hop : o.op = Op.slice 73 x (some lo) (some hi) none)
    {ad : Option Addr} {n c m h : Nat} {xs : List Nat} (hS : Sl .u8 w0 ad n c xs) (hx : a.eval x = .slice ad n c) (hlo : a.eval lo = .int .i64 (m : Int)) (hhi : a.eval hi = .int .i64 (h : Int)) (hm : m ≤ h) (hh : h ≤ n)
    (hK' : ∀ ad', Sl .u8 w0 ad' (h - m) (c - m) ((xs.drop m).take (h - m)) → (∀ H, ApH H ad n → ApH H ad' (h - m)) → wpList Tryd.prog ops Q rest (a.put o.dst (.slice ad' (h - m) (c - m))) w) : wpList Tryd.prog ops Q (o :: rest) a w := by
  refine wpList_plain hg fun K hK => ?_
  have hc := hS.2.1
  have hs : (Instr.sliceAt 73 (.slice ad n c) (some (.int .i64 (m : Int))) (some (.int .i64 (h : Int))) none).run Tryd.prog w = .ok (.slice (if c = m then ad else ad.map (·.add (m * 1))) (h - m) (c - m)) w := by
    rw [run_sliceAt_slice w _ _ _ _ _ undBs, run_slice_lh w _ _ _ _ undBs _ _ _ _ (by omega) (by omega) (by omega)]
    simp [szBs, Result.andThen, sliced]
  obtain ⟨h1, h2⟩ := Sl.cut hS (show m ≤ n by omega)
  unfold Oper.wp execOp
  simp only [hop, hx, hlo, hhi, Option.map_some, Option.map_none, hs, Sem.run_bind, Result.andThen]
  exact hK _ _ (hK' _ (h1.take (m := h - m) (by omega)) fun H hH hp b off hb => h2 H hH (by omega) b off hb)
theorem szU8m : (Tryd.prog.info? 5).map (·.size) = some 1 := by
  have h := infoU8
  cases hi : Tryd.prog.info? 5 with
  | none => rw [hi] at h; cases h
  | some i =>
    rw [hi] at h
    simp only [Option.map_some, Option.some.injEq, Prod.mk.injEq] at h
    simp [h.2.1]
theorem splice_get {α : Type} (L : List α) (off : Nat) (cs : List α) (h : off + cs.length ≤ L.length) (j : Nat) : (splice L off cs)[j]? = if j < off then L[j]? else if j < off + cs.length then cs[j - off]? else L[j]? := by
  unfold splice
  by_cases h1 : j < off
  · rw [if_pos h1, List.getElem?_append_left (by rw [List.length_take]; omega), List.getElem?_take, if_pos h1]
  · rw [if_neg h1, List.getElem?_append_right (by rw [List.length_take]; omega), List.length_take, Nat.min_eq_left (by omega)]
    by_cases h2 : j < off + cs.length
    · rw [if_pos h2, List.getElem?_append_left (by omega)]
    · rw [if_neg h2, List.getElem?_append_right (by omega), List.getElem?_drop]
      congr 1
      omega
/-- the run of 'copy(d, s)', d in block g -/
theorem copy_far {P : Program} {w : World} {o : Oper} {a : Act} {K : Act → World → Prop} {Q : Exit → Act → World → Prop} (d s : Operand) (dT sT : TypeId)
    (ho : o.op = .call { callee := .builtin .copy, args := #[d, s], argTypes := #[dT, sT] }) {elem : TypeId} (hu : P.underlying dT = some (.slice elem)) (hsz : (P.info? elem).map (·.size) = some 1)
    {g off dLen dCap sLen sCap : Nat} {ad : Option Addr} (hd : a.eval d = .slice (some ⟨g, off, none⟩) dLen dCap) (hs : a.eval s = .slice ad sLen sCap)
    {cur : Array Value} {t : TypeId} (hg : w.heap[g]? = some (.cells cur t (0, 0))) {cs : List Value} (hr : Rd w 1 ad sLen sCap cs) (h1 : ∀ v ∈ cs, v.oneCell' = true) (hfit : off + dLen ≤ cur.size)
    (h : ∀ w', w'.heap[g]? = some (.cells (splice cur.toList off (cs.take (Nat.min sLen dLen))).toArray t (0, 0)) → Far g w w' → K (a.put o.dst (.int .i64 ((Nat.min sLen dLen : Nat) : Int))) w') : Oper.wp P o a w K Q := by
  obtain ⟨r1, r2, r3, r4, b, off', ha, hc⟩ := hr
  have hlen : (cs.take (Nat.min sLen dLen)).length = Nat.min sLen dLen := by
    have : Nat.min sLen dLen ≤ sLen := Nat.min_le_left _ _
    rw [List.length_take]; omega
  have hmd : Nat.min sLen dLen ≤ dLen := Nat.min_le_right _ _
  have hms : Nat.min sLen dLen ≤ sLen := Nat.min_le_left _ _
  by_cases h0 : Nat.min sLen dLen = 0
  · have hrun := run_copy_none (P := P) w dT sT o.type elem (some ⟨g, off, none⟩) ad dLen dCap sLen sCap hu hsz h0
    unfold Oper.wp
    simp [execOp, ho, resolve, invoke, builtin, hd, hs, hrun, Result.andThen]
    have := h w (by rw [h0]; simpa [splice] using hg) (Far.refl g w)
    rw [h0] at this
    exact this
  · obtain rfl := ha (by omega)
    have hrun := run_copy_row (P := P) w dT sT o.type elem g off dLen dCap ⟨b, off', none⟩ sLen sCap cur t (cs.take (Nat.min sLen dLen)) hu hsz hg hlen (fun j v hj => by
      have hadd : (⟨b, off', none⟩ : Addr).add j = ⟨b, off' + j, none⟩ := by unfold Addr.add; split <;> simp_all
      rw [hadd]
      rw [List.getElem?_take] at hj
      split at hj
      · exact hc j v hj
      · cases hj) (by rw [hlen]; omega) (fun v hv => h1 v (List.mem_of_mem_take hv))
    rw [hlen] at hrun
    have hf := h (w.setRow g (cur.toList.take off ++ cs.take (Nat.min sLen dLen) ++ cur.toList.drop (off + Nat.min sLen dLen)).toArray)
      (by rw [setRow_heap w g _ _ t _ hg, splice, hlen, List.append_assoc]) ⟨rfl, rfl, rfl, by simp [World.setRow], fun k _ hk => setRow_other w g k _ (by simpa using hk)⟩
    clear h hlen hmd hms h0
    generalize cs.take (Nat.min sLen dLen) = ds at *
    generalize Nat.min sLen dLen = M at *
    unfold Oper.wp
    simp only [execOp, ho, resolve, invoke, builtin, List.map_toArray, List.map_cons, List.map_nil, hd, hs]
    simp [hrun, Result.andThen]
    simp only [List.append_assoc] at hf
    exact hf
theorem wpList_copyF {P : Program} {w : World} {ops : Array Oper} {rest : List Oper} {o : Oper} {a : Act} {Q : Exit → Act → World → Prop} (hgd : o.guard = none) (d s : Operand) (dT sT : TypeId)
    (ho : o.op = .call { callee := .builtin .copy, args := #[d, s], argTypes := #[dT, sT] }) {elem : TypeId} (hu : P.underlying dT = some (.slice elem)) (hsz : (P.info? elem).map (·.size) = some 1)
    {g off dLen dCap sLen sCap : Nat} {ad : Option Addr} (hd : a.eval d = .slice (some ⟨g, off, none⟩) dLen dCap) (hs : a.eval s = .slice ad sLen sCap)
    {cur : Array Value} {t : TypeId} (hg : w.heap[g]? = some (.cells cur t (0, 0))) {cs : List Value} (hr : Rd w 1 ad sLen sCap cs) (h1 : ∀ v ∈ cs, v.oneCell' = true) (hfit : off + dLen ≤ cur.size)
    (h : ∀ w', w'.heap[g]? = some (.cells (splice cur.toList off (cs.take (Nat.min sLen dLen))).toArray t (0, 0)) → Far g w w' → wpList P ops Q rest (a.put o.dst (.int .i64 ((Nat.min sLen dLen : Nat) : Int))) w') : wpList P ops Q (o :: rest) a w :=
  wpList_plain hgd fun _ hK => copy_far d s dT sT ho hu hsz hd hs hg hr h1 hfit fun w' h2 h3 => hK _ _ (h w' h2 h3)
theorem step_copyF {P : Program} {ops : Array Oper} {o : Oper} {a : Act} {w : World} {K : Act → World → Prop} {Q : Exit → Act → World → Prop} {E : Prop} (hgd : o.guard = none) (d s : Operand) (dT sT : TypeId)
    (ho : o.op = .call { callee := .builtin .copy, args := #[d, s], argTypes := #[dT, sT] }) {elem : TypeId} (hu : P.underlying dT = some (.slice elem)) (hsz : (P.info? elem).map (·.size) = some 1)
    {g off dLen dCap sLen sCap : Nat} {ad : Option Addr} (hd : a.eval d = .slice (some ⟨g, off, none⟩) dLen dCap) (hs : a.eval s = .slice ad sLen sCap)
    {cur : Array Value} {t : TypeId} (hg : w.heap[g]? = some (.cells cur t (0, 0))) {cs : List Value} (hr : Rd w 1 ad sLen sCap cs) (h1 : ∀ v ∈ cs, v.oneCell' = true) (hfit : off + dLen ≤ cur.size)
    (h : ∀ w', w'.heap[g]? = some (.cells (splice cur.toList off (cs.take (Nat.min sLen dLen))).toArray t (0, 0)) → Far g w w' → K (a.put o.dst (.int .i64 ((Nat.min sLen dLen : Nat) : Int))) w') :
    if Region.wanted o (yielded ops a.tmps) = true then Oper.wp P o a w K Q else E := by
  have hw : Region.wanted o (yielded ops a.tmps) = true := by simp [Region.wanted, hgd]
  rw [if_pos hw]
  exact copy_far d s dT sT ho hu hsz hd hs hg hr h1 hfit h
end Go.Proofs.YtdopbhahcpjjgaaDoor

/- Variables: blocks of cells, whole and in part; steps of a walk at them. -/
import Derived.Test.YtnophelfpoldfaaGreatDoorGKey
import Derived.Deep.MidRow
import Derived.OrdersHeld
import Derived.Laws.Tables
import Derived.Lib.LazyBuf
import Derived.Laws.CopyOwn
import Derived.Deep.Cut
import Derived.Deep.RegionHeld3
import Derived.Great.BuildSlice
import Derived.Maps.OwnSet
import Derived.StringKeys
import Derived.Sort.KeysCollected
namespace Go.Proofs.YtnophelfpoldfaaGreatDoor
open Go.RowKit

theorem results_cell_tmp {P : Program} {fn : Func} {p q : Tmp} {ty : TypeId} (h : fn.results = #[.cell p ty, .tmp q]) (tmps : Array Value) (w : World) (g : Nat) (t : TypeId) (cs : Array Value) (fr : Nat × Nat) (d : TypeDesc) (v : Value)
    (hp : tmps.getD p undef = .pointer (some ⟨g, 0, none⟩)) (hq : tmps.getD q undef = v) (hg : w.heap[g]? = some (.cells cs t fr))
    (hu : P.underlying ty = some d) (hd : (match d with | .struct _ | .array _ _ => true | _ => false) = true) (hi : (P.info? ty).map (·.size) = some cs.size) :
    (results fn tmps).run P w = .ok (.tuple #[.agg cs, v]) w := by
  have hp' : tmps[p]?.getD undef = .pointer (some ⟨g, 0, none⟩) := by simpa using hp
  have hq' : tmps[q]?.getD undef = v := by simpa using hq
  simp [results, h, hp', hq', asAddr, run_loadVar_row w g t ty cs fr d hg hu hd hi]

theorem wpList_build2 {P : Program} {ops : Array Oper} {rest : List Oper} {o : Oper} {a : Act} {w : World} {Q : Exit → Act → World → Prop} (hg : o.guard = none) (t : TypeId) (x y : Operand) (ho : o.op = .build t #[(0, x), (1, y)])
    {v0 v1 : Value} {cells : Array Value} (hb : P.built t [(0, v0), (1, v1)] = some cells) (hx : a.eval x = v0) (hy : a.eval y = v1)
    (h : wpList P ops Q rest (a.put o.dst (.agg cells)) w) : wpList P ops Q (o :: rest) a w := by
  have hv : ((#[(0, x), (1, y)] : Array (Nat × Operand)).map fun (i, x) => (i, a.eval x)).toList = [(0, v0), (1, v1)] := by simp [hx, hy]
  exact wpList_build hg t _ ho (by rw [hv, hb]; rfl) (by rw [hv, hb]; exact h)
theorem wpList_mv {P : Program} {ops : Array Oper} {rest : List Oper} {o : Oper} {a : Act} {w : World} {Q : Exit → Act → World → Prop} (hg : o.guard = none) (x : Operand) (ho : o.op = .move x)
    (h : wpList P ops Q rest (a.put o.dst (a.eval x)) w) : wpList P ops Q (o :: rest) a w :=
  wpList_plain hg fun K hK => by
    unfold Oper.wp execOp
    simp only [ho]
    exact hK _ _ h
theorem results_cell_tmp2 {P : Program} {fn : Func} {p q q2 : Tmp} {ty : TypeId} (h : fn.results = #[.cell p ty, .tmp q, .tmp q2]) (tmps : Array Value) (w : World) (g : Nat) (t : TypeId) (cs : Array Value) (fr : Nat × Nat) (d : TypeDesc) (v v2 : Value)
    (hp : tmps.getD p undef = .pointer (some ⟨g, 0, none⟩)) (hq : tmps.getD q undef = v) (hq2 : tmps.getD q2 undef = v2) (hg : w.heap[g]? = some (.cells cs t fr))
    (hu : P.underlying ty = some d) (hd : (match d with | .struct _ | .array _ _ => true | _ => false) = true) (hi : (P.info? ty).map (·.size) = some cs.size) :
    (results fn tmps).run P w = .ok (.tuple #[.agg cs, v, v2]) w := by
  have hp' : tmps[p]?.getD undef = .pointer (some ⟨g, 0, none⟩) := by simpa using hp
  have hq' : tmps[q]?.getD undef = v := by simpa using hq
  have hq2' : tmps[q2]?.getD undef = v2 := by simpa using hq2
  simp [results, h, hp', hq', hq2', asAddr, run_loadVar_row w g t ty cs fr d hg hu hd hi]
theorem alloc2p (w : World) (a b : Obj) : ((w.alloc a).alloc b).heap[w.heap.size]? = some a ∧ ((w.alloc a).alloc b).heap[w.heap.size + 1]? = some b ∧ ((w.alloc a).alloc b).heap.size = w.heap.size + 1 + 1 ∧ Below w.heap.size w ((w.alloc a).alloc b) := by
  have e1 : (w.alloc a).heap.size = w.heap.size + 1 := by simp
  have h0 := heap_alloc_new w a
  have h1 := heap_alloc_new (w.alloc a) b
  rw [e1] at h1
  exact ⟨by rw [Below.heap_alloc _ _ _ (by omega)]; exact h0, h1, by simp, ((Below.refl w.heap.size w).alloc (Nat.le_refl _) a).alloc (by omega) b⟩
theorem results_cellH {P : Program} {fn : Func} {p : Tmp} {ty : TypeId} (h : fn.results = #[.cell p ty]) (tmps : Array Value) (w : World) (g : Nat) (t : TypeId) (cs : Array Value) (fr : Nat × Nat) (d : TypeDesc)
    (hp : tmps.getD p undef = .pointer (some ⟨g, 0, none⟩)) (hg : w.heap[g]? = some (.cells cs t fr))
    (hu : P.underlying ty = some d) (hd : (match d with | .struct _ | .array _ _ => true | _ => false) = true) (hi : (P.info? ty).map (·.size) = some cs.size) :
    (results fn tmps).run P w = .ok (.agg cs) w := by
  have hp' : tmps[p]?.getD undef = .pointer (some ⟨g, 0, none⟩) := by simpa using hp
  simp [results, h, hp', asAddr, run_loadVar_row w g t ty cs fr d hg hu hd hi]
theorem results_mid_tmp2 {P : Program} {fn : Func} {p q q2 : Tmp} {ty : TypeId} (h : fn.results = #[.cell p ty, .tmp q, .tmp q2]) (tmps : Array Value) (w : World) (g : Nat) (cs : List Value) (d : TypeDesc) (v v2 : Value)
    (hp : tmps.getD p undef = .pointer (some ⟨g, 0, none⟩)) (hq : tmps.getD q undef = v) (hq2 : tmps.getD q2 undef = v2) (hc : w.rangeAt g 0 cs)
    (hu : P.underlying ty = some d) (hd : d.isRow = true) (hi : (P.info? ty).map (·.size) = some cs.length) :
    (results fn tmps).run P w = .ok (.tuple #[.agg cs.toArray, v, v2]) w := by
  have hp' : tmps[p]?.getD undef = .pointer (some ⟨g, 0, none⟩) := by simpa using hp
  have hq' : tmps[q]?.getD undef = v := by simpa using hq
  have hq2' : tmps[q2]?.getD undef = v2 := by simpa using hq2
  simp [results, h, hp', hq', hq2', asAddr, run_loadVar_mid w g 0 ty cs d hc hu hd hi]
theorem there_of_heap {w : World} {g : Nat} {cs : Array Value} {t : TypeId} {n : Nat} (h : w.heap[g]? = some (.cells cs t (0, 0))) (hn : n ≤ cs.size) : w.there g 0 n := fun j hj =>
  ⟨by rw [cell_of_row _ g _ _ t (0, 0) h, Nat.zero_add, Array.getElem?_eq_getElem (by omega)]; rfl, frozen_of_row _ _ _ _ _ h⟩
theorem there_below {w w' : World} {g n : Nat} (hb : Below w.heap.size w w') (h : w.there g 0 n) (hg : g < w.heap.size) : w'.there g 0 n := fun j hj =>
  ⟨by rw [hb.cell (p := ⟨g, 0 + j, none⟩) hg]; exact (h j hj).1, (hb.frozen (p := ⟨g, 0 + j, none⟩) hg).trans (h j hj).2⟩
theorem wpList_when {P : Program} {ops : Array Oper} {rest : List Oper} {o : Oper} {a : Act} {w : World} {Q : Exit → Act → World → Prop} (hw : Region.wanted o (yielded ops a.tmps) = true)
    (h : ∀ K : Act → World → Prop, (∀ a w, wpList P ops Q rest a w → K a w) → o.wp P a w K Q) : wpList P ops Q (o :: rest) a w :=
  wpList_step fun K hK => by rw [if_pos hw]; exact h K hK
theorem wpList_load_midG {P : Program} {ops : Array Oper} {rest : List Oper} {op : Oper} {a : Act} {w : World} {Q : Exit → Act → World → Prop} (hw : Region.wanted op (yielded ops a.tmps) = true) (ty : TypeId) (x : Operand) (ho : op.op = .load ty x)
    (b o : Nat) (hx : a.eval x = .pointer (some ⟨b, o, none⟩)) (cs : List Value) (d : TypeDesc) (hc : w.rangeAt b o cs)
    (hu : P.underlying ty = some d) (hd : d.isRow = true) (hi : (P.info? ty).map (·.size) = some cs.length)
    (h : wpList P ops Q rest (a.put op.dst (.agg cs.toArray)) w) : wpList P ops Q (op :: rest) a w :=
  wpList_when hw fun _ hK => wp_load_mid ty x ho b o hx cs d hc hu hd hi (hK _ _ h)
theorem wpList_build2G {P : Program} {ops : Array Oper} {rest : List Oper} {o : Oper} {a : Act} {w : World} {Q : Exit → Act → World → Prop} (hw : Region.wanted o (yielded ops a.tmps) = true) (t : TypeId) (x y : Operand) (ho : o.op = .build t #[(0, x), (1, y)])
    {v0 v1 : Value} {cells : Array Value} (hb : P.built t [(0, v0), (1, v1)] = some cells) (hx : a.eval x = v0) (hy : a.eval y = v1)
    (h : wpList P ops Q rest (a.put o.dst (.agg cells)) w) : wpList P ops Q (o :: rest) a w := by
  have hv : ((#[(0, x), (1, y)] : Array (Nat × Operand)).map fun (i, x) => (i, a.eval x)).toList = [(0, v0), (1, v1)] := by simp [hx, hy]
  exact wpList_when hw fun _ hK => wp_build t _ ho (by rw [hv, hb]; rfl) (hK _ _ (by rw [hv, hb]; exact h))
theorem row_range {w : World} {g : Nat} {t : TypeId} {L : List Value} (h : w.heap[g]? = some (.cells L.toArray t (0, 0))) : w.rangeAt g 0 L := fun j v hj => by
  rw [Nat.zero_add, cell_of_row _ g _ _ t (0, 0) h, List.getElem?_toArray]; exact hj
theorem heap_keep {w w' : World} {g : Nat} {x : Obj} (h : w.heap[g]? = some x) (b : Below w.heap.size w w') : w'.heap[g]? = some x := (b.block g (Array.getElem?_eq_some_iff.1 h).1).trans h
theorem heap_far {w w' : World} {g H : Nat} {x : Obj} (h : w.heap[g]? = some x) (hf : Far H w w') (hne : g ≠ H) : w'.heap[g]? = some x := by rw [hf.block g (Array.getElem?_eq_some_iff.1 h).1 (by simpa using hne)]; exact h
theorem tag_there {w : World} {g : Nat} {cur : Array Value} {t : TypeId} {o n : Nat} (h : w.heap[g]? = some (.cells cur t (0, 0))) (hn : o + n ≤ cur.size) : w.there g o n := fun j hj =>
  ⟨by rw [cell_of_row _ g _ _ t (0, 0) h, Array.getElem?_eq_getElem (by omega)]; rfl, frozen_of_row _ _ _ _ _ h⟩
/-- cells written over an array's -/
def setMs (cur : Array Value) : Nat → List Value → Array Value
  | _, [] => cur
  | o, v :: r => setMs (cur.setIfInBounds o v) (o + 1) r
theorem setMs_size : ∀ (vs : List Value) (o : Nat) (cur : Array Value), (setMs cur o vs).size = cur.size
  | [], _, _ => rfl
  | v :: r, o, cur => by rw [setMs, setMs_size r]; simp
theorem setMs_get : ∀ (vs : List Value) (o : Nat) (cur : Array Value) (j : Nat), o + vs.length ≤ cur.size → (setMs cur o vs)[j]? = if o ≤ j ∧ j < o + vs.length then vs[j - o]? else cur[j]?
  | [], o, cur, j, _ => by simp [setMs]; omega
  | v :: r, o, cur, j, h => by
    rw [List.length_cons] at h
    rw [setMs, setMs_get r (o + 1) _ j (by simp; omega), List.length_cons]
    by_cases h1 : o + 1 ≤ j ∧ j < o + 1 + r.length
    · rw [if_pos h1, if_pos (by omega), show j - o = (j - (o + 1)) + 1 by omega, List.getElem?_cons_succ]
    · rw [if_neg h1]
      by_cases h2 : j = o
      · subst h2
        rw [if_pos (by omega), Nat.sub_self, List.getElem?_cons_zero, Array.getElem?_setIfInBounds_self_of_lt (by omega)]
      · rw [if_neg (by omega), Array.getElem?_setIfInBounds_ne (by omega)]
theorem heap_setCells {g : Nat} {t : TypeId} : ∀ (vs : List Value) (o : Nat) (w : World) (cur : Array Value), w.heap[g]? = some (.cells cur t (0, 0)) → (w.setCells g o vs).heap[g]? = some (.cells (setMs cur o vs) t (0, 0))
  | [], _, _, _, h => h
  | v :: r, o, w, cur, h => heap_setCells r (o + 1) _ _ (by simp [World.setCell, Array.getElem?_modify, h])
theorem far_setCells {g : Nat} : ∀ (vs : List Value) (o : Nat) (w : World), Far g w (w.setCells g o vs)
  | [], _, _ => Far.refl _ _
  | v :: r, o, _ => (Far.set v).trans (far_setCells r (o + 1) _)
theorem far_cell' {w w' : World} {H : Nat} {a : Addr} {v : Value} (h : w.cell? a = some v) (hf : Far H w w') (hne : a.block ≠ H) : w'.cell? a = some v := by
  rw [World.cell?_of_block (hf.block _ (World.block_lt_of_cell? w _ h) (by simpa using hne))]; exact h
theorem range_keep {w w' : World} {g o : Nat} {L : List Value} (b : Below w.heap.size w w') (h : w.rangeAt g o L) : w'.rangeAt g o L := fun j v hj => by
  have := h j v hj
  rw [b.cell (World.block_lt_of_cell? w _ this)]; exact this
theorem cell_keep {w w' : World} {a : Addr} {v : Value} (b : Below w.heap.size w w') (h : w.cell? a = some v) : w'.cell? a = some v := by
  rw [b.cell (World.block_lt_of_cell? w _ h)]; exact h
theorem laid (w : World) (z c : Array Value) (t : TypeId) : ((w.alloc (.cells z t)).setRow w.heap.size c).heap[w.heap.size]? = some (.cells c t (0, 0)) ∧ Below w.heap.size w ((w.alloc (.cells z t)).setRow w.heap.size c) :=
  ⟨setRow_heap _ _ _ _ _ _ (heap_alloc_new w (.cells z t)), below_setRow ((Below.refl w.heap.size w).alloc (Nat.le_refl _) _) (Nat.le_refl _) c⟩
theorem gen_range {w : World} {b : Nat} {L : List Value} (h : w.rangeAt b 0 L) (o n : Nat) : w.rangeAt b o ((L.drop o).take n) := fun j v hj => by
  rw [List.getElem?_take] at hj
  split at hj
  · rw [List.getElem?_drop] at hj
    have := h _ v hj
    rwa [Nat.zero_add] at this
  · cases hj
theorem gen_cell {w : World} {b j : Nat} {L : List Value} {v : Value} (h : w.rangeAt b 0 L) (hj : L[j]? = some v) : w.cell? ⟨b, j, none⟩ = some v := by
  have := h j v hj
  rwa [Nat.zero_add] at this
theorem newZ {K : Act → World → Prop} {A : Act} {W : World} {T : TypeId} {Z : Array Value} (h : ∀ W', Hid (W'.heap[W.heap.size]? = some (.cells Z T (0, 0))) → Hid (Below W.heap.size W W') → K A W') : K A (W.alloc (.cells Z T)) :=
  h _ (heap_alloc_new W _) ((Below.refl _ _).alloc (Nat.le_refl _) _)
theorem newZd {K : Act → World → Prop} {A : Act} {W : World} {T : TypeId} {Z : Array Value} (h : ∀ W', Hid (W'.heap[W.heap.size]? = some (.cells Z T (0, 0))) → Hid (Below W.heap.size W W') → K A W') : K A (W.alloc (.cells Z T)).drew :=
  h _ (heap_alloc_new W _) ((Below.refl _ _).alloc (Nat.le_refl _) _).drew
theorem list4 {α : Type} {l : List α} (h : l.length = 4) : ∃ a b c d, l = [a, b, c, d] := by
  match l, h with
  | [a, b, c, d], _ => exact ⟨a, b, c, d, rfl⟩
theorem sl_range {w : World} {b off n c : Nat} {xs : List Nat} (h : Sl .u8 w (some ⟨b, off, none⟩) n c xs) (hn : 0 < n) : w.rangeAt b off (nums .u8 xs) := by
  obtain ⟨_, _, _, _, b', off', ha, hc⟩ := h
  have := ha hn
  simp only [Option.some.injEq, Addr.mk.injEq, and_true] at this
  obtain ⟨rfl, rfl⟩ := this
  exact hc
theorem far_row (w : World) (R : Nat) (cs : Array Value) : Far R w (w.setRow R cs) := ⟨rfl, rfl, rfl, by simp [World.setRow], fun k _ hk => setRow_other w R k _ (by simpa using hk)⟩
theorem wpList_build5 {P : Program} {ops : Array Oper} {rest : List Oper} {o : Oper} {a : Act} {w : World} {Q : Exit → Act → World → Prop} (hg : o.guard = none) (t : TypeId) (x0 x1 x2 x3 x4 : Operand) (ho : o.op = .build t #[(0, x0), (1, x1), (2, x2), (3, x3), (4, x4)])
    {v0 v1 v2 v3 v4 : Value} {cells : Array Value} (hb : P.built t [(0, v0), (1, v1), (2, v2), (3, v3), (4, v4)] = some cells) (h0 : a.eval x0 = v0) (h1 : a.eval x1 = v1) (h2 : a.eval x2 = v2) (h3 : a.eval x3 = v3) (h4 : a.eval x4 = v4)
    (h : wpList P ops Q rest (a.put o.dst (.agg cells)) w) : wpList P ops Q (o :: rest) a w := by
  have hv : ((#[(0, x0), (1, x1), (2, x2), (3, x3), (4, x4)] : Array (Nat × Operand)).map fun (i, x) => (i, a.eval x)).toList = [(0, v0), (1, v1), (2, v2), (3, v3), (4, v4)] := by simp [h0, h1, h2, h3, h4]
  exact wpList_build hg t _ ho (by rw [hv, hb]; rfl) (by rw [hv, hb]; exact h)
theorem run_buildN {P : Program} {w : World} {o : Oper} {ev : Operand → Value} {t : TypeId} {parts : Array (Nat × Operand)} {cells : Array Value} (ho : o.op = .build t parts) (hb : P.built t (parts.map fun (i, x) => (i, ev x)).toList = some cells) :
    (execOp ev o).run P w = .ok (.value (.agg cells)) w := by
  unfold execOp
  simp only [ho, Sem.run_bind, run_build w t _ cells hb, Result.andThen_ok]
  rfl
theorem run_build4 {P : Program} {w : World} {o : Oper} {ev : Operand → Value} {t : TypeId} {x0 x1 x2 x3 : Operand} {v0 v1 v2 v3 : Value} {cells : Array Value} (ho : o.op = .build t #[(0, x0), (1, x1), (2, x2), (3, x3)])
    (h0 : ev x0 = v0) (h1 : ev x1 = v1) (h2 : ev x2 = v2) (h3 : ev x3 = v3) (hb : P.built t [(0, v0), (1, v1), (2, v2), (3, v3)] = some cells) : (execOp ev o).run P w = .ok (.value (.agg cells)) w :=
  run_buildN ho (by simpa [h0, h1, h2, h3] using hb)
theorem run_build5 {P : Program} {w : World} {o : Oper} {ev : Operand → Value} {t : TypeId} {x0 x1 x2 x3 x4 : Operand} {v0 v1 v2 v3 v4 : Value} {cells : Array Value} (ho : o.op = .build t #[(0, x0), (1, x1), (2, x2), (3, x3), (4, x4)])
    (h0 : ev x0 = v0) (h1 : ev x1 = v1) (h2 : ev x2 = v2) (h3 : ev x3 = v3) (h4 : ev x4 = v4) (hb : P.built t [(0, v0), (1, v1), (2, v2), (3, v3), (4, v4)] = some cells) : (execOp ev o).run P w = .ok (.value (.agg cells)) w :=
  run_buildN ho (by simpa [h0, h1, h2, h3, h4] using hb)
theorem heap_set {w : World} {g i : Nat} {L : List Value} {t : TypeId} (v : Value) (h : w.heap[g]? = some (.cells L.toArray t (0, 0))) : (w.setCell ⟨g, i, none⟩ v).heap[g]? = some (.cells (L.set i v).toArray t (0, 0)) := by
  simp [World.setCell, Array.getElem?_modify, h]
theorem range_far {w w' : World} {H g o : Nat} {L : List Value} (hf : Far H w w') (h : w.rangeAt g o L) (hne : g ≠ H) : w'.rangeAt g o L := fun j v hj => by
  have := h j v hj
  rw [World.cell?_of_block (hf.block _ (World.block_lt_of_cell? w _ this) (by simpa using hne))]; exact this
theorem setW {K : Act → World → Prop} {A : Act} {W : World} {g i : Nat} {v : Value} {L : List Value} {t : TypeId} (hg : W.heap[g]? = some (.cells L.toArray t (0, 0))) (h : ∀ W', Hid (W'.heap[g]? = some (.cells (L.set i v).toArray t (0, 0))) → Hid (Far g W W') → K A W') : K A (W.setCell ⟨g, i, none⟩ v) :=
  h _ (heap_set v hg) (Far.set v)
theorem setWd {K : Act → World → Prop} {A : Act} {W : World} {g i : Nat} {v : Value} {L : List Value} {t : TypeId} (hg : W.heap[g]? = some (.cells L.toArray t (0, 0))) (h : ∀ W', Hid (W'.heap[g]? = some (.cells (L.set i v).toArray t (0, 0))) → Hid (Far g W W') → K A W') : K A (W.setCell ⟨g, i, none⟩ v).drew :=
  h _ (heap_set v hg) ((Far.set v).trans (Far.of ((Below.refl _ _).drew)))
theorem setW2 {K : Act → World → Prop} {A : Act} {W : World} {g i j : Nat} {u v : Value} {L : List Value} {t : TypeId} (hg : W.heap[g]? = some (.cells L.toArray t (0, 0))) (h : ∀ W', Hid (W'.heap[g]? = some (.cells ((L.set i u).set j v).toArray t (0, 0))) → Hid (Far g W W') → K A W') : K A ((W.setCell ⟨g, i, none⟩ u).setCell ⟨g, j, none⟩ v) :=
  h _ (heap_set v (heap_set u hg)) ((Far.set u).trans (Far.set v))
/-- '[]T{x}', x a struct or an array -/
theorem wpList_lit1 {P : Program} {ops : Array Oper} {rest : List Oper} {o : Oper} {a : Act} {w : World} {Q : Exit → Act → World → Prop} (hg : o.guard = none) (t e : TypeId) (x : Operand) (ho : o.op = .buildSlice t 1 #[(0, x)])
    {cells : Array Value} (hx : a.eval x = .agg cells) (hu : P.underlying t = some (.slice e)) {size : Nat} (hi : (P.info? e).map (·.size) = some size) (hz : ((P.info? e).bind (·.zero)).isSome = true) (hs : cells.size = size) (hp : 0 < size) (hle : size ≤ 16777216)
    (h : wpList P ops Q rest (a.put o.dst (.slice (some ⟨w.heap.size, 0, none⟩) 1 1)) (w.alloc (.cells cells e))) : wpList P ops Q (o :: rest) a w := by
  cases hie : P.info? e with
  | none => simp [hie] at hi
  | some ie =>
    simp only [hie, Option.map_some, Option.some.injEq, Option.bind_some] at hi hz
    obtain ⟨z, hzz⟩ := Option.isSome_iff_exists.1 hz
    refine wpList_buildSlice hg t e 1 _ ho cells ie z hu hie hzz (by rw [hi]; omega) (by rw [hi]; omega) ?_ h
    have := Great.fill_whole (s := size) hp [.agg cells] ((Array.range (1 * size)).map (z.cells[· % z.cells.size]!)) (by intro v hv; simp at hv; subst hv; exact hs) (by simp)
    rw [hi]
    simpa [hx, Value.cells] using this
theorem laid2 (w : World) (z1 c1 z2 c2 : Array Value) (t1 t2 : TypeId) : ((((w.alloc (.cells z1 t1)).alloc (.cells z2 t2)).setRow w.heap.size c1).setRow (w.heap.size + 1) c2).heap[w.heap.size]? = some (.cells c1 t1 (0, 0)) ∧
    ((((w.alloc (.cells z1 t1)).alloc (.cells z2 t2)).setRow w.heap.size c1).setRow (w.heap.size + 1) c2).heap[w.heap.size + 1]? = some (.cells c2 t2 (0, 0)) ∧
    Below w.heap.size w ((((w.alloc (.cells z1 t1)).alloc (.cells z2 t2)).setRow w.heap.size c1).setRow (w.heap.size + 1) c2) := by
  have A := alloc2p w (.cells z1 t1) (.cells z2 t2)
  have h1 : (((w.alloc (.cells z1 t1)).alloc (.cells z2 t2)).setRow w.heap.size c1).heap[w.heap.size]? = some (.cells c1 t1 (0, 0)) := setRow_heap _ _ _ _ _ _ A.1
  refine ⟨by rw [setRow_other _ _ _ _ (by omega)]; exact h1, setRow_heap _ _ _ _ _ _ (by rw [setRow_other _ _ _ _ (by omega)]; exact A.2.1), below_setRow (below_setRow A.2.2.2 (Nat.le_refl _) c1) (by omega) c2⟩
theorem Far.newer {H r : Nat} {u v w : World} (h : Far H u v) (k : Far r v w) (hr : u.heap.size ≤ r) : Far H u w :=
  ⟨k.os.trans h.os, k.tape.trans h.tape, k.output.trans h.output, Nat.le_trans h.size k.size, fun i hi hn => (k.block i (Nat.lt_of_lt_of_le hi h.size) (by simp; omega)).trans (h.block i hi hn)⟩
theorem alloc3p (w : World) (a b c : Obj) : (((w.alloc a).alloc b).alloc c).heap[w.heap.size]? = some a ∧ (((w.alloc a).alloc b).alloc c).heap[w.heap.size + 1]? = some b ∧ (((w.alloc a).alloc b).alloc c).heap[w.heap.size + 1 + 1]? = some c ∧
    Below w.heap.size w (((w.alloc a).alloc b).alloc c) := by
  have A := alloc2p w a b
  have hz : ((w.alloc a).alloc b).heap.size = w.heap.size + 1 + 1 := A.2.2.1
  have h2 := heap_alloc_new ((w.alloc a).alloc b) c
  rw [hz] at h2
  refine ⟨by rw [Below.heap_alloc _ _ _ (by omega)]; exact A.1, by rw [Below.heap_alloc _ _ _ (by omega)]; exact A.2.1, h2, A.2.2.2.alloc (by omega) c⟩
/-- all but two blocks is as it was (new blocks may be there) -/
structure Far2 (H G : Nat) (w w' : World) : Prop where
  os : w'.os = w.os
  tape : w'.tape = w.tape
  output : w'.output = w.output
  size : w.heap.size ≤ w'.heap.size
  block : ∀ i, i < w.heap.size → i ≠ H → i ≠ G → w'.heap[i]? = w.heap[i]?
theorem Far2.refl (H G : Nat) (w : World) : Far2 H G w w := ⟨rfl, rfl, rfl, Nat.le_refl _, fun _ _ _ _ => rfl⟩
theorem Far2.trans {H G : Nat} {u v w : World} (h : Far2 H G u v) (k : Far2 H G v w) : Far2 H G u w :=
  ⟨k.os.trans h.os, k.tape.trans h.tape, k.output.trans h.output, Nat.le_trans h.size k.size, fun i hi h1 h2 => (k.block i (Nat.lt_of_lt_of_le hi h.size) h1 h2).trans (h.block i hi h1 h2)⟩
theorem Far.l2 {H : Nat} (G : Nat) {w w' : World} (h : Far H w w') : Far2 H G w w' := ⟨h.os, h.tape, h.output, h.size, fun i hi h1 _ => h.block i hi (by simpa using h1)⟩
theorem Far.r2 {G : Nat} (H : Nat) {w w' : World} (h : Far G w w') : Far2 H G w w' := ⟨h.os, h.tape, h.output, h.size, fun i hi _ h2 => h.block i hi (by simpa using h2)⟩
theorem Far2.below {H G B : Nat} {w w' : World} (h : Far2 H G w w') (h1 : B ≤ H) (h2 : B ≤ G) (h3 : B ≤ w.heap.size) : Below B w w' := ⟨h.os, h.tape, h.output, h.size, fun i hi => h.block i (by omega) (by omega) (by omega)⟩
theorem Far2.heap {H G g : Nat} {w w' : World} {x : Obj} (h : Far2 H G w w') (hx : w.heap[g]? = some x) (h1 : g ≠ H) (h2 : g ≠ G) : w'.heap[g]? = some x := by rw [h.block g (Array.getElem?_eq_some_iff.1 hx).1 h1 h2]; exact hx
theorem Far2.newer {H G r : Nat} {u v w : World} (h : Far2 H G u v) (k : Far r v w) (hr : u.heap.size ≤ r) : Far2 H G u w :=
  ⟨k.os.trans h.os, k.tape.trans h.tape, k.output.trans h.output, Nat.le_trans h.size k.size, fun i hi h1 h2 => (k.block i (Nat.lt_of_lt_of_le hi h.size) (by simp; omega)).trans (h.block i hi h1 h2)⟩
theorem s0 {α : Type} (l : List α) (i : Nat) (a : α) : l.toArray.setIfInBounds i a = (l.set i a).toArray := List.setIfInBounds_toArray ..
theorem s1 {α : Type} (x a : α) (r : List α) : (x :: r).set 0 a = a :: r := rfl
theorem s2 {α : Type} (x a : α) (r : List α) (n : Nat) : (x :: r).set (n + 1) a = x :: r.set n a := rfl
theorem yi {P : Program} {ops : Array Oper} {S : World → Prop} {o : Oper} {v : Value} {a : Act} (h : ∀ w, S w → (execOp a.eval o).run P w = .ok (.value v) w) (hw : Region.wanted o (yielded ops a.tmps) = true := by rfl) : YieldsIf P ops S o v a := .inl ⟨hw, h⟩
/-- wpAnyH_take, shorter -/
theorem tkH {P : Program} {md : Region.Mode} {ops : Array Oper} {Q : Exit → Act → World → Prop} {S : World → Prop} {i : Nat} {oi : Oper} {v : Value} {fuel : Nat} {listed : Array Bool} {a : Act} {w : World} (hi : ops[i]? = some oi) (hy : YieldsIf P ops S oi v a) (hS : S w)
    (h : wpAnyH P md ops Q S fuel (listed.setIfInBounds i true) (a.put oi.dst v) w) (hs : Region.noSelect ops = true := by kernel_rfl) (hf : Region.free md ops listed i = true := by kernel_rfl) (hr : (Region.ready md ops listed).contains i = true := by kernel_rfl)
    (hQ : ∀ c a w, Q (.panic c) (a.put oi.dst v) w → Q (.panic c) a w := by exact fun _ _ _ h => h) : wpAnyH P md ops Q S (fuel + 1) listed a w :=
  wpAnyH_take hi hs hf hr hQ hy hS h
end Go.Proofs.YtnophelfpoldfaaGreatDoor

/- Maps keyed by whatever can be compared, their elements whatever: what a block holds, told by a function of the keys. -/
namespace Go.Proofs.YtnophelfpoldfaaGreatDoor
open Go.RowKit Go.Maps

/-- an element is carried as it stands -/
def tokR : Value → Option (DataW Value × List MemPlace) := fun v => some (.held v, [])
/-- keys of type k, as x's -/
structure KeyE (k : TypeId) (α : Type) where
  enc : α → Value
  ok : α → Prop
  kv : ∀ x, ok x → KV k (enc x)
  inj : ∀ x y, ok x → ok y → enc x = enc y → x = y
  law : Keyed Tryz.prog k
  kinj : ∀ {a b : Value} {l : Lit}, keyOf Tryz.prog k a = some l → keyOf Tryz.prog k b = some l → a = b
/-- block b is a map of n entries that holds M -/
def MapIs {k : TypeId} {α : Type} (E : KeyE k α) (w : World) (b : Nat) (M : α → Option Value) (n : Nat) : Prop :=
  ∃ D, w.ownsMap Tryz.prog k tokR b n D ∧ size D = n ∧ (∀ x l, E.ok x → keyOf Tryz.prog k (E.enc x) = some l → has D l = (M x).isSome ∧ ∀ v, M x = some v → ∀ z, D.atKey l z = .held v) ∧ ∀ l, has D l = true → ∃ x, E.ok x ∧ keyOf Tryz.prog k (E.enc x) = some l
section
variable {k : TypeId} {α : Type} {E : KeyE k α} {w : World} {b n : Nat} {M : α → Option Value}
theorem MapIs.made (w : World) : MapIs E (w.alloc (.map #[] 0)) w.heap.size (fun _ => none) 0 :=
  ⟨.map [], World.ownsMap_made w _ _ _, rfl, fun x l _ _ => ⟨rfl, fun v hv => by cases hv⟩, fun l hl => by cases hl⟩
theorem MapIs.lt (h : MapIs E w b M n) : b < w.heap.size := by obtain ⟨D, h1, _⟩ := h; exact h1.lt
theorem MapIs.kept {w' : World} {row : Option Nat} (h : MapIs E w b M n) (hg : w.grownBy w' row) (hne : some b ≠ row) : MapIs E w' b M n := by
  obtain ⟨D, h1, h2, h3, h4⟩ := h
  exact ⟨D, h1.kept hg hne, h2, h3, h4⟩
theorem MapIs.far {w' : World} {H : Nat} (h : MapIs E w b M n) (hf : Far H w w') (hne : b ≠ H) : MapIs E w' b M n := h.kept hf (by simpa using hne)
theorem MapIs.below {w' : World} (h : MapIs E w b M n) (hb : Below w.heap.size w w') : MapIs E w' b M n :=
  h.kept (row := none) ⟨hb.os, hb.tape, hb.output, hb.size, fun i hi _ => hb.block i hi⟩ (by simp)
theorem MapIs.congr {M' : α → Option Value} {n' : Nat} (h : MapIs E w b M n) (hM : ∀ x, E.ok x → M x = M' x) (hn : n = n') : MapIs E w b M' n' := by
  subst hn
  obtain ⟨D, h1, h2, h3, h4⟩ := h
  exact ⟨D, h1, h2, fun x l hx hl => by rw [← hM x hx]; exact h3 x l hx hl, h4⟩
theorem MapIs.get (h : MapIs E w b M n) {t e : TypeId} (ht : Tryz.prog.underlying t = some (.map k e)) {z : Value} (hz : (zeroValue e).run Tryz.prog w = .ok z w) (x : α) (hx : E.ok x) (c : Bool) :
    (Instr.lookup t (.map (some b)) (E.enc x) c).run Tryz.prog w = .ok (if c then .tuple #[(M x).getD z, .bool (M x).isSome] else (M x).getD z) w := by
  obtain ⟨D, h1, _, h3, _⟩ := h
  obtain ⟨l, hl⟩ := E.kv x hx
  obtain ⟨g1, g2⟩ := h3 x l hx hl
  cases c with
  | true =>
    obtain ⟨v, ps, hrun, hv⟩ := h1.look_ok E.law ht hz (zd := .held z) (zp := []) rfl hl
    rw [hrun, g1]
    have hv' : DataW.held v = D.atKey l (.held z) := by
      simp only [tokR, Option.some.injEq, Prod.mk.injEq] at hv
      exact hv.1
    cases hM : M x with
    | none =>
      rw [hM] at g1
      rw [atKey_of_not_has g1] at hv'
      simp only [DataW.held.injEq] at hv'
      simp [hv']
    | some u =>
      rw [g2 u hM] at hv'
      simp only [DataW.held.injEq] at hv'
      simp [hv']
  | false =>
    obtain ⟨v, ps, hrun, hv⟩ := h1.lookup E.law ht hz (zd := .held z) (zp := []) rfl hl
    rw [hrun]
    have hv' : DataW.held v = D.atKey l (.held z) := by
      simp only [tokR, Option.some.injEq, Prod.mk.injEq] at hv
      exact hv.1
    cases hM : M x with
    | none =>
      rw [hM] at g1
      rw [atKey_of_not_has g1] at hv'
      simp only [DataW.held.injEq] at hv'
      simp [hv']
    | some u =>
      rw [g2 u hM] at hv'
      simp only [DataW.held.injEq] at hv'
      simp [hv']
theorem MapIs.put (h : MapIs E w b M n) {t e : TypeId} (ht : Tryz.prog.underlying t = some (.map k e)) (hn : n < maxLen) (x : α) (hx : E.ok x) (v : Value) [DecidableEq α] :
    ∃ w', (Instr.mapUpdate t (.map (some b)) (E.enc x) v).run Tryz.prog w = .ok () w' ∧ MapIs E w' b (fun y => if y = x then some v else M y) (if (M x).isSome then n else n + 1) ∧ Far b w w' := by
  obtain ⟨D, h1, h2, h3, h4⟩ := h
  obtain ⟨l, hl⟩ := E.kv x hx
  have hk := E.law.one.key ⟨_, hl⟩
  obtain ⟨w', hrun, g1, g2⟩ := h1.update E.law ht hn hl (d := .held v) (ps := []) rfl
  obtain ⟨q1, _⟩ := h3 x l hx hl
  have hsz : size (D.put l (.held v)) = if (M x).isSome then n else n + 1 := by
    rw [size_put (h1.tidy E.law), h2, q1]
  refine ⟨w', hrun, ⟨D.put l (.held v), ?_, hsz, fun y ly hy hly => ?_, fun l' hl' => ?_⟩, g2⟩
  · obtain ⟨es, clock, a1, a2, _, a4⟩ := g1
    refine ⟨es, clock, a1, a2, ?_, a4⟩
    rw [← hsz, a4, size_eq, length_sorted]; simp
  · by_cases hyx : y = x
    · subst hyx
      rw [hl] at hly
      cases hly
      dsimp only
      rw [if_pos rfl]
      exact ⟨has_put_same h1.isMap hk _, fun u hu z => by cases hu; exact atKey_put_same h1.isMap hk _ z⟩
    · dsimp only
      rw [if_neg hyx]
      have hne : ly ≠ l := fun e => hyx (E.inj _ _ hy hx (E.kinj (by rw [e] at hly; exact hly) hl))
      obtain ⟨r1, r2⟩ := h3 y ly hy hly
      exact ⟨by rw [has_put_other hne]; exact r1, fun u hu z => by rw [atKey_put_other hne]; exact r2 u hu z⟩
  · by_cases hll : l' = l
    · subst hll; exact ⟨x, hx, hl⟩
    · rw [has_put_other hll] at hl'; exact h4 l' hl'
theorem MapIs.del (h : MapIs E w b M n) {t e : TypeId} (ht : Tryz.prog.underlying t = some (.map k e)) (x : α) (hx : E.ok x) (ty : TypeId) [DecidableEq α] :
    ∃ w', (Builtin.delete_ #[t, k] ty #[.map (some b), E.enc x]).run Tryz.prog w = .ok (.tuple #[]) w' ∧ MapIs E w' b (fun y => if y = x then none else M y) (if (M x).isSome then n - 1 else n) ∧ Far b w w' := by
  obtain ⟨D, h1, h2, h3, h4⟩ := h
  obtain ⟨l, hl⟩ := E.kv x hx
  obtain ⟨w', hrun, g1, g2⟩ := h1.drop E.law ht hl ty
  obtain ⟨q1, _⟩ := h3 x l hx hl
  have hsz : size (D.del l) = if (M x).isSome then n - 1 else n := by
    have := size_del (k := l) (h1.tidy E.law)
    rw [h2, q1] at this
    split
    · rename_i hh; rw [if_pos hh] at this; omega
    · rename_i hh; rw [if_neg hh] at this; omega
  refine ⟨w', hrun, ⟨D.del l, ?_, hsz, fun y ly hy hly => ?_, fun l' hl' => ?_⟩, g2.grown⟩
  · obtain ⟨es, clock, a1, a2, _, a4⟩ := g1
    refine ⟨es, clock, a1, a2, ?_, a4⟩
    rw [← hsz, a4, size_eq, length_sorted]; simp
  · by_cases hyx : y = x
    · subst hyx
      rw [hl] at hly
      cases hly
      dsimp only
      rw [if_pos rfl]
      exact ⟨has_del_same, fun u hu z => by cases hu⟩
    · dsimp only
      rw [if_neg hyx]
      have hne : ly ≠ l := fun e => hyx (E.inj _ _ hy hx (E.kinj (by rw [e] at hly; exact hly) hl))
      obtain ⟨r1, r2⟩ := h3 y ly hy hly
      exact ⟨by rw [has_del_other hne]; exact r1, fun u hu z => by rw [atKey_del_other hne]; exact r2 u hu z⟩
  · by_cases hll : l' = l
    · subst hll; rw [has_del_same] at hl'; cases hl'
    · rw [has_del_other hll] at hl'; exact h4 l' hl'
theorem MapIs.len (h : MapIs E w b M n) {t e : TypeId} (ht : Tryz.prog.underlying t = some (.map k e)) (ty : TypeId) : (Builtin.len_ #[t] ty #[.map (some b)]).run Tryz.prog w = .ok (.int .i64 (n : Int)) w := by
  obtain ⟨D, h1, h2, _⟩ := h
  rw [h1.len ht ty, h2]
end
section
variable {k : TypeId} {α : Type} {E : KeyE k α} {w : World} {b n : Nat} {M : α → Option Value} {ops : Array Oper} {rest : List Oper} {o : Oper} {a : Act} {Q : Exit → Act → World → Prop}
theorem wpList_put (hg : o.guard = none) (m x v : Operand) (t : TypeId) (hop : o.op = Op.mapUpdate t m x v) {e : TypeId} (ht : Tryz.prog.underlying t = some (.map k e)) (h : MapIs E w b M n) (hn : n < maxLen)
    (hm : a.eval m = .map (some b)) (y : α) (hy : E.ok y) (hx : a.eval x = E.enc y) {val : Value} (hv : a.eval v = val) [DecidableEq α]
    (hK : ∀ w', MapIs E w' b (fun z => if z = y then some val else M z) (if (M y).isSome then n else n + 1) → Far b w w' → wpList Tryz.prog ops Q rest (a.put o.dst undef) w') : wpList Tryz.prog ops Q (o :: rest) a w := by
  refine wpList_plain hg fun K' hK' => ?_
  obtain ⟨w', hrun, r1, r2⟩ := h.put ht hn y hy val
  unfold Oper.wp
  simp [execOp, hop, hm, hx, hv, hrun, Result.andThen]
  exact hK' _ _ (hK w' r1 r2)
theorem wp_put {K : Act → World → Prop} (m x v : Operand) (t : TypeId) (hop : o.op = Op.mapUpdate t m x v) {e : TypeId} (ht : Tryz.prog.underlying t = some (.map k e)) (h : MapIs E w b M n) (hn : n < maxLen)
    (hm : a.eval m = .map (some b)) (y : α) (hy : E.ok y) (hx : a.eval x = E.enc y) {val : Value} (hv : a.eval v = val) [DecidableEq α]
    (hK : ∀ w', MapIs E w' b (fun z => if z = y then some val else M z) (if (M y).isSome then n else n + 1) → Far b w w' → K (a.put o.dst undef) w') : o.wp Tryz.prog a w K Q := by
  obtain ⟨w', hrun, r1, r2⟩ := h.put ht hn y hy val
  unfold Oper.wp
  simp [execOp, hop, hm, hx, hv, hrun, Result.andThen]
  exact hK w' r1 r2
theorem wpList_del (hg : o.guard = none) (m x : Operand) (t : TypeId) (hop : o.op = Op.call { callee := Callee.builtin Builtin.delete, args := #[m, x], argTypes := #[t, k] }) {e : TypeId} (ht : Tryz.prog.underlying t = some (.map k e)) (h : MapIs E w b M n)
    (hm : a.eval m = .map (some b)) (y : α) (hy : E.ok y) (hx : a.eval x = E.enc y) [DecidableEq α]
    (hK : ∀ w', MapIs E w' b (fun z => if z = y then none else M z) (if (M y).isSome then n - 1 else n) → Far b w w' → wpList Tryz.prog ops Q rest (a.put o.dst (.tuple #[])) w') : wpList Tryz.prog ops Q (o :: rest) a w := by
  refine wpList_plain hg fun K' hK' => ?_
  obtain ⟨w', hrun, r1, r2⟩ := h.del ht y hy o.type
  unfold Oper.wp
  simp [execOp, hop, resolve, invoke, builtin, hm, hx, hrun, Result.andThen]
  exact hK' _ _ (hK w' r1 r2)
theorem run_look {ev : Operand → Value} (m x : Operand) (t : TypeId) (c : Bool) (hop : o.op = Op.lookup t m x c) {e : TypeId} (ht : Tryz.prog.underlying t = some (.map k e)) {z : Value} (hz : (zeroValue e).run Tryz.prog w = .ok z w) (h : MapIs E w b M n)
    (hm : ev m = .map (some b)) (y : α) (hy : E.ok y) (hx : ev x = E.enc y) : (execOp ev o).run Tryz.prog w = .ok (.value (if c then .tuple #[(M y).getD z, .bool (M y).isSome] else (M y).getD z)) w := by
  have hrun := h.get ht hz y hy c
  simp [execOp, hop, hm, hx, hrun, Result.andThen]
theorem wpList_look (hg : o.guard = none) (m x : Operand) (t : TypeId) (c : Bool) (hop : o.op = Op.lookup t m x c) {e : TypeId} (ht : Tryz.prog.underlying t = some (.map k e)) {z : Value} (hz : (zeroValue e).run Tryz.prog w = .ok z w) (h : MapIs E w b M n)
    (hm : a.eval m = .map (some b)) (y : α) (hy : E.ok y) (hx : a.eval x = E.enc y)
    (hK : wpList Tryz.prog ops Q rest (a.put o.dst (if c then .tuple #[(M y).getD z, .bool (M y).isSome] else (M y).getD z)) w) : wpList Tryz.prog ops Q (o :: rest) a w := by
  refine wpList_plain hg fun K' hK' => ?_
  unfold Oper.wp
  rw [run_look m x t c hop ht hz h hm y hy hx, Oper.upon_value]
  exact hK' _ _ hK
theorem wpList_lenM (hg : o.guard = none) (m : Operand) (t : TypeId) (hop : o.op = Op.call { callee := Callee.builtin Builtin.len, args := #[m], argTypes := #[t] }) {e : TypeId} (ht : Tryz.prog.underlying t = some (.map k e)) (h : MapIs E w b M n)
    (hm : a.eval m = .map (some b)) (hK : wpList Tryz.prog ops Q rest (a.put o.dst (.int .i64 (n : Int))) w) : wpList Tryz.prog ops Q (o :: rest) a w := by
  refine wpList_plain hg fun K' hK' => ?_
  unfold Oper.wp
  simp [execOp, hop, resolve, invoke, builtin, hm, h.len ht o.type, Result.andThen]
  exact hK' _ _ hK
end
theorem nums_inj {k : IntKind} : ∀ {xs ys : List Nat}, nums k xs = nums k ys → xs = ys
  | [], [], _ => rfl
  | [], _ :: _, h => by simp [nums] at h
  | _ :: _, [], h => by simp [nums] at h
  | x :: xs, y :: ys, h => by
    have h1 : Value.int k (x : Int) = .int k (y : Int) ∧ nums k xs = nums k ys := by simpa [nums] using h
    have h2 := nums_inj h1.2
    have h3 := h1.1
    simp only [Value.int.injEq, true_and] at h3
    rw [h2, show x = y by omega]
/-- keys that are digests -/
def EH : KeyE 62 (List Nat) where
  enc := hv
  ok := fun xs => xs.length = 32 ∧ ∀ d ∈ xs, d < 256
  kv := fun _ h => kv_hash h.1 h.2
  inj := fun x y _ _ e => by
    unfold hv at e
    have h := congrArg Array.toList (Value.agg.inj e)
    exact nums_inj h
  law := keyHash.law
  kinj := keyHash.inj
end Go.Proofs.YtnophelfpoldfaaGreatDoor

/- Maps whose keys are strings: bytes as keys; the keys as a list. -/
namespace Go.Proofs.YtnophelfpoldfaaGreatDoor
open Go.RowKit Go.Maps

def u8k (xs : List Nat) : List UInt8 := xs.map (fun d => UInt8.ofNat d)
def n8k (xs : List UInt8) : List Nat := xs.map (fun d => d.toNat)
theorem n8k_u8k {xs : List Nat} (h : ∀ d ∈ xs, d < 256) : n8k (u8k xs) = xs := by
  unfold n8k u8k
  rw [List.map_map]
  conv => rhs; rw [← List.map_id xs]
  refine List.map_congr_left fun d hd => ?_
  have := h d hd
  simp only [Function.comp, id]
  rw [UInt8.toNat_ofNat']
  exact Nat.mod_eq_of_lt (by omega)
theorem u8k_n8k (xs : List UInt8) : u8k (n8k xs) = xs := by
  unfold n8k u8k
  rw [List.map_map]
  conv => rhs; rw [← List.map_id xs]
  refine List.map_congr_left fun d _ => ?_
  simp
theorem n8k_lt (xs : List UInt8) : ∀ d ∈ n8k xs, d < 256 := by
  intro d hd
  obtain ⟨u, _, rfl⟩ := List.mem_map.1 hd
  exact u.toNat_lt
theorem n8k_inj {x y : List UInt8} (h : n8k x = n8k y) : x = y := by rw [← u8k_n8k x, h, u8k_n8k]
theorem bytesOf_u8 (xs : List Nat) : (bytesOf xs).data.toList = u8k xs := by
  simp [u8k, bytesOf, strOfNums, List.map_map]
theorem bytesOf_enc (xs : List Nat) : Value.string (bytesOf xs) = encStr (u8k xs) := by
  have h := bytesOf_u8 xs
  show Value.string (bytesOf xs) = Value.string ⟨(u8k xs).toArray⟩
  rw [← h]
theorem bytesOf_size (xs : List Nat) : (bytesOf xs).size = xs.length := by
  have := congrArg List.length (bytesOf_u8 xs)
  simpa [u8k] using this
theorem key_str1 {x : List Nat} {l : Lit} (h : keyOf Tryz.prog 9 (.string (bytesOf x)) = some l) : l = .string (u8k x) := by
  obtain ⟨s, hs, rfl, _⟩ := WideMaps.string_of_keyOf Tryz.underlying9 h
  simp only [Value.string.injEq] at hs
  rw [← hs, bytesOf_u8]
/-- keys that are strings -/
def ES : KeyE 9 (List Nat) where
  enc := fun xs => .string (bytesOf xs)
  ok := fun xs => xs.length ≤ maxLen ∧ ∀ d ∈ xs, d < 256
  kv := fun x h => ⟨_, WideMaps.keyOf_string_mk Tryz.underlying9 (by rw [bytesOf_size]; exact h.1)⟩
  inj := fun x y hx hy e => by
    simp only [Value.string.injEq] at e
    have := congrArg (fun b => n8k b.data.toList) e
    simp only [bytesOf_u8] at this
    rwa [n8k_u8k hx.2, n8k_u8k hy.2] at this
  law := string_keyed Tryz.underlying9
  kinj := fun ha hb => by
    obtain ⟨s, rfl, rfl, _⟩ := WideMaps.string_of_keyOf Tryz.underlying9 ha
    obtain ⟨s', rfl, e, _⟩ := WideMaps.string_of_keyOf Tryz.underlying9 hb
    simp only [Lit.string.injEq] at e
    have : s.data = s'.data := Array.toList_inj.1 e
    cases s; cases s'; simp_all
theorem strKeys_mem {es : List (Lit × DataW Value)} (hk : ∀ p ∈ es, ∃ x, p.1 = .string x) (x : List UInt8) : x ∈ strKeys (.map es) ↔ has (.map es) (.string x) = true := by
  rw [has_eq, List.any_eq_true]
  show x ∈ es.map (fun p => strOf p.1) ↔ _
  rw [List.mem_map]
  constructor
  · rintro ⟨p, hp', rfl⟩
    obtain ⟨a, ha⟩ := hk p hp'
    exact ⟨p, hp', by rw [ha]; simp [Lit.sameKey, strOf]⟩
  · rintro ⟨p, hp', hs⟩
    obtain ⟨a, ha⟩ := hk p hp'
    rw [ha] at hs
    exact ⟨p, hp', by rw [ha]; simpa [Lit.sameKey, strOf] using hs⟩
/-- the keys that a map holds, whatever list of them there is -/
theorem MapIs.strs {w : World} {b n : Nat} {M : List Nat → Option Value} (h : MapIs ES w b M n) : ∃ D, w.ownsMap Tryz.prog 9 tokR b n D ∧ size D = n ∧ ∀ ss : List (List UInt8), ss.Perm (strKeys D) → (ss.map n8k).Nodup ∧ (∀ k ∈ ss.map n8k, ES.ok k) ∧ ∀ k, ES.ok k → (k ∈ ss.map n8k ↔ (M k).isSome = true) := by
  obtain ⟨D, h1, h2, h3, h4⟩ := h
  obtain ⟨es, rfl, hpw, hkl⟩ := h1.entries (string_keyed Tryz.underlying9)
  obtain ⟨es', hD', hko⟩ := h1.keysOf
  obtain rfl : es = es' := by simpa using hD'
  have hk : ∀ p ∈ es, ∃ x, p.1 = .string x := fun p hp => by
    obtain ⟨v, hv⟩ := hko p hp
    obtain ⟨x, _, hx, _⟩ := keyOf_str Tryz.underlying9 hv
    exact ⟨x, hx⟩
  have hnd : (strKeys (.map es)).Nodup := by
    show (es.map fun p => strOf p.1).Nodup
    refine List.pairwise_map.2 (hpw.imp_of_mem fun {p q} hp' hq' hne e => hne ?_)
    obtain ⟨a, ha⟩ := hk p hp'
    obtain ⟨b, hb⟩ := hk q hq'
    rw [ha, hb] at e ⊢
    exact congrArg _ e
  refine ⟨.map es, h1, h2, fun ss hp => ?_⟩
  have hn : ss.Nodup := hp.nodup_iff.2 hnd
  have okk : ∀ x ∈ ss, ES.ok (n8k x) := fun x hx => by
    have := strKeys_le h1 Tryz.underlying9 x (hp.mem_iff.1 hx)
    exact ⟨by unfold n8k; rw [List.length_map]; exact this, n8k_lt x⟩
  refine ⟨?_, fun k hk' => ?_, fun k hok => ?_⟩
  · exact List.pairwise_map.2 (List.Pairwise.imp (fun hne e => hne (n8k_inj e)) hn)
  · obtain ⟨x, hx, rfl⟩ := List.mem_map.1 hk'
    exact okk x hx
  · obtain ⟨l, hl⟩ := ES.kv k hok
    have hl' := hl
    obtain rfl := key_str1 hl'
    have h3k := (h3 k _ hok hl).1
    rw [← h3k, ← strKeys_mem hk, ← hp.mem_iff, List.mem_map]
    constructor
    · rintro ⟨x, hx, rfl⟩
      rwa [u8k_n8k]
    · intro hx
      exact ⟨_, hx, n8k_u8k hok.2⟩
end Go.Proofs.YtnophelfpoldfaaGreatDoor

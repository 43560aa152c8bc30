/- Steps of a walk by the operation's own shape: an operation of another kind is passed by at once. -/
import Derived.Test.YtdopbhahcpjjgaaDoorVar
namespace Go.Proofs.YtdopbhahcpjjgaaDoor
open Go.RowKit

section
variable {P : Program} {ops : Array Oper} {rest : List Oper} {a : Act} {w : World} {Q : Exit → Act → World → Prop} {dst : Option Tmp} {ty t : TypeId} {pos : String} {af : Array Edge}
theorem wpList_mk0 {cells : Array Value} (hb : P.built t [] = some cells)  (h : wpList P ops Q rest (a.put dst (.agg cells)) w) :
    wpList P ops Q ({ dst := dst, op := Op.build t #[], type := ty, pos := pos, after := af, guard := none } :: rest) a w := by
  have hv : ((#[] : Array (Nat × Operand)).map fun (i, x) => (i, a.eval x)).toList = [] := by simp
  exact wpList_build rfl t _ rfl (by rw [hv, hb]; rfl) (by rw [hv, hb]; exact h)
theorem wpList_mk1 {i0 : Nat} {x0 : Operand} {v0 : Value} {cells : Array Value} (hb : P.built t [(i0, v0)] = some cells) (h0 : a.eval x0 = v0) (h : wpList P ops Q rest (a.put dst (.agg cells)) w) :
    wpList P ops Q ({ dst := dst, op := Op.build t #[(i0, x0)], type := ty, pos := pos, after := af, guard := none } :: rest) a w := by
  have hv : ((#[(i0, x0)] : Array (Nat × Operand)).map fun (i, x) => (i, a.eval x)).toList = [(i0, v0)] := by simp [h0]
  exact wpList_build rfl t _ rfl (by rw [hv, hb]; rfl) (by rw [hv, hb]; exact h)
theorem wpList_mk2 {i0 i1 : Nat} {x0 x1 : Operand} {v0 v1 : Value} {cells : Array Value} (hb : P.built t [(i0, v0), (i1, v1)] = some cells) (h0 : a.eval x0 = v0) (h1 : a.eval x1 = v1) (h : wpList P ops Q rest (a.put dst (.agg cells)) w) :
    wpList P ops Q ({ dst := dst, op := Op.build t #[(i0, x0), (i1, x1)], type := ty, pos := pos, after := af, guard := none } :: rest) a w := by
  have hv : ((#[(i0, x0), (i1, x1)] : Array (Nat × Operand)).map fun (i, x) => (i, a.eval x)).toList = [(i0, v0), (i1, v1)] := by simp [h0, h1]
  exact wpList_build rfl t _ rfl (by rw [hv, hb]; rfl) (by rw [hv, hb]; exact h)
theorem wpList_mk3 {i0 i1 i2 : Nat} {x0 x1 x2 : Operand} {v0 v1 v2 : Value} {cells : Array Value} (hb : P.built t [(i0, v0), (i1, v1), (i2, v2)] = some cells) (h0 : a.eval x0 = v0) (h1 : a.eval x1 = v1) (h2 : a.eval x2 = v2) (h : wpList P ops Q rest (a.put dst (.agg cells)) w) :
    wpList P ops Q ({ dst := dst, op := Op.build t #[(i0, x0), (i1, x1), (i2, x2)], type := ty, pos := pos, after := af, guard := none } :: rest) a w := by
  have hv : ((#[(i0, x0), (i1, x1), (i2, x2)] : Array (Nat × Operand)).map fun (i, x) => (i, a.eval x)).toList = [(i0, v0), (i1, v1), (i2, v2)] := by simp [h0, h1, h2]
  exact wpList_build rfl t _ rfl (by rw [hv, hb]; rfl) (by rw [hv, hb]; exact h)
theorem wpList_mk4 {i0 i1 i2 i3 : Nat} {x0 x1 x2 x3 : Operand} {v0 v1 v2 v3 : Value} {cells : Array Value} (hb : P.built t [(i0, v0), (i1, v1), (i2, v2), (i3, v3)] = some cells) (h0 : a.eval x0 = v0) (h1 : a.eval x1 = v1) (h2 : a.eval x2 = v2) (h3 : a.eval x3 = v3) (h : wpList P ops Q rest (a.put dst (.agg cells)) w) :
    wpList P ops Q ({ dst := dst, op := Op.build t #[(i0, x0), (i1, x1), (i2, x2), (i3, x3)], type := ty, pos := pos, after := af, guard := none } :: rest) a w := by
  have hv : ((#[(i0, x0), (i1, x1), (i2, x2), (i3, x3)] : Array (Nat × Operand)).map fun (i, x) => (i, a.eval x)).toList = [(i0, v0), (i1, v1), (i2, v2), (i3, v3)] := by simp [h0, h1, h2, h3]
  exact wpList_build rfl t _ rfl (by rw [hv, hb]; rfl) (by rw [hv, hb]; exact h)
theorem wpList_mk5 {i0 i1 i2 i3 i4 : Nat} {x0 x1 x2 x3 x4 : Operand} {v0 v1 v2 v3 v4 : Value} {cells : Array Value} (hb : P.built t [(i0, v0), (i1, v1), (i2, v2), (i3, v3), (i4, v4)] = some cells) (h0 : a.eval x0 = v0) (h1 : a.eval x1 = v1) (h2 : a.eval x2 = v2) (h3 : a.eval x3 = v3) (h4 : a.eval x4 = v4) (h : wpList P ops Q rest (a.put dst (.agg cells)) w) :
    wpList P ops Q ({ dst := dst, op := Op.build t #[(i0, x0), (i1, x1), (i2, x2), (i3, x3), (i4, x4)], type := ty, pos := pos, after := af, guard := none } :: rest) a w := by
  have hv : ((#[(i0, x0), (i1, x1), (i2, x2), (i3, x3), (i4, x4)] : Array (Nat × Operand)).map fun (i, x) => (i, a.eval x)).toList = [(i0, v0), (i1, v1), (i2, v2), (i3, v3), (i4, v4)] := by simp [h0, h1, h2, h3, h4]
  exact wpList_build rfl t _ rfl (by rw [hv, hb]; rfl) (by rw [hv, hb]; exact h)
theorem wpList_ld {x : Operand} (b o : Nat) (cs : List Value) {d : TypeDesc} (hc : w.rangeAt b o cs) (hu : P.underlying t = some d) (hi : Hid ((P.info? t).map (·.size) = some cs.length)) (hx : a.eval x = .pointer (some ⟨b, o, none⟩)) (hd : d.isRow = true)
    (h : wpList P ops Q rest (a.put dst (.agg cs.toArray)) w) :
    wpList P ops Q ({ dst := dst, op := Op.load t x, type := ty, pos := pos, after := af, guard := none } :: rest) a w :=
  wpList_load_mid rfl t x rfl b o hx cs d hc hu hd hi.out h
theorem wpList_sr {x y : Operand} (g : Nat) (cs : Array Value) (t0 : TypeId) (old : Array Value) (hi : Hid ((P.info? t).map (·.size) = some cs.size)) (ho : Hid (old.size = cs.size)) (h1 : Hid (cs.all (·.oneCell') = true))
    (hx : a.eval x = .pointer (some ⟨g, 0, none⟩)) (hy : a.eval y = .agg cs) (hg : w.heap[g]? = some (.cells old t0 (0, 0))) (h : wpList P ops Q rest (a.put dst undef) (w.setRow g cs)) :
    wpList P ops Q ({ dst := dst, op := Op.store t x y, type := ty, pos := pos, after := af, guard := none } :: rest) a w :=
  wpList_store_row rfl t x y rfl g cs hx hy t0 old hg hi.out ho.out h1.out h
theorem wpList_ldG {x : Operand} {gd : Nat × Bool} (b o : Nat) (cs : List Value) {d : TypeDesc} (hc : w.rangeAt b o cs) (hu : P.underlying t = some d) (hi : Hid ((P.info? t).map (·.size) = some cs.length)) (hx : a.eval x = .pointer (some ⟨b, o, none⟩)) (hd : d.isRow = true)
    (hw : Region.wanted { dst := dst, op := Op.load t x, type := ty, pos := pos, after := af, guard := some gd } (yielded ops a.tmps) = true) (h : wpList P ops Q rest (a.put dst (.agg cs.toArray)) w) :
    wpList P ops Q ({ dst := dst, op := Op.load t x, type := ty, pos := pos, after := af, guard := some gd } :: rest) a w :=
  wpList_load_midG hw t x rfl b o hx cs d hc hu hd hi.out h
theorem wpList_mk0G {gd : Nat × Bool} {cells : Array Value} (hb : P.built t [] = some cells)  (hw : Region.wanted { dst := dst, op := Op.build t #[], type := ty, pos := pos, after := af, guard := some gd } (yielded ops a.tmps) = true) (h : wpList P ops Q rest (a.put dst (.agg cells)) w) :
    wpList P ops Q ({ dst := dst, op := Op.build t #[], type := ty, pos := pos, after := af, guard := some gd } :: rest) a w := by
  have hv : ((#[] : Array (Nat × Operand)).map fun (i, x) => (i, a.eval x)).toList = [] := by simp
  exact wpList_when hw fun _ hK => wp_build t _ rfl (by rw [hv, hb]; rfl) (hK _ _ (by rw [hv, hb]; exact h))
theorem wpList_mk1G {gd : Nat × Bool} {i0 : Nat} {x0 : Operand} {v0 : Value} {cells : Array Value} (hb : P.built t [(i0, v0)] = some cells) (h0 : a.eval x0 = v0) (hw : Region.wanted { dst := dst, op := Op.build t #[(i0, x0)], type := ty, pos := pos, after := af, guard := some gd } (yielded ops a.tmps) = true) (h : wpList P ops Q rest (a.put dst (.agg cells)) w) :
    wpList P ops Q ({ dst := dst, op := Op.build t #[(i0, x0)], type := ty, pos := pos, after := af, guard := some gd } :: rest) a w := by
  have hv : ((#[(i0, x0)] : Array (Nat × Operand)).map fun (i, x) => (i, a.eval x)).toList = [(i0, v0)] := by simp [h0]
  exact wpList_when hw fun _ hK => wp_build t _ rfl (by rw [hv, hb]; rfl) (hK _ _ (by rw [hv, hb]; exact h))
theorem wpList_mk2G {gd : Nat × Bool} {i0 i1 : Nat} {x0 x1 : Operand} {v0 v1 : Value} {cells : Array Value} (hb : P.built t [(i0, v0), (i1, v1)] = some cells) (h0 : a.eval x0 = v0) (h1 : a.eval x1 = v1) (hw : Region.wanted { dst := dst, op := Op.build t #[(i0, x0), (i1, x1)], type := ty, pos := pos, after := af, guard := some gd } (yielded ops a.tmps) = true) (h : wpList P ops Q rest (a.put dst (.agg cells)) w) :
    wpList P ops Q ({ dst := dst, op := Op.build t #[(i0, x0), (i1, x1)], type := ty, pos := pos, after := af, guard := some gd } :: rest) a w := by
  have hv : ((#[(i0, x0), (i1, x1)] : Array (Nat × Operand)).map fun (i, x) => (i, a.eval x)).toList = [(i0, v0), (i1, v1)] := by simp [h0, h1]
  exact wpList_when hw fun _ hK => wp_build t _ rfl (by rw [hv, hb]; rfl) (hK _ _ (by rw [hv, hb]; exact h))
/-- .. over a row as long -/
theorem wpList_sr0 {x y : Operand} (g : Nat) (cs : Array Value) (t0 : TypeId) (old : Array Value) (hi : Hid ((P.info? t).map (·.size) = some cs.size)) (h1 : Hid (cs.all (·.oneCell') = true))
    (hx : a.eval x = .pointer (some ⟨g, 0, none⟩)) (hy : a.eval y = .agg cs) (hg : w.heap[g]? = some (.cells old t0 (0, 0))) (ho : old.size = cs.size) (h : wpList P ops Q rest (a.put dst undef) (w.setRow g cs)) :
    wpList P ops Q ({ dst := dst, op := Op.store t x y, type := ty, pos := pos, after := af, guard := none } :: rest) a w :=
  wpList_store_row rfl t x y rfl g cs hx hy t0 old hg hi.out ho h1.out h
/-- a variable that is made and written at once -/
theorem wpList_var {x y : Operand} {dst2 : Option Tmp} {ty2 : TypeId} {pos2 : String} {af2 : Array Edge} (cs : Array Value) (z : Array Value) (hz : ∀ w : World, (zeroValue t).run P w = .ok (.agg z) w) (hi : Hid ((P.info? t).map (·.size) = some cs.size)) (ho : Hid (z.size = cs.size)) (h1 : Hid (cs.all (·.oneCell') = true))
    (hx : (a.put dst (.pointer (some ⟨w.heap.size, 0, none⟩))).eval x = .pointer (some ⟨w.heap.size, 0, none⟩)) (hy : (a.put dst (.pointer (some ⟨w.heap.size, 0, none⟩))).eval y = .agg cs)
    (h : ∀ w' : World, w'.heap[w.heap.size]? = some (.cells cs t (0, 0)) → Below w.heap.size w w' → wpList P ops Q rest ((a.put dst (.pointer (some ⟨w.heap.size, 0, none⟩))).put dst2 undef) w') :
    wpList P ops Q ({ dst := dst, op := Op.alloc t, type := ty, pos := pos, after := af, guard := none } :: { dst := dst2, op := Op.store t x y, type := ty2, pos := pos2, after := af2, guard := none } :: rest) a w := by
  refine wpList_plain rfl fun K hK => ?_
  have hr : (Instr.alloc t true (Value.tuple #[])).run P w = .ok (.pointer (some ⟨w.heap.size, 0, none⟩)) (w.alloc (.cells z t)) := by
    simp [Instr.alloc, newVar, newRow, hz, Value.cells]
  unfold Oper.wp execOp
  simp only [Sem.run_bind, hr, Result.andThen_ok, Sem.run_pure, Oper.upon_value]
  refine hK _ _ (wpList_sr w.heap.size cs t z hi ho h1 hx hy (heap_alloc_new w _) ?_)
  exact h _ (laid w z cs t).1 (laid w z cs t).2
end
end Go.Proofs.YtdopbhahcpjjgaaDoor

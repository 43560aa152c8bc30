/- Tags: a new one; how often it was used. -/
import Derived.Test.YtllckpcggmfmkaaDoorZc
import Derived.Test.YtllckpcggmfmkaaDoorTag
namespace Go.Proofs.YtllckpcggmfmkaaDoor
open Go.RowKit

noncomputable def tagC (s : ByteArray) : Array Value := Tryd.zeroCells108.setIfInBounds 0 (.string s)
theorem tagZ_size : Tryd.zeroCells108.size = 79 := by kernel_rfl
theorem tagC_new (s : ByteArray) : TagNew (tagC s) s 0 where
  sz := by unfold tagC; rw [Array.size_setIfInBounds]; exact tagZ_size
  nm := by unfold tagC; rw [Array.getElem?_setIfInBounds_self_of_lt (by rw [tagZ_size]; decide)]
  dn := by unfold tagC; rw [Array.getElem?_setIfInBounds_ne (by decide)]; kernel_rfl
  fr := by unfold tagC; rw [Array.getElem?_setIfInBounds_ne (by decide)]; kernel_rfl
  us := by unfold tagC; rw [Array.getElem?_setIfInBounds_ne (by decide)]; kernel_rfl
theorem built_tag (s : ByteArray) : Tryd.prog.built 108 [(0, .string s)] = some (tagC s) := by kernel_rfl
theorem wpList_build1 {P : Program} {ops : Array Oper} {rest : List Oper} {o : Oper} {a : Act} {w : World} {Q : Exit → Act → World → Prop} (hg : o.guard = none) (t : TypeId) (x : Operand) (ho : o.op = .build t #[(0, x)])
    {v0 : Value} {cells : Array Value} (hb : P.built t [(0, v0)] = some cells) (hx : a.eval x = v0)
    (h : wpList P ops Q rest (a.put o.dst (.agg cells)) w) : wpList P ops Q (o :: rest) a w := by
  have hv : ((#[(0, x)] : Array (Nat × Operand)).map fun (i, x) => (i, a.eval x)).toList = [(0, v0)] := by simp [hx]
  exact wpList_build hg t _ ho (by rw [hv, hb]; rfl) (by rw [hv, hb]; exact h)
def NewTRes (w : World) (s : ByteArray) (e : Ending) (w' : World) : Prop := ∃ g cur, e = .returned (.pointer (some ⟨g, 0, none⟩)) ∧ w.heap.size ≤ g ∧ w'.heap[g]? = some (.cells cur 108 (0, 0)) ∧ TagNew cur s 0 ∧ Below w.heap.size w w'
set_option maxRecDepth 100000 in
theorem newtag_walk (s : ByteArray) (w : World) : Calls Tryd.prog 39 #[.string s] w (NewTRes w s) := by
  have N := hid (tagC_new s)
  have B := hid (built_tag s)
  generalize tagC s = C at *
  go_enter Tryd.func39, Tryd.ntmps39
  go_wp2_with (refine wpList_build1 rfl _ _ rfl B.out rfl ?_)
  go_ret
  exact ⟨w.heap.size, C, rfl, Nat.le_refl _, heap_alloc_new w _, N.out, (Below.refl _ _).alloc (Nat.le_refl _) _⟩
end Go.Proofs.YtllckpcggmfmkaaDoor

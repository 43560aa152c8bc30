/- What a genesis is; whether it is right: the program's word and the reference's. -/
import Derived.Test.YtgaidleepjkldaaPointL
import Derived.Test.YtgaidleepjkldaaRec
namespace Go.Proofs.Ytgaidleepjkldaa
open Go.RowKit

/-- a genesis as it stands in a document -/
structure Gen where
  tx : List Nat
  out : Int
  nm : List Nat
  me : List Nat
  kind : Int
/-- its cells, its name's bytes lying at a, with room for c -/
def Gen.cells (g : Gen) (a : Option Addr) (c : Nat) : List Value := (nums .u8 g.tx ++ [Value.int .i64 g.out]) ++ [Value.slice a g.nm.length c] ++ nums .u8 g.me ++ [Value.int .i64 g.kind]
structure Gen.good (g : Gen) (w : World) (a : Option Addr) (c : Nat) : Prop where
  tl : g.tx.length = 32
  tb : ∀ d ∈ g.tx, d < 256
  ml : g.me.length = 32
  mb : ∀ d ∈ g.me, d < 256
  nb : ∀ d ∈ g.nm, d < 256
  nl : g.nm.length ≤ 140737488351232
  ow : (Lit.int .i64 g.out).wf = true
  kw : (Lit.int .i64 g.kind).wf = true
  sl : Sl .u8 w a g.nm.length c g.nm
theorem Gen.good.below {g : Gen} {w w' : World} {a : Option Addr} {c : Nat} (h : g.good w a c) (hb : Below w.heap.size w w') : g.good w' a c := ⟨h.tl, h.tb, h.ml, h.mb, h.nb, h.nl, h.ow, h.kw, h.sl.below hb⟩
theorem Gen.len {g : Gen} (a : Option Addr) (c : Nat) (h1 : g.tx.length = 32) (h2 : g.me.length = 32) : (g.cells a c).length = 67 := by simp [Gen.cells, h1, h2]
theorem Gen.at' {g : Gen} (a : Option Addr) (c : Nat) (h1 : g.tx.length = 32) (h2 : g.me.length = 32) : (g.cells a c)[32]? = some (.int .i64 g.out) ∧ (g.cells a c)[33]? = some (.slice a g.nm.length c) ∧ (g.cells a c)[66]? = some (.int .i64 g.kind) ∧
    (g.cells a c).take 33 = nums .u8 g.tx ++ [Value.int .i64 g.out] ∧ (g.cells a c).take 32 = nums .u8 g.tx ∧ ((g.cells a c).drop 34).take 32 = nums .u8 g.me := by
  have l1 : (nums .u8 g.tx).length = 32 := by rw [nums_length, h1]
  have l2 : (nums .u8 g.me).length = 32 := by rw [nums_length, h2]
  unfold Gen.cells
  generalize nums .u8 g.tx = T at *
  generalize nums .u8 g.me = M at *
  refine ⟨?_, ?_, ?_, ?_, ?_, ?_⟩
  · rw [List.append_assoc, List.append_assoc, List.append_assoc, List.getElem?_append_right (by omega), l1]; rfl
  · rw [List.append_assoc, List.append_assoc, List.append_assoc, List.getElem?_append_right (by omega), l1]; rfl
  · rw [List.getElem?_append_right (by simp [l1, l2])]; simp [l1, l2]
  · rw [List.append_assoc, List.append_assoc, List.take_append_of_le_length (by simp [l1]), List.take_of_length_le (by simp [l1])]
  · rw [List.append_assoc, List.append_assoc, List.append_assoc, List.take_append_of_le_length (by omega), List.take_of_length_le (by omega)]
  · rw [List.append_assoc (_ ++ _) M, List.drop_append_of_le_length (by simp [l1]), List.drop_of_length_le (by simp [l1]), List.nil_append, List.take_append_of_le_length (by omega), List.take_of_length_le (by omega)]
def Gen.check (g : Gen) : Nat := if g.nm.length = 0 ∨ (g.kind ≠ 0 ∧ g.kind ≠ 1) ∨ g.out < 0 ∨ 256 ≤ g.out then 1 else if 64 < g.nm.length then 3 else 0
/-- a variable that holds a genesis -/
theorem gen_range {w : World} {b : Nat} {L : List Value} (h : w.rangeAt b 0 L) (o n : Nat) : w.rangeAt b o ((L.drop o).take n) := fun j v hj => by
  rw [List.getElem?_take] at hj
  split at hj
  · rw [List.getElem?_drop] at hj
    have := h _ v hj
    rwa [Nat.zero_add] at this
  · cases hj
theorem gen_cell {w : World} {b j : Nat} {L : List Value} {v : Value} (h : w.rangeAt b 0 L) (hj : L[j]? = some v) : w.cell? ⟨b, j, none⟩ = some v := by
  have := h j v hj
  rwa [Nat.zero_add] at this
theorem range_new (w : World) (cs : Array Value) (t : TypeId) : (w.alloc (.cells cs t)).rangeAt w.heap.size 0 cs.toList := Bx.newA w cs t
def NumB (w : World) (r : Nat) (e : Ending) (w' : World) : Prop := e = .returned (.int .i64 ((r : Nat) : Int)) ∧ Below w.heap.size w w'
set_option maxHeartbeats 1000000 in
theorem check_walk (g : Gen) (a : Option Addr) (c : Nat) (h1 : g.tx.length = 32) (h2 : g.me.length = 32) (w : World) :
    Calls Try.prog 20 #[.agg (g.cells a c).toArray] w (NumB w g.check) := by
  have bb := hid ((Below.refl w.heap.size w).alloc (Nat.le_refl _) (.cells (g.cells a c).toArray 28))
  obtain ⟨e1, e2, e3, _⟩ := Gen.at' a c h1 h2
  have hr := range_new w (g.cells a c).toArray 28
  have c1 := gen_cell hr e1
  have c2 := gen_cell hr e2
  have c3 := gen_cell hr e3
  have hch := hid (show g.check = if g.nm.length = 0 ∨ (g.kind ≠ 0 ∧ g.kind ≠ 1) ∨ g.out < 0 ∨ 256 ≤ g.out then 1 else if 64 < g.nm.length then 3 else 0 from rfl)
  generalize g.check = r at *
  generalize (g.cells a c).toArray = cs at *
  generalize g.kind = k at *
  generalize g.out = o at *
  generalize g.nm.length = n at *
  clear e1 e2 e3 hr h1 h2
  go_enter Try.func20, Try.ntmps20
  go_wp2
  all_goals (go_ret; refine ⟨?_, bb.out⟩; rw [hch.out])
  all_goals (try simp only [beq_iff_eq, beq_eq_false_iff_ne, ne_eq] at *)
  all_goals (split <;> (try split) <;> first | rfl | (exfalso; omega))
set_option maxHeartbeats 1000000 in
theorem rcheck_walk (g : Gen) (a : Option Addr) (c : Nat) (h1 : g.tx.length = 32) (h2 : g.me.length = 32) (w : World) :
    Calls Try.prog 24 #[.agg (g.cells a c).toArray] w (NumB w g.check) := by
  have bb := hid ((Below.refl w.heap.size w).alloc (Nat.le_refl _) (.cells (g.cells a c).toArray 46))
  obtain ⟨e1, e2, e3, _⟩ := Gen.at' a c h1 h2
  have hr := range_new w (g.cells a c).toArray 46
  have c1 := gen_cell hr e1
  have c2 := gen_cell hr e2
  have c3 := gen_cell hr e3
  have hch := hid (show g.check = if g.nm.length = 0 ∨ (g.kind ≠ 0 ∧ g.kind ≠ 1) ∨ g.out < 0 ∨ 256 ≤ g.out then 1 else if 64 < g.nm.length then 3 else 0 from rfl)
  generalize g.check = r at *
  generalize (g.cells a c).toArray = cs at *
  generalize g.kind = k at *
  generalize g.out = o at *
  generalize g.nm.length = n at *
  clear e1 e2 e3 hr h1 h2
  go_enter Try.func24, Try.ntmps24
  go_wp2
  all_goals (go_ret; refine ⟨?_, bb.out⟩; rw [hch.out])
  all_goals (try simp only [beq_iff_eq, beq_eq_false_iff_ne, ne_eq] at *)
  all_goals (split <;> (try split) <;> first | rfl | (exfalso; omega))
end Go.Proofs.Ytgaidleepjkldaa

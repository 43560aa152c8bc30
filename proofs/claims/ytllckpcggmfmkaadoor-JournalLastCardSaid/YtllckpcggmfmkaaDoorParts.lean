/- What a slice of slices of bytes reads as. -/
import Derived.Test.YtllckpcggmfmkaaDoorSlice
namespace Go.Proofs.YtllckpcggmfmkaaDoor
open Go.RowKit

/-- bytes, and where they lie -/
structure BS where
  a : Option Addr
  c : Nat
  v : List Nat
def BS.cells (l : BS) : List Value := [.slice l.a l.v.length l.c]
def BS.good (w : World) (l : BS) : Prop := Sl .u8 w l.a l.v.length l.c l.v ∧ (∀ d ∈ l.v, d < 256) ∧ l.v.length ≤ 140737488351232
def Parts (w : World) (a : Option Addr) (n cap : Nat) (ls : List BS) : Prop := Rd w 1 a n cap (ls.flatMap BS.cells) ∧ ls.length = n ∧ ∀ l ∈ ls, l.good w
def flat (ls : List BS) : List Nat := ls.flatMap BS.v
theorem BS.good.below {w w' : World} {l : BS} (h : l.good w) (hb : Below w.heap.size w w') : l.good w' := ⟨h.1.below hb, h.2⟩
theorem Parts.below {w w' : World} {a : Option Addr} {n cap : Nat} {ls : List BS} (h : Parts w a n cap ls) (hb : Below w.heap.size w w') : Parts w' a n cap ls :=
  ⟨h.1.below hb, h.2.1, fun l hl => (h.2.2 l hl).below hb⟩
theorem bflat_eq (r : List BS) : r.flatMap BS.cells = r.map (fun l => Value.slice l.a l.v.length l.c) := by
  induction r with
  | nil => rfl
  | cons x r ih => simp only [List.flatMap_cons, List.map_cons, BS.cells, ih]; rfl
theorem bflat_get {ls : List BS} {j : Nat} {l : BS} (h : ls[j]? = some l) : (ls.flatMap BS.cells)[j]? = some (.slice l.a l.v.length l.c) := by
  rw [bflat_eq, List.getElem?_map, h]; rfl
theorem Parts.cells {w : World} {a : Option Addr} {n cap j : Nat} {ls : List BS} {l : BS} (h : Parts w a n cap ls) (hj : ls[j]? = some l) :
    ∃ b off, a = some ⟨b, off, none⟩ ∧ w.cell? ⟨b, off + j, none⟩ = some (.slice l.a l.v.length l.c) ∧ l.good w := by
  obtain ⟨⟨_, _, _, _, b, off, ha, hc⟩, hl, hg⟩ := h
  have hjl : j < ls.length := (List.getElem?_eq_some_iff.1 hj).1
  exact ⟨b, off, ha (by omega), hc _ _ (bflat_get hj), hg l (List.mem_of_getElem? hj)⟩
/-- what can be read lies in no newer block -/
theorem ApH.old {k : IntKind} {w : World} {a : Option Addr} {n cap H : Nat} {xs : List Nat} (h : Sl k w a n cap xs) (hH : w.heap.size ≤ H) : ApH H a n := by
  intro hn b off ha hb
  obtain ⟨b', off', ha', hc⟩ := h.opened
  have := ha' hn
  rw [ha] at this
  simp only [Option.some.injEq, Addr.mk.injEq, and_true] at this
  obtain ⟨rfl, rfl⟩ := this
  have := World.block_lt_of_cell? w _ (hc 0 hn)
  simp at this
  omega
theorem bget_some {α : Type} {ls : List α} {j n : Nat} (hl : ls.length = n) (h : j < n) : ∃ l, ls[j]? = some l := ⟨ls[j]'(by omega), List.getElem?_eq_getElem (by omega)⟩
theorem flat_take_succ {ls : List BS} {j : Nat} {l : BS} (h : ls[j]? = some l) : flat (ls.take (j + 1)) = flat (ls.take j) ++ l.v := by
  unfold flat
  rw [List.take_add_one, h, List.flatMap_append]
  simp
theorem flat_take_le (ls : List BS) (j : Nat) : (flat (ls.take j)).length ≤ (flat ls).length := by
  unfold flat
  conv => rhs; rw [← List.take_append_drop j ls, List.flatMap_append, List.length_append]
  omega
theorem flat_lt {ls : List BS} (h : ∀ l ∈ ls, ∀ d ∈ l.v, d < 256) : ∀ d ∈ flat ls, d < 256 := by
  intro d hd
  obtain ⟨l, hl, hd⟩ := List.mem_flatMap.1 hd
  exact h l hl d hd
end Go.Proofs.YtllckpcggmfmkaaDoor

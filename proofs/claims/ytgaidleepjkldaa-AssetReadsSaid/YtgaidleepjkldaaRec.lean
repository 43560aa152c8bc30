/- What a slice of records (a number, bytes) reads as. -/
import Derived.Test.YtgaidleepjkldaaByt
namespace Go.Proofs.Ytgaidleepjkldaa
open Go.RowKit

/-- a record and where its bytes lie -/
structure LR where
  t : Nat
  a : Option Addr
  c : Nat
  v : List Nat
def LR.cells (l : LR) : List Value := [.int .u64 (l.t : Int), .slice l.a l.v.length l.c]
def LR.good (w : World) (l : LR) : Prop := l.t < 18446744073709551616 ∧ Sl .u8 w l.a l.v.length l.c l.v ∧ (∀ d ∈ l.v, d < 256) ∧ l.v.length ≤ 140737488351232
def LR.pr (l : LR) : Nat × List Nat := (l.t, l.v)
def Recs (w : World) (a : Option Addr) (n cap : Nat) (ls : List LR) : Prop := Rd w 2 a n cap (ls.flatMap LR.cells) ∧ ls.length = n ∧ ∀ l ∈ ls, l.good w
theorem LR.good.below {w w' : World} {l : LR} (h : l.good w) (hb : Below w.heap.size w w') : l.good w' := ⟨h.1, h.2.1.below hb, h.2.2⟩
theorem Recs.below {w w' : World} {a : Option Addr} {n cap : Nat} {ls : List LR} (h : Recs w a n cap ls) (hb : Below w.heap.size w w') : Recs w' a n cap ls :=
  ⟨h.1.below hb, h.2.1, fun l hl => (h.2.2 l hl).below hb⟩
theorem flat_get {ls : List LR} {j : Nat} {l : LR} (h : ls[j]? = some l) : (ls.flatMap LR.cells)[j * 2]? = some (.int .u64 (l.t : Int)) ∧ (ls.flatMap LR.cells)[j * 2 + 1]? = some (.slice l.a l.v.length l.c) := by
  induction ls generalizing j with
  | nil => simp at h
  | cons x r ih =>
    cases j with
    | zero =>
      simp only [List.getElem?_cons_zero, Option.some.injEq] at h
      subst h
      exact ⟨rfl, rfl⟩
    | succ j =>
      rw [List.getElem?_cons_succ] at h
      have := ih h
      rw [show (j + 1) * 2 = j * 2 + 2 by omega]
      exact this
theorem Recs.cells {w : World} {a : Option Addr} {n cap j : Nat} {ls : List LR} {l : LR} (h : Recs w a n cap ls) (hj : ls[j]? = some l) :
    ∃ b off, a = some ⟨b, off, none⟩ ∧ w.cell? ⟨b, off + j * 2, none⟩ = some (.int .u64 (l.t : Int)) ∧ w.cell? ⟨b, off + j * 2 + 1, none⟩ = some (.slice l.a l.v.length l.c) ∧ l.good w := by
  obtain ⟨⟨_, _, _, _, b, off, ha, hc⟩, hl, hg⟩ := h
  have hjl : j < ls.length := (List.getElem?_eq_some_iff.1 hj).1
  obtain ⟨f1, f2⟩ := flat_get hj
  exact ⟨b, off, ha (by omega), hc _ _ f1, by rw [Nat.add_assoc]; exact hc _ _ f2, hg l (List.mem_of_getElem? hj)⟩
theorem get_some {α : Type} {ls : List α} {j n : Nat} (hl : ls.length = n) (h : j < n) : ∃ l, ls[j]? = some l := ⟨ls[j]'(by omega), List.getElem?_eq_getElem (by omega)⟩
theorem take_succ_some {α : Type} {ls : List α} {j : Nat} {l : α} (h : ls[j]? = some l) : ls.take (j + 1) = ls.take j ++ [l] := by
  rw [List.take_add_one, h]; rfl
/-- a record in a variable of its own -/
def BxR (w : World) (b : Nat) (t : Nat) (s : Value) : Prop := w.cell? ⟨b, 0, none⟩ = some (.int .u64 (t : Int)) ∧ w.cell? ⟨b, 1, none⟩ = some s
theorem BxR.below {w w' : World} {b t : Nat} {s : Value} (h : BxR w b t s) (hb : Below w.heap.size w w') : BxR w' b t s := by
  have hlt : b < w.heap.size := World.block_lt_of_cell? w _ h.1
  exact ⟨(hb.cell (p := ⟨b, 0, none⟩) hlt).trans h.1, (hb.cell (p := ⟨b, 1, none⟩) hlt).trans h.2⟩
theorem BxR.new (w : World) (t : Nat) (s : Value) (e : TypeId) : BxR (w.alloc (.cells #[.int .u64 (t : Int), s] e)) w.heap.size t s :=
  ⟨by rw [cell_of_row _ w.heap.size _ _ e (0, 0) (heap_alloc_new w _)]; rfl, by rw [cell_of_row _ w.heap.size _ _ e (0, 0) (heap_alloc_new w _)]; rfl⟩

/-- 'append(s, x)', the block in which x lies under a name of its own -/
theorem wpList_pushAt {P : Program} {ops : Array Oper} {rest : List Oper} {o : Oper} {a : Act} {Q : Exit → Act → World → Prop} {w : World} (hgd : o.guard = none) (s x : Operand) (t : TypeId)
    (ho : o.op = .call { callee := .builtin .append, args := #[s, x], argTypes := #[t, t] })
    {e : TypeId} {size bytes : Nat} {z : Value} (ty : SliceTy P t e size bytes z) (B : Nat) {v : Value} {n : Nat} {xs : List Value} (hown : w.ownsRow B e size v n xs) (hs : a.eval s = v) (G : Nat) (hG : w.heap.size = G)
    {us : Array Value} {et : TypeId} (hx : a.eval x = .slice (some ⟨G, 0, none⟩) 1 1) (hl : us.size = size) (h1 : us.toList.all Value.oneCell' = true) (hn : n < 4294967296) (hby : bytes ≤ 16384) (hB : B ≤ w.heap.size)
    (h : ∀ v' w', w'.ownsRow B e size v' (n + 1) (xs ++ us.toList) → Below B w w' → w.heap.size < w'.heap.size → v' ≠ .slice none 0 0 → wpList P ops Q rest (a.put o.dst v') w') : wpList P ops Q (o :: rest) a (w.alloc (.cells us et)) := by
  subst hG
  exact wpList_push hgd s x t ho ty B hown hs hx hl h1 hn hby hB h
end Go.Proofs.Ytgaidleepjkldaa

/- Quotes, and a table of them. -/
import Derived.Test.YtibjkpejbihcpaaMap
import Derived.Test.YtibjkpejbihcpaaVar
import Derived.Test.YtibjkpejbihcpaaQuote
namespace Go.Proofs.Ytibjkpejbihcpaa
open Go.RowKit

structure Quo where
  no : List Nat
  id : List Nat
  buy : Bool
  most : Nat
  st : Int
  rc : Nat
  ru : Nat
  til : Int
  used : Nat
def Quo.tail (q : Quo) : List Value := [.bool q.buy, .int .u64 (q.most : Int), .int .i64 q.st, .int .u64 (q.rc : Int), .int .u64 (q.ru : Int), .int .i64 q.til, .int .u64 (q.used : Int)]
def Quo.cells (q : Quo) : List Value := nums .u8 q.no ++ nums .u8 q.id ++ q.tail
structure Quo.ok (q : Quo) : Prop where
  nl : q.no.length = 32
  nb : ∀ d ∈ q.no, d < 256
  il : q.id.length = 32
  ib : ∀ d ∈ q.id, d < 256
  mb : q.most < 18446744073709551616
  cb : q.rc < 18446744073709551616
  ub : q.ru < 18446744073709551616
  sb : q.used < 18446744073709551616
  sw : (Lit.int .i64 q.st).wf = true
  tw : (Lit.int .i64 q.til).wf = true
def hz32 : List Nat := List.replicate 32 0
def qz : Quo := ⟨hz32, hz32, false, 0, 0, 0, 0, 0, 0⟩
theorem qz_ok : qz.ok := ⟨rfl, by intro d hd; simp [qz, hz32] at hd; omega, rfl, by intro d hd; simp [qz, hz32] at hd; omega, by decide, by decide, by decide, by decide, by decide, by decide⟩
theorem Quo.len {q : Quo} (h : q.ok) : q.cells.length = 71 := by simp [Quo.cells, Quo.tail, h.nl, h.il]
theorem Quo.get {q : Quo} (h : q.ok) (i : Nat) : q.cells[64 + i]? = q.tail[i]? := by
  rw [Quo.cells, List.getElem?_append_right (by simp [h.nl, h.il])]
  simp [h.nl, h.il]
theorem Quo.set {q : Quo} (h : q.ok) (i : Nat) (v : Value) : q.cells.set (64 + i) v = nums .u8 q.no ++ nums .u8 q.id ++ q.tail.set i v := by
  rw [Quo.cells, List.set_append_right _ _ (by simp [h.nl, h.il])]
  simp [h.nl, h.il]
theorem Quo.one (q : Quo) : ∀ v ∈ q.cells, v.oneCell' = true := by
  intro v hv
  simp only [Quo.cells, Quo.tail, List.mem_append, List.mem_cons, List.not_mem_nil, or_false] at hv
  rcases hv with (hv | hv) | hv
  · exact nums_oneCell _ _ v hv
  · exact nums_oneCell _ _ v hv
  · rcases hv with rfl | rfl | rfl | rfl | rfl | rfl | rfl <;> rfl
def zQ : Array Value := qz.cells.toArray
theorem zQ_size : zQ.size = 71 := by unfold zQ; rw [List.size_toArray]; exact Quo.len qz_ok
theorem zQ_ne : ¬ zQ = #[] := by intro e; have := zQ_size; rw [e] at this; exact absurd this (by decide)
theorem zeroQ (w : World) : (zeroValue 43).run Try.prog w = .ok (.agg zQ) w := by
  have h : (Try.prog.info? 43).map (·.zero) = some (some (.agg zQ)) := by kernel_rfl
  cases hi : Try.prog.info? 43 with
  | none => rw [hi] at h; cases h
  | some i =>
    rw [hi] at h
    simp only [Option.map_some, Option.some.injEq] at h
    simp [zeroValue, typeInfo, hi, h]
theorem infoQ : (Try.prog.info? 43).map (·.size) = some 71 := by kernel_rfl
theorem infoQl {q : Quo} (h : q.ok) : (Try.prog.info? 43).map (·.size) = some q.cells.length := by rw [Quo.len h]; exact infoQ
theorem infoQa {q : Quo} (h : q.ok) : (Try.prog.info? 43).map (·.size) = some q.cells.toArray.size := by rw [List.size_toArray]; exact infoQl h
theorem zQ_as {q : Quo} (h : q.ok) : zQ.size = q.cells.toArray.size := zQ_size.trans (by rw [List.size_toArray, Quo.len h])
abbrev QM := List Nat → Option Quo
def valM (M : QM) : List Nat → Option Value := fun x => (M x).map fun q => .agg q.cells.toArray
def updM (M : QM) (x : List Nat) (q : Quo) : QM := fun y => if y = x then some q else M y
theorem valM_upd (M : QM) (x : List Nat) (q : Quo) : (fun y => if y = x then some (.agg q.cells.toArray) else valM M y) = valM (updM M x q) := by
  funext y
  unfold valM updM
  by_cases h : y = x
  · simp [h]
  · simp [h]
/-- a table: its struct's block, its map's block, what it holds -/
structure TabAt (w : World) (tb mb : Nat) (M : QM) (n : Nat) : Prop where
  cell : w.cell? ⟨tb, 0, none⟩ = some (.map (some mb))
  map : MapIs EH w mb (valM M) n
  ok : ∀ x q, M x = some q → q.ok
  small : n ≤ 256
  ne : tb ≠ mb
theorem TabAt.below {w w' : World} {tb mb n : Nat} {M : QM} (h : TabAt w tb mb M n) (hb : Below w.heap.size w w') : TabAt w' tb mb M n := ⟨cell_keep hb h.cell, h.map.below hb, h.ok, h.small, h.ne⟩
theorem far_cell {w w' : World} {H : Nat} {a : Addr} {v : Value} (hf : Far H w w') (h : w.cell? a = some v) (hne : a.block ≠ H) : w'.cell? a = some v := by
  rw [World.cell?_of_block (hf.block _ (World.block_lt_of_cell? w _ h) (by simpa using hne))]; exact h
theorem TabAt.far {w w' : World} {tb mb n H : Nat} {M : QM} (h : TabAt w tb mb M n) (hf : Far H w w') (h1 : tb ≠ H) (h2 : mb ≠ H) : TabAt w' tb mb M n := ⟨far_cell hf h.cell h1, h.map.far hf h2, h.ok, h.small, h.ne⟩
theorem TabAt.put {w w' : World} {tb mb n : Nat} {M : QM} (h : TabAt w tb mb M n) {x : List Nat} {q : Quo} {n' : Nat} (hm : MapIs EH w' mb (fun y => if y = x then some (.agg q.cells.toArray) else valM M y) n') (hf : Far mb w w') (hq : q.ok) (hn : n' ≤ 256) : TabAt w' tb mb (updM M x q) n' :=
  ⟨far_cell hf h.cell h.ne, by rw [← valM_upd]; exact hm, fun y p hp => by
    unfold updM at hp
    split at hp
    · cases hp; exact hq
    · exact h.ok y p hp, hn, h.ne⟩
theorem lookVal (M : QM) (no : List Nat) : (if true = true then Value.tuple #[(valM M no).getD (.agg zQ), .bool (valM M no).isSome] else (valM M no).getD (.agg zQ)) = .tuple #[.agg ((M no).getD qz).cells.toArray, .bool (M no).isSome] := by
  rw [if_pos rfl]
  unfold valM
  cases M no <;> rfl
/-- a request that nothing has become of -/
def openS (o : Option Quo) : Quo × Nat := match o with | none => (qz, 5) | some q => if q.st = 0 then (q, 0) else (qz, 52)
/-- a quote that holds, for so many units more -/
def holdsS (o : Option Quo) (h : Int) (u : Nat) : Quo × Nat := match o with
  | none => (qz, 5)
  | some q => if q.st = 1 then (if q.til < h then (qz, 33) else if q.used + u < 18446744073709551616 then (if q.most < q.used + u then (qz, 51) else ({ q with used := q.used + u }, 0)) else (qz, 51)) else (qz, 52)
def QRes (w : World) (r : Quo × Nat) (e : Ending) (w' : World) : Prop := e = .returned (.tuple #[.agg r.1.cells.toArray, .int .i64 ((r.2 : Nat) : Int)]) ∧ Below w.heap.size w w'
theorem unMap : Try.prog.underlying 65 = some (.map 30 43) := by kernel_rfl
end Go.Proofs.Ytibjkpejbihcpaa

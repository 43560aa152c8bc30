/- Contracts of math/bits: Mul64, Add64, Sub64, for every uint64. -/
import Derived.Test.YtnbmpgballopeaaDoorChecked
import Derived.WalkKit
import Derived.WalkSpells
import Derived.WalkLawsBesides
import Derived.Lib.Mul64
import Derived.Laws.Bits64b
import Derived.Shelf.Spec.BitsCarry
import Derived.Test.YtnbmpgballopeaaDoorZOnce
import Derived.Test.YtnbmpgballopeaaDoorZVar
import Derived.Test.YtnbmpgballopeaaDoorZRf1
namespace Go.Proofs.YtnbmpgballopeaaDoor
open Go.RowKit
namespace Mul64
end Mul64
end Go.Proofs.YtnbmpgballopeaaDoor
/- Contracts of package sums: Covers, Mul. -/
namespace Go.Proofs.YtnbmpgballopeaaDoor
open Go.RowKit
theorem mul_lt64 {x y : Nat} (hx : x < 18446744073709551616) (hy : y < 18446744073709551616) : x * y / 18446744073709551616 < 18446744073709551616 := by
 rw [Nat.div_lt_iff_lt_mul (by omega)]
 exact Nat.mul_lt_mul_of_lt_of_lt hx hy
def U64E (z : Nat) (er : Int) : Value := .tuple #[.int .u64 (z : Int), .int .i64 er]
def addV (a b : Nat) : Value := if a + b < 18446744073709551616 then U64E (a + b) 0 else U64E 0 10
theorem addV_yes {a b : Nat} (h : a + b < 18446744073709551616) : addV a b = .tuple #[.int .u64 ((a + b : Nat) : Int), .int .i64 0] := if_pos h
theorem addV_no {a b : Nat} (h : ¬ a + b < 18446744073709551616) : addV a b = .tuple #[.int .u64 0, .int .i64 10] := if_neg h
theorem run_badd (x y : Nat) (w : World) : (callFunc 73 #[.int .u64 x, .int .u64 y, .int .u64 0]).run Tryd.prog w = .ok (.value (.tuple #[.int .u64 (((x + y) % 18446744073709551616 : Nat) : Int), .int .u64 (((x + y) / 18446744073709551616 : Nat) : Int)])) w := by
 rw [run_callFunc_extern Tryd.func73 (by kernel_rfl) (by kernel_rfl) (by kernel_rfl) (e := add64Entry) (by kernel_rfl), run_add64 x y 0 (by omega) (by omega) (by omega) (by omega)]
 simp only [Result.andThen]
 congr 5 <;> omega
set_option maxHeartbeats 400000 in
theorem sadd_walk (a b : Nat) (ha : a < 18446744073709551616) (hb : b < 18446744073709551616) (w : World) :
  Calls Tryd.prog 64 #[.int .u64 a, .int .u64 b] w fun e w' => e = .returned (addV a b) ∧ w = w' := by
 have r := run_badd a b
 by_cases h : a + b < 18446744073709551616
 ·rw [addV_yes h]
  rw [show (a + b) % 18446744073709551616 = a + b from Nat.mod_eq_of_lt h, show (a + b) / 18446744073709551616 = 0 from Nat.div_eq_of_lt h] at r
  go_enter Tryd.func64, Tryd.ntmps64
  go_wp2
  go_ret2
  exact ⟨rfl, rfl⟩
 ·rw [addV_no h]
  rw [show (a + b) / 18446744073709551616 = 1 from by omega] at r
  go_enter Tryd.func64, Tryd.ntmps64
  go_wp2
  go_ret2
  exact ⟨rfl, rfl⟩
def totV (xs : List Nat) : Value := if xs.sum < 18446744073709551616 then U64E xs.sum 0 else U64E 0 10
theorem totV_yes {xs : List Nat} (h : xs.sum < 18446744073709551616) : totV xs = .tuple #[.int .u64 (xs.sum : Int), .int .i64 0] := if_pos h
theorem totV_no {xs : List Nat} (h : ¬ xs.sum < 18446744073709551616) : totV xs = .tuple #[.int .u64 0, .int .i64 10] := if_neg h
theorem sum_take_succ {xs : List Nat} {k : Nat} (h : k < xs.length) : (xs.take (k + 1)).sum = (xs.take k).sum + xs.getD k 0 := by
 rw [List.take_succ_eq_append_getElem h, List.sum_append]; simp [List.getElem?_eq_getElem h]
theorem sum_take_le (xs : List Nat) (k : Nat) : (xs.take k).sum ≤ xs.sum := by
 have := List.take_append_drop k xs
 have h2 : ((xs.take k) ++ (xs.drop k)).sum = xs.sum := by rw [this]
 rw [List.sum_append] at h2
 omega
theorem getD_mem_lt {xs : List Nat} {M : Nat} (h : ∀ d ∈ xs, d < M) (hM : 0 < M) (k : Nat) : xs.getD k 0 < M := by
 by_cases hk : k < xs.length
 ·have := h (xs[k]) (List.getElem_mem hk); simp [List.getElem?_eq_getElem hk, this]
 ·simp [List.getElem?_eq_none (Nat.le_of_not_lt hk), hM]
set_option maxHeartbeats 400000 in
theorem stotal_walk (a : Option Addr) (n cap : Nat) (xs : List Nat) (hb : ∀ d ∈ xs, d < 18446744073709551616) (w : World) (h : Sl .u64 w a n cap xs) :
  Calls Tryd.prog 50 #[.slice a n cap] w fun e w' => e = .returned (totV xs) ∧ w = w' := by
 have HL := hid h.len
 have hcap := h.2.1
 have hm' : cap ≤ 9223372036854775807 := by have h2 := h.2.2.1; unfold maxLen at h2; omega
 obtain ⟨b, off, ha, hc⟩ := h.opened
 go_enter Tryd.func50, Tryd.ntmps50
 go_wp2
 go_loop [4, 11] (fun s0 i0 => ∃ (k s : Nat), k ≤ n ∧ i0 = .int .i64 k ∧ s0 = .int .u64 s ∧ s < 18446744073709551616 ∧ Hid (s = (xs.take k).sum)) (fun _ i0 => n - (intOf i0).toNat)
 case atStart => exact ⟨0, 0, by omega, rfl, rfl, by omega, hid rfl⟩
 case round =>
  obtain ⟨k, s, hk, rfl, rfl, hs, hsum⟩ := hrel
  by_cases hlt : k < n
  ·have hcx := hc k hlt
   obtain rfl := ha (by omega)
   have hd := getD_mem_lt hb (by omega) k
   have hst := hid (sum_take_succ (xs := xs) (k := k) (by rw [HL.out]; exact hlt))
   have hle := hid (sum_take_le xs (k + 1))
   generalize hdd : xs.getD k 0 = d at *
   have HD := hid hdd
   clear hdd hc h
   by_cases hf : s + d < 18446744073709551616
   ·go_wp2_with fail
    refine (sadd_walk s d hs hd _).mono ?_
    rintro e w' ⟨rfl, rfl⟩
    rw [addV_yes hf]
    go_wp2
    go_round
    case rel => exact ⟨k + 1, s + d, by omega, by go_num, rfl, hf, hid (by rw [hst.out, hsum.out])⟩
    case measure => simp [intOf]; omega
   ·have hno := hid (totV_no (xs := xs) (by have := hle.out; rw [hst.out, ← hsum.out] at this; omega))
    go_wp2_with fail
    refine (sadd_walk s d hs hd _).mono ?_
    rintro e w' ⟨rfl, rfl⟩
    rw [addV_no hf]
    go_wp2
    go_ret2
    exact ⟨by rw [hno.out]; rfl, rfl⟩
  ·obtain rfl : n = k := by omega
   have hyes := hid (totV_yes (xs := xs) (by have := hsum.out; rw [List.take_of_length_le (by rw [HL.out]; omega)] at this; omega))
   have hs2 := hid (show s = xs.sum by have := hsum.out; rw [List.take_of_length_le (by rw [HL.out]; omega)] at this; exact this)
   go_wp2
   go_ret2
   exact ⟨by rw [hyes.out, ← hs2.out]; rfl, rfl⟩
end Go.Proofs.YtnbmpgballopeaaDoor
/- The chain, plain: paths, outputs, inputs, transactions; when one is none. -/
namespace Go.Proofs.YtnbmpgballopeaaDoor
open Go.RowKit
def H32b (x : List Nat) : Prop := x.length = 32 ∧ ∀ d ∈ x, d < 256
def i64ok (n : Int) : Prop := -9223372036854775808 ≤ n ∧ n ≤ 9223372036854775807
structure PathD where
 own : List Nat
 also : List Nat
 lock : List Nat
 wait : Int
 till : Int
def PathD.cells (p : PathD) : List Value := nums .u8 p.own ++ (nums .u8 p.also ++ (nums .u8 p.lock ++ [.int .i64 p.wait, .int .i64 p.till]))
structure PathD.ok (p : PathD) : Prop where
 own : H32b p.own
 also : H32b p.also
 lock : H32b p.lock
 wait : i64ok p.wait
 till : i64ok p.till
theorem PathD.len {p : PathD} (h : p.ok) : p.cells.length = 98 := by simp [PathD.cells, h.own.1, h.also.1, h.lock.1]
def PathD.bad (p : PathD) : Bool := decide (p.wait < 0 ∨ 1073741824 < p.wait ∨ p.till < 0 ∨ 1073741824 < p.till)
structure OutD where
 coins : Nat
 pa : Option Addr
 pc : Nat
 paths : List PathD
 anchor : List Nat
def OutD.cells (o : OutD) : List Value := .int .u64 (o.coins : Int) :: .slice o.pa o.paths.length o.pc :: nums .u8 o.anchor
structure OutD.good (w : World) (o : OutD) : Prop where
 coins : o.coins < 18446744073709551616
 anchor : H32b o.anchor
 paths : Rd w 98 o.pa o.paths.length o.pc (o.paths.flatMap PathD.cells)
 ok : ∀ p ∈ o.paths, p.ok
theorem OutD.len {w : World} {o : OutD} (h : o.good w) : o.cells.length = 34 := by simp [OutD.cells, h.anchor.1]
theorem OutD.good.below {w w' : World} {o : OutD} (h : o.good w) (b : Below w.heap.size w w') : o.good w' := ⟨h.coins, h.anchor, h.paths.below b, h.ok⟩
def OutD.code (o : OutD) : Nat := if o.paths.length = 0 ∨ 4 < o.paths.length then 1 else if o.paths.any PathD.bad then 1 else 0
structure InD where
 tx : List Nat
 out : Int
 path : Int
 token : List Nat
 more : List Nat
 secret : List Nat
def InD.cells (i : InD) : List Value := nums .u8 i.tx ++ (.int .i64 i.out :: .int .i64 i.path :: (nums .u8 i.token ++ (nums .u8 i.more ++ nums .u8 i.secret)))
structure InD.ok (i : InD) : Prop where
 tx : H32b i.tx
 out : i64ok i.out
 path : i64ok i.path
 token : H32b i.token
 more : H32b i.more
 secret : H32b i.secret
theorem InD.len {i : InD} (h : i.ok) : i.cells.length = 130 := by simp [InD.cells, h.tx.1, h.token.1, h.more.1, h.secret.1]
def InD.bad (i : InD) : Bool := decide (i.out < 0 ∨ 256 ≤ i.out ∨ i.path < 0 ∨ 4 ≤ i.path)
def InD.meets (i j : InD) : Bool := decide (j.tx = i.tx ∧ j.out = i.out)
structure TxD where
 ia : Option Addr
 ic : Nat
 ins : List InD
 oa : Option Addr
 oc : Nat
 outs : List OutD
def TxD.cells (t : TxD) : List Value := [.slice t.ia t.ins.length t.ic, .slice t.oa t.outs.length t.oc]
structure TxD.good (w : World) (t : TxD) : Prop where
 ins : Rd w 130 t.ia t.ins.length t.ic (t.ins.flatMap InD.cells)
 iok : ∀ i ∈ t.ins, i.ok
 outs : Rd w 34 t.oa t.outs.length t.oc (t.outs.flatMap OutD.cells)
 ook : ∀ o ∈ t.outs, o.good w
theorem TxD.good.below {w w' : World} {t : TxD} (h : t.good w) (b : Below w.heap.size w w') : t.good w' := ⟨h.ins.below b, h.iok, h.outs.below b, fun o ho => (h.ook o ho).below b⟩
theorem flatB_at {α : Type} {f : α → List Value} {size : Nat} : ∀ {xs : List α}, (∀ x ∈ xs, (f x).length = size) → ∀ {i : Nat} {x : α}, xs[i]? = some x → ∀ {k : Nat}, k < size → (xs.flatMap f)[i * size + k]? = (f x)[k]?
 | [], _, i, x, h, _, _ => by simp at h
 | y :: r, hs, 0, x, h, k, hk => by
  simp only [List.getElem?_cons_zero, Option.some.injEq] at h
  subst h
  rw [List.flatMap_cons, Nat.zero_mul, Nat.zero_add, List.getElem?_append_left (by rw [hs _ (by simp)]; exact hk)]
 | y :: r, hs, i + 1, x, h, k, hk => by
  simp only [List.getElem?_cons_succ] at h
  rw [List.flatMap_cons, List.getElem?_append_right (by rw [hs _ (by simp), Nat.succ_mul]; omega), hs y (by simp)]
  have e : (i + 1) * size + k - size = i * size + k := by rw [Nat.succ_mul]; omega
  rw [e]
  exact flatB_at (fun z hz => hs z (by simp [hz])) h hk
theorem rd_row {w : World} {α : Type} {f : α → List Value} {size n cap : Nat} {a : Option Addr} {xs : List α} (hs : ∀ x ∈ xs, (f x).length = size) (h : Rd w size a n cap (xs.flatMap f)) {i : Nat} {x : α} (hx : xs[i]? = some x) (hi : i < n) : ∃ b off, a = some ⟨b, off, none⟩ ∧ w.rangeAt b (off + i * size) (f x) := by
 obtain ⟨_, _, _, _, b, off, ha, hc⟩ := h
 refine ⟨b, off, ha (by omega), fun k v hv => ?_⟩
 have hk : k < size := by rw [← hs x (List.mem_of_getElem? hx)]; exact (List.getElem?_eq_some_iff.1 hv).1
 rw [Nat.add_assoc]
 exact hc _ _ (by rw [flatB_at hs hx hk]; exact hv)
def insC : List InD → List InD → Nat
 | _, [] => 0
 | pre, i :: r => if i.bad then 1 else if pre.any i.meets then 6 else insC (pre ++ [i]) r
def outsC : List OutD → Nat
 | [] => 0
 | o :: r => if o.code = 0 then outsC r else o.code
def TxD.code (t : TxD) : Nat :=
 if 256 < t.ins.length ∨ 256 < t.outs.length then 4 else if t.ins.length = 0 ∨ t.outs.length = 0 then 1 else
 if insC [] t.ins ≠ 0 then insC [] t.ins else if outsC t.outs ≠ 0 then outsC t.outs else
 if (t.outs.map OutD.coins).sum < 18446744073709551616 then 0 else 10
def InD.other (i : InD) (h : List Nat) (p : Int) : InD := ⟨i.tx, i.out, p, h, h, h⟩
end Go.Proofs.YtnbmpgballopeaaDoor
/- The reference's numbers as digits: Num, Sub. -/
namespace Go.Proofs.YtnbmpgballopeaaDoor
open Go.RowKit
def NumRes (w : World) (x : Nat) (e : Ending) (w' : World) : Prop :=
 e = .returned (.tuple #[.int .u64 ((if x < 18446744073709551616 then x else 0 : Nat) : Int), .bool (decide (x < 18446744073709551616))]) ∧ w = w'
theorem num_big {w : World} {x : Nat} {xs : List Nat} (hx : Dig xs x) (h : 8 < xs.length) : NumRes w x (.returned (.tuple #[.int .u64 0, .bool false])) w := by
 have h1 := hx.ge (by omega)
 have h2 : 256 ^ 8 ≤ 256 ^ (xs.length - 1) := pow256_le (by omega)
 have h3 : ¬ x < 18446744073709551616 := by omega
 exact ⟨by simp [h3], rfl⟩
theorem num_small {w : World} {x : Nat} {xs : List Nat} (hx : Dig xs x) (h : xs.length ≤ 8) {z : Int} (hz : z = (val xs : Int)) : NumRes w x (.returned (.tuple #[.int .u64 z, .bool true])) w := by
 have h1 := hx.lt
 have h2 : 256 ^ xs.length ≤ 256 ^ 8 := pow256_le h
 have h3 : x < 18446744073709551616 := by omega
 rw [hx.1] at hz
 subst hz
 exact ⟨by simp [h3], rfl⟩
theorem num_step {xs : List Nat} {n j : Nat} (h : Dg xs) (hl : xs.length = n) (hn : n ≤ 8) (hj : j < n) :
  val (xs.drop j) = xs.getD j 0 + 256 * val (xs.drop (j + 1)) ∧ 256 * val (xs.drop (j + 1)) < 18446744073709551616 ∧ xs.getD j 0 + 256 * val (xs.drop (j + 1)) < 18446744073709551616 := by
 have e : val (xs.drop j) = xs.getD j 0 + 256 * val (xs.drop (j + 1)) := by rw [drop_eq_cons (by omega)]; rfl
 have h1 := val_drop_lt h j
 have h2 : 256 ^ (xs.length - j) ≤ 256 ^ 8 := pow256_le (by omega)
 omega
set_option maxHeartbeats 1000000 in
theorem num_walk (a : Option Addr) (n cap x : Nat) (xs : List Nat) (w : World) (h : Sl .i64 w a n cap xs) (hx : Dig xs x) (hn : n ≤ 4294967296) :
  Calls Tryd.prog 68 #[.slice a n cap] w (NumRes w x) := by
 have HL := hid h.len
 have gx := hx.2.1
 obtain ⟨b, off, ha, hc⟩ := h.opened
 by_cases h8 : 8 < n
 ·have fin := num_big (w := w) hx (by rw [HL.out]; exact h8)
  have FIN := hid fin; clear fin
  go_enter Tryd.func68, Tryd.ntmps68
  go_wp2
  go_ret2
  exact FIN.out
 ·have fin := fun (z : Int) (hz : z = (val xs : Int)) => num_small (w := w) hx (by rw [HL.out]; omega) hz
  have stp := fun j hj => num_step gx HL.out (by omega) (j := j) hj
  have FIN := hid fin; clear fin
  clear h gx hx
  go_enter Tryd.func68, Tryd.ntmps68
  go_wp2
  go_loop [4, 5] (fun x0 i0 => ∃ (k v : Nat), k ≤ n ∧ i0 = .int .i64 ((k : Int) - 1) ∧ x0 = .int .u64 v ∧ Hid (v = val (xs.drop k))) (fun _ i0 => (intOf i0 + 1).toNat)
  case atStart => exact ⟨n, 0, by omega, rfl, rfl, hid (by rw [List.drop_of_length_le (by rw [HL.out]; omega)]; rfl)⟩
  case round =>
   obtain ⟨k, v, hk, rfl, rfl, hv⟩ := hrel
   by_cases h0 : 0 < k
   ·obtain ⟨j, rfl⟩ : ∃ j, k = j + 1 := ⟨k - 1, by omega⟩
    obtain rfl := ha (by omega)
    have hcx := hc j (by omega)
    obtain ⟨e1, e2, e3⟩ := stp j (by omega)
    rw [← hv.out] at e1 e2 e3
    generalize hd : xs.getD j 0 = d at *
    have E1 := hid e1
    clear e1 hd hc stp
    have ej : (((j + 1 : Nat) : Int) - 1) = (j : Int) := by omega
    rw [ej]
    clear ej
    go_wp2
    go_round
    case rel => exact ⟨j, d + 256 * v, by omega, rfl, by go_num, hid E1.out.symm⟩
    case measure => simp [intOf]
   ·obtain rfl : k = 0 := by omega
    go_wp2
    go_ret2
    exact FIN.out _ (by rw [hv.out]; rfl)
theorem Dig.len8 {xs : List Nat} {x : Nat} (h : Dig xs x) (hx : x < 18446744073709551616) : xs.length ≤ 8 := h.len_le (by omega)
end Go.Proofs.YtnbmpgballopeaaDoor
/- The walks of the statements SumsCovers, SumsMuls. -/
namespace Go.Proofs.YtnbmpgballopeaaDoor
open Go.RowKit
end Go.Proofs.YtnbmpgballopeaaDoor
/- The walks of the statements SumsTotals, SumsOrder, SumsAdds. -/
namespace Go.Proofs.YtnbmpgballopeaaDoor
open Go.RowKit
theorem sum_le_len {xs : List Nat} {M : Nat} (h : ∀ d ∈ xs, d < M) : xs.sum ≤ xs.length * M := by
 induction xs with
 | nil => simp
 | cons d r ih =>
  have h1 := h d (by simp)
  have h2 := ih (fun e he => h e (by simp [he]))
  simp only [List.sum_cons, List.length_cons, Nat.add_mul, Nat.one_mul]
  omega
def TotB (w : World) (xs : List Nat) (e : Ending) (w' : World) : Prop := e = .returned (totV xs) ∧ Below w.heap.size w w'
theorem tot_bd {xs : List Nat} {n k : Nat} (hb : ∀ d ∈ xs, d < 18446744073709551616) (hl : xs.length = n) (hn : n ≤ 1048576) : (xs.take k).sum ≤ 19342813113834066795298816 := by
 have h1 := sum_take_le xs k
 have h2 := sum_le_len hb
 omega
theorem Dig.len11 {xs : List Nat} {x : Nat} (h : Dig xs x) (hx : x ≤ 19342813113834066795298816) : xs.length ≤ 11 := h.len_le (by omega)
set_option maxHeartbeats 1000000 in
theorem rtotal_walk (a : Option Addr) (n cap : Nat) (xs : List Nat) (hb : ∀ d ∈ xs, d < 18446744073709551616) (hn : n ≤ 1048576) (w : World) (h : Sl .u64 w a n cap xs) :
  Calls Tryd.prog 53 #[.slice a n cap] w (TotB w xs) := by
 have HL := hid h.len
 have TB := fun k => hid (tot_bd (k := k) hb HL.out hn)
 have S0 : SlV .i64 (w.alloc (.cells #[] 3)) (.slice (some ⟨w.heap.size, 0, none⟩) 0 0) [] := (Sl.nilS _ _ (by omega) (fun e => by cases e)).toV
 go_enter Tryd.func53, Tryd.ntmps53
 go_wp2
 go_loopw [4, 12] (fun v i0 wr => ∃ (k : Nat) (ys : List Nat), k ≤ n ∧ i0 = .int .i64 k ∧ Dig ys (xs.take k).sum ∧ SlV .i64 wr v ys ∧ Below w.heap.size w wr) (fun _ i0 _ => n - (intOf i0).toNat)
 case atStart => exact ⟨0, [], by omega, rfl, Dig.nil, S0, (Below.refl _ _).alloc (by simp) _⟩
 case round =>
  obtain ⟨k, ys, hk, rfl, D, ⟨a1, c1, rfl, s1⟩, hbw⟩ := hrel
  have tb := (TB k).out
  have l1 := D.len11 tb
  by_cases hlt : k < n
  ·have hst := hid (sum_take_succ (xs := xs) (k := k) (by rw [HL.out]; exact hlt))
   obtain ⟨b, off, ha, hc⟩ := (h.below hbw).opened
   have hcx := hc k hlt
   obtain rfl := ha (by omega)
   have hd := getD_mem_lt hb (by omega) k
   generalize hdd : xs.getD k 0 = d at *
   clear hdd hc
   have HB := hid h
   clear h
   go_wp2_with fail
   refine (of_walk d hd _).mono ?_
   rintro e w2 ⟨v2, x2, rfl, d2, ⟨a2, c2, rfl, s2⟩, b2⟩
   have l2 := d2.len8 hd
   go_wp2_with fail
   refine (add_walk a1 a2 _ _ _ _ _ _ ys x2 (by omega) (by omega) _ (s1.below b2) D s2 d2).mono ?_
   rintro e w3 ⟨v3, x3, rfl, d3, s3, b3⟩
   rw [← hst.out] at d3
   go_wp2
   go_roundw
   case rel => exact ⟨k + 1, x3, by omega, by go_num, d3, s3, bstep (bstep hbw b2) b3⟩
   case measure => simp [intOf]; omega
  ·obtain rfl : n = k := by omega
   have hs2 := hid (show (xs.take n).sum = xs.sum by rw [List.take_of_length_le (by rw [HL.out]; omega)])
   rw [hs2.out] at D
   by_cases hf : xs.sum < 18446744073709551616
   ·have fin := hid (totV_yes hf)
    go_wp2_with fail
    refine (num_walk a1 _ _ xs.sum ys _ s1 D (by omega)).mono ?_
    rintro e w4 ⟨rfl, rfl⟩
    rw [if_pos hf, decide_eq_true hf]
    generalize xs.sum = sm at *
    go_wp2
    go_ret2
    exact ⟨by rw [fin.out]; rfl, hbw⟩
   ·have fin := hid (totV_no hf)
    go_wp2_with fail
    refine (num_walk a1 _ _ xs.sum ys _ s1 D (by omega)).mono ?_
    rintro e w4 ⟨rfl, rfl⟩
    rw [if_neg hf, decide_eq_false hf]
    go_wp2
    go_ret2
    exact ⟨by rw [fin.out]; rfl, hbw⟩
end Go.Proofs.YtnbmpgballopeaaDoor

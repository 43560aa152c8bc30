/- The chain, plain: paths, outputs, inputs, transactions; when one is none. -/
import Derived.Test.YtdopbhahcpjjgaaDoorBsum
import Derived.Test.YtdopbhahcpjjgaaDoorVar
namespace Go.Proofs.YtdopbhahcpjjgaaDoor
open Go.RowKit

/-- a hash's bytes -/
def H32b (x : List Nat) : Prop := x.length = 32 ∧ ∀ d ∈ x, d < 256
def i64ok (n : Int) : Prop := -9223372036854775808 ≤ n ∧ n ≤ 9223372036854775807
structure PathD where
  own : List Nat
  also : List Nat
  lock : List Nat
  wait : Int
  till : Int
def PathD.cells (p : PathD) : List Value := nums .u8 p.own ++ (nums .u8 p.also ++ (nums .u8 p.lock ++ [.int .i64 p.wait, .int .i64 p.till]))
structure PathD.ok (p : PathD) : Prop where
  own : H32b p.own
  also : H32b p.also
  lock : H32b p.lock
  wait : i64ok p.wait
  till : i64ok p.till
theorem PathD.len {p : PathD} (h : p.ok) : p.cells.length = 98 := by simp [PathD.cells, h.own.1, h.also.1, h.lock.1]
def PathD.bad (p : PathD) : Bool := decide (p.wait < 0 ∨ 1073741824 < p.wait ∨ p.till < 0 ∨ 1073741824 < p.till)
structure OutD where
  coins : Nat
  pa : Option Addr
  pc : Nat
  paths : List PathD
  anchor : List Nat
def OutD.cells (o : OutD) : List Value := .int .u64 (o.coins : Int) :: .slice o.pa o.paths.length o.pc :: nums .u8 o.anchor
structure OutD.good (w : World) (o : OutD) : Prop where
  coins : o.coins < 18446744073709551616
  anchor : H32b o.anchor
  paths : Rd w 98 o.pa o.paths.length o.pc (o.paths.flatMap PathD.cells)
  ok : ∀ p ∈ o.paths, p.ok
theorem OutD.len {w : World} {o : OutD} (h : o.good w) : o.cells.length = 34 := by simp [OutD.cells, h.anchor.1]
theorem OutD.good.below {w w' : World} {o : OutD} (h : o.good w) (b : Below w.heap.size w w') : o.good w' := ⟨h.coins, h.anchor, h.paths.below b, h.ok⟩
def OutD.code (o : OutD) : Nat := if o.paths.length = 0 ∨ 4 < o.paths.length then 1 else if o.paths.any PathD.bad then 1 else 0
structure InD where
  tx : List Nat
  out : Int
  path : Int
  token : List Nat
  more : List Nat
  secret : List Nat
def InD.cells (i : InD) : List Value := nums .u8 i.tx ++ (.int .i64 i.out :: .int .i64 i.path :: (nums .u8 i.token ++ (nums .u8 i.more ++ nums .u8 i.secret)))
structure InD.ok (i : InD) : Prop where
  tx : H32b i.tx
  out : i64ok i.out
  path : i64ok i.path
  token : H32b i.token
  more : H32b i.more
  secret : H32b i.secret
theorem InD.len {i : InD} (h : i.ok) : i.cells.length = 130 := by simp [InD.cells, h.tx.1, h.token.1, h.more.1, h.secret.1]
def InD.bad (i : InD) : Bool := decide (i.out < 0 ∨ 256 ≤ i.out ∨ i.path < 0 ∨ 4 ≤ i.path)
def InD.meets (i j : InD) : Bool := decide (j.tx = i.tx ∧ j.out = i.out)
structure TxD where
  ia : Option Addr
  ic : Nat
  ins : List InD
  oa : Option Addr
  oc : Nat
  outs : List OutD
def TxD.cells (t : TxD) : List Value := [.slice t.ia t.ins.length t.ic, .slice t.oa t.outs.length t.oc]
structure TxD.good (w : World) (t : TxD) : Prop where
  ins : Rd w 130 t.ia t.ins.length t.ic (t.ins.flatMap InD.cells)
  iok : ∀ i ∈ t.ins, i.ok
  outs : Rd w 34 t.oa t.outs.length t.oc (t.outs.flatMap OutD.cells)
  ook : ∀ o ∈ t.outs, o.good w
theorem TxD.good.below {w w' : World} {t : TxD} (h : t.good w) (b : Below w.heap.size w w') : t.good w' := ⟨h.ins.below b, h.iok, h.outs.below b, fun o ho => (h.ook o ho).below b⟩
theorem flatB_at {α : Type} {f : α → List Value} {size : Nat} : ∀ {xs : List α}, (∀ x ∈ xs, (f x).length = size) → ∀ {i : Nat} {x : α}, xs[i]? = some x → ∀ {k : Nat}, k < size → (xs.flatMap f)[i * size + k]? = (f x)[k]?
  | [], _, i, x, h, _, _ => by simp at h
  | y :: r, hs, 0, x, h, k, hk => by
    simp only [List.getElem?_cons_zero, Option.some.injEq] at h
    subst h
    rw [List.flatMap_cons, Nat.zero_mul, Nat.zero_add, List.getElem?_append_left (by rw [hs _ (by simp)]; exact hk)]
  | y :: r, hs, i + 1, x, h, k, hk => by
    simp only [List.getElem?_cons_succ] at h
    rw [List.flatMap_cons, List.getElem?_append_right (by rw [hs _ (by simp), Nat.succ_mul]; omega), hs y (by simp)]
    have e : (i + 1) * size + k - size = i * size + k := by rw [Nat.succ_mul]; omega
    rw [e]
    exact flatB_at (fun z hz => hs z (by simp [hz])) h hk
/-- an element's row -/
theorem rd_row {w : World} {α : Type} {f : α → List Value} {size n cap : Nat} {a : Option Addr} {xs : List α} (hs : ∀ x ∈ xs, (f x).length = size) (h : Rd w size a n cap (xs.flatMap f)) {i : Nat} {x : α} (hx : xs[i]? = some x) (hi : i < n) : ∃ b off, a = some ⟨b, off, none⟩ ∧ w.rangeAt b (off + i * size) (f x) := by
  obtain ⟨_, _, _, _, b, off, ha, hc⟩ := h
  refine ⟨b, off, ha (by omega), fun k v hv => ?_⟩
  have hk : k < size := by rw [← hs x (List.mem_of_getElem? hx)]; exact (List.getElem?_eq_some_iff.1 hv).1
  rw [Nat.add_assoc]
  exact hc _ _ (by rw [flatB_at hs hx hk]; exact hv)
/-- the inputs' fault: those ahead, those that are left -/
def insC : List InD → List InD → Nat
  | _, [] => 0
  | pre, i :: r => if i.bad then 1 else if pre.any i.meets then 6 else insC (pre ++ [i]) r
def outsC : List OutD → Nat
  | [] => 0
  | o :: r => if o.code = 0 then outsC r else o.code
def TxD.code (t : TxD) : Nat :=
  if 256 < t.ins.length ∨ 256 < t.outs.length then 4 else if t.ins.length = 0 ∨ t.outs.length = 0 then 1 else
  if insC [] t.ins ≠ 0 then insC [] t.ins else if outsC t.outs ≠ 0 then outsC t.outs else
  if (t.outs.map OutD.coins).sum < 18446744073709551616 then 0 else 10
/-- the first input shown otherwise -/
def InD.other (i : InD) (h : List Nat) (p : Int) : InD := ⟨i.tx, i.out, p, h, h, h⟩
theorem insC_other (i : InD) (h : List Nat) (p : Int) (hp : 0 ≤ p ∧ p < 4) : ∀ (r pre : List InD), insC (i :: pre) r = insC (i.other h p :: pre) r
  | [], _ => rfl
  | j :: r, pre => by
    unfold insC
    have e : (i :: pre).any j.meets = (i.other h p :: pre).any j.meets := by simp [InD.meets, InD.other]
    rw [e]
    split
    · rfl
    · split
      · rfl
      · exact insC_other i h p hp r (pre ++ [j])
theorem code_other {t : TxD} {i : InD} {r : List InD} {h : List Nat} {p : Int} (hp : 0 ≤ p ∧ p < 4) (ht : t.ins = i :: r) (h0 : t.code = 0) (a : Option Addr) (c : Nat) : (TxD.mk a c (i.other h p :: r) t.oa t.oc t.outs).code = 0 := by
  unfold TxD.code at h0 ⊢
  rw [ht] at h0
  have hb : i.bad = false := by
    cases hb : i.bad with
    | false => rfl
    | true =>
      exfalso
      have e : insC [] (i :: r) = 1 := by simp [insC, hb]
      rw [e] at h0
      split at h0
      · omega
      · split at h0
        · omega
        · simp at h0
  have hb2 : (i.other h p).bad = false := by
    simp only [InD.bad, decide_eq_false_iff_not] at hb ⊢
    simp only [InD.other]
    omega
  have e : insC [] (i :: r) = insC [] (i.other h p :: r) := by
    simp only [insC, hb, hb2, List.any_nil, Bool.false_eq_true, if_false, List.nil_append]
    exact insC_other i h p hp r []
  dsimp only
  rw [List.length_cons, ← e]
  rw [List.length_cons] at h0
  exact h0
end Go.Proofs.YtdopbhahcpjjgaaDoor

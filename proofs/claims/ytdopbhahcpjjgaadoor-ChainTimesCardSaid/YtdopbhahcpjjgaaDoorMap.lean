/- Maps keyed by whatever can be compared, their elements whatever: what a block holds, told by a function of the keys. -/
import Derived.Test.YtdopbhahcpjjgaaDoorBkm
import Derived.Maps.OwnSet
namespace Go.Proofs.YtdopbhahcpjjgaaDoor
open Go.RowKit Go.Maps

/-- an element is carried as it stands -/
def tokR : Value → Option (DataW Value × List MemPlace) := fun v => some (.held v, [])
/-- keys of type k, as x's -/
structure KeyE (k : TypeId) (α : Type) where
  enc : α → Value
  ok : α → Prop
  kv : ∀ x, ok x → KV k (enc x)
  inj : ∀ x y, ok x → ok y → enc x = enc y → x = y
  law : Keyed Tryd.prog k
  kinj : ∀ {a b : Value} {l : Lit}, keyOf Tryd.prog k a = some l → keyOf Tryd.prog k b = some l → a = b
/-- block b is a map of n entries that holds M -/
def MapIs {k : TypeId} {α : Type} (E : KeyE k α) (w : World) (b : Nat) (M : α → Option Value) (n : Nat) : Prop :=
  ∃ D, w.ownsMap Tryd.prog k tokR b n D ∧ size D = n ∧ (∀ x l, E.ok x → keyOf Tryd.prog k (E.enc x) = some l → has D l = (M x).isSome ∧ ∀ v, M x = some v → ∀ z, D.atKey l z = .held v) ∧ ∀ l, has D l = true → ∃ x, E.ok x ∧ keyOf Tryd.prog k (E.enc x) = some l
section
variable {k : TypeId} {α : Type} {E : KeyE k α} {w : World} {b n : Nat} {M : α → Option Value}
theorem MapIs.made (w : World) : MapIs E (w.alloc (.map #[] 0)) w.heap.size (fun _ => none) 0 :=
  ⟨.map [], World.ownsMap_made w _ _ _, rfl, fun x l _ _ => ⟨rfl, fun v hv => by cases hv⟩, fun l hl => by cases hl⟩
theorem MapIs.lt (h : MapIs E w b M n) : b < w.heap.size := by obtain ⟨D, h1, _⟩ := h; exact h1.lt
theorem MapIs.kept {w' : World} {row : Option Nat} (h : MapIs E w b M n) (hg : w.grownBy w' row) (hne : some b ≠ row) : MapIs E w' b M n := by
  obtain ⟨D, h1, h2, h3, h4⟩ := h
  exact ⟨D, h1.kept hg hne, h2, h3, h4⟩
theorem MapIs.far {w' : World} {H : Nat} (h : MapIs E w b M n) (hf : Far H w w') (hne : b ≠ H) : MapIs E w' b M n := h.kept hf (by simpa using hne)
theorem MapIs.below {w' : World} (h : MapIs E w b M n) (hb : Below w.heap.size w w') : MapIs E w' b M n :=
  h.kept (row := none) ⟨hb.os, hb.tape, hb.output, hb.size, fun i hi _ => hb.block i hi⟩ (by simp)
theorem MapIs.congr {M' : α → Option Value} {n' : Nat} (h : MapIs E w b M n) (hM : ∀ x, E.ok x → M x = M' x) (hn : n = n') : MapIs E w b M' n' := by
  subst hn
  obtain ⟨D, h1, h2, h3, h4⟩ := h
  exact ⟨D, h1, h2, fun x l hx hl => by rw [← hM x hx]; exact h3 x l hx hl, h4⟩
theorem MapIs.get (h : MapIs E w b M n) {t e : TypeId} (ht : Tryd.prog.underlying t = some (.map k e)) {z : Value} (hz : (zeroValue e).run Tryd.prog w = .ok z w) (x : α) (hx : E.ok x) (c : Bool) :
    (Instr.lookup t (.map (some b)) (E.enc x) c).run Tryd.prog w = .ok (if c then .tuple #[(M x).getD z, .bool (M x).isSome] else (M x).getD z) w := by
  obtain ⟨D, h1, _, h3, _⟩ := h
  obtain ⟨l, hl⟩ := E.kv x hx
  obtain ⟨g1, g2⟩ := h3 x l hx hl
  cases c with
  | true =>
    obtain ⟨v, ps, hrun, hv⟩ := h1.look_ok E.law ht hz (zd := .held z) (zp := []) rfl hl
    rw [hrun, g1]
    have hv' : DataW.held v = D.atKey l (.held z) := by
      simp only [tokR, Option.some.injEq, Prod.mk.injEq] at hv
      exact hv.1
    cases hM : M x with
    | none =>
      rw [hM] at g1
      rw [atKey_of_not_has g1] at hv'
      simp only [DataW.held.injEq] at hv'
      simp [hv']
    | some u =>
      rw [g2 u hM] at hv'
      simp only [DataW.held.injEq] at hv'
      simp [hv']
  | false =>
    obtain ⟨v, ps, hrun, hv⟩ := h1.lookup E.law ht hz (zd := .held z) (zp := []) rfl hl
    rw [hrun]
    have hv' : DataW.held v = D.atKey l (.held z) := by
      simp only [tokR, Option.some.injEq, Prod.mk.injEq] at hv
      exact hv.1
    cases hM : M x with
    | none =>
      rw [hM] at g1
      rw [atKey_of_not_has g1] at hv'
      simp only [DataW.held.injEq] at hv'
      simp [hv']
    | some u =>
      rw [g2 u hM] at hv'
      simp only [DataW.held.injEq] at hv'
      simp [hv']
theorem MapIs.put (h : MapIs E w b M n) {t e : TypeId} (ht : Tryd.prog.underlying t = some (.map k e)) (hn : n < maxLen) (x : α) (hx : E.ok x) (v : Value) [DecidableEq α] :
    ∃ w', (Instr.mapUpdate t (.map (some b)) (E.enc x) v).run Tryd.prog w = .ok () w' ∧ MapIs E w' b (fun y => if y = x then some v else M y) (if (M x).isSome then n else n + 1) ∧ Far b w w' := by
  obtain ⟨D, h1, h2, h3, h4⟩ := h
  obtain ⟨l, hl⟩ := E.kv x hx
  have hk := E.law.one.key ⟨_, hl⟩
  obtain ⟨w', hrun, g1, g2⟩ := h1.update E.law ht hn hl (d := .held v) (ps := []) rfl
  obtain ⟨q1, _⟩ := h3 x l hx hl
  have hsz : size (D.put l (.held v)) = if (M x).isSome then n else n + 1 := by
    rw [size_put (h1.tidy E.law), h2, q1]
  refine ⟨w', hrun, ⟨D.put l (.held v), ?_, hsz, fun y ly hy hly => ?_, fun l' hl' => ?_⟩, g2⟩
  · obtain ⟨es, clock, a1, a2, _, a4⟩ := g1
    refine ⟨es, clock, a1, a2, ?_, a4⟩
    rw [← hsz, a4, size_eq, length_sorted]; simp
  · by_cases hyx : y = x
    · subst hyx
      rw [hl] at hly
      cases hly
      dsimp only
      rw [if_pos rfl]
      exact ⟨has_put_same h1.isMap hk _, fun u hu z => by cases hu; exact atKey_put_same h1.isMap hk _ z⟩
    · dsimp only
      rw [if_neg hyx]
      have hne : ly ≠ l := fun e => hyx (E.inj _ _ hy hx (E.kinj (by rw [e] at hly; exact hly) hl))
      obtain ⟨r1, r2⟩ := h3 y ly hy hly
      exact ⟨by rw [has_put_other hne]; exact r1, fun u hu z => by rw [atKey_put_other hne]; exact r2 u hu z⟩
  · by_cases hll : l' = l
    · subst hll; exact ⟨x, hx, hl⟩
    · rw [has_put_other hll] at hl'; exact h4 l' hl'
theorem MapIs.del (h : MapIs E w b M n) {t e : TypeId} (ht : Tryd.prog.underlying t = some (.map k e)) (x : α) (hx : E.ok x) (ty : TypeId) [DecidableEq α] :
    ∃ w', (Builtin.delete_ #[t, k] ty #[.map (some b), E.enc x]).run Tryd.prog w = .ok (.tuple #[]) w' ∧ MapIs E w' b (fun y => if y = x then none else M y) (if (M x).isSome then n - 1 else n) ∧ Far b w w' := by
  obtain ⟨D, h1, h2, h3, h4⟩ := h
  obtain ⟨l, hl⟩ := E.kv x hx
  obtain ⟨w', hrun, g1, g2⟩ := h1.drop E.law ht hl ty
  obtain ⟨q1, _⟩ := h3 x l hx hl
  have hsz : size (D.del l) = if (M x).isSome then n - 1 else n := by
    have := size_del (k := l) (h1.tidy E.law)
    rw [h2, q1] at this
    split
    · rename_i hh; rw [if_pos hh] at this; omega
    · rename_i hh; rw [if_neg hh] at this; omega
  refine ⟨w', hrun, ⟨D.del l, ?_, hsz, fun y ly hy hly => ?_, fun l' hl' => ?_⟩, g2.grown⟩
  · obtain ⟨es, clock, a1, a2, _, a4⟩ := g1
    refine ⟨es, clock, a1, a2, ?_, a4⟩
    rw [← hsz, a4, size_eq, length_sorted]; simp
  · by_cases hyx : y = x
    · subst hyx
      rw [hl] at hly
      cases hly
      dsimp only
      rw [if_pos rfl]
      exact ⟨has_del_same, fun u hu z => by cases hu⟩
    · dsimp only
      rw [if_neg hyx]
      have hne : ly ≠ l := fun e => hyx (E.inj _ _ hy hx (E.kinj (by rw [e] at hly; exact hly) hl))
      obtain ⟨r1, r2⟩ := h3 y ly hy hly
      exact ⟨by rw [has_del_other hne]; exact r1, fun u hu z => by rw [atKey_del_other hne]; exact r2 u hu z⟩
  · by_cases hll : l' = l
    · subst hll; rw [has_del_same] at hl'; cases hl'
    · rw [has_del_other hll] at hl'; exact h4 l' hl'
theorem MapIs.len (h : MapIs E w b M n) {t e : TypeId} (ht : Tryd.prog.underlying t = some (.map k e)) (ty : TypeId) : (Builtin.len_ #[t] ty #[.map (some b)]).run Tryd.prog w = .ok (.int .i64 (n : Int)) w := by
  obtain ⟨D, h1, h2, _⟩ := h
  rw [h1.len ht ty, h2]
end
section
variable {k : TypeId} {α : Type} {E : KeyE k α} {w : World} {b n : Nat} {M : α → Option Value} {ops : Array Oper} {rest : List Oper} {o : Oper} {a : Act} {Q : Exit → Act → World → Prop}
theorem wpList_put (hg : o.guard = none) (m x v : Operand) (t : TypeId) (hop : o.op = Op.mapUpdate t m x v) {e : TypeId} (ht : Tryd.prog.underlying t = some (.map k e)) (h : MapIs E w b M n) (hn : n < maxLen)
    (hm : a.eval m = .map (some b)) (y : α) (hy : E.ok y) (hx : a.eval x = E.enc y) {val : Value} (hv : a.eval v = val) [DecidableEq α]
    (hK : ∀ w', MapIs E w' b (fun z => if z = y then some val else M z) (if (M y).isSome then n else n + 1) → Far b w w' → wpList Tryd.prog ops Q rest (a.put o.dst undef) w') : wpList Tryd.prog ops Q (o :: rest) a w := by
  refine wpList_plain hg fun K' hK' => ?_
  obtain ⟨w', hrun, r1, r2⟩ := h.put ht hn y hy val
  unfold Oper.wp
  simp [execOp, hop, hm, hx, hv, hrun, Result.andThen]
  exact hK' _ _ (hK w' r1 r2)
theorem wp_put {K : Act → World → Prop} (m x v : Operand) (t : TypeId) (hop : o.op = Op.mapUpdate t m x v) {e : TypeId} (ht : Tryd.prog.underlying t = some (.map k e)) (h : MapIs E w b M n) (hn : n < maxLen)
    (hm : a.eval m = .map (some b)) (y : α) (hy : E.ok y) (hx : a.eval x = E.enc y) {val : Value} (hv : a.eval v = val) [DecidableEq α]
    (hK : ∀ w', MapIs E w' b (fun z => if z = y then some val else M z) (if (M y).isSome then n else n + 1) → Far b w w' → K (a.put o.dst undef) w') : o.wp Tryd.prog a w K Q := by
  obtain ⟨w', hrun, r1, r2⟩ := h.put ht hn y hy val
  unfold Oper.wp
  simp [execOp, hop, hm, hx, hv, hrun, Result.andThen]
  exact hK w' r1 r2
theorem wpList_del (hg : o.guard = none) (m x : Operand) (t : TypeId) (hop : o.op = Op.call { callee := Callee.builtin Builtin.delete, args := #[m, x], argTypes := #[t, k] }) {e : TypeId} (ht : Tryd.prog.underlying t = some (.map k e)) (h : MapIs E w b M n)
    (hm : a.eval m = .map (some b)) (y : α) (hy : E.ok y) (hx : a.eval x = E.enc y) [DecidableEq α]
    (hK : ∀ w', MapIs E w' b (fun z => if z = y then none else M z) (if (M y).isSome then n - 1 else n) → Far b w w' → wpList Tryd.prog ops Q rest (a.put o.dst (.tuple #[])) w') : wpList Tryd.prog ops Q (o :: rest) a w := by
  refine wpList_plain hg fun K' hK' => ?_
  obtain ⟨w', hrun, r1, r2⟩ := h.del ht y hy o.type
  unfold Oper.wp
  simp [execOp, hop, resolve, invoke, builtin, hm, hx, hrun, Result.andThen]
  exact hK' _ _ (hK w' r1 r2)
theorem run_look {ev : Operand → Value} (m x : Operand) (t : TypeId) (c : Bool) (hop : o.op = Op.lookup t m x c) {e : TypeId} (ht : Tryd.prog.underlying t = some (.map k e)) {z : Value} (hz : (zeroValue e).run Tryd.prog w = .ok z w) (h : MapIs E w b M n)
    (hm : ev m = .map (some b)) (y : α) (hy : E.ok y) (hx : ev x = E.enc y) : (execOp ev o).run Tryd.prog w = .ok (.value (if c then .tuple #[(M y).getD z, .bool (M y).isSome] else (M y).getD z)) w := by
  have hrun := h.get ht hz y hy c
  simp [execOp, hop, hm, hx, hrun, Result.andThen]
theorem wpList_look (hg : o.guard = none) (m x : Operand) (t : TypeId) (c : Bool) (hop : o.op = Op.lookup t m x c) {e : TypeId} (ht : Tryd.prog.underlying t = some (.map k e)) {z : Value} (hz : (zeroValue e).run Tryd.prog w = .ok z w) (h : MapIs E w b M n)
    (hm : a.eval m = .map (some b)) (y : α) (hy : E.ok y) (hx : a.eval x = E.enc y)
    (hK : wpList Tryd.prog ops Q rest (a.put o.dst (if c then .tuple #[(M y).getD z, .bool (M y).isSome] else (M y).getD z)) w) : wpList Tryd.prog ops Q (o :: rest) a w := by
  refine wpList_plain hg fun K' hK' => ?_
  unfold Oper.wp
  rw [run_look m x t c hop ht hz h hm y hy hx, Oper.upon_value]
  exact hK' _ _ hK
theorem wpList_lenM (hg : o.guard = none) (m : Operand) (t : TypeId) (hop : o.op = Op.call { callee := Callee.builtin Builtin.len, args := #[m], argTypes := #[t] }) {e : TypeId} (ht : Tryd.prog.underlying t = some (.map k e)) (h : MapIs E w b M n)
    (hm : a.eval m = .map (some b)) (hK : wpList Tryd.prog ops Q rest (a.put o.dst (.int .i64 (n : Int))) w) : wpList Tryd.prog ops Q (o :: rest) a w := by
  refine wpList_plain hg fun K' hK' => ?_
  unfold Oper.wp
  simp [execOp, hop, resolve, invoke, builtin, hm, h.len ht o.type, Result.andThen]
  exact hK' _ _ hK
end
theorem nums_inj {k : IntKind} : ∀ {xs ys : List Nat}, nums k xs = nums k ys → xs = ys
  | [], [], _ => rfl
  | [], _ :: _, h => by simp [nums] at h
  | _ :: _, [], h => by simp [nums] at h
  | x :: xs, y :: ys, h => by
    have h1 : Value.int k (x : Int) = .int k (y : Int) ∧ nums k xs = nums k ys := by simpa [nums] using h
    have h2 := nums_inj h1.2
    have h3 := h1.1
    simp only [Value.int.injEq, true_and] at h3
    rw [h2, show x = y by omega]
/-- keys that are digests -/
def EH : KeyE 27 (List Nat) where
  enc := hv
  ok := fun xs => xs.length = 32 ∧ ∀ d ∈ xs, d < 256
  kv := fun _ h => kv_hash h.1 h.2
  inj := fun x y _ _ e => by
    unfold hv at e
    have h := congrArg Array.toList (Value.agg.inj e)
    exact nums_inj h
  law := keyHash.law
  kinj := keyHash.inj
end Go.Proofs.YtdopbhahcpjjgaaDoor

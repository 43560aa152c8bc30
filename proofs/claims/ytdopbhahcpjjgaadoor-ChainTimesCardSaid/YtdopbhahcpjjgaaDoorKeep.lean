/- All but some blocks is as it was. -/
import Derived.Test.YtdopbhahcpjjgaaDoorVar
import Derived.Test.YtdopbhahcpjjgaaDoorMap
import Derived.Maps.AppendAt
namespace Go.Proofs.YtdopbhahcpjjgaaDoor
open Go.RowKit

structure Keep (S : Nat → Prop) (w w' : World) : Prop where
  os : w'.os = w.os
  tape : w'.tape = w.tape
  output : w'.output = w.output
  size : w.heap.size ≤ w'.heap.size
  block : ∀ i, i < w.heap.size → ¬ S i → w'.heap[i]? = w.heap[i]?
section
variable {S R : Nat → Prop} {u v w w' : World}
theorem Keep.refl (S : Nat → Prop) (w : World) : Keep S w w := ⟨rfl, rfl, rfl, Nat.le_refl _, fun _ _ _ => rfl⟩
theorem Keep.trans (h : Keep S u v) (k : Keep S v w) : Keep S u w := ⟨k.os.trans h.os, k.tape.trans h.tape, k.output.trans h.output, Nat.le_trans h.size k.size, fun i hi hn => (k.block i (Nat.lt_of_lt_of_le hi h.size) hn).trans (h.block i hi hn)⟩
theorem Keep.mono (h : Keep S u v) (hs : ∀ i, S i → R i) : Keep R u v := ⟨h.os, h.tape, h.output, h.size, fun i hi hn => h.block i hi (fun hh => hn (hs i hh))⟩
/-- what is new besides is nothing to what was -/
theorem Keep.then (h : Keep S u v) (k : Keep R v w) (hs : ∀ i, i < u.heap.size → R i → S i) : Keep S u w := ⟨k.os.trans h.os, k.tape.trans h.tape, k.output.trans h.output, Nat.le_trans h.size k.size, fun i hi hn => (k.block i (Nat.lt_of_lt_of_le hi h.size) (fun hh => hn (hs i hi hh))).trans (h.block i hi hn)⟩
theorem Keep.of (h : Below w.heap.size w w') : Keep S w w' := ⟨h.os, h.tape, h.output, h.size, fun i hi _ => h.block i hi⟩
theorem Keep.far {H : Nat} (h : Far H w w') (hs : S H) : Keep S w w' := ⟨h.os, h.tape, h.output, h.size, fun i hi hn => h.block i hi (fun e => hn (by cases e; exact hs))⟩
theorem Keep.far' {H : Nat} (h : Far H w w') : Keep (fun i => i = H) w w' := Keep.far h rfl
theorem Keep.grown {row : Option Nat} (h : w.grownBy w' row) (hs : ∀ i, row = some i → S i) : Keep S w w' := ⟨h.os, h.tape, h.output, h.size, fun i hi hn => h.block i hi (fun e => hn (hs i e.symm))⟩
theorem Keep.below {B : Nat} (h : Keep S w w') (hs : ∀ i, S i → B ≤ i) (hB : B ≤ w.heap.size) : Below B w w' := ⟨h.os, h.tape, h.output, h.size, fun i hi => h.block i (by omega) (fun hh => by have := hs i hh; omega)⟩
theorem Keep.heap {g : Nat} {x : Obj} (h : Keep S w w') (hx : w.heap[g]? = some x) (hn : ¬ S g) : w'.heap[g]? = some x := by rw [h.block g (Array.getElem?_eq_some_iff.1 hx).1 hn]; exact hx
theorem Keep.cell {a : Addr} {x : Value} (h : Keep S w w') (hx : w.cell? a = some x) (hn : ¬ S a.block) : w'.cell? a = some x := by
  rw [World.cell?_of_block (h.block _ (World.block_lt_of_cell? w _ hx) hn)]; exact hx
theorem Keep.range {g o : Nat} {L : List Value} (h : Keep S w w') (hr : w.rangeAt g o L) (hn : ¬ S g) : w'.rangeAt g o L := fun j x hj => h.cell (hr j x hj) hn
theorem Keep.own {B : Nat} {e : TypeId} {size : Nat} {x : Value} {n : Nat} {xs : List Value} (h : Keep S w w') (ho : w.ownsRow B e size x n xs) (hn : ∀ g, x.ownBlock = some g → ¬ S g) : w'.ownsRow B e size x n xs := by
  refine ⟨ho.1, ?_⟩
  rcases ho.2 with hv | ⟨g, cap, cur, rfl, hb0, hg, rest⟩
  · exact .inl hv
  · exact .inr ⟨g, cap, cur, rfl, hb0, by rw [h.block g (Array.getElem?_eq_some_iff.1 hg).1 (hn g rfl)]; exact hg, rest⟩
theorem MapIs.keep {k : TypeId} {α : Type} {E : KeyE k α} {b n : Nat} {M : α → Option Value} (h : MapIs E w b M n) (hk : Keep S w w') (hn : ¬ S b) : MapIs E w' b M n := by
  have hl := h.lt
  obtain ⟨D, ⟨es, clock, hb1, rest⟩, k2⟩ := h
  exact ⟨D, ⟨es, clock, (hk.block b hl hn).trans hb1, rest⟩, k2⟩
end
/-- 'append(s, x)': s nil or the call's own; where the row lies then, and what else stays -/
theorem wpList_pushK {P : Program} {ops : Array Oper} {rest : List Oper} {o : Oper} {a : Act} {Q : Exit → Act → World → Prop} {w : World} (hgd : o.guard = none) (s x : Operand) (t : TypeId)
    (ho : o.op = .call { callee := .builtin .append, args := #[s, x], argTypes := #[t, t] })
    {e : TypeId} {size bytes : Nat} {z : Value} (ty : SliceTy P t e size bytes z) (B : Nat) {v : Value} {n : Nat} {xs : List Value} (hown : w.ownsRow B e size v n xs) (hs : a.eval s = v)
    {us : Array Value} {et : TypeId} (hx : a.eval x = .slice (some ⟨w.heap.size, 0, none⟩) 1 1) (hl : us.size = size) (h1 : us.toList.all Value.oneCell' = true) (hn : n < 4294967296) (hby : bytes ≤ 16384) (hB : B ≤ w.heap.size)
    (h : ∀ v' w', w'.ownsRow B e size v' (n + 1) (xs ++ us.toList) → Keep (fun i => v.ownBlock = some i) w w' → (v'.ownBlock = v.ownBlock ∨ v'.ownBlock = some (w.heap.size + 1)) → wpList P ops Q rest (a.put o.dst v') w') : wpList P ops Q (o :: rest) a (w.alloc (.cells us et)) := by
  obtain ⟨i, ht, hi, hz, hsz, hb⟩ := ty.ex
  refine wpList_append_own_at _ hgd s x t ho B e i z size bytes ht hi hz hsz hb ty.zs ty.pos v n xs hs (hown.alloc _) ⟨w.heap.size, 0, none⟩ 1 1 us.toList hx (by simp [hl]) (cells_new w us et) (fun u hu => List.all_eq_true.1 h1 u hu) ?_ ?_ (by simp; omega) ?_
  · unfold maxLen; omega
  · have : (n + 1) * bytes ≤ 4294967296 * 16384 := Nat.mul_le_mul (by omega) hby
    omega
  · intro v' w' h2 h3 _ h5
    refine h v' w' h2 ?_ (by simpa using h5)
    exact (Keep.of (S := fun i => v.ownBlock = some i) ((Below.refl w.heap.size w).alloc (Nat.le_refl _) _)).trans (Keep.grown h3 (fun i hi => hi))
/-- .. in a region that draws its order -/
theorem wp_pushK {P : Program} {o : Oper} {a : Act} {K : Act → World → Prop} {Q : Exit → Act → World → Prop} {w : World} (s x : Operand) (t : TypeId)
    (ho : o.op = .call { callee := .builtin .append, args := #[s, x], argTypes := #[t, t] })
    {e : TypeId} {size bytes : Nat} {z : Value} (ty : SliceTy P t e size bytes z) (B : Nat) {v : Value} {n : Nat} {xs : List Value} (hown : w.ownsRow B e size v n xs) (hs : a.eval s = v)
    {g : Nat} {us : List Value} {et : TypeId} (hx : a.eval x = .slice (some ⟨g, 0, none⟩) 1 1) (hg : w.heap[g]? = some (.cells us.toArray et (0, 0))) (hl : us.length = size) (h1 : ∀ u ∈ us, u.oneCell' = true) (hn : n < 4294967296) (hby : bytes ≤ 16384) (hB : B ≤ w.heap.size)
    (h : ∀ v' w', w'.ownsRow B e size v' (n + 1) (xs ++ us) → Keep (fun i => v.ownBlock = some i) w w' → (v'.ownBlock = v.ownBlock ∨ v'.ownBlock = some w.heap.size) → K (a.put o.dst v') w') : o.wp P a w K Q := by
  obtain ⟨i, ht, hi, hz, hsz, hb⟩ := ty.ex
  have hadd : ∀ q, (⟨g, 0, none⟩ : Addr).add q = ⟨g, q, none⟩ := fun q => by unfold Addr.add; split <;> simp_all
  have hnews : ∀ j y, us[j]? = some y → w.cell? ((⟨g, 0, none⟩ : Addr).add j) = some y := by
    intro j y hj
    rw [hadd, cell_of_row _ g _ _ et (0, 0) hg, List.getElem?_toArray]; exact hj
  have hbytes : (n + 1) * bytes ≤ 140737488355328 := by
    have : (n + 1) * bytes ≤ 4294967296 * 16384 := Nat.mul_le_mul (by omega) hby
    omega
  obtain ⟨v', w', hr, h2, h3, _, h5⟩ := run_append_own_at (P := P) w B t o.type e i z size bytes ht hi hz hsz hb ty.zs ty.pos v n xs hown ⟨g, 0, none⟩ 1 1 us (by simp [hl]) hnews h1 (by unfold maxLen; omega) hbytes hB
  unfold Oper.wp execOp
  simp only [ho, resolve, invoke, builtin, Sem.run_bind, Sem.run_pure, Result.andThen_ok, List.map_toArray, List.map_cons, List.map_nil, hs, hx, hr]
  exact h v' w' h2 (Keep.grown h3 (fun i hi => hi)) h5
theorem wp_lit1 {P : Program} {o : Oper} {a : Act} {w : World} {K : Act → World → Prop} {Q : Exit → Act → World → Prop} (t e : TypeId) (x : Operand) (ho : o.op = .buildSlice t 1 #[(0, x)])
    {cells : Array Value} (hx : a.eval x = .agg cells) (hu : P.underlying t = some (.slice e)) {size : Nat} (hi : (P.info? e).map (·.size) = some size) (hz : ((P.info? e).bind (·.zero)).isSome = true) (hs : cells.size = size) (hp : 0 < size) (hle : size ≤ 16777216)
    (h : K (a.put o.dst (.slice (some ⟨w.heap.size, 0, none⟩) 1 1)) (w.alloc (.cells cells e))) : o.wp P a w K Q := by
  cases hie : P.info? e with
  | none => simp [hie] at hi
  | some ie =>
    simp only [hie, Option.map_some, Option.some.injEq, Option.bind_some] at hi hz
    obtain ⟨z, hzz⟩ := Option.isSome_iff_exists.1 hz
    refine wp_buildSlice t e 1 _ ho cells ie z hu hie hzz (by rw [hi]; omega) (by rw [hi]; omega) ?_ h
    have := Great.fill_whole (s := size) hp [.agg cells] ((Array.range (1 * size)).map (z.cells[· % z.cells.size]!)) (by intro v hv; simp at hv; subst hv; exact hs) (by simp)
    rw [hi]
    simpa [hx, Value.cells] using this
end Go.Proofs.YtdopbhahcpjjgaaDoor

/- All but some blocks is as it was. -/
import Derived.Test.YtnophelfpoldfaaGreatDoorGVar
import Derived.Maps.AppendAt
import Derived.Test.YtnophelfpoldfaaGreatDoorGKey
import Derived.Deep.AppendLies
import Derived.Deep.RegionHeld3
namespace Go.Proofs.YtnophelfpoldfaaGreatDoor
open Go.RowKit

structure Keep (S : Nat → Prop) (w w' : World) : Prop where
  os : w'.os = w.os
  tape : w'.tape = w.tape
  output : w'.output = w.output
  size : w.heap.size ≤ w'.heap.size
  block : ∀ i, i < w.heap.size → ¬ S i → w'.heap[i]? = w.heap[i]?
section
variable {S R : Nat → Prop} {u v w w' : World}
theorem Keep.refl (S : Nat → Prop) (w : World) : Keep S w w := ⟨rfl, rfl, rfl, Nat.le_refl _, fun _ _ _ => rfl⟩
theorem Keep.trans (h : Keep S u v) (k : Keep S v w) : Keep S u w := ⟨k.os.trans h.os, k.tape.trans h.tape, k.output.trans h.output, Nat.le_trans h.size k.size, fun i hi hn => (k.block i (Nat.lt_of_lt_of_le hi h.size) hn).trans (h.block i hi hn)⟩
theorem Keep.mono (h : Keep S u v) (hs : ∀ i, S i → R i) : Keep R u v := ⟨h.os, h.tape, h.output, h.size, fun i hi hn => h.block i hi (fun hh => hn (hs i hh))⟩
/-- what is new besides is nothing to what was -/
theorem Keep.then (h : Keep S u v) (k : Keep R v w) (hs : ∀ i, i < u.heap.size → R i → S i) : Keep S u w := ⟨k.os.trans h.os, k.tape.trans h.tape, k.output.trans h.output, Nat.le_trans h.size k.size, fun i hi hn => (k.block i (Nat.lt_of_lt_of_le hi h.size) (fun hh => hn (hs i hi hh))).trans (h.block i hi hn)⟩
theorem Keep.of (h : Below w.heap.size w w') : Keep S w w' := ⟨h.os, h.tape, h.output, h.size, fun i hi _ => h.block i hi⟩
theorem Keep.far {H : Nat} (h : Far H w w') (hs : S H) : Keep S w w' := ⟨h.os, h.tape, h.output, h.size, fun i hi hn => h.block i hi (fun e => hn (by cases e; exact hs))⟩
theorem Keep.far' {H : Nat} (h : Far H w w') : Keep (fun i => i = H) w w' := Keep.far h rfl
theorem Keep.grown {row : Option Nat} (h : w.grownBy w' row) (hs : ∀ i, row = some i → S i) : Keep S w w' := ⟨h.os, h.tape, h.output, h.size, fun i hi hn => h.block i hi (fun e => hn (hs i e.symm))⟩
theorem Keep.below {B : Nat} (h : Keep S w w') (hs : ∀ i, S i → B ≤ i) (hB : B ≤ w.heap.size) : Below B w w' := ⟨h.os, h.tape, h.output, h.size, fun i hi => h.block i (by omega) (fun hh => by have := hs i hh; omega)⟩
theorem Keep.heap {g : Nat} {x : Obj} (h : Keep S w w') (hx : w.heap[g]? = some x) (hn : ¬ S g) : w'.heap[g]? = some x := by rw [h.block g (Array.getElem?_eq_some_iff.1 hx).1 hn]; exact hx
theorem Keep.cell {a : Addr} {x : Value} (h : Keep S w w') (hx : w.cell? a = some x) (hn : ¬ S a.block) : w'.cell? a = some x := by
  rw [World.cell?_of_block (h.block _ (World.block_lt_of_cell? w _ hx) hn)]; exact hx
theorem Keep.range {g o : Nat} {L : List Value} (h : Keep S w w') (hr : w.rangeAt g o L) (hn : ¬ S g) : w'.rangeAt g o L := fun j x hj => h.cell (hr j x hj) hn
theorem Keep.own {B : Nat} {e : TypeId} {size : Nat} {x : Value} {n : Nat} {xs : List Value} (h : Keep S w w') (ho : w.ownsRow B e size x n xs) (hn : ∀ g, x.ownBlock = some g → ¬ S g) : w'.ownsRow B e size x n xs := by
  refine ⟨ho.1, ?_⟩
  rcases ho.2 with hv | ⟨g, cap, cur, rfl, hb0, hg, rest⟩
  · exact .inl hv
  · exact .inr ⟨g, cap, cur, rfl, hb0, by rw [h.block g (Array.getElem?_eq_some_iff.1 hg).1 (hn g rfl)]; exact hg, rest⟩
theorem MapIs.keep {k : TypeId} {α : Type} {E : KeyE k α} {b n : Nat} {M : α → Option Value} (h : MapIs E w b M n) (hk : Keep S w w') (hn : ¬ S b) : MapIs E w' b M n := by
  have hl := h.lt
  obtain ⟨D, ⟨es, clock, hb1, rest⟩, k2⟩ := h
  exact ⟨D, ⟨es, clock, (hk.block b hl hn).trans hb1, rest⟩, k2⟩
end
/-- 'append(s, x)': s nil or the call's own; where the row lies then, and what else stays -/
theorem wpList_pushK {P : Program} {ops : Array Oper} {rest : List Oper} {o : Oper} {a : Act} {Q : Exit → Act → World → Prop} {w : World} (hgd : o.guard = none) (s x : Operand) (t : TypeId)
    (ho : o.op = .call { callee := .builtin .append, args := #[s, x], argTypes := #[t, t] })
    {e : TypeId} {size bytes : Nat} {z : Value} (ty : SliceTy P t e size bytes z) (B : Nat) {v : Value} {n : Nat} {xs : List Value} (hown : w.ownsRow B e size v n xs) (hs : a.eval s = v)
    {us : Array Value} {et : TypeId} (hx : a.eval x = .slice (some ⟨w.heap.size, 0, none⟩) 1 1) (hl : us.size = size) (h1 : us.toList.all Value.oneCell' = true) (hn : n < 4294967296) (hby : bytes ≤ 16384) (hB : B ≤ w.heap.size)
    (h : ∀ v' w', w'.ownsRow B e size v' (n + 1) (xs ++ us.toList) → Keep (fun i => v.ownBlock = some i) w w' → (v'.ownBlock = v.ownBlock ∨ v'.ownBlock = some (w.heap.size + 1)) → wpList P ops Q rest (a.put o.dst v') w') : wpList P ops Q (o :: rest) a (w.alloc (.cells us et)) := by
  obtain ⟨i, ht, hi, hz, hsz, hb⟩ := ty.ex
  refine wpList_append_own_at _ hgd s x t ho B e i z size bytes ht hi hz hsz hb ty.zs ty.pos v n xs hs (hown.alloc _) ⟨w.heap.size, 0, none⟩ 1 1 us.toList hx (by simp [hl]) (cells_new w us et) (fun u hu => List.all_eq_true.1 h1 u hu) ?_ ?_ (by simp; omega) ?_
  · unfold maxLen; omega
  · have : (n + 1) * bytes ≤ 4294967296 * 16384 := Nat.mul_le_mul (by omega) hby
    omega
  · intro v' w' h2 h3 _ h5
    refine h v' w' h2 ?_ (by simpa using h5)
    exact (Keep.of (S := fun i => v.ownBlock = some i) ((Below.refl w.heap.size w).alloc (Nat.le_refl _) _)).trans (Keep.grown h3 (fun i hi => hi))
/-- .. in a region that draws its order -/
theorem wp_pushK {P : Program} {o : Oper} {a : Act} {K : Act → World → Prop} {Q : Exit → Act → World → Prop} {w : World} (s x : Operand) (t : TypeId)
    (ho : o.op = .call { callee := .builtin .append, args := #[s, x], argTypes := #[t, t] })
    {e : TypeId} {size bytes : Nat} {z : Value} (ty : SliceTy P t e size bytes z) (B : Nat) {v : Value} {n : Nat} {xs : List Value} (hown : w.ownsRow B e size v n xs) (hs : a.eval s = v)
    {g : Nat} {us : List Value} {et : TypeId} (hx : a.eval x = .slice (some ⟨g, 0, none⟩) 1 1) (hg : w.heap[g]? = some (.cells us.toArray et (0, 0))) (hl : us.length = size) (h1 : ∀ u ∈ us, u.oneCell' = true) (hn : n < 4294967296) (hby : bytes ≤ 16384) (hB : B ≤ w.heap.size)
    (h : ∀ v' w', w'.ownsRow B e size v' (n + 1) (xs ++ us) → Keep (fun i => v.ownBlock = some i) w w' → (v'.ownBlock = v.ownBlock ∨ v'.ownBlock = some w.heap.size) → K (a.put o.dst v') w') : o.wp P a w K Q := by
  obtain ⟨i, ht, hi, hz, hsz, hb⟩ := ty.ex
  have hadd : ∀ q, (⟨g, 0, none⟩ : Addr).add q = ⟨g, q, none⟩ := fun q => by unfold Addr.add; split <;> simp_all
  have hnews : ∀ j y, us[j]? = some y → w.cell? ((⟨g, 0, none⟩ : Addr).add j) = some y := by
    intro j y hj
    rw [hadd, cell_of_row _ g _ _ et (0, 0) hg, List.getElem?_toArray]; exact hj
  have hbytes : (n + 1) * bytes ≤ 140737488355328 := by
    have : (n + 1) * bytes ≤ 4294967296 * 16384 := Nat.mul_le_mul (by omega) hby
    omega
  obtain ⟨v', w', hr, h2, h3, _, h5⟩ := run_append_own_at (P := P) w B t o.type e i z size bytes ht hi hz hsz hb ty.zs ty.pos v n xs hown ⟨g, 0, none⟩ 1 1 us (by simp [hl]) hnews h1 (by unfold maxLen; omega) hbytes hB
  unfold Oper.wp execOp
  simp only [ho, resolve, invoke, builtin, Sem.run_bind, Sem.run_pure, Result.andThen_ok, List.map_toArray, List.map_cons, List.map_nil, hs, hx, hr]
  exact h v' w' h2 (Keep.grown h3 (fun i hi => hi)) h5
theorem wp_lit1 {P : Program} {o : Oper} {a : Act} {w : World} {K : Act → World → Prop} {Q : Exit → Act → World → Prop} (t e : TypeId) (x : Operand) (ho : o.op = .buildSlice t 1 #[(0, x)])
    {cells : Array Value} (hx : a.eval x = .agg cells) (hu : P.underlying t = some (.slice e)) {size : Nat} (hi : (P.info? e).map (·.size) = some size) (hz : ((P.info? e).bind (·.zero)).isSome = true) (hs : cells.size = size) (hp : 0 < size) (hle : size ≤ 16777216)
    (h : K (a.put o.dst (.slice (some ⟨w.heap.size, 0, none⟩) 1 1)) (w.alloc (.cells cells e))) : o.wp P a w K Q := by
  cases hie : P.info? e with
  | none => simp [hie] at hi
  | some ie =>
    simp only [hie, Option.map_some, Option.some.injEq, Option.bind_some] at hi hz
    obtain ⟨z, hzz⟩ := Option.isSome_iff_exists.1 hz
    refine wp_buildSlice t e 1 _ ho cells ie z hu hie hzz (by rw [hi]; omega) (by rw [hi]; omega) ?_ h
    have := Great.fill_whole (s := size) hp [.agg cells] ((Array.range (1 * size)).map (z.cells[· % z.cells.size]!)) (by intro v hv; simp at hv; subst hv; exact hs) (by simp)
    rw [hi]
    simpa [hx, Value.cells] using this
end Go.Proofs.YtnophelfpoldfaaGreatDoor

/- Appends at an operation, and at a step of a region that draws its order. -/
namespace Go.Proofs.YtnophelfpoldfaaGreatDoor
open Go.RowKit

/-- 'append(s, x...)' at an operation: what the new value owns, what stays as it was -/
theorem wp_cat {P : Program} {w : World} {o : Oper} {a : Act} {K : Act → World → Prop} {Q : Exit → Act → World → Prop} (s x : Operand) (t : TypeId)
    (ho : o.op = .call { callee := .builtin .append, args := #[s, x], argTypes := #[t, t] })
    {e : TypeId} {size bytes : Nat} {z : Value} (ty : SliceTy P t e size bytes z) (B : Nat) {v : Value} {n : Nat} {xs : List Value} (hown : w.ownsRow B e size v n xs) (hs : a.eval s = v)
    {ad : Option Addr} {m c : Nat} {news : List Value} (hx : a.eval x = .slice ad m c) (hrd : Rd w size ad m c news) (h1 : ∀ u ∈ news, u.oneCell' = true) (hn : (n + m) * bytes ≤ 140737488355328) (hn' : n + m ≤ maxLen) (hB : B ≤ w.heap.size)
    (h : ∀ v' w', w'.ownsRow B e size v' (n + m) (xs ++ news) → w.grownBy w' v.ownBlock → (v'.ownBlock = v.ownBlock ∨ v'.ownBlock = some w.heap.size) → K (a.put o.dst v') w') : o.wp P a w K Q := by
  obtain ⟨i, ht, hi, hz, hsz, hb⟩ := ty.ex
  obtain ⟨r1, r2, r3, r4, b, off, ha, hc⟩ := hrd
  cases ad with
  | none =>
    have hc0 := r4 rfl
    subst hc0
    obtain rfl : m = 0 := by omega
    have hnil : news = [] := List.eq_nil_of_length_eq_zero (by simpa using r1)
    subst hnil
    have hrun := run_append_owned_none (P := P) (w := w) B t o.type e i size ht hi v n xs hown
    unfold Oper.wp
    simp [execOp, ho, resolve, invoke, builtin, hs, hx, hrun, Result.andThen]
    exact h v w (by simpa using hown) ⟨rfl, rfl, rfl, Nat.le_refl _, fun _ _ _ => rfl⟩ (.inl rfl)
  | some ad =>
    obtain ⟨v', w', hr, h2, h3, _, h5⟩ := run_append_own_at (P := P) w B t o.type e i z size bytes ht hi hz hsz hb ty.zs ty.pos v n xs hown ad m c news r1 (by
      intro j u hu
      have hm : 0 < m := by
        rcases Nat.eq_zero_or_pos m with h0 | h0
        · subst h0
          have hnil : news = [] := List.eq_nil_of_length_eq_zero (by simpa using r1)
          subst hnil
          simp at hu
        · exact h0
      have := ha hm
      simp only [Option.some.injEq] at this
      subst this
      have hadd : (⟨b, off, none⟩ : Addr).add j = ⟨b, off + j, none⟩ := by unfold Addr.add; split <;> simp_all
      rw [hadd]
      exact hc j u hu) h1 hn' hn hB
    unfold Oper.wp execOp
    simp only [ho, resolve, invoke, builtin, Sem.run_bind, Sem.run_pure, Result.andThen_ok, List.map_toArray, List.map_cons, List.map_nil, hs, hx, hr]
    exact h v' w' h2 h3 h5
/-- the same at a step of a region that draws its order -/
theorem step_cat {P : Program} {w : World} {ops : Array Oper} {o : Oper} {a : Act} {K : Act → World → Prop} {Q : Exit → Act → World → Prop} {E : Prop} (hgd : o.guard = none) (s x : Operand) (t : TypeId)
    (ho : o.op = .call { callee := .builtin .append, args := #[s, x], argTypes := #[t, t] })
    {e : TypeId} {size bytes : Nat} {z : Value} (ty : SliceTy P t e size bytes z) (B : Nat) {v : Value} {n : Nat} {xs : List Value} (hown : w.ownsRow B e size v n xs) (hs : a.eval s = v)
    {ad : Option Addr} {m c : Nat} {news : List Value} (hx : a.eval x = .slice ad m c) (hrd : Rd w size ad m c news) (h1 : ∀ u ∈ news, u.oneCell' = true) (hn : (n + m) * bytes ≤ 140737488355328) (hn' : n + m ≤ maxLen) (hB : B ≤ w.heap.size)
    (h : ∀ v' w', w'.ownsRow B e size v' (n + m) (xs ++ news) → w.grownBy w' v.ownBlock → (v'.ownBlock = v.ownBlock ∨ v'.ownBlock = some w.heap.size) → K (a.put o.dst v') w') :
    if Region.wanted o (yielded ops a.tmps) = true then Oper.wp P o a w K Q else E := by
  have hw : Region.wanted o (yielded ops a.tmps) = true := by simp [Region.wanted, hgd]
  rw [if_pos hw]
  exact wp_cat s x t ho ty B hown hs hx hrd h1 hn hn' hB h
theorem rd_new1 (Y : World) (v : Value) (T : TypeId) : Rd (Y.alloc (.cells #[v] T)) 1 (some ⟨Y.heap.size, 0, none⟩) 1 1 [v] := by
  refine ⟨rfl, Nat.le_refl _, by decide, (fun e => by cases e), Y.heap.size, 0, fun _ => rfl, fun j u hu => ?_⟩
  match j, hu with
  | 0, hu =>
    simp at hu
    subst hu
    rw [cell_of_row _ _ _ _ _ (0, 0) (heap_alloc_new Y _)]; rfl
  | j + 1, hu => simp at hu
end Go.Proofs.YtnophelfpoldfaaGreatDoor

/- Bytes as blocks of bytes; slices.Clone, slices.Equal at bytes; eight. -/
namespace Go.Proofs.YtnophelfpoldfaaGreatDoor
open Go.RowKit

/-- a slice of bytes that lies in a row of bytes -/
def ByA (w : World) (v : Value) (bs : List Nat) : Prop :=
  ∃ a n c, v = .slice a n c ∧ Sl .u8 w a n c bs ∧ (∀ d ∈ bs, d < 256) ∧ (a = none → bs = []) ∧ ∀ g off sp, a = some ⟨g, off, sp⟩ → ∃ cur, w.heap[g]? = some (.cells cur 5 (0, 0))
/-- a block that is none of bytes -/
def NoBy (w : World) (i : Nat) : Prop := ∀ cur, w.heap[i]? ≠ some (.cells cur 5 (0, 0))
theorem ByA.keep {S : Nat → Prop} {w w' : World} {v : Value} {bs : List Nat} (h : ByA w v bs) (k : Keep S w w') (hn : ∀ i, i < w.heap.size → S i → NoBy w i) : ByA w' v bs := by
  obtain ⟨a, n, c, rfl, hs, hb, h0, hg⟩ := h
  have key : ∀ g off sp, a = some ⟨g, off, sp⟩ → g < w.heap.size ∧ ¬ S g := fun g off sp e => by
    obtain ⟨cur, hc⟩ := hg g off sp e
    have hl := (Array.getElem?_eq_some_iff.1 hc).1
    exact ⟨hl, fun hs => hn g hl hs cur hc⟩
  refine ⟨a, n, c, rfl, ?_, hb, h0, fun g off sp e => ?_⟩
  · obtain ⟨h1, h2, h3, h4, b, off, ha, hc⟩ := hs
    refine ⟨h1, h2, h3, h4, b, off, ha, fun j u hu => ?_⟩
    have hj : 0 < n := by
      have := (List.getElem?_eq_some_iff.1 hu).1
      rw [h1] at this; omega
    exact k.cell (hc j u hu) (key b off none (ha hj)).2
  · obtain ⟨cur, hc⟩ := hg g off sp e
    exact ⟨cur, k.heap hc (key g off sp e).2⟩
theorem ByA.below {w w' : World} {v : Value} {bs : List Nat} (h : ByA w v bs) (b : Below w.heap.size w w') : ByA w' v bs := h.keep (Keep.of (S := fun _ => False) b) (fun _ _ h => h.elim)
theorem ByA.nil (w : World) : ByA w (.slice none 0 0) [] := ⟨none, 0, 0, rfl, ⟨by simp, Nat.le_refl _, Nat.zero_le _, fun _ => rfl, 0, 0, fun h => absurd h (by decide), by simp⟩, by simp, fun _ => rfl, fun _ _ _ h => by cases h⟩
theorem ByA.lt {w : World} {a : Option Addr} {n c : Nat} {bs : List Nat} (h : ByA w (.slice a n c) bs) : bs.length = n := by
  obtain ⟨a', n', c', e, hs, _⟩ := h
  simp only [Value.slice.injEq] at e
  obtain ⟨rfl, rfl, rfl⟩ := e
  have := hs.1
  simpa using this
theorem ByA.own {w : World} {B : Nat} {v : Value} {n : Nat} {bs : List Nat} (h : w.ownsRow B 5 1 v n (nums .u8 bs)) (hb : ∀ d ∈ bs, d < 256) : ByA w v bs := by
  obtain ⟨a, c, rfl, hr⟩ := Rd.of_owns h
  refine ⟨a, n, c, rfl, hr, hb, ?_, ?_⟩
  · intro e
    have := hr.2.2.2.1 e
    have := hr.2.1
    have := hr.1
    have : bs.length = 0 := by rw [nums_length] at this; omega
    exact List.eq_nil_of_length_eq_zero this
  · intro g off sp e
    subst e
    rcases h.2 with ⟨hv, _⟩ | ⟨g', cap', cur, hv, _, hg, _⟩
    · simp at hv
    · simp only [Value.slice.injEq, Option.some.injEq, Addr.mk.injEq] at hv
      obtain ⟨⟨rfl, _⟩, _⟩ := hv
      exact ⟨cur, hg⟩
/-- what slices.Clone hands back: a row of its own -/
def Cl8 (w : World) (bs : List Nat) (e : Ending) (w' : World) : Prop := ∃ v, e = .returned v ∧ w'.ownsRow w.heap.size 5 1 v bs.length (nums .u8 bs) ∧ Below w.heap.size w w'
set_option maxRecDepth 100000 in
set_option maxHeartbeats 4000000 in
theorem clone8_walk (a : Option Addr) (n c : Nat) (bs : List Nat) (w : World) (h : Sl .u8 w a n c bs) (hn : n < 4294967296) : Calls Tryz.prog 29 #[.slice a n c] w (Cl8 w bs) := by
  have H := hid h
  have hl : bs.length = n := by have := h.1; simpa using this
  have hn0' : ∀ (a : Option Addr) (n c : Nat) (w : World), (binOp .eql 22 (.slice a n c) (.slice none 0 0)).run Tryz.prog w = .ok (.bool a.isNone) w := fun a n c w => Go.Lib.run_eql_slice_nil w _ _ a n c 0 0 Tryz.underlying22
  cases a with
  | none =>
    have hc : c = 0 := h.2.2.2.1 rfl
    have hn0 : n = 0 := by have := h.2.1; omega
    subst hc
    subst hn0
    have hb : bs = [] := List.eq_nil_of_length_eq_zero hl
    subst hb
    clear h
    go_enter Tryz.func29, Tryz.ntmps29
    go_wp2
    go_ret
    exact ⟨_, rfl, ⟨rfl, .inl ⟨rfl, rfl⟩⟩, Below.refl _ _⟩
  | some ad =>
    have MD := hid (World.ownsRow_made w #[] 0 (base := w.heap.size) (e := 5) (size := 1) (Nat.le_refl _) (by simp) (by simp))
    have mb0 := (Below.refl w.heap.size w).alloc (Nat.le_refl _) (.cells #[] 5)
    have RD := hid (show Rd _ 1 (some ad) n c (nums .u8 bs) from h.below mb0)
    have M0 := hid mb0
    have ONE := hid (nums_oneCell .u8 bs)
    have HN := hid hn
    clear mb0 h
    subst hl
    go_enter Tryz.func29, Tryz.ntmps29
    go_wp2_with (at_builtin; refine wpList_cat rfl _ _ 22 rfl tyBs w.heap.size MD.out rfl rfl RD.out ONE.out (by have := HN.out; omega) (by have := HN.out; unfold maxLen; omega) (by simp) ?_; intro v5 w5 own5 b5 hs5 _; have O5 := hid own5; have B5 := hid b5; clear own5 b5 hs5)
    go_ret
    have o := O5.out
    simp only [List.nil_append, Nat.zero_add] at o
    exact ⟨v5, rfl, o, M0.out.trans B5.out⟩
end Go.Proofs.YtnophelfpoldfaaGreatDoor

/- slices.Equal at bytes; the journal's eight and four. -/
namespace Go.Proofs.YtnophelfpoldfaaGreatDoor
open Go.RowKit

set_option maxRecDepth 100000 in
set_option maxHeartbeats 4000000 in
theorem equal8_walk (a b : Option Addr) (n m c d : Nat) (xs ys : List Nat) (w : World) (hx : Sl .u8 w a n c xs) (hy : Sl .u8 w b m d ys) (hn : n < 4294967296) :
    Calls Tryz.prog 55 #[.slice a n c, .slice b m d] w fun e w' => e = .returned (.bool (decide (xs = ys))) ∧ Below w.heap.size w w' := by
  have HX := hid hx
  have HY := hid hy
  have HN := hid hn
  have lx := hid (show xs.length = n by have := hx.1; simpa using this)
  have ly := hid (show ys.length = m by have := hy.1; simpa using this)
  clear hx hy hn
  go_enter Tryz.func55, Tryz.ntmps55
  by_cases hnm : n = m
  case neg =>
    have t1 : ((n : Int) != (m : Int)) = true := by simp; omega
    have t2 : (n != m) = true := by simp; omega
    have NM := hid hnm
    clear hnm
    go_wp2_with (fail)
    go_ret
    have e : decide (xs = ys) = false := decide_eq_false (fun e => NM.out (by rw [← lx.out, ← ly.out, e]))
    exact ⟨congrArg (fun b => Ending.returned (Value.bool b)) e.symm, Below.refl _ _⟩
  subst hnm
  have t1 : ((n : Int) != (n : Int)) = false := by simp
  have t2 : (n != n) = false := by simp
  go_upto_region 4 with (fail)
  clear t1 t2
  go_loopw [13] (fun x13 wr => ∃ i : Nat, i ≤ n ∧ x13 = .int .i64 (i : Int) ∧ xs.take i = ys.take i ∧ Below w.heap.size w wr) (fun x13 _ => n - (intOf x13).toNat)
  case atStart => exact ⟨0, by omega, rfl, by simp, Below.refl _ _⟩
  case round =>
    obtain ⟨i, hi, rfl, ht, hb⟩ := hrel
    have HT := hid ht
    have BB := hid hb
    clear ht hb
    by_cases hlt : i < n
    case neg =>
      have t1 : decide (i < n) = false := decide_eq_false hlt
      have e := HT.out
      rw [List.take_of_length_le (by rw [lx.out]; omega), List.take_of_length_le (by rw [ly.out]; omega)] at e
      have E := hid e
      clear e hlt hi
      go_wp2_with (fail)
      go_ret
      have e : decide (xs = ys) = true := decide_eq_true E.out
      exact ⟨congrArg (fun b => Ending.returned (Value.bool b)) e.symm, BB.out⟩
    have t1 : decide (i < n) = true := decide_eq_true hlt
    obtain ⟨p, po, hp, hpc⟩ := (HX.out.below BB.out).opened
    obtain ⟨q, qo, hq, hqc⟩ := (HY.out.below BB.out).opened
    have hp1 := hp (by omega)
    have hq1 := hq (by omega)
    subst hp1 hq1
    have hpi := hpc i hlt
    have hqi := hqc i hlt
    obtain ⟨x, hx⟩ : ∃ x, x = xs.getD i 0 := ⟨_, rfl⟩
    obtain ⟨y, hy⟩ : ∃ y, y = ys.getD i 0 := ⟨_, rfl⟩
    rw [← hx] at hpi
    rw [← hy] at hqi
    have X := hid hx
    have Y := hid hy
    have LT := hid hlt
    have i32 : i < 4294967296 := by have := HN.out; omega
    clear hp hq hpc hqc hx hy
    by_cases hxy : x = y
    · have t2 : ((x : Int) != (y : Int)) = false := by simp [hxy]
      have t3 : (x != y) = false := by simp [hxy]
      have XY := hid hxy
      clear hxy
      go_upto_region 6 with (fail)
      go_quiet (fail)
      go_wp2_with (fail)
      go_roundw
      case rel => exact ⟨i + 1, by have := LT.out; omega, by go_num, by
        rw [List.take_add_one, List.take_add_one, HT.out, List.getElem?_eq_getElem (by rw [lx.out]; exact LT.out), List.getElem?_eq_getElem (by rw [ly.out]; exact LT.out)]
        have e : xs[i]'(by rw [lx.out]; exact LT.out) = ys[i]'(by rw [ly.out]; exact LT.out) := by
          have h1 := X.out
          have h2 := Y.out
          rw [List.getD_eq_getElem?_getD, List.getElem?_eq_getElem (by rw [lx.out]; exact LT.out)] at h1
          rw [List.getD_eq_getElem?_getD, List.getElem?_eq_getElem (by rw [ly.out]; exact LT.out)] at h2
          simp only [Option.getD_some] at h1 h2
          rw [← h1, ← h2]; exact XY.out
        rw [e], by first | exact BB.out | exact below_drewN BB.out _⟩
      case measure => simp [intOf]; have := LT.out; omega
    · have t2 : ((x : Int) != (y : Int)) = true := by simp; omega
      have t3 : (x != y) = true := by simp; omega
      have XY := hid hxy
      clear hxy
      go_upto_region 6 with (fail)
      go_quiet (fail)
      go_wp2_with (fail)
      go_ret
      have e : decide (xs = ys) = false := decide_eq_false (fun e => XY.out (by rw [X.out, Y.out, e]))
      exact ⟨congrArg (fun b => Ending.returned (Value.bool b)) e.symm, by first | exact BB.out | exact below_drewN BB.out _⟩
end Go.Proofs.YtnophelfpoldfaaGreatDoor

/- The journal's eight and four. -/
namespace Go.Proofs.YtnophelfpoldfaaGreatDoor
open Go.RowKit

/-- a number's bytes -/
def be8 (u : Nat) : List Nat := (List.range 8).map fun j => u / 2 ^ (8 * (7 - j)) % 256
theorem be8_len (u : Nat) : (be8 u).length = 8 := by simp [be8]
theorem be8_lt (u : Nat) : ∀ d ∈ be8 u, d < 256 := by
  intro d hd
  obtain ⟨j, _, rfl⟩ := List.mem_map.1 hd
  exact Nat.mod_lt _ (by decide)
/-- a row of bytes of one's own -/
def Own8 (w : World) (bs : List Nat) (e : Ending) (w' : World) : Prop := ∃ v, e = .returned v ∧ w'.ownsRow w.heap.size 5 1 v bs.length (nums .u8 bs) ∧ Below w.heap.size w w'
set_option maxRecDepth 100000 in
set_option maxHeartbeats 4000000 in
theorem jeight_walk (u : Nat) (hu : u < 18446744073709551616) (w : World) : Calls Tryz.prog 26 #[.int .u64 (u : Int)] w (Own8 w (be8 u)) := by
  have HU := hid hu
  clear hu
  have LE := hid (be8_len u)
  go_enter Tryz.func26, Tryz.ntmps26
  go_upto_region 3 with (fail)
  go_loopw [3, 4] (fun x3 x4 wr => ∃ j : Nat, j ≤ 8 ∧ x4 = .int .i64 (7 - (j : Int)) ∧ wr.ownsRow w.heap.size 5 1 x3 j (nums .u8 ((be8 u).take j)) ∧ Below w.heap.size w wr) (fun _ x4 _ => (intOf x4 + 1).toNat)
  case atStart => exact ⟨0, by omega, rfl, ⟨rfl, .inl ⟨rfl, rfl⟩⟩, Below.refl _ _⟩
  case round =>
    obtain ⟨j, hj, rfl, ho, hb⟩ := hrel
    have OW := hid ho
    have BB := hid hb
    clear ho hb
    by_cases hlt : j < 8
    case neg =>
      obtain rfl : j = 8 := by omega
      go_wp2_with (fail)
      go_ret
      have o := OW.out
      rw [List.take_of_length_le (by rw [LE.out]; omega)] at o
      exact ⟨_, rfl, by rw [LE.out]; exact o, BB.out⟩
    have t1 : decide (7 - (j : Int) ≥ 0) = true := decide_eq_true (by omega)
    have t2 : decide (0 ≤ 7 - (j : Int)) = true := decide_eq_true (by omega)
    have LT := hid hlt
    obtain ⟨v4, hv4⟩ : ∃ v4, v4 = 7 - (j : Int) := ⟨_, rfl⟩
    clear t1 t2
    have t1 : decide (v4 ≥ 0) = true := decide_eq_true (by omega)
    have t2 : decide (0 ≤ v4) = true := decide_eq_true (by omega)
    rw [← hv4]
    obtain ⟨s, hs⟩ : ∃ s : Nat, s = 8 * (7 - j) := ⟨_, rfl⟩
    have r1 : IntKind.i64.wrap (8 * v4) = (s : Int) := by rw [IntKind.wrap_i64]; omega
    have SE := hid hs
    clear hs
    have V4 := hid hv4
    clear hv4 hlt hj
    have BW := hid BB.out.size
    have r2 : IntKind.i64.wrap (v4 - 1) = v4 - 1 := by have := V4.out; have := LT.out; rw [IntKind.wrap_i64]; omega
    go_wp2_with (at_builtin; refine wpList_pushK rfl _ _ 22 rfl tyBs w.heap.size OW.out rfl rfl rfl rfl (by have := LT.out; omega) (by decide) BW.out ?_; intro v5 w5 own5 k5 nb5; have O5 := hid own5; have K5 := hid k5; clear own5 k5 nb5)
    go_roundw
    case rel =>
      have hl : j < (be8 u).length := by rw [LE.out]; exact LT.out
      refine ⟨j + 1, by have := LT.out; omega, by have := V4.out; rw [this]; congr 1; omega, ?_, BB.out.trans (K5.out.below (fun i hi => (OW.out.lt i hi).1) BW.out)⟩
      have o := O5.out
      rw [List.take_add_one, List.getElem?_eq_getElem hl, ← nums_append]
      have e : (#[Value.int .u8 ((u : Int) / 2 ^ min s 64 % 256)] : Array Value).toList = nums .u8 (some (be8 u)[j]).toList := by
        have hs := SE.out
        have hm : min s 64 = s := by omega
        have hb : (be8 u)[j] = u / 2 ^ s % 256 := by simp [be8, hs]
        simp only [Option.toList_some, nums, List.map_cons, List.map_nil, hb, hm]
        congr 2
      rw [← e]
      exact o
    case measure => simp [intOf]; have := V4.out; have := LT.out; omega
end Go.Proofs.YtnophelfpoldfaaGreatDoor

/- The journal's four; what a disk is. -/
namespace Go.Proofs.YtnophelfpoldfaaGreatDoor
open Go.RowKit

theorem i64_or_nat (a b : Nat) (ha : a < 4611686018427387904) (hb : b < 4611686018427387904) : bits .or .i64 (a : Int) (b : Int) = ((a ||| b : Nat) : Int) := by
  have h1 : ∀ n : Nat, n < 4611686018427387904 → (BitVec.ofInt 64 (n : Int)).toNat = n := fun n hn => by rw [BitVec.toNat_ofInt]; omega
  have h2 : a ||| b < 2 ^ 62 := Nat.or_lt_two_pow (by omega) (by omega)
  show IntKind.i64.wrap ((BitVec.ofInt 64 (a : Int) ||| BitVec.ofInt 64 (b : Int)).toNat : Int) = _
  rw [BitVec.toNat_or, h1 a ha, h1 b hb]
  generalize a ||| b = c at *
  simp [IntKind.wrap, IntKind.bits, IntKind.signed]
  split <;> omega
theorem nat_join' (k a b : Nat) (hb : b < 2 ^ k) : a * 2 ^ k ||| b = a * 2 ^ k + b := by
  rw [Nat.mul_comm, Nat.two_pow_add_eq_or_of_lt hb]
theorem orBytes {a b c d : Nat} (ha : a < 256) (hb : b < 256) (hc : c < 256) (hd : d < 256) :
    bits .or .i64 (bits .or .i64 (bits .or .i64 ((a : Int) * 16777216) ((b : Int) * 65536)) ((c : Int) * 256)) (d : Int) = ((((a * 256 + b) * 256 + c) * 256 + d : Nat) : Int) := by
  rw [show (a : Int) * 16777216 = ((a * 16777216 : Nat) : Int) by omega, show (b : Int) * 65536 = ((b * 65536 : Nat) : Int) by omega, show (c : Int) * 256 = ((c * 256 : Nat) : Int) by omega]
  have e1 : a * 16777216 ||| b * 65536 = a * 16777216 + b * 65536 := nat_join' 24 a _ (by omega)
  have e2 : (a * 16777216 + b * 65536) ||| c * 256 = a * 16777216 + b * 65536 + c * 256 := by
    have := nat_join' 16 (a * 256 + b) (c * 256) (by omega)
    rw [show (a * 256 + b) * 2 ^ 16 = a * 16777216 + b * 65536 by omega] at this
    exact this
  have e3 : (a * 16777216 + b * 65536 + c * 256) ||| d = a * 16777216 + b * 65536 + c * 256 + d := by
    have := nat_join' 8 ((a * 256 + b) * 256 + c) d (by omega)
    rw [show ((a * 256 + b) * 256 + c) * 2 ^ 8 = a * 16777216 + b * 65536 + c * 256 by omega] at this
    exact this
  rw [i64_or_nat _ _ (by omega) (by omega), e1, i64_or_nat _ _ (by omega) (by omega), e2, i64_or_nat _ _ (by omega) (by omega), e3]
  omega
theorem getD_ltU {xs : List Nat} {M : Nat} (h : ∀ d ∈ xs, d < M) (hM : 0 < M) (k : Nat) : xs.getD k 0 < M := by
  rw [List.getD_eq_getElem?_getD]
  cases hk : xs[k]? with
  | none => exact hM
  | some y => exact h y (List.mem_of_getElem? hk)
def four4 (bs : List Nat) : Nat := (((bs.getD 0 0 * 256 + bs.getD 1 0) * 256 + bs.getD 2 0) * 256 + bs.getD 3 0)
set_option maxRecDepth 100000 in
set_option maxHeartbeats 4000000 in
theorem jfour_walk (a : Option Addr) (n c : Nat) (bs : List Nat) (w : World) (h : Sl .u8 w a n c bs) (hb : ∀ d ∈ bs, d < 256) (hn : 4 ≤ n) : Calls Tryz.prog 54 #[.slice a n c] w fun e w' => e = .returned (.int .i64 (four4 bs : Int)) ∧ Below w.heap.size w w' := by
  obtain ⟨p, po, hp, hc⟩ := h.opened
  have hp1 := hp (by omega)
  subst hp1
  have c0 := hc 0 (by omega)
  rw [Nat.add_zero] at c0
  have c1 := hc 1 (by omega)
  have c2 := hc 2 (by omega)
  have c3 := hc 3 (by omega)
  have b0 : bs.getD 0 0 < 256 := getD_ltU hb (by decide) 0
  have b1 : bs.getD 1 0 < 256 := getD_ltU hb (by decide) 1
  have b2 : bs.getD 2 0 < 256 := getD_ltU hb (by decide) 2
  have b3 : bs.getD 3 0 < 256 := getD_ltU hb (by decide) 3
  have r := orBytes b0 b1 b2 b3
  unfold four4
  generalize bs.getD 0 0 = x0 at *
  generalize bs.getD 1 0 = x1 at *
  generalize bs.getD 2 0 = x2 at *
  generalize bs.getD 3 0 = x3 at *
  have w0 : IntKind.i64.wrap ((x0 : Int) * 16777216) = (x0 : Int) * 16777216 := by rw [IntKind.wrap_i64]; omega
  have w1 : IntKind.i64.wrap ((x1 : Int) * 65536) = (x1 : Int) * 65536 := by rw [IntKind.wrap_i64]; omega
  have w2 : IntKind.i64.wrap ((x2 : Int) * 256) = (x2 : Int) * 256 := by rw [IntKind.wrap_i64]; omega
  have v0 : IntKind.i64.wrap (x0 : Int) = (x0 : Int) := by rw [IntKind.wrap_i64]; omega
  have v1 : IntKind.i64.wrap (x1 : Int) = (x1 : Int) := by rw [IntKind.wrap_i64]; omega
  have v2 : IntKind.i64.wrap (x2 : Int) = (x2 : Int) := by rw [IntKind.wrap_i64]; omega
  have v3 : IntKind.i64.wrap (x3 : Int) = (x3 : Int) := by rw [IntKind.wrap_i64]; omega
  obtain ⟨z, hz⟩ : ∃ z : Nat, z = ((x0 * 256 + x1) * 256 + x2) * 256 + x3 := ⟨_, rfl⟩
  rw [← hz] at r ⊢
  have n1 : 0 < n := by omega
  have n2 : 1 < n := by omega
  have n3 : 2 < n := by omega
  have n4 : 3 < n := by omega
  clear h hb hc hp hz hn
  go_enter Tryz.func54, Tryz.ntmps54
  go_upto_region 1 with (fail)
  go_quiet (fail)
  go_wp2_with (fail)
  go_ret
  exact ⟨rfl, by first | exact Below.refl _ _ | exact below_drewN (Below.refl _ _) _⟩
end Go.Proofs.YtnophelfpoldfaaGreatDoor

/- What a disk is; Len, Down, step, size. -/
namespace Go.Proofs.YtnophelfpoldfaaGreatDoor
open Go.RowKit

/-- sectors, each a slice of 64 bytes -/
def Secs (w : World) (vs : List Value) (C : List (List Nat)) : Prop := vs.length = C.length ∧ ∀ (i : Nat) (v : Value) (bs : List Nat), vs[i]? = some v → C[i]? = some bs → ByA w v bs ∧ bs.length = 64
/-- a sector that isn't sure yet -/
structure QE where
  pos : Nat
  v : Value
  bs : List Nat
def QE.cells (e : QE) : List Value := [.int .i64 (e.pos : Int), e.v]
def QE.ok (w : World) (n : Nat) (e : QE) : Prop := e.pos < n ∧ ByA w e.v e.bs ∧ e.bs.length = 64
structure DiskAt (w : World) (db B : Nat) (sv qv : Value) (C : List (List Nat)) (Q : List QE) : Prop where
  cell : w.heap[db]? = some (.cells #[sv, qv, .int .i64 0, .bool false] 57 (0, 0))
  sure : ∃ vs, w.ownsRow B 22 1 sv C.length vs ∧ Secs w vs C
  queue : w.ownsRow B 139 2 qv Q.length (Q.flatMap QE.cells)
  qok : ∀ e ∈ Q, QE.ok w C.length e
  few : C.length ≤ 4096
  lt : db < B ∧ B ≤ w.heap.size
theorem Secs.keep {S : Nat → Prop} {w w' : World} {vs : List Value} {C : List (List Nat)} (h : Secs w vs C) (k : Keep S w w') (hn : ∀ i, i < w.heap.size → S i → NoBy w i) : Secs w' vs C :=
  ⟨h.1, fun i v bs hv hb => ⟨(h.2 i v bs hv hb).1.keep k hn, (h.2 i v bs hv hb).2⟩⟩
theorem QE.ok.keep {S : Nat → Prop} {w w' : World} {n : Nat} {e : QE} (h : QE.ok w n e) (k : Keep S w w') (hn : ∀ i, i < w.heap.size → S i → NoBy w i) : QE.ok w' n e := ⟨h.1, h.2.1.keep k hn, h.2.2⟩
/-- what was changed is none of the disk's, nor bytes -/
theorem DiskAt.keep {S : Nat → Prop} {w w' : World} {db B : Nat} {sv qv : Value} {C : List (List Nat)} {Q : List QE} (h : DiskAt w db B sv qv C Q) (k : Keep S w w') (hn : ∀ i, i < w.heap.size → S i → NoBy w i) (hd : ¬ S db) (hs : ∀ g, sv.ownBlock = some g → ¬ S g) (hq : ∀ g, qv.ownBlock = some g → ¬ S g) : DiskAt w' db B sv qv C Q := by
  obtain ⟨vs, ho, hv⟩ := h.sure
  exact ⟨k.heap h.cell hd, ⟨vs, k.own ho hs, hv.keep k hn⟩, k.own h.queue hq, fun e he => (h.qok e he).keep k hn, h.few, h.lt.1, Nat.le_trans h.lt.2 k.size⟩
theorem DiskAt.below {w w' : World} {db B : Nat} {sv qv : Value} {C : List (List Nat)} {Q : List QE} (h : DiskAt w db B sv qv C Q) (b : Below w.heap.size w w') : DiskAt w' db B sv qv C Q :=
  h.keep (Keep.of (S := fun _ => False) b) (fun _ _ h => h.elim) (fun h => h) (fun _ _ h => h) (fun _ _ h => h)
section
variable {w : World} {db B : Nat} {sv qv : Value} {C : List (List Nat)} {Q : List QE}
theorem DiskAt.c0 (h : DiskAt w db B sv qv C Q) : w.cell? ⟨db, 0, none⟩ = some sv := gen_cell (j := 0) (row_range (L := [sv, qv, .int .i64 0, .bool false]) h.cell) rfl
theorem DiskAt.c1 (h : DiskAt w db B sv qv C Q) : w.cell? ⟨db, 1, none⟩ = some qv := gen_cell (j := 1) (row_range (L := [sv, qv, .int .i64 0, .bool false]) h.cell) rfl
theorem DiskAt.c2 (h : DiskAt w db B sv qv C Q) : w.cell? ⟨db, 2, none⟩ = some (.int .i64 0) := gen_cell (j := 2) (row_range (L := [sv, qv, .int .i64 0, .bool false]) h.cell) rfl
theorem DiskAt.c3 (h : DiskAt w db B sv qv C Q) : w.cell? ⟨db, 3, none⟩ = some (.bool false) := gen_cell (j := 3) (row_range (L := [sv, qv, .int .i64 0, .bool false]) h.cell) rfl
theorem DiskAt.sv_eq (h : DiskAt w db B sv qv C Q) : ∃ a c, sv = .slice a C.length c := by
  obtain ⟨vs, ho, _⟩ := h.sure
  obtain ⟨a, c, e, _⟩ := Rd.of_owns ho
  exact ⟨a, c, e⟩
theorem DiskAt.qv_eq (h : DiskAt w db B sv qv C Q) : ∃ a c, qv = .slice a Q.length c := by
  obtain ⟨a, c, e, _⟩ := Rd.of_owns h.queue
  exact ⟨a, c, e⟩
/-- the disk's own blocks are none of bytes -/
theorem own_noBy {e : TypeId} {size n : Nat} {v : Value} {xs : List Value} (h : w.ownsRow B e size v n xs) (he : e ≠ 5) {g : Nat} (hg : v.ownBlock = some g) : NoBy w g := by
  intro cur hc
  rcases h.2 with ⟨hv, _⟩ | ⟨g', cap, cu, hv, _, hg', _⟩
  · subst hv; cases hg
  · subst hv
    cases hg
    rw [hg'] at hc
    simp only [Option.some.injEq, Obj.cells.injEq] at hc
    exact he hc.2.1
theorem DiskAt.noBy (h : DiskAt w db B sv qv C Q) : NoBy w db := by
  intro cur hc
  rw [h.cell] at hc
  simp only [Option.some.injEq, Obj.cells.injEq] at hc
  exact absurd hc.2.1 (by decide)
theorem dlen_walk (h : DiskAt w db B sv qv C Q) : Calls Tryz.prog 43 #[.pointer (some ⟨db, 0, none⟩)] w fun e w' => e = .returned (.int .i64 (C.length : Int)) ∧ w = w' := by
  have c0 := h.c0
  obtain ⟨a, c, rfl⟩ := h.sv_eq
  clear h
  go_enter Tryz.func43, Tryz.ntmps43
  go_wp2
  go_ret
  exact ⟨rfl, rfl⟩
theorem ddown_walk (h : DiskAt w db B sv qv C Q) : Calls Tryz.prog 23 #[.pointer (some ⟨db, 0, none⟩)] w fun e w' => e = .returned (.bool false) ∧ w = w' := by
  have c3 := h.c3
  clear h
  go_enter Tryz.func23, Tryz.ntmps23
  go_wp2
  go_ret
  exact ⟨rfl, rfl⟩
theorem dstep_walk (h : DiskAt w db B sv qv C Q) : Calls Tryz.prog 63 #[.pointer (some ⟨db, 0, none⟩)] w fun e w' => e = .returned (.int .i64 0) ∧ w = w' := by
  have c3 := h.c3
  have c2 := h.c2
  clear h
  go_enter Tryz.func63, Tryz.ntmps63
  go_wp2
  go_ret
  exact ⟨rfl, rfl⟩
theorem dsize_walk (h : DiskAt w db B sv qv C Q) : Calls Tryz.prog 27 #[.pointer (some ⟨db, 0, none⟩)] w fun e w' => e = .returned (.int .i64 ((C.length / 2 : Nat) : Int)) ∧ w = w' := by
  have H := hid h
  have r : IntKind.i64.wrap ((C.length : Int).tdiv 2) = ((C.length / 2 : Nat) : Int) := by have := h.few; rw [IntKind.wrap_i64, Int.tdiv_eq_ediv_of_nonneg (by omega)]; omega
  have r2 : (C.length : Int).tdiv 2 = ((C.length / 2 : Nat) : Int) := by rw [Int.tdiv_eq_ediv_of_nonneg (by omega)]; omega
  obtain ⟨z, hz⟩ : ∃ z, z = C.length / 2 := ⟨_, rfl⟩
  rw [← hz] at r r2 ⊢
  have r3 : wrap64 (z : Int) = (z : Int) := by have := h.few; unfold wrap64; omega
  clear h hz
  go_enter Tryz.func27, Tryz.ntmps27
  go_wp2_with (fail)
  refine (dlen_walk H.out).mono ?_
  rintro e w1 ⟨rfl, rfl⟩
  go_wp2_with (fail)
  go_ret
  exact ⟨congrArg (fun n => Ending.returned (Value.int .i64 n)) r3, rfl⟩
end
end Go.Proofs.YtnophelfpoldfaaGreatDoor

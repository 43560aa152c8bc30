/- A range over a map under way. -/
import Derived.Test.YtibjkpejbihcpaaMap
import Derived.Maps.RangeWalk
namespace Go.Proofs.Ytibjkpejbihcpaa
open Go.RowKit Go.Maps

/-- r is an iterator over the map b, which holds M; L: which keys are still to come, cnt: how many -/
def RangeIs {k : TypeId} {α : Type} (E : KeyE k α) (w : World) (b r : Nat) (M : α → Option Value) (n : Nat) (L : α → Bool) (cnt : Nat) : Prop :=
  ∃ D left, w.ranges Try.prog k tokR b r n D left cnt ∧ size D = n ∧ (∀ x l, E.ok x → keyOf Try.prog k (E.enc x) = some l → has D l = (M x).isSome ∧ ∀ v, M x = some v → ∀ z, D.atKey l z = .held v) ∧ (∀ l, has D l = true → ∃ x, E.ok x ∧ keyOf Try.prog k (E.enc x) = some l) ∧
    ∀ x l, E.ok x → keyOf Try.prog k (E.enc x) = some l → left l = L x
theorem nodup_le {β : Type} [DecidableEq β] : ∀ {l m : List β}, l.Nodup → (∀ x ∈ l, x ∈ m) → l.length ≤ m.length
  | [], _, _, _ => Nat.zero_le _
  | x :: r, m, hn, hs => by
    have hx : x ∈ m := hs x (by simp)
    have h1 := (List.nodup_cons.1 hn)
    have := nodup_le (l := r) (m := m.erase x) h1.2 (fun y hy => (List.mem_erase_of_ne (fun e => h1.1 (by rw [← e]; exact hy))).2 (hs y (by simp [hy])))
    rw [List.length_erase_of_mem hx] at this
    have : 0 < m.length := List.length_pos_of_mem hx
    simp only [List.length_cons]
    omega
section
variable {k : TypeId} {α : Type} {E : KeyE k α} {w : World} {b r n cnt : Nat} {M : α → Option Value} {L : α → Bool}
theorem RangeIs.map (h : RangeIs E w b r M n L cnt) : MapIs E w b M n := by
  obtain ⟨D, left, h1, h2, h3, h4, _⟩ := h
  exact ⟨D, h1.owns, h2, h3, h4⟩
theorem RangeIs.ne (h : RangeIs E w b r M n L cnt) : r ≠ b := by obtain ⟨D, left, h1, _⟩ := h; exact h1.ne
theorem RangeIs.lt (h : RangeIs E w b r M n L cnt) : r < w.heap.size := by obtain ⟨D, left, h1, _⟩ := h; exact h1.lt
theorem RangeIs.left_eq (h : RangeIs E w b r M n L cnt) : w.rangeLeft b r = cnt := by obtain ⟨D, left, h1, _⟩ := h; exact h1.left_eq
theorem RangeIs.kept {w' : World} {row : Option Nat} (h : RangeIs E w b r M n L cnt) (hg : w.grownBy w' row) (h1 : some b ≠ row) (h2 : some r ≠ row) : RangeIs E w' b r M n L cnt := by
  obtain ⟨D, left, k1, k2⟩ := h
  exact ⟨D, left, k1.kept hg h1 h2, k2⟩
theorem RangeIs.below {w' : World} (h : RangeIs E w b r M n L cnt) (hb : Below w.heap.size w w') : RangeIs E w' b r M n L cnt :=
  h.kept (row := none) ⟨hb.os, hb.tape, hb.output, hb.size, fun i hi _ => hb.block i hi⟩ (by simp) (by simp)
theorem RangeIs.low {w' : World} {B : Nat} (h : RangeIs E w b r M n L cnt) (hb : Below B w w') (h1 : b < B) (h2 : r < B) : RangeIs E w' b r M n L cnt := by
  obtain ⟨D, left, ⟨es, clock, since, seen, c0, hb1, F, hs, hD, hr, rest⟩, k2⟩ := h
  exact ⟨D, left, ⟨es, clock, since, seen, c0, (hb.block b h1).trans hb1, F, hs, hD, (hb.block r h2).trans hr, rest⟩, k2⟩
theorem MapIs.low {w' : World} {B : Nat} (h : MapIs E w b M n) (hb : Below B w w') (h1 : b < B) : MapIs E w' b M n := by
  obtain ⟨D, ⟨es, clock, hb1, rest⟩, k2⟩ := h
  exact ⟨D, ⟨es, clock, (hb.block b h1).trans hb1, rest⟩, k2⟩
theorem wpList_rangeM {ops : Array Oper} {rest : List Oper} {o : Oper} {a : Act} {Q : Exit → Act → World → Prop} (hg : o.guard = none) (m : Operand) (t e : TypeId) (hop : o.op = Op.range t m) (ht : Try.prog.underlying t = some (.map k e))
    (hm : a.eval m = .map (some b)) (h : MapIs E w b M n)
    (hK : ∀ w', RangeIs E w' b w.heap.size M n (fun x => (M x).isSome) n → Below w.heap.size w w' → w'.heap.size = w.heap.size + 1 → wpList Try.prog ops Q rest (a.put o.dst (.pointer (some ⟨w.heap.size, 0, none⟩))) w') :
    wpList Try.prog ops Q (o :: rest) a w := by
  obtain ⟨D, h1, h2, h3, h4⟩ := h
  refine wpList_range_own w hg m t hop k e E.law ht tokR b n D hm h1 (fun w' r1 r2 r3 => hK w' ⟨D, _, h2 ▸ r1, h2, h3, h4, fun x l hx hl => (h3 x l hx hl).1⟩ ⟨r2.os, r2.tape, r2.output, r2.size, fun i hi => r2.block i hi (by simp)⟩ r3)
theorem RangeIs.next [DecidableEq α] (h : RangeIs E w b r M n L cnt) (ty : TypeId) :
    (cnt = 0 ∧ (∀ x, E.ok x → L x = false) ∧ (Instr.next (.pointer (some ⟨r, 0, none⟩)) false ty).run Try.prog w = .ok (.tuple #[.bool false]) w) ∨
    ∃ x v w' cnt', E.ok x ∧ L x = true ∧ M x = some v ∧ (Instr.next (.pointer (some ⟨r, 0, none⟩)) false ty).run Try.prog w = .ok (.tuple #[.bool true, E.enc x, v]) w' ∧
      RangeIs E w' b r M n (fun y => L y && !decide (y = x)) cnt' ∧ cnt' < cnt ∧ w.grownBy w' (some r) ∧ w'.heap.size = w.heap.size ∧ (Instr.entry (.pointer (some ⟨r, 0, none⟩))).run Try.prog w' = .ok (.tuple #[E.enc x, v]) w' := by
  obtain ⟨D, left, h1, h2, h3, h4, h5⟩ := h
  rcases h1.next E.law ty with ⟨c0, hl, hrun⟩ | ⟨key, v, kl, y, w', cnt', hkey, hlk, hv, hat, hrun, hrg, hlt, hgr, hsz, hen⟩
  · refine .inl ⟨c0, fun x hx => ?_, hrun⟩
    obtain ⟨l, hl'⟩ := E.kv x hx
    rw [← h5 x l hx hl']
    exact hl l
  · have hy : y = (.held v, []) := by simp only [tokR, Option.some.injEq] at hv; exact hv.symm
    subst hy
    have hhas : has D kl = true := by
      cases hh : has D kl with
      | true => rfl
      | false =>
        have e1 := hat (.held (.bool true))
        have e2 := hat (.held (.bool false))
        rw [atKey_of_not_has hh] at e1 e2
        rw [← e2] at e1
        simp at e1
    obtain ⟨x, hx, hxl⟩ := h4 kl hhas
    obtain rfl := E.kinj hkey hxl
    obtain ⟨q1, q2⟩ := h3 x kl hx hxl
    rw [hhas] at q1
    obtain ⟨u, hu⟩ := Option.isSome_iff_exists.1 q1.symm
    have e := (q2 u hu (.held u)).symm.trans (hat (.held u))
    simp only [DataW.held.injEq] at e
    subst e
    refine .inr ⟨x, u, w', cnt', hx, by rw [← h5 x kl hx hxl]; exact hlk, hu, hrun, ⟨D, _, hrg, h2, h3, h4, fun z lz hz hlz => ?_⟩, hlt, hgr, hsz, hen⟩
    dsimp only
    rw [h5 z lz hz hlz]
    refine congrArg (fun q => L z && !q) ?_
    by_cases hzx : z = x
    · subst hzx
      rw [hxl] at hlz
      cases hlz
      rw [decide_eq_true rfl]
      exact Go.WideAt.sameKey_self (E.law.key hxl)
    · rw [decide_eq_false hzx]
      exact sameKey_ne (fun e => hzx (E.inj _ _ hz hx (E.kinj (by rw [e] at hlz; exact hlz) hxl)))
theorem RangeIs.drop [DecidableEq α] (h : RangeIs E w b r M n L cnt) {t e : TypeId} (ht : Try.prog.underlying t = some (.map k e)) (x : α) (hx : E.ok x) (ty : TypeId) :
    ∃ w' cnt', (Builtin.delete_ #[t, k] ty #[.map (some b), E.enc x]).run Try.prog w = .ok (.tuple #[]) w' ∧ RangeIs E w' b r (fun y => if y = x then none else M y) (if (M x).isSome then n - 1 else n) (fun y => L y && !decide (y = x)) cnt' ∧ cnt' ≤ cnt ∧ Far b w w' := by
  obtain ⟨D, left, h1, h2, h3, h4, h5⟩ := h
  obtain ⟨l, hl⟩ := E.kv x hx
  have htd := h1.owns.tidy E.law
  obtain ⟨w', cnt', hrun, g1, g2, g3⟩ := h1.drop E.law ht hl ty
  obtain ⟨q1, _⟩ := h3 x l hx hl
  have hsz : size (D.del l) = if (M x).isSome then n - 1 else n := by
    have := size_del (k := l) htd
    rw [h2, q1] at this
    split
    · rename_i hh; rw [if_pos hh] at this; omega
    · rename_i hh; rw [if_neg hh] at this; omega
  refine ⟨w', cnt', hrun, ⟨D.del l, fun z => left z && !z.sameKey l, ?_, hsz, fun y ly hy hly => ?_, fun l' hl' => ?_, fun y ly hy hly => ?_⟩, g2, g3.grown⟩
  · obtain ⟨es, clock, since, seen, c0, a1, a2, _, a4, rest⟩ := g1
    refine ⟨es, clock, since, seen, c0, a1, a2, ?_, a4, rest⟩
    rw [← hsz, a4, size_eq, length_sorted]; simp
  · by_cases hyx : y = x
    · subst hyx
      rw [hl] at hly
      cases hly
      dsimp only
      rw [if_pos rfl]
      exact ⟨has_del_same, fun u hu => by cases hu⟩
    · dsimp only
      rw [if_neg hyx]
      have hne : ly ≠ l := fun e => hyx (E.inj _ _ hy hx (E.kinj (by rw [e] at hly; exact hly) hl))
      obtain ⟨r1, r2⟩ := h3 y ly hy hly
      exact ⟨by rw [has_del_other hne]; exact r1, fun u hu z => by rw [atKey_del_other hne]; exact r2 u hu z⟩
  · by_cases hll : l' = l
    · subst hll; rw [has_del_same] at hl'; cases hl'
    · rw [has_del_other hll] at hl'; exact h4 l' hl'
  · dsimp only
    rw [h5 y ly hy hly]
    refine congrArg (fun q => L y && !q) ?_
    by_cases hyx : y = x
    · subst hyx
      rw [hl] at hly
      cases hly
      rw [decide_eq_true rfl]
      exact Go.WideAt.sameKey_self (E.law.key hl)
    · rw [decide_eq_false hyx]
      exact sameKey_ne (fun e => hyx (E.inj _ _ hy hx (E.kinj (by rw [e] at hly; exact hly) hl)))
/-- how many entries there are: as many as keys -/
theorem MapIs.count (h : MapIs E w b M n) {ks : List α} (hnd : ks.Nodup) (hok : ∀ x ∈ ks, E.ok x) (hM : ∀ x, E.ok x → ((M x).isSome = true ↔ x ∈ ks)) : ks.length = n := by
  obtain ⟨D, h1, h2, h3, h4⟩ := h
  obtain ⟨es, rfl, hp, hkl⟩ := h1.entries E.law
  rw [← h2]
  let lit : α → Lit := fun x => ((keyOf Try.prog k (E.enc x)).getD (.bool true))
  have hlit : ∀ x, E.ok x → keyOf Try.prog k (E.enc x) = some (lit x) := fun x hx => by
    obtain ⟨l, hl⟩ := E.kv x hx
    show _ = some ((keyOf Try.prog k (E.enc x)).getD _)
    rw [hl]; rfl
  have n1 : (ks.map lit).Nodup := by
    rw [List.Nodup, List.pairwise_map]
    refine (List.pairwise_iff_forall_sublist.2 fun {a c} hs => ?_)
    have hac : a ≠ c := List.pairwise_iff_forall_sublist.1 hnd hs
    have ha : a ∈ ks := hs.subset (by simp)
    have hc : c ∈ ks := hs.subset (by simp)
    intro e
    have e1 := hlit a (hok a ha)
    rw [e] at e1
    exact hac (E.inj _ _ (hok a ha) (hok c hc) (E.kinj e1 (hlit c (hok c hc))))
  have n2 : (es.map (·.1)).Nodup := by
    rw [List.Nodup, List.pairwise_map]; exact hp
  have hm : ∀ l, l ∈ ks.map lit ↔ l ∈ es.map (·.1) := by
    intro l
    have hhas : has (DataW.map es) l = true ↔ l ∈ es.map (·.1) := by
      rw [has_eq, List.any_eq_true, List.mem_map]
      constructor
      · rintro ⟨p, hp, hs⟩; exact ⟨p, hp, Go.WideAt.sameKey_eq hs⟩
      · rintro ⟨p, hp, rfl⟩; exact ⟨p, hp, Go.WideAt.sameKey_self (hkl p hp)⟩
    rw [← hhas, List.mem_map]
    constructor
    · rintro ⟨x, hx, rfl⟩
      rw [(h3 x _ (hok x hx) (hlit x (hok x hx))).1]
      exact (hM x (hok x hx)).2 hx
    · intro hl
      obtain ⟨x, hx, hxl⟩ := h4 l hl
      have e := (hlit x hx).symm.trans hxl
      simp only [Option.some.injEq] at e
      refine ⟨x, (hM x hx).1 ?_, e⟩
      rw [← (h3 x l hx hxl).1]; exact hl
  have := ((List.perm_ext_iff_of_nodup n1 n2).2 hm).length_eq
  rw [List.length_map, List.length_map] at this
  rw [this]; rfl
/-- no more keys than entries -/
theorem MapIs.most (h : MapIs E w b M n) {ks : List α} (hnd : ks.Nodup) (hok : ∀ x ∈ ks, E.ok x ∧ (M x).isSome = true) : ks.length ≤ n := by
  obtain ⟨D, h1, h2, h3, h4⟩ := h
  obtain ⟨es, rfl, hp, hkl⟩ := h1.entries E.law
  rw [← h2]
  let lit : α → Lit := fun x => ((keyOf Try.prog k (E.enc x)).getD (.bool true))
  have hlit : ∀ x, E.ok x → keyOf Try.prog k (E.enc x) = some (lit x) := fun x hx => by
    obtain ⟨l, hl⟩ := E.kv x hx
    show _ = some ((keyOf Try.prog k (E.enc x)).getD _)
    rw [hl]; rfl
  have n1 : (ks.map lit).Nodup := by
    rw [List.Nodup, List.pairwise_map]
    refine (List.pairwise_iff_forall_sublist.2 fun {a c} hs => ?_)
    have hac : a ≠ c := List.pairwise_iff_forall_sublist.1 hnd hs
    have ha : a ∈ ks := hs.subset (by simp)
    have hc : c ∈ ks := hs.subset (by simp)
    intro e
    have e1 := hlit a ((hok a ha).1)
    rw [e] at e1
    exact hac (E.inj _ _ ((hok a ha).1) ((hok c hc).1) (E.kinj e1 (hlit c ((hok c hc).1))))
  have n2 : (es.map (·.1)).Nodup := by
    rw [List.Nodup, List.pairwise_map]; exact hp
  have hm : ∀ l, l ∈ ks.map lit → l ∈ es.map (·.1) := by
    intro l hl
    obtain ⟨x, hx, rfl⟩ := List.mem_map.1 hl
    have hhas : has (DataW.map es) (lit x) = true := by
      rw [(h3 x _ (hok x hx).1 (hlit x (hok x hx).1)).1]
      exact (hok x hx).2
    rw [has_eq, List.any_eq_true] at hhas
    obtain ⟨p, hp, hs⟩ := hhas
    exact List.mem_map.2 ⟨p, hp, Go.WideAt.sameKey_eq hs⟩
  have := @nodup_le _ (fun a b => Classical.propDecidable (a = b)) _ _ n1 hm
  rw [List.length_map, List.length_map] at this
  exact this
theorem wp_delR [DecidableEq α] {o : Oper} {a : Act} {K : Act → World → Prop} {Q : Exit → Act → World → Prop} (m x : Operand) (t : TypeId) (hop : o.op = Op.call { callee := Callee.builtin Builtin.delete, args := #[m, x], argTypes := #[t, k] }) {e : TypeId} (ht : Try.prog.underlying t = some (.map k e))
    (h : RangeIs E w b r M n L cnt) (hm : a.eval m = .map (some b)) (y : α) (hy : E.ok y) (hx : a.eval x = E.enc y)
    (hK : ∀ w' cnt', RangeIs E w' b r (fun z => if z = y then none else M z) (if (M y).isSome then n - 1 else n) (fun z => L z && !decide (z = y)) cnt' → cnt' ≤ cnt → Far b w w' → K (a.put o.dst (.tuple #[])) w') : o.wp Try.prog a w K Q := by
  obtain ⟨w', cnt', hrun, r1, r2, r3⟩ := h.drop ht y hy o.type
  unfold Oper.wp
  simp [execOp, hop, resolve, invoke, builtin, hm, hx, hrun, Result.andThen]
  exact hK w' cnt' r1 r2 r3
theorem step_delR [DecidableEq α] {ops : Array Oper} {o : Oper} {a : Act} {K : Act → World → Prop} {Q : Exit → Act → World → Prop} {F : Prop} (hgd : o.guard = none) (m x : Operand) (t : TypeId) (hop : o.op = Op.call { callee := Callee.builtin Builtin.delete, args := #[m, x], argTypes := #[t, k] }) {e : TypeId} (ht : Try.prog.underlying t = some (.map k e))
    (h : RangeIs E w b r M n L cnt) (hm : a.eval m = .map (some b)) (y : α) (hy : E.ok y) (hx : a.eval x = E.enc y)
    (hK : ∀ w' cnt', RangeIs E w' b r (fun z => if z = y then none else M z) (if (M y).isSome then n - 1 else n) (fun z => L z && !decide (z = y)) cnt' → cnt' ≤ cnt → Far b w w' → K (a.put o.dst (.tuple #[])) w') :
    if Region.wanted o (yielded ops a.tmps) = true then Oper.wp Try.prog o a w K Q else F := by
  have hw : Region.wanted o (yielded ops a.tmps) = true := by simp [Region.wanted, hgd]
  rw [if_pos hw]
  exact wp_delR m x t hop ht h hm y hy hx hK
end
end Go.Proofs.Ytibjkpejbihcpaa

/- Appends in a region that draws its order, next to calls that make memory: the state of a growing slice of bytes. -/
import Derived.Test.YtnophelfpoldfaaGreatDoorGStp
import Derived.Test.YtnophelfpoldfaaGreatDoorGSts
import Derived.Test.YtnophelfpoldfaaGreatDoorGDsg
import Derived.Maps.AppendAt
import Derived.Deep.AppendLies
import Derived.Deep.RegionHeld3
import Derived.Test.YtnophelfpoldfaaGreatDoorGVar
import Derived.Test.YtnophelfpoldfaaGreatDoorGReg
import Derived.Test.YtnophelfpoldfaaGreatDoorJld
namespace Go.Proofs.YtnophelfpoldfaaGreatDoor
open Go.RowKit

/-- a slice of bytes that grows, next to a variable in block G -/
def GrowSt (w0 : World) (G : Nat) (t : Nat) (s : Value) (w : World) (v : Value) (xs : List Nat) : Prop :=
  w.ownsRow w0.heap.size 5 1 v xs.length (nums .u8 xs) ∧ Below w0.heap.size w0 w ∧ BxR w G t s ∧ v.ownBlock ≠ some G ∧ w0.heap.size ≤ G
/-- bytes that can be read, apart from the slice v -/
def ApartSl (w : World) (v : Value) (a : Option Addr) (n c : Nat) (ys : List Nat) : Prop := Sl .u8 w a n c ys ∧ (0 < n → ∀ b off, a = some ⟨b, off, none⟩ → v.ownBlock ≠ some b)
theorem GrowSt.lt {w0 : World} {G t : Nat} {s : Value} {w : World} {v : Value} {xs : List Nat} (h : GrowSt w0 G t s w v xs) : G < w.heap.size := World.block_lt_of_cell? w _ h.2.2.1.1
theorem GrowSt.ownLt {w0 : World} {G t : Nat} {s : Value} {w : World} {v : Value} {xs : List Nat} (h : GrowSt w0 G t s w v xs) : ∀ g, v.ownBlock = some g → w0.heap.size ≤ g ∧ g < w.heap.size := by
  intro g hg
  exact h.1.lt g hg
theorem GrowSt.below {w0 : World} {G t : Nat} {s : Value} {w w' : World} {v : Value} {xs : List Nat} (h : GrowSt w0 G t s w v xs) (hb : Below w.heap.size w w') : GrowSt w0 G t s w' v xs :=
  ⟨own_below h.1 hb, h.2.1.trans (hb.mono h.2.1.size), h.2.2.1.below hb, h.2.2.2⟩
theorem GrowSt.dN {w0 : World} {G t : Nat} {s : Value} {w : World} {v : Value} {xs : List Nat} (h : GrowSt w0 G t s w v xs) (q : Nat) : GrowSt w0 G t s (w.drewN q) v xs := h.below (below_drewN (Below.refl _ _) q)
theorem GrowSt.drew {w0 : World} {G t : Nat} {s : Value} {w : World} {v : Value} {xs : List Nat} (h : GrowSt w0 G t s w v xs) : GrowSt w0 G t s w.drew v xs := h.below ((Below.refl _ _).drew)
theorem ApartSl.below {w w' : World} {v : Value} {a : Option Addr} {n c : Nat} {ys : List Nat} (h : ApartSl w v a n c ys) (hb : Below w.heap.size w w') : ApartSl w' v a n c ys := ⟨h.1.below hb, h.2⟩
/-- a call that makes bytes -/
theorem GrowSt.call {w0 : World} {G t : Nat} {s : Value} {w w' : World} {v : Value} {xs ys : List Nat} {e : Ending} (h : GrowSt w0 G t s w v xs) (hr : BytesRes w ys e w') :
    ∃ a c, e = .returned (.slice a ys.length c) ∧ GrowSt w0 G t s w' v xs ∧ ApartSl w' v a ys.length c ys ∧ Below w.heap.size w w' := by
  obtain ⟨r, rfl, hown, hb⟩ := hr
  obtain ⟨a, c, rfl, hs⟩ := SlV.of_owns hown
  refine ⟨a, c, rfl, h.below hb, ⟨hs, fun h0 b off ha hv => ?_⟩, hb⟩
  have h1 := (h.ownLt b hv).2
  subst ha
  have h2 := (hown.lt b (by
    rcases hown.2 with ⟨e, _⟩ | ⟨g, cap, cur, e, _⟩
    · simp at e
    · rfl)).1
  omega
theorem GrowSt.arg {w0 : World} {G t : Nat} {s : Value} {w : World} {v : Value} {xs : List Nat} {a : Option Addr} {n c : Nat} {ys : List Nat} (h : GrowSt w0 G t s w v xs) (hs : Sl .u8 w0 a n c ys) : ApartSl w v a n c ys := by
  refine ⟨hs.below h.2.1, fun h0 b off ha hv => ?_⟩
  obtain ⟨b', off', ha', hc⟩ := hs.opened
  have := ha' h0
  rw [ha] at this
  simp only [Option.some.injEq, Addr.mk.injEq, and_true] at this
  obtain ⟨rfl, rfl⟩ := this
  have h1 := World.block_lt_of_cell? w0 _ (hc 0 h0)
  have h2 := (h.ownLt b hv).1
  simp at h1
  omega
/-- an append -/
theorem GrowSt.grew {w0 : World} {G t : Nat} {s : Value} {w w' : World} {v v' : Value} {xs ys : List Nat} {m : Nat} (h : GrowSt w0 G t s w v xs) (hm : ys.length = m) (hown : w'.ownsRow w0.heap.size 5 1 v' (xs.length + m) (nums .u8 xs ++ nums .u8 ys)) (hg : w.grownBy w' v.ownBlock) (hv : v'.ownBlock = v.ownBlock ∨ v'.ownBlock = some w.heap.size) :
    GrowSt w0 G t s w' v' (xs ++ ys) ∧ (∀ a n c zs, ApartSl w v a n c zs → ApartSl w' v' a n c zs) := by
  have hlt := h.lt
  have cell : ∀ p : Addr, p.block < w.heap.size → v.ownBlock ≠ some p.block → w'.cell? p = w.cell? p := fun p hp hne => hg.cell_far p hp (Ne.symm hne)
  refine ⟨⟨?_, ?_, ⟨?_, ?_⟩, ?_, h.2.2.2.2⟩, fun a n c zs ⟨h1, h2⟩ => ⟨?_, fun h0 b off ha => ?_⟩⟩
  · rw [nums_append] at hown
    rw [List.length_append, hm]
    exact hown
  · exact h.2.1.grown hg h.2.1.size (fun k hk => (h.ownLt k hk).1)
  · rw [cell ⟨G, 0, none⟩ hlt h.2.2.2.1]; exact h.2.2.1.1
  · rw [cell ⟨G, 1, none⟩ hlt h.2.2.2.1]; exact h.2.2.1.2
  · rcases hv with hv | hv
    · rw [hv]; exact h.2.2.2.1
    · rw [hv]; intro e; simp at e; omega
  · have hl := h1.len
    obtain ⟨q1, q2, q3, q4, b, off, ha, hc⟩ := h1
    refine ⟨q1, q2, q3, q4, b, off, ha, fun j u hu => ?_⟩
    have hj : 0 < n := by
      have := (List.getElem?_eq_some_iff.1 hu).1
      rw [nums_length] at this; omega
    have hcu := hc j u hu
    rw [cell _ (World.block_lt_of_cell? w _ hcu) (h2 hj b off (ha hj))]
    exact hcu
  · rcases hv with hv | hv
    · rw [hv]; exact h2 h0 b off ha
    · rw [hv]
      intro e
      simp at e
      obtain ⟨b', off', ha', hc⟩ := h1.opened
      have := ha' h0
      rw [ha] at this
      simp only [Option.some.injEq, Addr.mk.injEq, and_true] at this
      obtain ⟨rfl, rfl⟩ := this
      have := World.block_lt_of_cell? w _ (hc 0 h0)
      simp at this
      omega
end Go.Proofs.YtnophelfpoldfaaGreatDoor

/- What a store is in memory; what changes read as. -/
namespace Go.Proofs.YtnophelfpoldfaaGreatDoor
open Go.RowKit

theorem MapIs.none1 {k : TypeId} {α : Type} {E : KeyE k α} {w : World} {b n : Nat} {M : α → Option Value} (h : MapIs E w b M n) (q : Nat) : w.cell? ⟨b, q, none⟩ = none := by
  obtain ⟨D, ⟨es, clock, hb, _⟩, _⟩ := h
  simp [World.cell?, hb]
theorem MapIs.noBy {k : TypeId} {α : Type} {E : KeyE k α} {w : World} {b n : Nat} {M : α → Option Value} (h : MapIs E w b M n) : NoBy w b := by
  obtain ⟨D, ⟨es, clock, hb, _⟩, _⟩ := h
  intro cur hc
  rw [hb] at hc; cases hc
theorem MapIs.keepR {k : TypeId} {α : Type} {E : KeyE k α} {w w' : World} {b n size : Nat} {M : α → Option Value} (h : MapIs E w b M n) (hk : Keep (fun i => i = b) w w') {a : Option Addr} {m cap : Nat} {xs : List Value} (hr : Rd w size a m cap xs) : Rd w' size a m cap xs := by
  obtain ⟨h1, h2, h3, h4, g, off, ha, hc⟩ := hr
  refine ⟨h1, h2, h3, h4, g, off, ha, fun j u hu => ?_⟩
  have := hc j u hu
  refine hk.cell this (fun e => ?_)
  simp only at e
  rw [e, h.none1] at this; cases this
/-- a map of strings to bytes -/
structure MpAt (w : World) (mb : Nat) (M : Mp) (n : Nat) : Prop where
  ex : ∃ V : List Nat → Option Value, MapIs ES w mb V n ∧ (∀ k, (V k).isSome = (M k).isSome) ∧ ∀ k v b, V k = some v → M k = some b → ByA w v b
  ok : ∀ k, (M k).isSome = true → ES.ok k
  vl : ∀ k b, M k = some b → b.length < 4294967296
section
variable {w w' : World} {mb n : Nat} {M : Mp}
theorem MpAt.keep {S : Nat → Prop} (h : MpAt w mb M n) (k : Keep S w w') (hn : ∀ i, i < w.heap.size → S i → NoBy w i) (hm : ¬ S mb) : MpAt w' mb M n := by
  obtain ⟨V, h1, h2, h3⟩ := h.ex
  exact ⟨⟨V, h1.keep k hm, h2, fun q v b hv hb => (h3 q v b hv hb).keep k hn⟩, h.ok, h.vl⟩
theorem MpAt.below (h : MpAt w mb M n) (b : Below w.heap.size w w') : MpAt w' mb M n := h.keep (Keep.of (S := fun _ => False) b) (fun _ _ h => h.elim) (fun h => h)
theorem MpAt.lt (h : MpAt w mb M n) : mb < w.heap.size := by obtain ⟨V, h1, _⟩ := h.ex; exact h1.lt
theorem MpAt.noBy (h : MpAt w mb M n) : NoBy w mb := by obtain ⟨V, h1, _⟩ := h.ex; exact h1.noBy
theorem MpAt.rd (h : MpAt w mb M n) (k : Keep (fun i => i = mb) w w') {size : Nat} {a : Option Addr} {m cap : Nat} {xs : List Value} (hr : Rd w size a m cap xs) : Rd w' size a m cap xs := by obtain ⟨V, h1, _⟩ := h.ex; exact h1.keepR k hr
theorem MpAt.made (w : World) : MpAt (w.alloc (.map #[] 0)) w.heap.size (fun _ => none) 0 := ⟨⟨_, MapIs.made w, fun _ => rfl, fun k v b h => by cases h⟩, (fun k h => by cases h), (fun k b h => by cases h)⟩
/-- what a store and a deletion make of it -/
theorem MpAt.put {V : List Nat → Option Value} {n' : Nat} {k : List Nat} {v : Value} {b : List Nat} (h : MpAt w mb M n) (hV : ∀ k, (V k).isSome = (M k).isSome) (hB : ∀ k v b, V k = some v → M k = some b → ByA w v b) (hb : ByA w v b) (hbl : b.length < 4294967296) (hk : ES.ok k)
    (h1 : MapIs ES w' mb (fun z => if z = k then some v else V z) n') (f : Keep (fun i => i = mb) w w') : MpAt w' mb (stepM M ⟨k, b, false⟩) n' := by
  have hn : ∀ i, i < w.heap.size → i = mb → NoBy w i := fun i _ e => e ▸ h.noBy
  refine ⟨⟨_, h1, fun z => ?_, fun z v' b' hv' hb' => ?_⟩, fun z hz => ?_, fun z q hz => ?_⟩
  · unfold stepM
    by_cases e : z = k
    · simp [e]
    · simp [e, hV]
  · unfold stepM at hb'
    by_cases e : z = k
    · simp only [e, if_true, Option.some.injEq] at hv'
      simp only [e, if_true, Bool.false_eq_true, if_false, Option.some.injEq] at hb'
      subst hv'; subst hb'
      exact hb.keep f hn
    · simp only [e, if_false] at hv' hb'
      exact (hB z v' b' hv' hb').keep f hn
  · unfold stepM at hz
    by_cases e : z = k
    · exact e ▸ hk
    · simp only [e, if_false] at hz
      exact h.ok z hz
  · unfold stepM at hz
    by_cases e : z = k
    · simp only [e, if_true, Bool.false_eq_true, if_false, Option.some.injEq] at hz
      exact hz ▸ hbl
    · simp only [e, if_false] at hz
      exact h.vl z q hz
theorem MpAt.del {V : List Nat → Option Value} {n' : Nat} {k b : List Nat} (h : MpAt w mb M n) (hV : ∀ k, (V k).isSome = (M k).isSome) (hB : ∀ k v b, V k = some v → M k = some b → ByA w v b)
    (h1 : MapIs ES w' mb (fun z => if z = k then none else V z) n') (f : Keep (fun i => i = mb) w w') : MpAt w' mb (stepM M ⟨k, b, true⟩) n' := by
  have hn : ∀ i, i < w.heap.size → i = mb → NoBy w i := fun i _ e => e ▸ h.noBy
  refine ⟨⟨_, h1, fun z => ?_, fun z v' b' hv' hb' => ?_⟩, fun z hz => ?_, fun z q hz => ?_⟩
  · unfold stepM
    by_cases e : z = k
    · simp [e]
    · simp [e, hV]
  · unfold stepM at hb'
    by_cases e : z = k
    · simp only [e, if_true] at hv'; cases hv'
    · simp only [e, if_false] at hv' hb'
      exact (hB z v' b' hv' hb').keep f hn
  · unfold stepM at hz
    by_cases e : z = k
    · simp only [e, if_true] at hz; cases hz
    · simp only [e, if_false] at hz
      exact h.ok z hz
  · unfold stepM at hz
    by_cases e : z = k
    · simp only [e, if_true] at hz; cases hz
    · simp only [e, if_false] at hz
      exact h.vl z q hz
end
/-- a change and where its bytes lie -/
structure LC where
  ka : Option Addr
  kc : Nat
  k : List Nat
  va : Option Addr
  vc : Nat
  v : List Nat
  g : Bool
def LC.cells (l : LC) : List Value := [.slice l.ka l.k.length l.kc, .slice l.va l.v.length l.vc, .bool l.g]
def LC.chg (l : LC) : Chg := ⟨l.k, l.v, l.g⟩
structure LC.good (w : World) (l : LC) : Prop where
  ks : Sl .u8 w l.ka l.k.length l.kc l.k
  k8 : ∀ d ∈ l.k, d < 256
  vs : Sl .u8 w l.va l.v.length l.vc l.v
  v8 : ∀ d ∈ l.v, d < 256
def Chs (w : World) (a : Option Addr) (n cap : Nat) (ls : List LC) : Prop := Rd w 3 a n cap (ls.flatMap LC.cells) ∧ ls.length = n ∧ ∀ l ∈ ls, l.good w
theorem LC.good.below {w w' : World} {l : LC} (h : l.good w) (b : Below w.heap.size w w') : l.good w' := ⟨h.ks.below b, h.k8, h.vs.below b, h.v8⟩
theorem Chs.below {w w' : World} {a : Option Addr} {n cap : Nat} {ls : List LC} (h : Chs w a n cap ls) (b : Below w.heap.size w w') : Chs w' a n cap ls := ⟨h.1.below b, h.2.1, fun l hl => (h.2.2 l hl).below b⟩
theorem Chs.keepM {w w' : World} {mb n : Nat} {M : Mp} {a : Option Addr} {N cap : Nat} {ls : List LC} (h : Chs w a N cap ls) (hm : MpAt w mb M n) (k : Keep (fun i => i = mb) w w') : Chs w' a N cap ls :=
  ⟨hm.rd k h.1, h.2.1, fun l hl => ⟨hm.rd k (h.2.2 l hl).ks, (h.2.2 l hl).k8, hm.rd k (h.2.2 l hl).vs, (h.2.2 l hl).v8⟩⟩
theorem flat3_get {ls : List LC} {j : Nat} {l : LC} (h : ls[j]? = some l) : (ls.flatMap LC.cells)[j * 3]? = some (.slice l.ka l.k.length l.kc) ∧ (ls.flatMap LC.cells)[j * 3 + 1]? = some (.slice l.va l.v.length l.vc) ∧ (ls.flatMap LC.cells)[j * 3 + 2]? = some (.bool l.g) := by
  induction ls generalizing j with
  | nil => simp at h
  | cons x r ih =>
    cases j with
    | zero =>
      simp only [List.getElem?_cons_zero, Option.some.injEq] at h
      subst h
      exact ⟨rfl, rfl, rfl⟩
    | succ j =>
      rw [List.getElem?_cons_succ] at h
      have := ih h
      rw [show (j + 1) * 3 = j * 3 + 3 by omega]
      exact this
theorem Chs.cells {w : World} {a : Option Addr} {n cap j : Nat} {ls : List LC} {l : LC} (h : Chs w a n cap ls) (hj : ls[j]? = some l) :
    ∃ b off, a = some ⟨b, off, none⟩ ∧ w.cell? ⟨b, off + j * 3, none⟩ = some (.slice l.ka l.k.length l.kc) ∧ w.cell? ⟨b, off + j * 3 + 1, none⟩ = some (.slice l.va l.v.length l.vc) ∧ w.cell? ⟨b, off + j * 3 + 2, none⟩ = some (.bool l.g) ∧ l.good w := by
  obtain ⟨⟨_, _, _, _, b, off, ha, hc⟩, hl, hg⟩ := h
  have hjl : j < ls.length := (List.getElem?_eq_some_iff.1 hj).1
  obtain ⟨f1, f2, f3⟩ := flat3_get hj
  exact ⟨b, off, ha (by omega), hc _ _ f1, by rw [Nat.add_assoc]; exact hc _ _ f2, by rw [Nat.add_assoc]; exact hc _ _ f3, hg l (List.mem_of_getElem? hj)⟩
/-- block sb is a store's struct -/
def StB (w : World) (sb jb mb : Nat) : Prop := w.heap[sb]? = some (.cells #[.pointer (some ⟨jb, 0, none⟩), .map (some mb)] 80 (0, 0))
section
variable {w w' : World} {sb jb mb : Nat}
theorem StB.c0 (h : StB w sb jb mb) : w.cell? ⟨sb, 0, none⟩ = some (.pointer (some ⟨jb, 0, none⟩)) := gen_cell (L := [.pointer (some ⟨jb, 0, none⟩), .map (some mb)]) (j := 0) (row_range h) rfl
theorem StB.c1 (h : StB w sb jb mb) : w.cell? ⟨sb, 1, none⟩ = some (.map (some mb)) := gen_cell (L := [.pointer (some ⟨jb, 0, none⟩), .map (some mb)]) (j := 1) (row_range h) rfl
theorem StB.lt (h : StB w sb jb mb) : sb < w.heap.size := (Array.getElem?_eq_some_iff.1 h).1
theorem StB.keep {S : Nat → Prop} (h : StB w sb jb mb) (k : Keep S w w') (hn : ¬ S sb) : StB w' sb jb mb := k.heap h hn
theorem StB.below (h : StB w sb jb mb) (b : Below w.heap.size w w') : StB w' sb jb mb := heap_keep h b
end
end Go.Proofs.YtnophelfpoldfaaGreatDoor

/- The store's take: changes made in a map. -/
namespace Go.Proofs.YtnophelfpoldfaaGreatDoor
open Go.RowKit

section
variable {k : TypeId} {α : Type} {E : KeyE k α} {w : World} {b n : Nat} {M : α → Option Value} {o : Oper} {a : Act} {K : Act → World → Prop} {Q : Exit → Act → World → Prop}
theorem wp_delS (m x : Operand) (t : TypeId) (hop : o.op = Op.call { callee := Callee.builtin Builtin.delete, args := #[m, x], argTypes := #[t, k] }) {e : TypeId} (ht : Tryz.prog.underlying t = some (.map k e)) (h : MapIs E w b M n)
    (hm : a.eval m = .map (some b)) (y : α) (hy : E.ok y) (hx : a.eval x = E.enc y) [DecidableEq α]
    (hK : ∀ w', MapIs E w' b (fun z => if z = y then none else M z) (if (M y).isSome then n - 1 else n) → Far b w w' → K (a.put o.dst (.tuple #[])) w') : o.wp Tryz.prog a w K Q := by
  obtain ⟨w', hrun, r1, r2⟩ := h.del ht y hy o.type
  unfold Oper.wp
  simp [execOp, hop, resolve, invoke, builtin, hm, hx, hrun, Result.andThen]
  exact hK _ r1 r2
end
/-- a row that was made and filled -/
theorem newW {P : Program} {code : Code} {Q : Exit → Act → World → Prop} {a : Act} {w : World} {c : Array Value} {t : TypeId} (h : ∀ w3, Hid (w3.heap[w.heap.size]? = some (.cells c t (0, 0))) → Hid (Below w.heap.size w w3) → code.wp P Q a w3) : code.wp P Q a (w.alloc (.cells c t)) :=
  h _ (hid (heap_alloc_new _ _)) (hid ((Below.refl _ _).alloc (Nat.le_refl _) _))
def TakeR (w : World) (mb : Nat) (M : Mp) (n N : Nat) (ls : List LC) (e : Ending) (w' : World) : Prop :=
  e = .returned (.tuple #[]) ∧ ∃ m, MpAt w' mb (takeM M (ls.map LC.chg)) m ∧ m ≤ n + N ∧ Keep (fun i => i = mb) w w'
theorem take_step {M : Mp} {ls : List LC} {j : Nat} {l : LC} (h : ls[j]? = some l) : takeM M ((ls.take (j + 1)).map LC.chg) = stepM (takeM M ((ls.take j).map LC.chg)) l.chg := by
  rw [take_succ_some h, List.map_append]
  exact takeM_snoc _ _ _
set_option maxRecDepth 100000 in
set_option maxHeartbeats 4000000 in
theorem take_walk {w : World} {sb jb mb n : Nat} {M : Mp} (hs : StB w sb jb mb) (hm : MpAt w mb M n) (a : Option Addr) (N cap : Nat) (ls : List LC) (hc : Chs w a N cap ls) (hn : n + N < 4294967296) (hv : ∀ l ∈ ls, l.v.length < 4294967296) :
    Calls Tryz.prog 34 #[.pointer (some ⟨sb, 0, none⟩), .slice a N cap] w (TakeR w mb M n N ls) := by
  have SB := hid hs
  have HM := hid hm
  have HC := hid hc
  have HN := hid hn
  have HL := hid hc.2.1
  have nsb := hid (show sb ≠ mb from fun e => by
    obtain ⟨V, h1, _⟩ := hm.ex
    obtain ⟨D, ⟨es, clock, hb, _⟩, _⟩ := h1
    unfold StB at hs
    rw [e, hb] at hs; cases hs)
  have HV := hid hv
  clear hs hm hc hn hv
  go_enter Tryz.func34, Tryz.ntmps34
  go_wp2_with (fail)
  go_loopw [8] (fun x8 wr => ∃ (j m : Nat), j ≤ N ∧ x8 = .int .i64 (j : Int) ∧ MpAt wr mb (takeM M ((ls.take j).map LC.chg)) m ∧ m ≤ n + j ∧ Keep (fun i => i = mb) w wr) (fun x8 _ => N - (intOf x8).toNat)
  case atStart => exact ⟨0, n, Nat.zero_le _, rfl, HM.out, Nat.le_refl _, Keep.refl _ _⟩
  case round =>
    obtain ⟨j, m, hj, rfl, hmr, hle, hkr⟩ := hrel
    have MR := hid hmr
    have KR := hid hkr
    have LE := hid hle
    clear hmr hkr hle
    by_cases hlt : j < N
    case neg =>
      obtain rfl : j = N := by omega
      have t1 : decide (j < j) = false := decide_eq_false (by omega)
      have t2 : decide ((j : Int) < (j : Int)) = false := decide_eq_false (by omega)
      clear hj hlt
      go_wp2_with (fail)
      go_end0
      refine ⟨rfl, m, ?_, LE.out, KR.out⟩
      have := MR.out
      rwa [List.take_of_length_le (by rw [HL.out]; exact Nat.le_refl _)] at this
    have t1 : decide (j < N) = true := decide_eq_true hlt
    have t2 : decide ((j : Int) < (N : Int)) = true := decide_eq_true (by omega)
    obtain ⟨l, hl⟩ := get_some HL.out hlt
    obtain ⟨b, off, rfl, c0, c1, c2, gd⟩ := (HC.out.keepM HM.out KR.out).cells hl
    have ST := hid (take_step (M := M) hl)
    have SR := hid (SB.out.keep KR.out nsb.out)
    have GD := hid gd
    have LV := hid (HV.out l (List.mem_of_getElem? hl))
    obtain ⟨j1, hj1⟩ : ∃ j1, j1 = j + 1 := ⟨_, rfl⟩
    have r4 : IntKind.i64.wrap ((j : Int) + 1) = (j1 : Int) := by have := HN.out; rw [IntKind.wrap_i64]; omega
    have J1 := hid hj1
    have LT := hid hlt
    have c82 := hid (by decide : (8 : Nat) = 8)
    obtain ⟨ka, kc, k, va, vc, v, g⟩ := l
    have c0' : wr.cell? ⟨b, off + j * 3, none⟩ = some (.slice ka k.length kc) := c0
    have c1' : wr.cell? ⟨b, off + j * 3 + 1, none⟩ = some (.slice va v.length vc) := c1
    have c2' : wr.cell? ⟨b, off + j * 3 + 2, none⟩ = some (.bool g) := c2
    have OK := hid (show ES.ok k from ⟨Nat.le_trans gd.ks.2.1 gd.ks.2.2.1, gd.k8⟩)
    clear c0 c1 c2 hl gd hj hlt hj1
    obtain ⟨V, hV1, hV2, hV3⟩ := MR.out.ex
    have V1 := hid hV1
    have V2 := hid hV2
    have V3 := hid hV3
    clear hV1 hV2 hV3
    have hab := hid (show wr.heap.size ≠ mb from fun e => by have := MR.out.lt; omega)
    cases g with
    | true =>
      go_upto_region 4 with (fail)
      refine newW ?_
      intro wa HA BA
      have MA := hid (MR.out.below BA.out)
      have cv := fun (wx : World) (kx : Keep (fun i => i = mb) wa wx) => hid (conv_bytes (MA.out.rd kx (GD.out.ks.below BA.out)) Tryz.underlying22 Tryz.underlying5 Tryz.underlying9)
      have s1 := (SR.out.below BA.out).c1
      have ca : wa.cell? ⟨wr.heap.size, 0, none⟩ = some (.slice ka k.length kc) := gen_cell (L := [.slice ka k.length kc, .slice va v.length vc, .bool true]) (j := 0) (row_range HA.out) rfl
      have W1 := hid ((V1.out.below BA.out).below (Below.refl _ _).drew)
      refine wp_region_held_drew (S := fun w' => Keep (fun i => i = mb) wa w') (by kernel_rfl) (Keep.of (Below.refl _ _).drew) (fun hHeld => ?_)
      try simp only [List.size_toArray, List.length_cons, List.length_nil, Nat.reduceAdd, Array.replicate_succ, Array.replicate_zero, List.push_toArray, List.nil_append, List.cons_append]
      refine wpAnyH_take (i := 0) (oi := { dst := some 14, op := Op.move (Operand.tmp 0), type := 34, pos := "store.go:66", after := #[], guard := none }) (v := ?v1001) rfl (by kernel_rfl) (by kernel_rfl) (by kernel_rfl) (fun _ _ _ h => h) (Or.inl ⟨by rfl, ?hy1001⟩) hHeld ?_
      case hy1001 => (intro w hSw; (try dsimp only at hSw); go_simp; (try with_reducible rfl))
      (try simp only [Act.put, List.setIfInBounds_toArray, List.set_cons_zero, List.set_cons_succ])
      refine wpAnyH_take (i := 1) (oi := { dst := some 15, op := Op.nilCheck (Operand.tmp 14), type := 0, pos := "store.go:66", after := #[{ on := 0, ground := Ground.data }], guard := none }) (v := ?v1002) rfl (by kernel_rfl) (by kernel_rfl) (by kernel_rfl) (fun _ _ _ h => h) (Or.inl ⟨by rfl, ?hy1002⟩) hHeld ?_
      case hy1002 => (intro w hSw; (try dsimp only at hSw); go_simp; (try with_reducible rfl))
      (try simp only [Act.put, List.setIfInBounds_toArray, List.set_cons_zero, List.set_cons_succ])
      refine wpAnyH_take (i := 2) (oi := { dst := some 16, op := Op.fieldAddr 80 (Operand.tmp 15) 1, type := 0, pos := "store.go:66", after := #[{ on := 1, ground := Ground.data }], guard := none }) (v := ?v1003) rfl (by kernel_rfl) (by kernel_rfl) (by kernel_rfl) (fun _ _ _ h => h) (Or.inl ⟨by rfl, ?hy1003⟩) hHeld ?_
      case hy1003 => (intro w hSw; (try dsimp only at hSw); go_simp; (try with_reducible rfl))
      (try simp only [Act.put, List.setIfInBounds_toArray, List.set_cons_zero, List.set_cons_succ])
      refine wpAnyH_take (i := 3) (oi := { dst := some 17, op := Op.load 78 (Operand.tmp 16), type := 78, pos := "store.go:66", after := #[{ on := 2, ground := Ground.data }], guard := none }) (v := (.map (some mb))) rfl (by kernel_rfl) (by kernel_rfl) (by kernel_rfl) (fun _ _ _ h => h) (Or.inl ⟨by rfl, fun w h => by have c9 := h.cell s1 nsb.out; go_simp⟩) hHeld ?_
      (try simp only [Act.put, List.setIfInBounds_toArray, List.set_cons_zero, List.set_cons_succ])
      refine wpAnyH_take (i := 4) (oi := { dst := some 18, op := Op.fieldAddr 42 (Operand.tmp 5) 0, type := 0, pos := "store.go:66", after := #[], guard := none }) (v := ?v1004) rfl (by kernel_rfl) (by kernel_rfl) (by kernel_rfl) (fun _ _ _ h => h) (Or.inl ⟨by rfl, ?hy1004⟩) hHeld ?_
      case hy1004 => (intro w hSw; (try dsimp only at hSw); go_simp; (try with_reducible rfl))
      (try simp only [Act.put, List.setIfInBounds_toArray, List.set_cons_zero, List.set_cons_succ])
      refine wpAnyH_take (i := 5) (oi := { dst := some 19, op := Op.load 22 (Operand.tmp 18), type := 22, pos := "store.go:66", after := #[{ on := 4, ground := Ground.data }], guard := none }) (v := (.slice ka k.length kc)) rfl (by kernel_rfl) (by kernel_rfl) (by kernel_rfl) (fun _ _ _ h => h) (Or.inl ⟨by rfl, fun w h => by have c9 := h.cell ca hab.out; go_simp⟩) hHeld ?_
      (try simp only [Act.put, List.setIfInBounds_toArray, List.set_cons_zero, List.set_cons_succ])
      refine wpAnyH_take (i := 6) (oi := { dst := some 20, op := Op.convert 22 9 (Operand.tmp 19), type := 9, pos := "store.go:66", after := #[{ on := 5, ground := Ground.data }], guard := none }) (v := (.string (bytesOf k))) rfl (by kernel_rfl) (by kernel_rfl) (by kernel_rfl) (fun _ _ _ h => h) (Or.inl ⟨by rfl, fun w h => by have c9 := (cv w h).out; go_simp⟩) hHeld ?_
      (try simp only [Act.put, List.setIfInBounds_toArray, List.set_cons_zero, List.set_cons_succ])
      refine wpAnyH_ready (rs := [7]) (by kernel_rfl) (by simp) ?_
      refine AllReadyH.cons (o := { dst := none, op := Op.call { callee := Callee.builtin Builtin.delete, args := #[Operand.tmp 17, Operand.tmp 20], argTypes := #[78, 9] }, type := 0, pos := "store.go:66", after := #[{ on := 3, ground := Ground.data }, { on := 6, ground := Ground.data }], guard := none }) rfl (fun K hK => ?_) ?_
      rw [if_pos (by rfl)]; refine wp_delS _ _ _ rfl Tryz.underlying78 W1.out rfl k OK.out rfl ?_; intro wd hd fd; have HD := hid hd; have FD := hid fd; clear hd fd
      refine hK.out _ _ (hHeld.trans (Keep.far' FD.out)) (fun hHeld => ?_)
      clear hK K
      (try simp only [List.setIfInBounds_toArray, List.set_cons_zero, List.set_cons_succ])
      refine wpAnyH_done (by kernel_rfl) ?_ _
      rotate_left
      exact AllReadyH.nil
      go_wp2_with (fail)
      go_roundw
      case rel =>
        have kd := Keep.far' FD.out
        refine ⟨j1, (if (V k).isSome then m - 1 else m), by have := LT.out; have := J1.out; omega, rfl, ?_, ?_, KR.out.trans ((Keep.of (BA.out.trans (Below.refl _ _).drew)).trans kd)⟩
        · rw [J1.out, ST.out]
          exact (MA.out.below (Below.refl _ _).drew).del V2.out (fun q v b h1 h2 => ((V3.out q v b h1 h2).below BA.out).below (Below.refl _ _).drew) HD.out kd
        · have := LE.out; have := J1.out
          split <;> omega
      case measure => simp [intOf]; have := J1.out; have := LT.out; omega
    | false =>
      go_upto_region 5 with (fail)
      refine newW ?_
      intro wa HA BA
      have MA := hid (MR.out.below BA.out)
      have cv := fun (wx : World) (kx : Keep (fun i => i = mb) wa wx) => hid (conv_bytes (MA.out.rd kx (GD.out.ks.below BA.out)) Tryz.underlying22 Tryz.underlying5 Tryz.underlying9)
      have s1 := (SR.out.below BA.out).c1
      have ca : wa.cell? ⟨wr.heap.size, 0, none⟩ = some (.slice ka k.length kc) := gen_cell (L := [.slice ka k.length kc, .slice va v.length vc, .bool false]) (j := 0) (row_range HA.out) rfl
      have cb : wa.cell? ⟨wr.heap.size, 1, none⟩ = some (.slice va v.length vc) := gen_cell (L := [.slice ka k.length kc, .slice va v.length vc, .bool false]) (j := 1) (row_range HA.out) rfl
      have CL := hid (clone8_walk va v.length vc v wa.drew ((GD.out.vs.below BA.out).below (Below.refl _ _).drew) LV.out)
      have W1 := hid ((V1.out.below BA.out).below (Below.refl _ _).drew)
      refine wp_region_held_drew (S := fun w' => Keep (fun i => i = mb) wa w') (by kernel_rfl) (Keep.of (Below.refl _ _).drew) (fun hHeld => ?_)
      try simp only [List.size_toArray, List.length_cons, List.length_nil, Nat.reduceAdd, Array.replicate_succ, Array.replicate_zero, List.push_toArray, List.nil_append, List.cons_append]
      refine wpAnyH_take (i := 0) (oi := { dst := some 21, op := Op.move (Operand.tmp 0), type := 34, pos := "store.go:69", after := #[], guard := none }) (v := ?v2001) rfl (by kernel_rfl) (by kernel_rfl) (by kernel_rfl) (fun _ _ _ h => h) (Or.inl ⟨by rfl, ?hy2001⟩) hHeld ?_
      case hy2001 => (intro w hSw; (try dsimp only at hSw); go_simp; (try with_reducible rfl))
      (try simp only [Act.put, List.setIfInBounds_toArray, List.set_cons_zero, List.set_cons_succ])
      refine wpAnyH_take (i := 1) (oi := { dst := some 22, op := Op.nilCheck (Operand.tmp 21), type := 0, pos := "store.go:69", after := #[{ on := 0, ground := Ground.data }], guard := none }) (v := ?v2002) rfl (by kernel_rfl) (by kernel_rfl) (by kernel_rfl) (fun _ _ _ h => h) (Or.inl ⟨by rfl, ?hy2002⟩) hHeld ?_
      case hy2002 => (intro w hSw; (try dsimp only at hSw); go_simp; (try with_reducible rfl))
      (try simp only [Act.put, List.setIfInBounds_toArray, List.set_cons_zero, List.set_cons_succ])
      refine wpAnyH_take (i := 2) (oi := { dst := some 23, op := Op.fieldAddr 80 (Operand.tmp 22) 1, type := 0, pos := "store.go:69", after := #[{ on := 1, ground := Ground.data }], guard := none }) (v := ?v2003) rfl (by kernel_rfl) (by kernel_rfl) (by kernel_rfl) (fun _ _ _ h => h) (Or.inl ⟨by rfl, ?hy2003⟩) hHeld ?_
      case hy2003 => (intro w hSw; (try dsimp only at hSw); go_simp; (try with_reducible rfl))
      (try simp only [Act.put, List.setIfInBounds_toArray, List.set_cons_zero, List.set_cons_succ])
      refine wpAnyH_take (i := 3) (oi := { dst := some 24, op := Op.load 78 (Operand.tmp 23), type := 78, pos := "store.go:69", after := #[{ on := 2, ground := Ground.data }], guard := none }) (v := (.map (some mb))) rfl (by kernel_rfl) (by kernel_rfl) (by kernel_rfl) (fun _ _ _ h => h) (Or.inl ⟨by rfl, fun w h => by have c9 := h.cell s1 nsb.out; go_simp⟩) hHeld ?_
      (try simp only [Act.put, List.setIfInBounds_toArray, List.set_cons_zero, List.set_cons_succ])
      refine wpAnyH_take (i := 4) (oi := { dst := some 25, op := Op.fieldAddr 42 (Operand.tmp 5) 0, type := 0, pos := "store.go:69", after := #[], guard := none }) (v := ?v2004) rfl (by kernel_rfl) (by kernel_rfl) (by kernel_rfl) (fun _ _ _ h => h) (Or.inl ⟨by rfl, ?hy2004⟩) hHeld ?_
      case hy2004 => (intro w hSw; (try dsimp only at hSw); go_simp; (try with_reducible rfl))
      (try simp only [Act.put, List.setIfInBounds_toArray, List.set_cons_zero, List.set_cons_succ])
      refine wpAnyH_take (i := 5) (oi := { dst := some 26, op := Op.load 22 (Operand.tmp 25), type := 22, pos := "store.go:69", after := #[{ on := 4, ground := Ground.data }], guard := none }) (v := (.slice ka k.length kc)) rfl (by kernel_rfl) (by kernel_rfl) (by kernel_rfl) (fun _ _ _ h => h) (Or.inl ⟨by rfl, fun w h => by have c9 := h.cell ca hab.out; go_simp⟩) hHeld ?_
      (try simp only [Act.put, List.setIfInBounds_toArray, List.set_cons_zero, List.set_cons_succ])
      refine wpAnyH_take (i := 6) (oi := { dst := some 27, op := Op.convert 22 9 (Operand.tmp 26), type := 9, pos := "store.go:69", after := #[{ on := 5, ground := Ground.data }], guard := none }) (v := (.string (bytesOf k))) rfl (by kernel_rfl) (by kernel_rfl) (by kernel_rfl) (fun _ _ _ h => h) (Or.inl ⟨by rfl, fun w h => by have c9 := (cv w h).out; go_simp⟩) hHeld ?_
      (try simp only [Act.put, List.setIfInBounds_toArray, List.set_cons_zero, List.set_cons_succ])
      refine wpAnyH_take (i := 7) (oi := { dst := some 28, op := Op.fieldAddr 42 (Operand.tmp 5) 1, type := 0, pos := "store.go:69", after := #[], guard := none }) (v := ?v2005) rfl (by kernel_rfl) (by kernel_rfl) (by kernel_rfl) (fun _ _ _ h => h) (Or.inl ⟨by rfl, ?hy2005⟩) hHeld ?_
      case hy2005 => (intro w hSw; (try dsimp only at hSw); go_simp; (try with_reducible rfl))
      (try simp only [Act.put, List.setIfInBounds_toArray, List.set_cons_zero, List.set_cons_succ])
      refine wpAnyH_take (i := 8) (oi := { dst := some 29, op := Op.load 22 (Operand.tmp 28), type := 22, pos := "store.go:69", after := #[{ on := 7, ground := Ground.data }], guard := none }) (v := (.slice va v.length vc)) rfl (by kernel_rfl) (by kernel_rfl) (by kernel_rfl) (fun _ _ _ h => h) (Or.inl ⟨by rfl, fun w h => by have c9 := h.cell cb hab.out; go_simp⟩) hHeld ?_
      (try simp only [Act.put, List.setIfInBounds_toArray, List.set_cons_zero, List.set_cons_succ])
      refine wpAnyH_ready (rs := [9]) (by kernel_rfl) (by simp) ?_
      refine AllReadyH.cons (o := { dst := some 30, op := Op.call { callee := Callee.value (Operand.func 29), args := #[Operand.tmp 29], argTypes := #[22] }, type := 22, pos := "store.go:69", after := #[{ on := 8, ground := Ground.data }], guard := none }) rfl (fun K hK => ?_) ?_
      go_simp; refine CL.out.mono ?_; rintro e w5 ⟨v5, rfl, o5, b5⟩; have O5 := hid o5; have B5 := hid b5; clear o5 b5
      refine hK.out _ _ (hHeld.trans (Keep.of B5.out)) (fun hHeld => ?_)
      clear hK K
      (try simp only [List.setIfInBounds_toArray, List.set_cons_zero, List.set_cons_succ])
      refine wpAnyH_ready (rs := [10]) (by kernel_rfl) (by simp) ?_
      refine AllReadyH.cons (o := { dst := none, op := Op.mapUpdate 78 (Operand.tmp 24) (Operand.tmp 27) (Operand.tmp 30), type := 0, pos := "store.go:69", after := #[{ on := 3, ground := Ground.data }, { on := 6, ground := Ground.data }, { on := 9, ground := Ground.data }, { on := 9, ground := Ground.chain }, { on := 0, ground := Ground.phase }, { on := 1, ground := Ground.phase }, { on := 2, ground := Ground.phase }, { on := 3, ground := Ground.phase }, { on := 4, ground := Ground.phase }, { on := 5, ground := Ground.phase }, { on := 6, ground := Ground.phase }, { on := 7, ground := Ground.phase }, { on := 8, ground := Ground.phase }, { on := 9, ground := Ground.phase }], guard := none }) rfl (fun K hK => ?_) ?_
      rw [if_pos (by rfl)]; refine wp_put _ _ _ _ rfl Tryz.underlying78 (W1.out.below B5.out) (by unfold maxLen; have := LE.out; have := HN.out; have := LT.out; omega) rfl k OK.out rfl rfl ?_; intro wd hd fd; have HD := hid hd; have FD := hid fd; clear hd fd
      refine hK.out _ _ (hHeld.trans (Keep.far' FD.out)) (fun hHeld => ?_)
      clear hK K
      (try simp only [List.setIfInBounds_toArray, List.set_cons_zero, List.set_cons_succ])
      refine wpAnyH_done (by kernel_rfl) ?_ _
      rotate_left
      exact AllReadyH.nil
      exact AllReadyH.nil
      go_wp2_with (fail)
      go_roundw
      case rel =>
        have kd := Keep.far' FD.out
        refine ⟨j1, (if (V k).isSome then m else m + 1), by have := LT.out; have := J1.out; omega, rfl, ?_, ?_, KR.out.trans ((Keep.of (BA.out.trans (Below.refl _ _).drew)).trans ((Keep.of B5.out).trans kd))⟩
        · rw [J1.out, ST.out]
          exact ((MA.out.below (Below.refl _ _).drew).below B5.out).put V2.out (fun q v b h1 h2 => (((V3.out q v b h1 h2).below BA.out).below (Below.refl _ _).drew).below B5.out) (ByA.own O5.out GD.out.v8) LV.out OK.out HD.out kd
        · have := LE.out; have := J1.out
          split <;> omega
      case measure => simp [intOf]; have := J1.out; have := LT.out; omega
end Go.Proofs.YtnophelfpoldfaaGreatDoor

/- A store on its disk: all that its Put may change, as one fact. -/
namespace Go.Proofs.YtnophelfpoldfaaGreatDoor
open Go.RowKit

structure StoD (w : World) (S : Nat → Prop) (sb db jb mb Bd Bj half turn : Nat) (chk st : List Nat) (rv sd : Value) (rs C : List (List Nat)) (M : Mp) (n N next : Nat) : Prop where
  sB : StB w sb jb mb
  mp : MpAt w mb M n
  jr : JourAt w jb db Bj half next turn chk st rv rs
  dk : DiskAt w db Bd sd (.slice none 0 0) C []
  hh : half ≤ 1
  sep : Sep db sd Bj
  sz : C.length / 2 = N
  rl : rs.length ≤ next
  nx : next ≤ N
  iff : ∀ i, S i ↔ (i = db ∨ sd.ownBlock = some i ∨ i = jb ∨ rv.ownBlock = some i ∨ i = mb)
/-- a store with values M at keys (n keys) on a disk of N sectors a half, of which 'next' are used; S: what a change may touch -/
def StoA (w : World) (S : Nat → Prop) (sb : Nat) (M : Mp) (n N next : Nat) : Prop :=
  ∃ db jb mb Bd Bj half turn chk st rv sd rs C, StoD w S sb db jb mb Bd Bj half turn chk st rv sd rs C M n N next
section
variable {w w' : World} {S : Nat → Prop} {sb db jb mb Bd Bj half turn : Nat} {chk st : List Nat} {rv sd : Value} {rs C : List (List Nat)} {M : Mp} {n N next : Nat}
theorem StoD.lt (h : StoD w S sb db jb mb Bd Bj half turn chk st rv sd rs C M n N next) (i : Nat) (hi : S i) : i < w.heap.size := by
  rcases (h.iff i).1 hi with rfl | e | rfl | e | rfl
  · exact Nat.lt_of_lt_of_le h.dk.lt.1 h.dk.lt.2
  · obtain ⟨vs', o', _⟩ := h.dk.sure
    exact (o'.lt _ e).2
  · obtain ⟨sv, j1, _⟩ := h.jr.ex
    exact j1.lt
  · obtain ⟨vs, o, _⟩ := h.jr.row
    exact (o.lt _ e).2
  · exact h.mp.lt
theorem StoD.noBy (h : StoD w S sb db jb mb Bd Bj half turn chk st rv sd rs C M n N next) (i : Nat) (hi : S i) : NoBy w i := by
  rcases (h.iff i).1 hi with rfl | e | rfl | e | rfl
  · exact h.dk.noBy
  · obtain ⟨vs', o', _⟩ := h.dk.sure
    exact own_noBy o' (by decide) e
  · obtain ⟨sv, j1, _⟩ := h.jr.ex
    exact j1.noBy
  · obtain ⟨vs, o, _⟩ := h.jr.row
    exact own_noBy o (by decide) e
  · exact h.mp.noBy
theorem map_no_cells {k : TypeId} {α : Type} {E : KeyE k α} {b m : Nat} {V : α → Option Value} (h : MapIs E w b V m) {cs : Array Value} {t : TypeId} {fr : Nat × Nat} : w.heap[b]? ≠ some (.cells cs t fr) := by
  obtain ⟨D, ⟨es, clock, hb, _⟩, _⟩ := h
  intro e
  rw [hb] at e; cases e
theorem MpAt.no_cells (h : MpAt w mb M n) {cs : Array Value} {t : TypeId} {fr : Nat × Nat} : w.heap[mb]? ≠ some (.cells cs t fr) := by obtain ⟨V, h1, _⟩ := h.ex; exact map_no_cells h1
/-- the store's struct is none of what changes -/
theorem StoD.nsb (h : StoD w S sb db jb mb Bd Bj half turn chk st rv sd rs C M n N next) : ¬ S sb := by
  intro hi
  have c := h.sB
  unfold StB at c
  rcases (h.iff sb).1 hi with rfl | e | rfl | e | rfl
  · rw [h.dk.cell] at c
    simp only [Option.some.injEq, Obj.cells.injEq] at c
    exact absurd c.2.1 (by decide)
  · obtain ⟨vs', o', _⟩ := h.dk.sure
    obtain ⟨cur, hc⟩ := own_obj o' e
    rw [hc] at c
    simp only [Option.some.injEq, Obj.cells.injEq] at c
    exact absurd c.2.1 (by decide)
  · obtain ⟨sv, j1, _⟩ := h.jr.ex
    rw [j1.cell] at c
    simp only [Option.some.injEq, Obj.cells.injEq] at c
    exact absurd c.2.1 (by decide)
  · obtain ⟨vs', o', _⟩ := h.jr.row
    obtain ⟨cur, hc⟩ := own_obj o' e
    rw [hc] at c
    simp only [Option.some.injEq, Obj.cells.injEq] at c
    exact absurd c.2.1 (by decide)
  · exact h.mp.no_cells c
/-- the map is none of what the journal changes -/
theorem StoD.nmb (h : StoD w S sb db jb mb Bd Bj half turn chk st rv sd rs C M n N next) : ¬ (mb = db ∨ sd.ownBlock = some mb ∨ mb = jb ∨ rv.ownBlock = some mb) := by
  rintro (rfl | e | rfl | e)
  · exact h.mp.no_cells h.dk.cell
  · obtain ⟨vs', o', _⟩ := h.dk.sure
    obtain ⟨cur, hc⟩ := own_obj o' e
    exact h.mp.no_cells hc
  · obtain ⟨sv, j1, _⟩ := h.jr.ex
    exact h.mp.no_cells j1.cell
  · obtain ⟨vs', o', _⟩ := h.jr.row
    obtain ⟨cur, hc⟩ := own_obj o' e
    exact h.mp.no_cells hc
theorem StoD.below (h : StoD w S sb db jb mb Bd Bj half turn chk st rv sd rs C M n N next) (b : Below w.heap.size w w') : StoD w' S sb db jb mb Bd Bj half turn chk st rv sd rs C M n N next :=
  ⟨h.sB.below b, h.mp.below b, h.jr.below b, h.dk.below b, h.hh, h.sep, h.sz, h.rl, h.nx, h.iff⟩
end
theorem StoA.below {w w' : World} {S : Nat → Prop} {sb : Nat} {M : Mp} {n N next : Nat} (h : StoA w S sb M n N next) (b : Below w.heap.size w w') : StoA w' S sb M n N next := by
  obtain ⟨db, jb, mb, Bd, Bj, half, turn, chk, st, rv, sd, rs, C, h⟩ := h
  exact ⟨db, jb, mb, Bd, Bj, half, turn, chk, st, rv, sd, rs, C, h.below b⟩
theorem StoA.lt {w : World} {S : Nat → Prop} {sb : Nat} {M : Mp} {n N next : Nat} (h : StoA w S sb M n N next) (i : Nat) (hi : S i) : i < w.heap.size := by
  obtain ⟨db, jb, mb, Bd, Bj, half, turn, chk, st, rv, sd, rs, C, h⟩ := h
  exact h.lt i hi
/-- what Get and Keys want -/
theorem StoA.look {w : World} {S : Nat → Prop} {sb : Nat} {M : Mp} {n N next : Nat} (h : StoA w S sb M n N next) : ∃ jb mb, StB w sb jb mb ∧ MpAt w mb M n := by
  obtain ⟨db, jb, mb, Bd, Bj, half, turn, chk, st, rv, sd, rs, C, h⟩ := h
  exact ⟨jb, mb, h.sB, h.mp⟩
end Go.Proofs.YtnophelfpoldfaaGreatDoor

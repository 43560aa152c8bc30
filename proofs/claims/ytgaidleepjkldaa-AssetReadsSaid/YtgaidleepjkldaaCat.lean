/- Appends in a region that draws its order, next to calls that make memory: the state of a growing slice of bytes. -/
import Derived.Test.YtgaidleepjkldaaTlvC
import Derived.Test.YtgaidleepjkldaaRec
import Derived.Test.YtgaidleepjkldaaCatS
import Derived.Maps.AppendAt
import Derived.Deep.AppendLies
import Derived.Deep.RegionHeld3
namespace Go.Proofs.Ytgaidleepjkldaa
open Go.RowKit

/-- a slice of bytes that grows, next to a variable in block G -/
def GrowSt (w0 : World) (G : Nat) (t : Nat) (s : Value) (w : World) (v : Value) (xs : List Nat) : Prop :=
  w.ownsRow w0.heap.size 5 1 v xs.length (nums .u8 xs) ∧ Below w0.heap.size w0 w ∧ BxR w G t s ∧ v.ownBlock ≠ some G ∧ w0.heap.size ≤ G
/-- bytes that can be read, apart from the slice v -/
def ApartSl (w : World) (v : Value) (a : Option Addr) (n c : Nat) (ys : List Nat) : Prop := Sl .u8 w a n c ys ∧ (0 < n → ∀ b off, a = some ⟨b, off, none⟩ → v.ownBlock ≠ some b)
theorem GrowSt.lt {w0 : World} {G t : Nat} {s : Value} {w : World} {v : Value} {xs : List Nat} (h : GrowSt w0 G t s w v xs) : G < w.heap.size := World.block_lt_of_cell? w _ h.2.2.1.1
theorem GrowSt.ownLt {w0 : World} {G t : Nat} {s : Value} {w : World} {v : Value} {xs : List Nat} (h : GrowSt w0 G t s w v xs) : ∀ g, v.ownBlock = some g → w0.heap.size ≤ g ∧ g < w.heap.size := by
  intro g hg
  exact h.1.lt g hg
theorem GrowSt.below {w0 : World} {G t : Nat} {s : Value} {w w' : World} {v : Value} {xs : List Nat} (h : GrowSt w0 G t s w v xs) (hb : Below w.heap.size w w') : GrowSt w0 G t s w' v xs :=
  ⟨own_below h.1 hb, h.2.1.trans (hb.mono h.2.1.size), h.2.2.1.below hb, h.2.2.2⟩
theorem GrowSt.dN {w0 : World} {G t : Nat} {s : Value} {w : World} {v : Value} {xs : List Nat} (h : GrowSt w0 G t s w v xs) (q : Nat) : GrowSt w0 G t s (w.drewN q) v xs := h.below (below_drewN (Below.refl _ _) q)
theorem GrowSt.drew {w0 : World} {G t : Nat} {s : Value} {w : World} {v : Value} {xs : List Nat} (h : GrowSt w0 G t s w v xs) : GrowSt w0 G t s w.drew v xs := h.below ((Below.refl _ _).drew)
theorem ApartSl.below {w w' : World} {v : Value} {a : Option Addr} {n c : Nat} {ys : List Nat} (h : ApartSl w v a n c ys) (hb : Below w.heap.size w w') : ApartSl w' v a n c ys := ⟨h.1.below hb, h.2⟩
/-- a call that makes bytes -/
theorem GrowSt.call {w0 : World} {G t : Nat} {s : Value} {w w' : World} {v : Value} {xs ys : List Nat} {e : Ending} (h : GrowSt w0 G t s w v xs) (hr : BytesRes w ys e w') :
    ∃ a c, e = .returned (.slice a ys.length c) ∧ GrowSt w0 G t s w' v xs ∧ ApartSl w' v a ys.length c ys ∧ Below w.heap.size w w' := by
  obtain ⟨r, rfl, hown, hb⟩ := hr
  obtain ⟨a, c, rfl, hs⟩ := SlV.of_owns hown
  refine ⟨a, c, rfl, h.below hb, ⟨hs, fun h0 b off ha hv => ?_⟩, hb⟩
  have h1 := (h.ownLt b hv).2
  subst ha
  have h2 := (hown.lt b (by
    rcases hown.2 with ⟨e, _⟩ | ⟨g, cap, cur, e, _⟩
    · simp at e
    · rfl)).1
  omega
theorem GrowSt.arg {w0 : World} {G t : Nat} {s : Value} {w : World} {v : Value} {xs : List Nat} {a : Option Addr} {n c : Nat} {ys : List Nat} (h : GrowSt w0 G t s w v xs) (hs : Sl .u8 w0 a n c ys) : ApartSl w v a n c ys := by
  refine ⟨hs.below h.2.1, fun h0 b off ha hv => ?_⟩
  obtain ⟨b', off', ha', hc⟩ := hs.opened
  have := ha' h0
  rw [ha] at this
  simp only [Option.some.injEq, Addr.mk.injEq, and_true] at this
  obtain ⟨rfl, rfl⟩ := this
  have h1 := World.block_lt_of_cell? w0 _ (hc 0 h0)
  have h2 := (h.ownLt b hv).1
  simp at h1
  omega
/-- an append -/
theorem GrowSt.grew {w0 : World} {G t : Nat} {s : Value} {w w' : World} {v v' : Value} {xs ys : List Nat} {m : Nat} (h : GrowSt w0 G t s w v xs) (hm : ys.length = m) (hown : w'.ownsRow w0.heap.size 5 1 v' (xs.length + m) (nums .u8 xs ++ nums .u8 ys)) (hg : w.grownBy w' v.ownBlock) (hv : v'.ownBlock = v.ownBlock ∨ v'.ownBlock = some w.heap.size) :
    GrowSt w0 G t s w' v' (xs ++ ys) ∧ (∀ a n c zs, ApartSl w v a n c zs → ApartSl w' v' a n c zs) := by
  have hlt := h.lt
  have cell : ∀ p : Addr, p.block < w.heap.size → v.ownBlock ≠ some p.block → w'.cell? p = w.cell? p := fun p hp hne => hg.cell_far p hp (Ne.symm hne)
  refine ⟨⟨?_, ?_, ⟨?_, ?_⟩, ?_, h.2.2.2.2⟩, fun a n c zs ⟨h1, h2⟩ => ⟨?_, fun h0 b off ha => ?_⟩⟩
  · rw [nums_append] at hown
    rw [List.length_append, hm]
    exact hown
  · exact h.2.1.grown hg h.2.1.size (fun k hk => (h.ownLt k hk).1)
  · rw [cell ⟨G, 0, none⟩ hlt h.2.2.2.1]; exact h.2.2.1.1
  · rw [cell ⟨G, 1, none⟩ hlt h.2.2.2.1]; exact h.2.2.1.2
  · rcases hv with hv | hv
    · rw [hv]; exact h.2.2.2.1
    · rw [hv]; intro e; simp at e; omega
  · have hl := h1.len
    obtain ⟨q1, q2, q3, q4, b, off, ha, hc⟩ := h1
    refine ⟨q1, q2, q3, q4, b, off, ha, fun j u hu => ?_⟩
    have hj : 0 < n := by
      have := (List.getElem?_eq_some_iff.1 hu).1
      rw [nums_length] at this; omega
    have hcu := hc j u hu
    rw [cell _ (World.block_lt_of_cell? w _ hcu) (h2 hj b off (ha hj))]
    exact hcu
  · rcases hv with hv | hv
    · rw [hv]; exact h2 h0 b off ha
    · rw [hv]
      intro e
      simp at e
      obtain ⟨b', off', ha', hc⟩ := h1.opened
      have := ha' h0
      rw [ha] at this
      simp only [Option.some.injEq, Addr.mk.injEq, and_true] at this
      obtain ⟨rfl, rfl⟩ := this
      have := World.block_lt_of_cell? w _ (hc 0 h0)
      simp at this
      omega
end Go.Proofs.Ytgaidleepjkldaa

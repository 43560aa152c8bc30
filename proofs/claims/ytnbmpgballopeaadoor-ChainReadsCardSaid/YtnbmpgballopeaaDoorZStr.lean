/- A region that draws its order, with a condition that holds till one operation has come (a store), and another behind it. -/
import Derived.OrdersHeld
import Derived.Deep.RegionHeld
import Derived.Test.YtnbmpgballopeaaDoorZVar
namespace Go.Proofs.YtnbmpgballopeaaDoor
section
variable {P : Program} {ops : Array Oper} {Q : Exit → Act → World → Prop} {md : Region.Mode} {S : Bool → World → Prop} {l : Nat}
def wpAnyX (P : Program) (md : Region.Mode) (ops : Array Oper) (Q : Exit → Act → World → Prop) (S : Bool → World → Prop) (l : Nat) : Nat → Array Bool → Act → World → Prop
 | 0, listed, a, w => Region.ready md ops listed = [] ∧ Q .normal a w
 | fuel + 1, listed, a, w =>
  (Region.ready md ops listed = [] → Q .normal a w) ∧
  ∀ i ∈ Region.ready md ops listed, wpOp P ops Q i (fun a' w' => S ((listed.setIfInBounds i true).getD l true) w' ∧ wpAnyX P md ops Q S l fuel (listed.setIfInBounds i true) a' w') a w
theorem wpAny_of_X : ∀ (fuel : Nat) (listed : Array Bool) (a : Act) (w : World), wpAnyX P md ops Q S l fuel listed a w → wpAny P md ops Q fuel listed a w
 | 0, _, _, _, h => h
 | fuel + 1, _, _, _, h => ⟨h.1, fun _ hi => wpOp_mono (fun a' w' h' => wpAny_of_X fuel _ a' w' h'.2) (h.2 _ hi)⟩
theorem wpAnyX_first {T : World → Prop} {i : Nat} {oi ol : Oper} {v : Value} (hi : ops[i]? = some oi) (hsel : ∀ (j : Nat) (o : Oper) cs b, ops[j]? = some o → o.op ≠ .select cs b)
  (hQ : ∀ c a w, Q (.panic c) (a.put oi.dst v) w → Q (.panic c) a w) (hol : ops[l]? = some ol) (hil : i ≠ l) (hT : (∀ w, S false w → T w) ∧ ((∃ e ∈ ol.after, Region.binds md e = true ∧ e.on = i) ∨ ∀ w, S true w → T w)) :
  ∀ (fuel : Nat) (listed : Array Bool) (a : Act) (w : World),
   (∀ j oj, ops[j]? = some oj → j ≠ i → listed.getD j true = false → (∀ e ∈ oj.after, Region.binds md e = true → e.on ≠ i) → oi.apart ops oj = true) →
   i ∈ Region.ready md ops listed → (listed.getD l true = false ∨ ∀ w, S true w → T w) → YieldsIf P ops T oi v a → S (listed.getD l true) w →
   wpAnyX P md ops Q S l fuel (listed.setIfInBounds i true) (a.put oi.dst v) w → wpAnyX P md ops Q S l (fuel + 1) listed a w := by
 have toT : ∀ (listed : Array Bool) w, (listed.getD l true = false ∨ ∀ w, S true w → T w) → S (listed.getD l true) w → T w := fun listed w hd hS => by
  rcases hd with e | e
  ·rw [e] at hS; exact hT.1 w hS
  ·cases hb : listed.getD l true with
   | false => rw [hb] at hS; exact hT.1 w hS
   | true => rw [hb] at hS; exact e w hS
 intro fuel
 induction fuel with
 | zero =>
  intro listed a w _ hr hd hy hS H
  refine ⟨fun h => (by rw [h] at hr; cases hr), fun j hj => ?_⟩
  by_cases hji : j = i
  ·subst hji
   exact hy.wpOp hi (toT listed w hd hS) ⟨by rw [getD_set_ne true hil]; exact hS, H⟩
  ·have := ready_mono hj hji
   rw [H.1] at this
   cases this
 | succ fuel ih =>
  intro listed a w hfree hr hd hy hS H
  refine ⟨fun h => (by rw [h] at hr; cases hr), fun j hj => ?_⟩
  by_cases hji : j = i
  ·subst hji
   exact hy.wpOp hi (toT listed w hd hS) ⟨by rw [getD_set_ne true hil]; exact hS, H⟩
  ·have h1 := H.2 j (ready_mono hj hji)
   obtain ⟨hjun, oj, hoj, hall⟩ := mem_ready.1 hj
   have hnot : ∀ e ∈ oj.after, Region.binds md e = true → e.on ≠ i := fun e he hb heq => by
    have h1 := hall e he hb
    have h0 := (mem_ready.1 hr).1
    rw [heq] at h1
    rcases Nat.lt_or_ge i listed.size with h' | h'
    ·simp [h'] at h0 h1; rw [h0] at h1; cases h1
    ·simp [Array.getElem?_eq_none h'] at h1
   have h2 := wpOp_putIf hoj (hfree j oj hoj hji hjun hnot) (fun cs b => hsel i oi cs b hi) (fun cs b => hsel j oj cs b hoj) hQ hy h1
   have hfree' : ∀ k ok, ops[k]? = some ok → k ≠ i → (listed.setIfInBounds j true).getD k true = false →
     (∀ e ∈ ok.after, Region.binds md e = true → e.on ≠ i) → oi.apart ops ok = true := fun k ok hk hki hun hno => by
    refine hfree k ok hk hki ?_ hno
    by_cases hjk : j = k
    ·subst hjk; exact hjun
    ·rw [getD_set_ne true hjk] at hun; exact hun
   have hd' : (listed.setIfInBounds j true).getD l true = false ∨ ∀ w, S true w → T w := by
    rcases hT.2 with ⟨e, he, hb, hei⟩ | h
    ·rcases hd with hd | hd
     ·refine .inl ?_
      rw [getD_set_ne true (fun ejl => ?_)]
      ·exact hd
      ·subst ejl
       rw [hol] at hoj
       cases hoj
       exact hnot e he hb hei
     ·exact .inr hd
    ·exact .inr h
   have hl2 : ((listed.setIfInBounds i true).setIfInBounds j true).getD l true = (listed.setIfInBounds j true).getD l true := by
    rw [Array.setIfInBounds_comm _ _ (Ne.symm hji), getD_set_ne true hil]
   refine wpOp_mono (fun a' w' h3 => ⟨by rw [← hl2]; exact h3.2.1, ih (listed.setIfInBounds j true) a' w' hfree' (ready_mono hr (Ne.symm hji)) hd' h3.1 (by rw [← hl2]; exact h3.2.1) ?_⟩) h2
   rw [Array.setIfInBounds_comm _ _ hji]
   exact h3.2.2
theorem wpAnyX_takeE {i : Nat} {oi ol : Oper} {v : Value} {fuel : Nat} {listed : Array Bool} {a : Act} {w : World} (hi : ops[i]? = some oi)
  (hs : Region.noSelect ops = true) (hf : Region.free md ops listed i = true) (hr : (Region.ready md ops listed).contains i = true)
  (hQ : ∀ c a w, Q (.panic c) (a.put oi.dst v) w → Q (.panic c) a w) (hol : ops[l]? = some ol) (hil : (i == l) = false) (he : ol.after.any (fun e => Region.binds md e && e.on == i) = true) (hb : listed.getD l true = false) (hy : YieldsIf P ops (S false) oi v a) (hS : S false w)
  (h : wpAnyX P md ops Q S l fuel (listed.setIfInBounds i true) (a.put oi.dst v) w) : wpAnyX P md ops Q S l (fuel + 1) listed a w := by
 obtain ⟨k, hk, hk2⟩ := Array.any_eq_true.1 he
 rw [Bool.and_eq_true, beq_iff_eq] at hk2
 exact wpAnyX_first (T := S false) hi (Region.noSelect_spec hs) hQ hol (by simpa using hil) ⟨fun _ h => h, .inl ⟨_, Array.getElem_mem hk, hk2.1, hk2.2⟩⟩ fuel listed a w (Region.free_spec hi hf) (by simpa using hr) (.inl hb) hy (by rw [hb]; exact hS) h
theorem wpAnyX_takeA {i : Nat} {oi ol : Oper} {v : Value} {fuel : Nat} {listed : Array Bool} {a : Act} {w : World} {b : Bool} (hi : ops[i]? = some oi)
  (hs : Region.noSelect ops = true) (hf : Region.free md ops listed i = true) (hr : (Region.ready md ops listed).contains i = true)
  (hQ : ∀ c a w, Q (.panic c) (a.put oi.dst v) w → Q (.panic c) a w) (hol : ops[l]? = some ol) (hil : (i == l) = false) (hm : ∀ w, S false w → S true w) (hb : listed.getD l true = b) (hy : YieldsIf P ops (S true) oi v a) (hS : S b w)
  (h : wpAnyX P md ops Q S l fuel (listed.setIfInBounds i true) (a.put oi.dst v) w) : wpAnyX P md ops Q S l (fuel + 1) listed a w :=
 wpAnyX_first (T := S true) hi (Region.noSelect_spec hs) hQ hol (by simpa using hil) ⟨hm, .inr (fun _ h => h)⟩ fuel listed a w (Region.free_spec hi hf) (by simpa using hr) (.inr (fun _ h => h)) hy (by rw [hb]; exact hS) h
theorem tkE {i : Nat} {oi ol : Oper} {v : Value} {fuel : Nat} {listed : Array Bool} {a : Act} {w : World} (hy : YieldsIf P ops (S false) oi v a) (hS : S false w)
  (h : wpAnyX P md ops Q S l fuel (listed.setIfInBounds i true) (a.put oi.dst v) w) (hi : ops[i]? = some oi := by rfl) (hs : Region.noSelect ops = true := by kernel_rfl) (hf : Region.free md ops listed i = true := by kernel_rfl) (hr : (Region.ready md ops listed).contains i = true := by kernel_rfl)
  (hQ : ∀ c a w, Q (.panic c) (a.put oi.dst v) w → Q (.panic c) a w := by exact fun _ _ _ h => h) (hol : ops[l]? = some ol := by rfl) (hil : (i == l) = false := by kernel_rfl) (he : ol.after.any (fun e => Region.binds md e && e.on == i) = true := by kernel_rfl) (hb : listed.getD l true = false := by kernel_rfl) : wpAnyX P md ops Q S l (fuel + 1) listed a w :=
 wpAnyX_takeE hi hs hf hr hQ hol hil he hb hy hS h
theorem tkA {i : Nat} {oi ol : Oper} {v : Value} {fuel : Nat} {listed : Array Bool} {a : Act} {w : World} {b : Bool} (hy : YieldsIf P ops (S true) oi v a) (hS : S b w)
  (h : wpAnyX P md ops Q S l fuel (listed.setIfInBounds i true) (a.put oi.dst v) w) (hi : ops[i]? = some oi := by rfl) (hs : Region.noSelect ops = true := by kernel_rfl) (hf : Region.free md ops listed i = true := by kernel_rfl) (hr : (Region.ready md ops listed).contains i = true := by kernel_rfl)
  (hQ : ∀ c a w, Q (.panic c) (a.put oi.dst v) w → Q (.panic c) a w := by exact fun _ _ _ h => h) (hol : ops[l]? = some ol := by rfl) (hil : (i == l) = false := by kernel_rfl) (hm : ∀ w, S false w → S true w := by exact fun _ h => ⟨h.1, nofun⟩) (hb : listed.getD l true = b := by kernel_rfl) : wpAnyX P md ops Q S l (fuel + 1) listed a w :=
 wpAnyX_takeA hi hs hf hr hQ hol hil hm hb hy hS h
def AllReadyX (P : Program) (md : Region.Mode) (ops : Array Oper) (Q : Exit → Act → World → Prop) (S : Bool → World → Prop) (l : Nat) (fuel : Nat) (listed : Array Bool) (a : Act) (w : World) (rs : List Nat) : Prop :=
 ∀ i ∈ rs, wpOp P ops Q i (fun a' w' => S ((listed.setIfInBounds i true).getD l true) w' ∧ wpAnyX P md ops Q S l fuel (listed.setIfInBounds i true) a' w') a w
theorem AllReadyX.nil {fuel : Nat} {listed : Array Bool} {a : Act} {w : World} : AllReadyX P md ops Q S l fuel listed a w [] := fun _ h => by cases h
theorem AllReadyX.cons {fuel : Nat} {listed : Array Bool} {a : Act} {w : World} {i : Nat} {o : Oper} {rs : List Nat} {b : Bool} (ho : ops[i]? = some o) (hb : (listed.setIfInBounds i true).getD l true = b)
  (h : ∀ K' : Act → World → Prop, Shut (∀ a w, S b w → (S b w → wpAnyX P md ops Q S l fuel (listed.setIfInBounds i true) a w) → K' a w) → if Region.wanted o (yielded ops a.tmps) = true then Oper.wp P o a w K' Q else K' (a.put o.dst undef) w)
  (hs : AllReadyX P md ops Q S l fuel listed a w rs) : AllReadyX P md ops Q S l fuel listed a w (i :: rs) := fun j hj => by
 rcases List.mem_cons.1 hj with rfl | hj
 ·refine wpOp_step ho (fun K' hK => h K' (fun a w hS hW => hK a w ⟨?_, hW hS⟩))
  rw [hb]; exact hS
 ·exact hs j hj
theorem wpAnyX_ready {rs : List Nat} {fuel : Nat} {listed : Array Bool} {a : Act} {w : World} (hr : Region.ready md ops listed = rs) (hne : rs ≠ [])
  (h : AllReadyX P md ops Q S l fuel listed a w rs) : wpAnyX P md ops Q S l (fuel + 1) listed a w := ⟨fun h0 => absurd (hr ▸ h0) hne, hr ▸ h⟩
theorem wpAnyX_done {listed : Array Bool} {a : Act} {w : World} (hr : Region.ready md ops listed = []) (h : Q .normal a w) : ∀ fuel, wpAnyX P md ops Q S l fuel listed a w
 | 0 => ⟨hr, h⟩
 | _ + 1 => ⟨fun _ => h, by rw [hr]; simp⟩
theorem wp_region_X {id : Nat} {a : Act} {w : World} (hm : P.follows .mixedOrders = true) (hS : S false w.drew)
  (h : S false w.drew → wpAnyX P .any ops Q S l ops.size (Array.replicate ops.size false) a w.drew) : (Code.region id ops true).wp P Q a w :=
 wp_region_any hm (wpAny_of_X _ _ _ _ (h hS))
end
end Go.Proofs.YtnbmpgballopeaaDoor
/- In a region that draws its order the condition on worlds may be made stronger midway. -/
namespace Go.Proofs.YtnbmpgballopeaaDoor
open Go.RowKit
theorem wpAnyX_strong {P : Program} {md : Region.Mode} {ops : Array Oper} {Q : Exit → Act → World → Prop} {S T : Bool → World → Prop} {l : Nat} (h : ∀ b w, T b w → S b w) : ∀ (fuel : Nat) (listed : Array Bool) (a : Act) (w : World), wpAnyX P md ops Q T l fuel listed a w → wpAnyX P md ops Q S l fuel listed a w
 | 0, _, _, _, k => k
 | fuel + 1, _, _, _, k => ⟨k.1, fun i hi => wpOp_mono (fun a' w' x => ⟨h _ w' x.1, wpAnyX_strong h fuel _ a' w' x.2⟩) (k.2 i hi)⟩
end Go.Proofs.YtnbmpgballopeaaDoor

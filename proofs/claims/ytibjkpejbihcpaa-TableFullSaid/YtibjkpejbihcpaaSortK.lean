/- Rows of elements of k cells: as the sort holds them, and as a slice reads. -/
import Derived.Shelf.SlSortCmp.WholeK
import Derived.Test.YtibjkpejbihcpaaMem
namespace Go.Proofs.Ytibjkpejbihcpaa
open Go.RowKit

theorem flat_at {α : Type} {enc : α → List Value} {k : Nat} (hk : ∀ x, (enc x).length = k) (k0 : 0 < k) : ∀ (l : List α) (t : Nat), (l.flatMap enc)[t]? = (l[t / k]?).bind (fun x => (enc x)[t % k]?)
  | [], t => by simp
  | x :: r, t => by
    rw [List.flatMap_cons]
    by_cases h : t < k
    · rw [List.getElem?_append_left (by rw [hk]; exact h), Nat.div_eq_of_lt h, Nat.mod_eq_of_lt h]
      rfl
    · have e : t = k + (t - k) := by omega
      rw [List.getElem?_append_right (by rw [hk]; omega), hk, flat_at hk k0 r (t - k)]
      rw [show t / k = (t - k) / k + 1 by rw [Nat.div_eq_sub_div k0 (by omega)], show t % k = (t - k) % k by rw [Nat.mod_eq_sub_mod (by omega)]]
      rfl
theorem flat_len {α : Type} {enc : α → List Value} {k : Nat} (hk : ∀ x, (enc x).length = k) : ∀ (l : List α), (l.flatMap enc).length = l.length * k
  | [] => by simp
  | x :: r => by rw [List.flatMap_cons, List.length_append, flat_len hk r, hk, List.length_cons, Nat.add_mul]; omega
section
variable {α : Type} [Inhabited α] {enc : α → List Value} {k : Nat}
theorem flatK_list (hk : ∀ x, (enc x).length = k) (k0 : 0 < k) (d : Array α) : (Go.Sort.flatK enc k d).toList = d.toList.flatMap enc := by
  apply List.ext_getElem?
  intro t
  rw [flat_at hk k0]
  by_cases ht : t < d.size * k
  · have h1 : (Go.Sort.flatK enc k d).toList[t]? = some ((Go.Sort.flatK enc k d)[t]!) := by
      rw [Array.getElem?_toList, Array.getElem?_eq_getElem (by simpa using ht), getElem!_pos _ _ (by simpa using ht)]
    have hd : t / k < d.size := (Nat.div_lt_iff_lt_mul k0).2 ht
    have hm : t % k < (enc d[t / k]!).length := by rw [hk]; exact Nat.mod_lt _ k0
    rw [h1, Go.Sort.get_flatK _ _ _ _ ht, Array.getElem?_toList, Array.getElem?_eq_getElem hd, Option.bind_some, show d[t / k] = d[t / k]! from (getElem!_pos d _ hd).symm, List.getElem?_eq_getElem hm, getElem!_pos (enc d[t / k]!) _ hm]
  · have h1 : (Go.Sort.flatK enc k d).toList.length ≤ t := by simp; omega
    have hd : d.size ≤ t / k := (Nat.le_div_iff_mul_le k0).2 (by omega)
    rw [List.getElem?_eq_none h1, Array.getElem?_toList, Array.getElem?_eq_none hd]
    rfl
theorem holdsK_of_own (hk : ∀ x, (enc x).length = k) (k0 : 0 < k) {w : World} {B g n cap : Nat} {e : TypeId} {d : Array α} (h : w.ownsRow B e k (.slice (some ⟨g, 0, none⟩) n cap) n (d.toList.flatMap enc)) : Go.Sort.HoldsK enc k w g 0 d := by
  intro j hj
  rw [Go.Sort.size_flatK] at hj
  rcases h.2 with ⟨h', _⟩ | ⟨g', cap', cur, h', hB, hg, hn, hm, hs, ht⟩
  · simp at h'
  · simp only [Value.slice.injEq, Option.some.injEq, Addr.mk.injEq, and_true, true_and] at h'
    obtain ⟨rfl, rfl⟩ := h'
    refine ⟨?_, by rw [Nat.zero_add]; exact frozen_of_row _ _ _ _ _ hg⟩
    have h1 := h.cells (g := g) rfl j ((Go.Sort.flatK enc k d)[j]!) (by
      rw [← flatK_list hk k0, Array.getElem?_toList, Array.getElem?_eq_getElem (by simpa using hj), getElem!_pos _ _ (by simpa using hj)])
    have hadd : (⟨g, 0, none⟩ : Addr).add j = ⟨g, 0 + j, none⟩ := by unfold Addr.add; split <;> simp_all
    rw [hadd] at h1
    exact h1
theorem sorted_rd (hk : ∀ x, (enc x).length = k) (k0 : 0 < k) {w : World} {g n cap m : Nat} {d d' : Array α} {os : Array Obj} (hg : g < w.heap.size) (h : Go.Sort.HoldsK enc k w g 0 d) (hs : d'.size = d.size) (hn : d.size = n) (hc : n ≤ cap) (hm : cap ≤ maxLen) :
    Rd (sortWorldK enc k w g 0 m d' os) k (some ⟨g, 0, none⟩) n cap (d'.toList.flatMap enc) := by
  have H := holdsK_sortWorldK enc k w g 0 m d d' os hg h hs
  refine ⟨by rw [flat_len hk, Array.length_toList, hs, hn], hc, hm, by simp, g, 0, fun _ => rfl, fun j u hu => ?_⟩
  have hj : j < (Go.Sort.flatK enc k d').size := by
    rw [← flatK_list hk k0] at hu
    have := (List.getElem?_eq_some_iff.1 hu).1
    simpa using this
  have := (H j hj).1
  rw [this, getElem!_pos (Go.Sort.flatK enc k d') _ hj]
  rw [← flatK_list hk k0, Array.getElem?_toList, Array.getElem?_eq_getElem hj] at hu
  exact hu
theorem sorted_far {w : World} {g m : Nat} {d' : Array α} {os : Array Obj} : Far g w (sortWorldK enc k w g 0 m d' os) := by
  refine ⟨rfl, rfl, rfl, ?_, fun i hi hne => ?_⟩
  · simp [sortWorldK, Go.Sort.putRowK, Go.Sort.grow]
  · have h1 : i < (Go.Sort.putRowK enc k (Go.Sort.ahead w m) g 0 d').heap.size := by simp [Go.Sort.putRowK]; exact hi
    unfold sortWorldK
    rw [Go.Sort.heap_grow_old _ _ h1]
    have hne' : ¬ g = i := fun e => hne (by rw [e])
    simp [Go.Sort.putRowK, Go.Sort.putRow, Go.Sort.mapBlock, Array.getElem?_modify, hne']
end
end Go.Proofs.Ytibjkpejbihcpaa

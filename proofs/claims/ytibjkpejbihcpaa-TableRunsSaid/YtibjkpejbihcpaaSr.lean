/- Rows of elements of k cells: as the sort holds them, and as a slice reads. -/
import Derived.Shelf.SlSortCmp.WholeK
import Derived.Test.YtibjkpejbihcpaaMem
import Derived.Shelf.Lay
import Derived.Ground.SlsfProg
import Derived.Test.YtibjkpejbihcpaaTab
import Derived.Test.YtibjkpejbihcpaaCmp
namespace Go.Proofs.Ytibjkpejbihcpaa
open Go.RowKit

theorem flatK_at {α : Type} {enc : α → List Value} {k : Nat} (hk : ∀ x, (enc x).length = k) (k0 : 0 < k) : ∀ (l : List α) (t : Nat), (l.flatMap enc)[t]? = (l[t / k]?).bind (fun x => (enc x)[t % k]?)
  | [], t => by simp
  | x :: r, t => by
    rw [List.flatMap_cons]
    by_cases h : t < k
    · rw [List.getElem?_append_left (by rw [hk]; exact h), Nat.div_eq_of_lt h, Nat.mod_eq_of_lt h]
      rfl
    · have e : t = k + (t - k) := by omega
      rw [List.getElem?_append_right (by rw [hk]; omega), hk, flatK_at hk k0 r (t - k)]
      rw [show t / k = (t - k) / k + 1 by rw [Nat.div_eq_sub_div k0 (by omega)], show t % k = (t - k) % k by rw [Nat.mod_eq_sub_mod (by omega)]]
      rfl
theorem flatK_len {α : Type} {enc : α → List Value} {k : Nat} (hk : ∀ x, (enc x).length = k) : ∀ (l : List α), (l.flatMap enc).length = l.length * k
  | [] => by simp
  | x :: r => by rw [List.flatMap_cons, List.length_append, flatK_len hk r, hk, List.length_cons, Nat.add_mul]; omega
section
variable {α : Type} [Inhabited α] {enc : α → List Value} {k : Nat}
theorem flatK_list (hk : ∀ x, (enc x).length = k) (k0 : 0 < k) (d : Array α) : (Go.Sort.flatK enc k d).toList = d.toList.flatMap enc := by
  apply List.ext_getElem?
  intro t
  rw [flatK_at hk k0]
  by_cases ht : t < d.size * k
  · have h1 : (Go.Sort.flatK enc k d).toList[t]? = some ((Go.Sort.flatK enc k d)[t]!) := by
      rw [Array.getElem?_toList, Array.getElem?_eq_getElem (by simpa using ht), getElem!_pos _ _ (by simpa using ht)]
    have hd : t / k < d.size := (Nat.div_lt_iff_lt_mul k0).2 ht
    have hm : t % k < (enc d[t / k]!).length := by rw [hk]; exact Nat.mod_lt _ k0
    rw [h1, Go.Sort.get_flatK _ _ _ _ ht, Array.getElem?_toList, Array.getElem?_eq_getElem hd, Option.bind_some, show d[t / k] = d[t / k]! from (getElem!_pos d _ hd).symm, List.getElem?_eq_getElem hm, getElem!_pos (enc d[t / k]!) _ hm]
  · have h1 : (Go.Sort.flatK enc k d).toList.length ≤ t := by simp; omega
    have hd : d.size ≤ t / k := (Nat.le_div_iff_mul_le k0).2 (by omega)
    rw [List.getElem?_eq_none h1, Array.getElem?_toList, Array.getElem?_eq_none hd]
    rfl
theorem holdsK_of_own (hk : ∀ x, (enc x).length = k) (k0 : 0 < k) {w : World} {B g n cap : Nat} {e : TypeId} {d : Array α} (h : w.ownsRow B e k (.slice (some ⟨g, 0, none⟩) n cap) n (d.toList.flatMap enc)) : Go.Sort.HoldsK enc k w g 0 d := by
  intro j hj
  rw [Go.Sort.size_flatK] at hj
  rcases h.2 with ⟨h', _⟩ | ⟨g', cap', cur, h', hB, hg, hn, hm, hs, ht⟩
  · simp at h'
  · simp only [Value.slice.injEq, Option.some.injEq, Addr.mk.injEq, and_true, true_and] at h'
    obtain ⟨rfl, rfl⟩ := h'
    refine ⟨?_, by rw [Nat.zero_add]; exact frozen_of_row _ _ _ _ _ hg⟩
    have h1 := h.cells (g := g) rfl j ((Go.Sort.flatK enc k d)[j]!) (by
      rw [← flatK_list hk k0, Array.getElem?_toList, Array.getElem?_eq_getElem (by simpa using hj), getElem!_pos _ _ (by simpa using hj)])
    have hadd : (⟨g, 0, none⟩ : Addr).add j = ⟨g, 0 + j, none⟩ := by unfold Addr.add; split <;> simp_all
    rw [hadd] at h1
    exact h1
theorem sorted_rd (hk : ∀ x, (enc x).length = k) (k0 : 0 < k) {w : World} {g n cap m : Nat} {d d' : Array α} {os : Array Obj} (hg : g < w.heap.size) (h : Go.Sort.HoldsK enc k w g 0 d) (hs : d'.size = d.size) (hn : d.size = n) (hc : n ≤ cap) (hm : cap ≤ maxLen) :
    Rd (sortWorldK enc k w g 0 m d' os) k (some ⟨g, 0, none⟩) n cap (d'.toList.flatMap enc) := by
  have H := holdsK_sortWorldK enc k w g 0 m d d' os hg h hs
  refine ⟨by rw [flatK_len hk, Array.length_toList, hs, hn], hc, hm, by simp, g, 0, fun _ => rfl, fun j u hu => ?_⟩
  have hj : j < (Go.Sort.flatK enc k d').size := by
    rw [← flatK_list hk k0] at hu
    have := (List.getElem?_eq_some_iff.1 hu).1
    simpa using this
  have := (H j hj).1
  rw [this, getElem!_pos (Go.Sort.flatK enc k d') _ hj]
  rw [← flatK_list hk k0, Array.getElem?_toList, Array.getElem?_eq_getElem hj] at hu
  exact hu
theorem sorted_far {w : World} {g m : Nat} {d' : Array α} {os : Array Obj} : Far g w (sortWorldK enc k w g 0 m d' os) := by
  refine ⟨rfl, rfl, rfl, ?_, fun i hi hne => ?_⟩
  · simp [sortWorldK, Go.Sort.putRowK, Go.Sort.grow]
  · have h1 : i < (Go.Sort.putRowK enc k (Go.Sort.ahead w m) g 0 d').heap.size := by simp [Go.Sort.putRowK]; exact hi
    unfold sortWorldK
    rw [Go.Sort.heap_grow_old _ _ h1]
    have hne' : ¬ g = i := fun e => hne (by rw [e])
    simp [Go.Sort.putRowK, Go.Sort.putRow, Go.Sort.mapBlock, Array.getElem?_modify, hne']
end
end Go.Proofs.Ytibjkpejbihcpaa

/- slices.SortFunc at quotes: laid. -/
namespace Go.Proofs.Ytibjkpejbihcpaa
open Go.Shelf Go.RowKit Go.Lib Go.Sort
shelf_lay_g SlLaysF0.n6 Slsf 6 at Try 37 as Try.sortQ
end Go.Proofs.Ytibjkpejbihcpaa

/- All's closure; the sort at quotes. -/
namespace Go.Proofs.Ytibjkpejbihcpaa
open Go.RowKit Go.Shelf Go.Sort

theorem sl_front {w : World} {g : Nat} {t : TypeId} {xs : List Nat} {R : List Value} (h : w.heap[g]? = some (.cells (nums .u8 xs ++ R).toArray t (0, 0))) (hl : xs.length = 32) : Sl .u8 w (some ⟨g, 0, none⟩) 32 32 xs :=
  ⟨by simp [hl], by omega, by unfold maxLen; omega, by simp, g, 0, fun _ => rfl, fun j u hj => by
    rw [Nat.zero_add, cell_of_row _ g _ _ t (0, 0) h, List.getElem?_toArray, List.getElem?_append_left (List.getElem?_eq_some_iff.1 hj).1]
    exact hj⟩
set_option maxRecDepth 100000 in
set_option maxHeartbeats 2000000 in
theorem acmp_walk (x y : Quo) (hx : x.ok) (hy : y.ok) (W : World) : Calls Try.prog 38 #[.agg x.cells.toArray, .agg y.cells.toArray] W fun e w' => e = .returned (.int .i64 (cmpBy x.no y.no)) ∧ ∃ q os', w' = grow (W.drewN q) os' := by
  have A2 := alloc2p W (.cells x.cells.toArray 43) (.cells y.cells.toArray 43)
  have s1 := hid (sl_front (R := nums .u8 x.id ++ x.tail) (by rw [← List.append_assoc]; exact A2.1) hx.nl)
  have s2 := hid (sl_front (R := nums .u8 y.id ++ y.tail) (by rw [← List.append_assoc]; exact A2.2.1) hy.nl)
  have hG := hid (show ∃ os', (W.alloc (.cells x.cells.toArray 43)).alloc (.cells y.cells.toArray 43) = grow W os' from ⟨_, by rw [alloc_eq_grow, alloc_eq_grow, grow_grow]⟩)
  clear A2 hx hy
  go_enter Try.func38, Try.ntmps38
  go_upto_region 1 with (fail)
  show Code.wp _ _ _ _ ((W.alloc (.cells x.cells.toArray 43)).alloc (.cells y.cells.toArray 43))
  generalize (W.alloc (.cells x.cells.toArray 43)).alloc (.cells y.cells.toArray 43) = w1 at *
  have C := fun (wx : World) (h1 : Sl .u8 wx (some ⟨W.heap.size, 0, none⟩) 32 32 x.no) (h2 : Sl .u8 wx (some ⟨W.heap.size + 1, 0, none⟩) 32 32 y.no) => hid ((bcmp_walk _ _ _ _ _ _ x.no y.no wx h1 h2).mono fun e w' h => (⟨h.1, h.2.symm⟩ : e = .returned (.int .i64 (cmpBy x.no y.no)) ∧ wx = w'))
  go_quiet ((go_at_call 27; exact quiet_same (C _ (s1.out.below (below_drewN (Below.refl _ _) _)) (s2.out.below (below_drewN (Below.refl _ _) _))).out))
  obtain ⟨os', hw⟩ := hG.out
  subst hw
  go_wp2
  go_ret
  exact ⟨rfl, _, os', rfl⟩
end Go.Proofs.Ytibjkpejbihcpaa

/- slices.SortFunc at quotes. -/
namespace Go.Proofs.Ytibjkpejbihcpaa
open Go.RowKit Go.Shelf Go.Sort

theorem cb_cases (a b : UInt8) (r1 r2 : List UInt8) : (a.toNat < b.toNat ∧ Lib.compareBytes (a :: r1) (b :: r2) = -1) ∨ (b.toNat < a.toNat ∧ Lib.compareBytes (a :: r1) (b :: r2) = 1) ∨ (a.toNat = b.toNat ∧ Lib.compareBytes (a :: r1) (b :: r2) = Lib.compareBytes r1 r2) := by
  unfold Lib.compareBytes
  by_cases h1 : a < b
  · exact .inl ⟨UInt8.lt_iff_toNat_lt.1 h1, by rw [if_pos h1]⟩
  · by_cases h2 : b < a
    · exact .inr (.inl ⟨UInt8.lt_iff_toNat_lt.1 h2, by rw [if_neg h1, if_pos h2]⟩)
    · rw [UInt8.lt_iff_toNat_lt] at h1 h2
      refine .inr (.inr ⟨by omega, ?_⟩)
      rw [if_neg (by rw [UInt8.lt_iff_toNat_lt]; exact h1), if_neg (by rw [UInt8.lt_iff_toNat_lt]; exact h2)]
      cases r1 <;> cases r2 <;> rfl
theorem cb_self (l : List UInt8) : Lib.compareBytes l l = 0 := by
  induction l with
  | nil => rfl
  | cons a r ih =>
    rcases cb_cases a a r r with ⟨h, _⟩ | ⟨h, _⟩ | ⟨_, h⟩
    · omega
    · omega
    · rw [h, ih]
theorem cb_trans : ∀ a b c : List UInt8, Lib.compareBytes a b < 0 → Lib.compareBytes b c < 0 → Lib.compareBytes a c < 0 := by
  intro a
  induction a with
  | nil =>
    intro b c h1 h2
    cases c with
    | nil => cases b <;> simp [Lib.compareBytes] at h1 h2
    | cons z r3 => simp [Lib.compareBytes]
  | cons x r1 ih =>
    intro b c h1 h2
    cases b with
    | nil => simp [Lib.compareBytes] at h1
    | cons y r2 =>
      cases c with
      | nil => simp [Lib.compareBytes] at h2
      | cons z r3 =>
        rcases cb_cases x y r1 r2 with ⟨p, e⟩ | ⟨p, e⟩ | ⟨p, e⟩ <;> rcases cb_cases y z r2 r3 with ⟨q, f⟩ | ⟨q, f⟩ | ⟨q, f⟩ <;> rcases cb_cases x z r1 r3 with ⟨r, g⟩ | ⟨r, g⟩ | ⟨r, g⟩ <;> rw [e] at h1 <;> rw [f] at h2 <;> rw [g] <;> first | omega | exact ih _ _ h1 h2
theorem cb_ntrans : ∀ a b c : List UInt8, ¬ Lib.compareBytes a b < 0 → ¬ Lib.compareBytes b c < 0 → ¬ Lib.compareBytes a c < 0 := by
  intro a
  induction a with
  | nil =>
    intro b c h1 h2
    cases c with
    | nil => simp [Lib.compareBytes]
    | cons z r3 => cases b <;> simp [Lib.compareBytes] at h1 h2
  | cons x r1 ih =>
    intro b c h1 h2
    cases c with
    | nil => simp [Lib.compareBytes]
    | cons z r3 =>
      cases b with
      | nil => simp [Lib.compareBytes] at h2
      | cons y r2 =>
        rcases cb_cases x y r1 r2 with ⟨p, e⟩ | ⟨p, e⟩ | ⟨p, e⟩ <;> rcases cb_cases y z r2 r3 with ⟨q, f⟩ | ⟨q, f⟩ | ⟨q, f⟩ <;> rcases cb_cases x z r1 r3 with ⟨r, g⟩ | ⟨r, g⟩ | ⟨r, g⟩ <;> rw [e] at h1 <;> rw [f] at h2 <;> rw [g] <;> first | omega | exact ih _ _ h1 h2
def OQuo := { q : Quo // q.ok }
instance : Inhabited OQuo := ⟨⟨qz, qz_ok⟩⟩
def OQuo.cells (x : OQuo) : List Value := x.1.cells
def cfQ (x y : OQuo) : Int := cmpBy x.1.no y.1.no
theorem swoQ : SWO (ltOf cfQ) where
  irrefl x := by simp [ltOf, cfQ, cmpBy, cb_self]
  trans x y z h1 h2 := by
    exact decide_eq_true (cb_trans _ _ _ (of_decide_eq_true h1) (of_decide_eq_true h2))
  ntrans x y z h1 h2 := by
    exact decide_eq_false (cb_ntrans _ _ _ (of_decide_eq_false h1) (of_decide_eq_false h2))
theorem isAggQ (w : World) : (isAgg 43).run Try.prog w = .ok true w := by kernel_rfl
theorem sizeOfQ (w : World) : (sizeOf 43).run Try.prog w = .ok 71 w := by kernel_rfl
theorem cmpLaysQ (blk off size : Nat) (w : World) : CmpLays Try.prog 38 #[] OQuo.cells 71 cfQ blk off size w :=
  fun _ _ _ _ x y => acmp_walk x.1 y.1 x.2 y.2 _
/-- the sort, at any length -/
theorem sortQ_walk (blk off cap : Nat) (d : Array OQuo) (w : World) (hH : HoldsK OQuo.cells 71 w blk off d) (hblk : blk < w.heap.size) (hsz : d.size < 4611686018427387904) :
    Calls Try.prog 37 #[.slice (some ⟨blk, off, none⟩) d.size cap, .func (.func 38) #[] #[]] w
      fun e w' => e = .returned (.tuple #[]) ∧ ∃ d' n os, PermIn 0 d.size d d' ∧ SortedIn (ltOf cfQ) 0 d.size d' ∧ w' = sortWorldK OQuo.cells 71 w blk off n d' os := by
  have eg : ∀ args w, (callFunc 38 args).run Try.prog w = .ok (.enter 38 args) w := enters_of Try.func38 (by kernel_rfl) rfl
  exact AnyQ.slices_SortFunc Try.sortQ 71 isAggQ sizeOfQ OQuo.cells (fun x => Quo.len x.2) (fun x v hv => Quo.one x.1 v hv) cfQ swoQ 38 #[] blk off cap d w eg (cmpLaysQ blk off d.size w) hH hblk hsz
end Go.Proofs.Ytibjkpejbihcpaa

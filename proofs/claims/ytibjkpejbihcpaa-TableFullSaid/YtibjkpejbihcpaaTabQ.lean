/- All's closure; the sort at quotes. -/
import Derived.Test.YtibjkpejbihcpaaSort
import Derived.Test.YtibjkpejbihcpaaCmp
namespace Go.Proofs.Ytibjkpejbihcpaa
open Go.RowKit Go.Shelf Go.Sort

theorem sl_front {w : World} {g : Nat} {t : TypeId} {xs : List Nat} {R : List Value} (h : w.heap[g]? = some (.cells (nums .u8 xs ++ R).toArray t (0, 0))) (hl : xs.length = 32) : Sl .u8 w (some ⟨g, 0, none⟩) 32 32 xs :=
  ⟨by simp [hl], by omega, by unfold maxLen; omega, by simp, g, 0, fun _ => rfl, fun j u hj => by
    rw [Nat.zero_add, cell_of_row _ g _ _ t (0, 0) h, List.getElem?_toArray, List.getElem?_append_left (List.getElem?_eq_some_iff.1 hj).1]
    exact hj⟩
set_option maxRecDepth 100000 in
set_option maxHeartbeats 2000000 in
theorem acmp_walk (x y : Quo) (hx : x.ok) (hy : y.ok) (W : World) : Calls Try.prog 38 #[.agg x.cells.toArray, .agg y.cells.toArray] W fun e w' => e = .returned (.int .i64 (cmpBy x.no y.no)) ∧ ∃ q os', w' = grow (W.drewN q) os' := by
  have A2 := alloc2p W (.cells x.cells.toArray 43) (.cells y.cells.toArray 43)
  have s1 := hid (sl_front (R := nums .u8 x.id ++ x.tail) (by rw [← List.append_assoc]; exact A2.1) hx.nl)
  have s2 := hid (sl_front (R := nums .u8 y.id ++ y.tail) (by rw [← List.append_assoc]; exact A2.2.1) hy.nl)
  have hG := hid (show ∃ os', (W.alloc (.cells x.cells.toArray 43)).alloc (.cells y.cells.toArray 43) = grow W os' from ⟨_, by rw [alloc_eq_grow, alloc_eq_grow, grow_grow]⟩)
  clear A2 hx hy
  go_enter Try.func38, Try.ntmps38
  go_upto_region 1 with (fail)
  show Code.wp _ _ _ _ ((W.alloc (.cells x.cells.toArray 43)).alloc (.cells y.cells.toArray 43))
  generalize (W.alloc (.cells x.cells.toArray 43)).alloc (.cells y.cells.toArray 43) = w1 at *
  have C := fun (wx : World) (h1 : Sl .u8 wx (some ⟨W.heap.size, 0, none⟩) 32 32 x.no) (h2 : Sl .u8 wx (some ⟨W.heap.size + 1, 0, none⟩) 32 32 y.no) => hid ((bcmp_walk _ _ _ _ _ _ x.no y.no wx h1 h2).mono fun e w' h => (⟨h.1, h.2.symm⟩ : e = .returned (.int .i64 (cmpBy x.no y.no)) ∧ wx = w'))
  go_quiet ((go_at_call 27; exact quiet_same (C _ (s1.out.below (below_drewN (Below.refl _ _) _)) (s2.out.below (below_drewN (Below.refl _ _) _))).out))
  obtain ⟨os', hw⟩ := hG.out
  subst hw
  go_wp2
  go_ret
  exact ⟨rfl, _, os', rfl⟩
end Go.Proofs.Ytibjkpejbihcpaa

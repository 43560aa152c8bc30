/- The walks of table's open, holds and Get. Printed by wip/tab.py. -/
import Derived.Test.YtibjkpejbihcpaaTab
namespace Go.Proofs.Ytibjkpejbihcpaa
open Go.RowKit

theorem ans_cases (M : QM) (no : List Nat) (hM : ∀ x q, M x = some q → q.ok) : ∃ q kn, (M no).getD qz = q ∧ (M no).isSome = kn ∧ q.ok ∧ ((kn = false ∧ M no = none ∧ q = qz) ∨ (kn = true ∧ M no = some q)) := by
  cases h : M no with
  | none => exact ⟨qz, false, rfl, rfl, qz_ok, .inl ⟨rfl, rfl, rfl⟩⟩
  | some q => exact ⟨q, true, rfl, rfl, hM no q h, .inr ⟨rfl, rfl⟩⟩
set_option maxRecDepth 100000 in
set_option maxHeartbeats 4000000 in
theorem open_walk (tb mb n : Nat) (M : QM) (no : List Nat) (hno : EH.ok no) (w : World) (h : TabAt w tb mb M n) :
    Calls Try.prog 28 #[.pointer (some ⟨tb, 0, none⟩), .agg (nums .u8 no).toArray] w (QRes w (openS (M no))) := by
  have ZQ := zeroQ
  have hne := zQ_ne
  have unH := Try.underlying30
  have hiH : (Try.prog.info? 30).map (·.size) = some (nums .u8 no).length := by rw [nums_length, hno.1]; exact infoH
  have hz71 := hid (show (Try.prog.info? 43).map (·.size) = some zQ.size by rw [zQ_size]; exact infoQ)
  have hzo := hid (all_oneCell_toArray (Quo.one qz))
  obtain ⟨q0, kn, hg0, hk0, hq, hMq⟩ := ans_cases M no h.ok
  have hval := lookVal M no
  rw [hg0, hk0] at hval
  replace hval := hid hval
  have hq0 := hid hq
  have hq0i := hid (infoQa hq)
  have hq0l := hid (infoQl hq)
  have hq0z := hid (zQ_as hq)
  have hq0o := hid (all_oneCell_toArray (Quo.one q0))
  have HMq := hid hMq
  clear hg0 hk0 hq hMq
  have A2 := alloc2p w (.cells (nums .u8 no).toArray 30) (.cells zQ 43)
  have h1 := h.below A2.2.2.2
  have f2 := row_range A2.1
  have hR := hid A2.2.1
  have B1 := hid A2.2.2.2
  have f1 := h1.cell
  have f3 := h1.map
  clear A2 h1 h
  go_enter Try.func28, Try.ntmps28
  go_upto_region 1 with (fail)
  show Code.wp _ _ _ _ ((w.alloc (.cells (nums .u8 no).toArray 30)).alloc (.cells zQ 43))
  generalize (w.alloc (.cells (nums .u8 no).toArray 30)).alloc (.cells zQ 43) = w1 at *
  obtain ⟨K, hK⟩ : ∃ K, K = w.heap.size := ⟨_, rfl⟩
  obtain ⟨R, hR1⟩ : ∃ R, R = w.heap.size + 1 := ⟨_, rfl⟩
  rw [← hR1] at hR ⊢
  rw [← hK] at f2 ⊢
  have HR := hid (show w.heap.size ≤ R by omega)
  clear hK hR1
  have keepS : ∀ X Y : World, Below X.heap.size X Y → (X.cell? ⟨tb, 0, none⟩ = some (.map (some mb)) ∧ X.rangeAt K 0 (nums .u8 no) ∧ MapIs EH X mb (valM M) n) → (Y.cell? ⟨tb, 0, none⟩ = some (.map (some mb)) ∧ Y.rangeAt K 0 (nums .u8 no) ∧ MapIs EH Y mb (valM M) n) :=
    fun X Y hb h => ⟨cell_keep hb h.1, range_keep hb h.2.1, h.2.2.below hb⟩
  refine wp_region_held_drew (S := fun w' => w'.cell? ⟨tb, 0, none⟩ = some (.map (some mb)) ∧ w'.rangeAt K 0 (nums .u8 no) ∧ MapIs EH w' mb (valM M) n) (by kernel_rfl) (⟨f1, f2, f3⟩) (fun hHeld => ?_)
  try simp only [List.size_toArray, List.length_cons, List.length_nil, Nat.reduceAdd, Array.replicate_succ, Array.replicate_zero, List.push_toArray, List.nil_append, List.cons_append]
  refine wpAnyH_take (i := 0) (oi := { dst := some 9, op := Op.move (Operand.tmp 0), type := 27, pos := "table.go:88", after := #[], guard := none }) (v := ?v1001) rfl (by kernel_rfl) (by kernel_rfl) (by kernel_rfl) (fun _ _ _ h => h) (Or.inl ⟨by rfl, ?hy1001⟩) hHeld ?_
  case hy1001 => (intro w hSw; (try dsimp only at hSw); go_simp; (try with_reducible rfl))
  (try simp only [Act.put, List.setIfInBounds_toArray, List.set_cons_zero, List.set_cons_succ])
  refine wpAnyH_take (i := 1) (oi := { dst := some 10, op := Op.nilCheck (Operand.tmp 9), type := 0, pos := "table.go:88", after := #[{ on := 0, ground := Ground.data }], guard := none }) (v := ?v1002) rfl (by kernel_rfl) (by kernel_rfl) (by kernel_rfl) (fun _ _ _ h => h) (Or.inl ⟨by rfl, ?hy1002⟩) hHeld ?_
  case hy1002 => (intro w hSw; (try dsimp only at hSw); go_simp; (try with_reducible rfl))
  (try simp only [Act.put, List.setIfInBounds_toArray, List.set_cons_zero, List.set_cons_succ])
  refine wpAnyH_take (i := 2) (oi := { dst := some 11, op := Op.fieldAddr 67 (Operand.tmp 10) 0, type := 0, pos := "table.go:88", after := #[{ on := 1, ground := Ground.data }], guard := none }) (v := ?v1003) rfl (by kernel_rfl) (by kernel_rfl) (by kernel_rfl) (fun _ _ _ h => h) (Or.inl ⟨by rfl, ?hy1003⟩) hHeld ?_
  case hy1003 => (intro w hSw; (try dsimp only at hSw); go_simp; (try with_reducible rfl))
  (try simp only [Act.put, List.setIfInBounds_toArray, List.set_cons_zero, List.set_cons_succ])
  refine wpAnyH_take (i := 3) (oi := { dst := some 12, op := Op.load 65 (Operand.tmp 11), type := 65, pos := "table.go:88", after := #[{ on := 2, ground := Ground.data }], guard := none }) (v := ?v1004) rfl (by kernel_rfl) (by kernel_rfl) (by kernel_rfl) (fun _ _ _ h => h) (Or.inl ⟨by rfl, ?hy1004⟩) hHeld ?_
  case hy1004 => (intro w hSw; (try dsimp only at hSw); go_simp; (try with_reducible rfl))
  (try simp only [Act.put, List.setIfInBounds_toArray, List.set_cons_zero, List.set_cons_succ])
  refine' wpAnyH_take (i := 4) (oi := { dst := some 13, op := Op.load 30 (Operand.tmp 3), type := 30, pos := "table.go:88", after := #[], guard := none }) (v := _) rfl (by kernel_rfl) (by kernel_rfl) (by kernel_rfl) (fun _ _ _ h => h) (yieldsIf_load_mid (by rfl) _ _ rfl K 0 rfl (nums .u8 no) _ (fun _ h => h.2.1) unH rfl hiH) hHeld ?_
  (try simp only [Act.put, List.setIfInBounds_toArray, List.set_cons_zero, List.set_cons_succ])
  refine wpAnyH_take (i := 5) (oi := { dst := some 14, op := Op.lookup 65 (Operand.tmp 12) (Operand.tmp 13) true, type := 44, pos := "table.go:88", after := #[{ on := 3, ground := Ground.data }, { on := 4, ground := Ground.data }], guard := none }) (v := .tuple #[.agg q0.cells.toArray, .bool kn]) rfl (by kernel_rfl) (by kernel_rfl) (by kernel_rfl) (fun _ _ _ h => h) (Or.inl ⟨by rfl, fun w h => by rw [← hval.out]; exact run_look _ _ _ true rfl unMap (ZQ w) h.2.2 rfl no hno rfl⟩) hHeld ?_
  (try simp only [Act.put, List.setIfInBounds_toArray, List.set_cons_zero, List.set_cons_succ])
  refine wpAnyH_take (i := 6) (oi := { dst := some 8, op := Op.move (Operand.tmp 14), type := 44, pos := "table.go:88", after := #[{ on := 5, ground := Ground.data }], guard := none }) (v := ?v1005) rfl (by kernel_rfl) (by kernel_rfl) (by kernel_rfl) (fun _ _ _ h => h) (Or.inl ⟨by rfl, ?hy1005⟩) hHeld ?_
  case hy1005 => (intro w hSw; (try dsimp only at hSw); go_simp; (try with_reducible rfl))
  (try simp only [Act.put, List.setIfInBounds_toArray, List.set_cons_zero, List.set_cons_succ])
  refine wpAnyH_take (i := 7) (oi := { dst := some 15, op := Op.extract (Operand.tmp 8) 0, type := 43, pos := "table.go:88", after := #[{ on := 6, ground := Ground.data }], guard := none }) (v := ?v1006) rfl (by kernel_rfl) (by kernel_rfl) (by kernel_rfl) (fun _ _ _ h => h) (Or.inl ⟨by rfl, ?hy1006⟩) hHeld ?_
  case hy1006 => (intro w hSw; (try dsimp only at hSw); go_simp; (try with_reducible rfl))
  (try simp only [Act.put, List.setIfInBounds_toArray, List.set_cons_zero, List.set_cons_succ])
  refine wpAnyH_take (i := 8) (oi := { dst := some 16, op := Op.extract (Operand.tmp 8) 1, type := 4, pos := "table.go:88", after := #[{ on := 6, ground := Ground.data }, { on := 10, ground := Ground.gcOnly Departure.lateStores }], guard := none }) (v := ?v1007) rfl (by kernel_rfl) (by kernel_rfl) (by kernel_rfl) (fun _ _ _ h => h) (Or.inl ⟨by rfl, ?hy1007⟩) hHeld ?_
  case hy1007 => (intro w hSw; (try dsimp only at hSw); go_simp; (try with_reducible rfl))
  (try simp only [Act.put, List.setIfInBounds_toArray, List.set_cons_zero, List.set_cons_succ])
  refine wpAnyH_ready (rs := [9]) (by kernel_rfl) (by simp) ?_
  refine AllReadyH.cons (o := { dst := some 6, op := Op.alloc 43, type := 0, pos := "table.go:88", after := #[], guard := none }) rfl (fun K hK => ?_) ?_
  go_simp; (first | refine newZ ?_ | refine newZd ?_); intro w5 h5 b5
  refine hK.out _ _ (keepS _ _ b5.out ⟨f1, f2, f3⟩) (fun hHeld => ?_)
  clear hK K
  (try simp only [List.setIfInBounds_toArray, List.set_cons_zero, List.set_cons_succ])
  refine wpAnyH_ready (rs := [10]) (by kernel_rfl) (by simp) ?_
  refine AllReadyH.cons (o := { dst := none, op := Op.store 43 (Operand.tmp 6) (Operand.tmp 15), type := 0, pos := "table.go:88", after := #[{ on := 9, ground := Ground.data }, { on := 7, ground := Ground.data }, { on := 0, ground := Ground.phase }, { on := 1, ground := Ground.phase }, { on := 2, ground := Ground.phase }, { on := 3, ground := Ground.phase }, { on := 4, ground := Ground.phase }, { on := 5, ground := Ground.phase }, { on := 6, ground := Ground.phase }, { on := 7, ground := Ground.phase }, { on := 8, ground := Ground.textOnly Departure.lateStores }, { on := 9, ground := Ground.phase }], guard := none }) rfl (fun K hK => ?_) ?_
  rw [if_pos (by rfl)]; refine wp_store_row _ _ _ rfl _ q0.cells.toArray rfl rfl _ _ h5.out hq0i.out hq0z.out hq0o.out ?_
  refine hK.out _ _ (keepS _ _ (below_setRow b5.out (Nat.le_refl _) _) ⟨f1, f2, f3⟩) (fun hHeld => ?_)
  clear hK K
  (try simp only [List.setIfInBounds_toArray, List.set_cons_zero, List.set_cons_succ])
  refine wpAnyH_take (i := 11) (oi := { dst := some 7, op := Op.assign (Operand.tmp 16), type := 4, pos := "table.go:88", after := #[{ on := 8, ground := Ground.data }, { on := 10, ground := Ground.chain }, { on := 0, ground := Ground.phase }, { on := 1, ground := Ground.phase }, { on := 2, ground := Ground.phase }, { on := 3, ground := Ground.phase }, { on := 4, ground := Ground.phase }, { on := 5, ground := Ground.phase }, { on := 6, ground := Ground.phase }, { on := 7, ground := Ground.phase }, { on := 8, ground := Ground.phase }, { on := 9, ground := Ground.phase }, { on := 10, ground := Ground.phase }], guard := none }) (v := ?v1008) rfl (by kernel_rfl) (by kernel_rfl) (by kernel_rfl) (fun _ _ _ h => h) (Or.inl ⟨by rfl, ?hy1008⟩) hHeld ?_
  case hy1008 => (intro w hSw; (try dsimp only at hSw); go_simp; (try with_reducible rfl))
  (try simp only [Act.put, List.setIfInBounds_toArray, List.set_cons_zero, List.set_cons_succ])
  refine wpAnyH_done (by kernel_rfl) ?_ _
  rotate_left
  exact AllReadyH.nil
  exact AllReadyH.nil
  have H9 := setRow_heap w5 w1.heap.size _ q0.cells.toArray _ _ h5.out
  have L9 := below_setRow b5.out (Nat.le_refl _) q0.cells.toArray
  have HR7 := hid (heap_keep hR.out L9)
  have B7 := hid (bstep B1.out L9)
  have r9 := row_range H9
  have hRG := hid (Array.getElem?_eq_some_iff.1 hR.out).1
  clear L9 keepS hHeld b5 f1 f2 f3 h5
  generalize w5.setRow w1.heap.size q0.cells.toArray = w7 at *
  generalize w1.heap.size = G9 at *
  have c64 := gen_cell r9 (Quo.get hq0.out 0)
  have c65 := gen_cell r9 (Quo.get hq0.out 1)
  have c66 := gen_cell r9 (Quo.get hq0.out 2)
  have c69 := gen_cell r9 (Quo.get hq0.out 5)
  have c70 := gen_cell r9 (Quo.get hq0.out 6)
  rcases HMq.out with ⟨hk, hM, hqz⟩ | ⟨hk, hM⟩
  · subst hk
    have E := hid (show openS (M no) = (qz, 5) by rw [hM]; rfl)
    clear hM hqz H9
    have q1 := hid (setRow_heap _ R _ zQ _ _ HR7.out)
    have qB := hid (below_setRow B7.out HR.out zQ)
    go_wp2_with (first | refine wpList_store_row rfl _ _ _ rfl R zQ rfl rfl _ _ HR7.out hz71.out rfl hzo.out ?_)
    (try simp only [Exit.inBlock, Exit.then])
    refine bodyPost_ret (results_cell_tmp rfl _ _ R _ zQ _ _ _ rfl rfl q1.out Try.underlying43 rfl hz71.out) rfl ?_
    exact ⟨by rw [E.out]; rfl, qB.out⟩
  · subst hk
    by_cases hs : q0.st = 0
    · have E := hid (show openS (M no) = (q0, 0) by rw [hM]; exact if_pos hs)
      have ts : (q0.st != 0) = false := by simp [hs]
      clear hM hs H9
      have q1 := hid (setRow_heap _ R _ q0.cells.toArray _ _ HR7.out)
      have qB := hid (below_setRow B7.out HR.out q0.cells.toArray)
      go_wp2_with (first | refine wpList_load_mid rfl _ _ rfl G9 0 rfl q0.cells _ r9 Try.underlying43 rfl hq0l.out ?_ | refine wpList_store_row rfl _ _ _ rfl R q0.cells.toArray rfl rfl _ _ HR7.out hq0i.out hq0z.out hq0o.out ?_)
      (try simp only [Exit.inBlock, Exit.then])
      refine bodyPost_ret (results_cell_tmp rfl _ _ R _ q0.cells.toArray _ _ _ rfl rfl q1.out Try.underlying43 rfl hq0i.out) rfl ?_
      exact ⟨by rw [E.out]; rfl, qB.out⟩
    · have E := hid (show openS (M no) = (qz, 52) by rw [hM]; exact if_neg hs)
      have ts : (q0.st != 0) = true := by simp [hs]
      clear hM hs H9
      have q1 := hid (setRow_heap _ R _ zQ _ _ HR7.out)
      have qB := hid (below_setRow B7.out HR.out zQ)
      go_wp2_with (first | refine wpList_store_row rfl _ _ _ rfl R zQ rfl rfl _ _ HR7.out hz71.out rfl hzo.out ?_)
      (try simp only [Exit.inBlock, Exit.then])
      refine bodyPost_ret (results_cell_tmp rfl _ _ R _ zQ _ _ _ rfl rfl q1.out Try.underlying43 rfl hz71.out) rfl ?_
      exact ⟨by rw [E.out]; rfl, qB.out⟩
def GetQ (w : World) (o : Option Quo) (e : Ending) (w' : World) : Prop := e = .returned (.tuple #[.agg (o.getD qz).cells.toArray, .bool o.isSome]) ∧ Below w.heap.size w w'
set_option maxRecDepth 100000 in
set_option maxHeartbeats 4000000 in
theorem tget_walk (tb mb n : Nat) (M : QM) (no : List Nat) (hno : EH.ok no) (w : World) (h : TabAt w tb mb M n) :
    Calls Try.prog 16 #[.pointer (some ⟨tb, 0, none⟩), .agg (nums .u8 no).toArray] w (GetQ w (M no)) := by
  have ZQ := zeroQ
  have hne := zQ_ne
  have unH := Try.underlying30
  have hiH : (Try.prog.info? 30).map (·.size) = some (nums .u8 no).length := by rw [nums_length, hno.1]; exact infoH
  have hz71 := hid (show (Try.prog.info? 43).map (·.size) = some zQ.size by rw [zQ_size]; exact infoQ)
  have hzo := hid (all_oneCell_toArray (Quo.one qz))
  obtain ⟨q0, kn, hg0, hk0, hq, hMq⟩ := ans_cases M no h.ok
  have hval := lookVal M no
  rw [hg0, hk0] at hval
  replace hval := hid hval
  have hq0 := hid hq
  have hq0i := hid (infoQa hq)
  have hq0l := hid (infoQl hq)
  have hq0z := hid (zQ_as hq)
  have hq0o := hid (all_oneCell_toArray (Quo.one q0))
  have HMq := hid hMq
  clear hg0 hk0 hq hMq
  have A2 := alloc2p w (.cells (nums .u8 no).toArray 30) (.cells zQ 43)
  have h1 := h.below A2.2.2.2
  have f2 := row_range A2.1
  have hR := hid A2.2.1
  have B1 := hid A2.2.2.2
  have f1 := h1.cell
  have f3 := h1.map
  clear A2 h1 h
  go_enter Try.func16, Try.ntmps16
  go_upto_region 3 with (fail)
  show Code.wp _ _ _ _ ((w.alloc (.cells (nums .u8 no).toArray 30)).alloc (.cells zQ 43))
  generalize (w.alloc (.cells (nums .u8 no).toArray 30)).alloc (.cells zQ 43) = w1 at *
  obtain ⟨K, hK⟩ : ∃ K, K = w.heap.size := ⟨_, rfl⟩
  obtain ⟨R, hR1⟩ : ∃ R, R = w.heap.size + 1 := ⟨_, rfl⟩
  rw [← hR1] at hR ⊢
  rw [← hK] at f2 ⊢
  have HR := hid (show w.heap.size ≤ R by omega)
  clear hK hR1
  have keepS : ∀ X Y : World, Below X.heap.size X Y → (X.cell? ⟨tb, 0, none⟩ = some (.map (some mb)) ∧ X.rangeAt K 0 (nums .u8 no) ∧ MapIs EH X mb (valM M) n) → (Y.cell? ⟨tb, 0, none⟩ = some (.map (some mb)) ∧ Y.rangeAt K 0 (nums .u8 no) ∧ MapIs EH Y mb (valM M) n) :=
    fun X Y hb h => ⟨cell_keep hb h.1, range_keep hb h.2.1, h.2.2.below hb⟩
  refine wp_region_held_drew (S := fun w' => w'.cell? ⟨tb, 0, none⟩ = some (.map (some mb)) ∧ w'.rangeAt K 0 (nums .u8 no) ∧ MapIs EH w' mb (valM M) n) (by kernel_rfl) (⟨f1, f2, f3⟩) (fun hHeld => ?_)
  try simp only [List.size_toArray, List.length_cons, List.length_nil, Nat.reduceAdd, Array.replicate_succ, Array.replicate_zero, List.push_toArray, List.nil_append, List.cons_append]
  refine wpAnyH_take (i := 0) (oi := { dst := some 12, op := Op.move (Operand.tmp 0), type := 27, pos := "table.go:166", after := #[], guard := none }) (v := ?v2001) rfl (by kernel_rfl) (by kernel_rfl) (by kernel_rfl) (fun _ _ _ h => h) (Or.inl ⟨by rfl, ?hy2001⟩) hHeld ?_
  case hy2001 => (intro w hSw; (try dsimp only at hSw); go_simp; (try with_reducible rfl))
  (try simp only [Act.put, List.setIfInBounds_toArray, List.set_cons_zero, List.set_cons_succ])
  refine wpAnyH_take (i := 1) (oi := { dst := some 13, op := Op.nilCheck (Operand.tmp 12), type := 0, pos := "table.go:166", after := #[{ on := 0, ground := Ground.data }], guard := none }) (v := ?v2002) rfl (by kernel_rfl) (by kernel_rfl) (by kernel_rfl) (fun _ _ _ h => h) (Or.inl ⟨by rfl, ?hy2002⟩) hHeld ?_
  case hy2002 => (intro w hSw; (try dsimp only at hSw); go_simp; (try with_reducible rfl))
  (try simp only [Act.put, List.setIfInBounds_toArray, List.set_cons_zero, List.set_cons_succ])
  refine wpAnyH_take (i := 2) (oi := { dst := some 14, op := Op.fieldAddr 67 (Operand.tmp 13) 0, type := 0, pos := "table.go:166", after := #[{ on := 1, ground := Ground.data }], guard := none }) (v := ?v2003) rfl (by kernel_rfl) (by kernel_rfl) (by kernel_rfl) (fun _ _ _ h => h) (Or.inl ⟨by rfl, ?hy2003⟩) hHeld ?_
  case hy2003 => (intro w hSw; (try dsimp only at hSw); go_simp; (try with_reducible rfl))
  (try simp only [Act.put, List.setIfInBounds_toArray, List.set_cons_zero, List.set_cons_succ])
  refine wpAnyH_take (i := 3) (oi := { dst := some 15, op := Op.load 65 (Operand.tmp 14), type := 65, pos := "table.go:166", after := #[{ on := 2, ground := Ground.data }], guard := none }) (v := ?v2004) rfl (by kernel_rfl) (by kernel_rfl) (by kernel_rfl) (fun _ _ _ h => h) (Or.inl ⟨by rfl, ?hy2004⟩) hHeld ?_
  case hy2004 => (intro w hSw; (try dsimp only at hSw); go_simp; (try with_reducible rfl))
  (try simp only [Act.put, List.setIfInBounds_toArray, List.set_cons_zero, List.set_cons_succ])
  refine' wpAnyH_take (i := 4) (oi := { dst := some 16, op := Op.load 30 (Operand.tmp 3), type := 30, pos := "table.go:166", after := #[], guard := none }) (v := _) rfl (by kernel_rfl) (by kernel_rfl) (by kernel_rfl) (fun _ _ _ h => h) (yieldsIf_load_mid (by rfl) _ _ rfl K 0 rfl (nums .u8 no) _ (fun _ h => h.2.1) unH rfl hiH) hHeld ?_
  (try simp only [Act.put, List.setIfInBounds_toArray, List.set_cons_zero, List.set_cons_succ])
  refine wpAnyH_take (i := 5) (oi := { dst := some 17, op := Op.lookup 65 (Operand.tmp 15) (Operand.tmp 16) true, type := 44, pos := "table.go:166", after := #[{ on := 3, ground := Ground.data }, { on := 4, ground := Ground.data }], guard := none }) (v := .tuple #[.agg q0.cells.toArray, .bool kn]) rfl (by kernel_rfl) (by kernel_rfl) (by kernel_rfl) (fun _ _ _ h => h) (Or.inl ⟨by rfl, fun w h => by rw [← hval.out]; exact run_look _ _ _ true rfl unMap (ZQ w) h.2.2 rfl no hno rfl⟩) hHeld ?_
  (try simp only [Act.put, List.setIfInBounds_toArray, List.set_cons_zero, List.set_cons_succ])
  refine wpAnyH_take (i := 6) (oi := { dst := some 11, op := Op.move (Operand.tmp 17), type := 44, pos := "table.go:166", after := #[{ on := 5, ground := Ground.data }], guard := none }) (v := ?v2005) rfl (by kernel_rfl) (by kernel_rfl) (by kernel_rfl) (fun _ _ _ h => h) (Or.inl ⟨by rfl, ?hy2005⟩) hHeld ?_
  case hy2005 => (intro w hSw; (try dsimp only at hSw); go_simp; (try with_reducible rfl))
  (try simp only [Act.put, List.setIfInBounds_toArray, List.set_cons_zero, List.set_cons_succ])
  refine wpAnyH_take (i := 7) (oi := { dst := some 18, op := Op.extract (Operand.tmp 11) 0, type := 43, pos := "table.go:166", after := #[{ on := 6, ground := Ground.data }], guard := none }) (v := ?v2006) rfl (by kernel_rfl) (by kernel_rfl) (by kernel_rfl) (fun _ _ _ h => h) (Or.inl ⟨by rfl, ?hy2006⟩) hHeld ?_
  case hy2006 => (intro w hSw; (try dsimp only at hSw); go_simp; (try with_reducible rfl))
  (try simp only [Act.put, List.setIfInBounds_toArray, List.set_cons_zero, List.set_cons_succ])
  refine wpAnyH_take (i := 8) (oi := { dst := some 19, op := Op.extract (Operand.tmp 11) 1, type := 4, pos := "table.go:166", after := #[{ on := 6, ground := Ground.data }, { on := 10, ground := Ground.gcOnly Departure.lateStores }], guard := none }) (v := ?v2007) rfl (by kernel_rfl) (by kernel_rfl) (by kernel_rfl) (fun _ _ _ h => h) (Or.inl ⟨by rfl, ?hy2007⟩) hHeld ?_
  case hy2007 => (intro w hSw; (try dsimp only at hSw); go_simp; (try with_reducible rfl))
  (try simp only [Act.put, List.setIfInBounds_toArray, List.set_cons_zero, List.set_cons_succ])
  refine wpAnyH_ready (rs := [9]) (by kernel_rfl) (by simp) ?_
  refine AllReadyH.cons (o := { dst := some 6, op := Op.alloc 43, type := 0, pos := "table.go:166", after := #[], guard := none }) rfl (fun K hK => ?_) ?_
  go_simp; (first | refine newZ ?_ | refine newZd ?_); intro w5 h5 b5
  refine hK.out _ _ (keepS _ _ b5.out ⟨f1, f2, f3⟩) (fun hHeld => ?_)
  clear hK K
  (try simp only [List.setIfInBounds_toArray, List.set_cons_zero, List.set_cons_succ])
  refine wpAnyH_ready (rs := [10]) (by kernel_rfl) (by simp) ?_
  refine AllReadyH.cons (o := { dst := none, op := Op.store 43 (Operand.tmp 6) (Operand.tmp 18), type := 0, pos := "table.go:166", after := #[{ on := 9, ground := Ground.data }, { on := 7, ground := Ground.data }, { on := 0, ground := Ground.phase }, { on := 1, ground := Ground.phase }, { on := 2, ground := Ground.phase }, { on := 3, ground := Ground.phase }, { on := 4, ground := Ground.phase }, { on := 5, ground := Ground.phase }, { on := 6, ground := Ground.phase }, { on := 7, ground := Ground.phase }, { on := 8, ground := Ground.textOnly Departure.lateStores }, { on := 9, ground := Ground.phase }], guard := none }) rfl (fun K hK => ?_) ?_
  rw [if_pos (by rfl)]; refine wp_store_row _ _ _ rfl _ q0.cells.toArray rfl rfl _ _ h5.out hq0i.out hq0z.out hq0o.out ?_
  refine hK.out _ _ (keepS _ _ (below_setRow b5.out (Nat.le_refl _) _) ⟨f1, f2, f3⟩) (fun hHeld => ?_)
  clear hK K
  (try simp only [List.setIfInBounds_toArray, List.set_cons_zero, List.set_cons_succ])
  refine wpAnyH_take (i := 11) (oi := { dst := some 7, op := Op.assign (Operand.tmp 19), type := 4, pos := "table.go:166", after := #[{ on := 8, ground := Ground.data }, { on := 10, ground := Ground.chain }, { on := 0, ground := Ground.phase }, { on := 1, ground := Ground.phase }, { on := 2, ground := Ground.phase }, { on := 3, ground := Ground.phase }, { on := 4, ground := Ground.phase }, { on := 5, ground := Ground.phase }, { on := 6, ground := Ground.phase }, { on := 7, ground := Ground.phase }, { on := 8, ground := Ground.phase }, { on := 9, ground := Ground.phase }, { on := 10, ground := Ground.phase }], guard := none }) (v := ?v2008) rfl (by kernel_rfl) (by kernel_rfl) (by kernel_rfl) (fun _ _ _ h => h) (Or.inl ⟨by rfl, ?hy2008⟩) hHeld ?_
  case hy2008 => (intro w hSw; (try dsimp only at hSw); go_simp; (try with_reducible rfl))
  (try simp only [Act.put, List.setIfInBounds_toArray, List.set_cons_zero, List.set_cons_succ])
  refine wpAnyH_done (by kernel_rfl) ?_ _
  rotate_left
  exact AllReadyH.nil
  exact AllReadyH.nil
  have H9 := setRow_heap w5 w1.heap.size _ q0.cells.toArray _ _ h5.out
  have L9 := below_setRow b5.out (Nat.le_refl _) q0.cells.toArray
  have HR7 := hid (heap_keep hR.out L9)
  have B7 := hid (bstep B1.out L9)
  have r9 := row_range H9
  have hRG := hid (Array.getElem?_eq_some_iff.1 hR.out).1
  clear L9 keepS hHeld b5 f1 f2 f3 h5
  generalize w5.setRow w1.heap.size q0.cells.toArray = w7 at *
  generalize w1.heap.size = G9 at *
  have c64 := gen_cell r9 (Quo.get hq0.out 0)
  have c65 := gen_cell r9 (Quo.get hq0.out 1)
  have c66 := gen_cell r9 (Quo.get hq0.out 2)
  have c69 := gen_cell r9 (Quo.get hq0.out 5)
  have c70 := gen_cell r9 (Quo.get hq0.out 6)
  have E := hid (show (M no).getD qz = q0 ∧ (M no).isSome = kn by rcases HMq.out with ⟨rfl, hM, rfl⟩ | ⟨rfl, hM⟩ <;> rw [hM] <;> exact ⟨rfl, rfl⟩)
  clear H9 c64 c65 c66 c69 c70
  have q1 := hid (setRow_heap _ R _ q0.cells.toArray _ _ HR7.out)
  have qB := hid (below_setRow B7.out HR.out q0.cells.toArray)
  go_wp2_with (first | refine wpList_load_mid rfl _ _ rfl G9 0 rfl q0.cells _ r9 Try.underlying43 rfl hq0l.out ?_ | refine wpList_store_row rfl _ _ _ rfl R q0.cells.toArray rfl rfl _ _ HR7.out hq0i.out hq0z.out hq0o.out ?_)
  (try simp only [Exit.inBlock, Exit.then])
  refine bodyPost_ret (results_cell_tmp rfl _ _ R _ q0.cells.toArray _ _ _ rfl rfl q1.out Try.underlying43 rfl hq0i.out) rfl ?_
  exact ⟨by rw [E.out.1, E.out.2]; rfl, qB.out⟩
set_option maxRecDepth 100000 in
set_option maxHeartbeats 8000000 in
theorem holds_walk (tb mb n : Nat) (M : QM) (no : List Nat) (hno : EH.ok no) (ht : Int) (u : Nat) (hu : u < 18446744073709551616) (w : World) (h : TabAt w tb mb M n) :
    Calls Try.prog 41 #[.pointer (some ⟨tb, 0, none⟩), .agg (nums .u8 no).toArray, .int .i64 ht, .int .u64 u] w (QRes w (holdsS (M no) ht u)) := by
  have ZQ := zeroQ
  have hne := zQ_ne
  have unH := Try.underlying30
  have hiH : (Try.prog.info? 30).map (·.size) = some (nums .u8 no).length := by rw [nums_length, hno.1]; exact infoH
  have hz71 := hid (show (Try.prog.info? 43).map (·.size) = some zQ.size by rw [zQ_size]; exact infoQ)
  have hzo := hid (all_oneCell_toArray (Quo.one qz))
  obtain ⟨q0, kn, hg0, hk0, hq, hMq⟩ := ans_cases M no h.ok
  have hval := lookVal M no
  rw [hg0, hk0] at hval
  replace hval := hid hval
  have hq0 := hid hq
  have hq0i := hid (infoQa hq)
  have hq0l := hid (infoQl hq)
  have hq0z := hid (zQ_as hq)
  have hq0o := hid (all_oneCell_toArray (Quo.one q0))
  have HMq := hid hMq
  clear hg0 hk0 hq hMq
  have A2 := alloc2p w (.cells (nums .u8 no).toArray 30) (.cells zQ 43)
  have h1 := h.below A2.2.2.2
  have f2 := row_range A2.1
  have hR := hid A2.2.1
  have B1 := hid A2.2.2.2
  have f1 := h1.cell
  have f3 := h1.map
  clear A2 h1 h
  go_enter Try.func41, Try.ntmps41
  go_upto_region 1 with (fail)
  show Code.wp _ _ _ _ ((w.alloc (.cells (nums .u8 no).toArray 30)).alloc (.cells zQ 43))
  generalize (w.alloc (.cells (nums .u8 no).toArray 30)).alloc (.cells zQ 43) = w1 at *
  obtain ⟨K, hK⟩ : ∃ K, K = w.heap.size := ⟨_, rfl⟩
  obtain ⟨R, hR1⟩ : ∃ R, R = w.heap.size + 1 := ⟨_, rfl⟩
  rw [← hR1] at hR ⊢
  rw [← hK] at f2 ⊢
  have HR := hid (show w.heap.size ≤ R by omega)
  clear hK hR1
  have keepS : ∀ X Y : World, Below X.heap.size X Y → (X.cell? ⟨tb, 0, none⟩ = some (.map (some mb)) ∧ X.rangeAt K 0 (nums .u8 no) ∧ MapIs EH X mb (valM M) n) → (Y.cell? ⟨tb, 0, none⟩ = some (.map (some mb)) ∧ Y.rangeAt K 0 (nums .u8 no) ∧ MapIs EH Y mb (valM M) n) :=
    fun X Y hb h => ⟨cell_keep hb h.1, range_keep hb h.2.1, h.2.2.below hb⟩
  refine wp_region_held_drew (S := fun w' => w'.cell? ⟨tb, 0, none⟩ = some (.map (some mb)) ∧ w'.rangeAt K 0 (nums .u8 no) ∧ MapIs EH w' mb (valM M) n) (by kernel_rfl) (⟨f1, f2, f3⟩) (fun hHeld => ?_)
  try simp only [List.size_toArray, List.length_cons, List.length_nil, Nat.reduceAdd, Array.replicate_succ, Array.replicate_zero, List.push_toArray, List.nil_append, List.cons_append]
  refine wpAnyH_take (i := 0) (oi := { dst := some 15, op := Op.move (Operand.tmp 0), type := 27, pos := "table.go:100", after := #[], guard := none }) (v := ?v3001) rfl (by kernel_rfl) (by kernel_rfl) (by kernel_rfl) (fun _ _ _ h => h) (Or.inl ⟨by rfl, ?hy3001⟩) hHeld ?_
  case hy3001 => (intro w hSw; (try dsimp only at hSw); go_simp; (try with_reducible rfl))
  (try simp only [Act.put, List.setIfInBounds_toArray, List.set_cons_zero, List.set_cons_succ])
  refine wpAnyH_take (i := 1) (oi := { dst := some 16, op := Op.nilCheck (Operand.tmp 15), type := 0, pos := "table.go:100", after := #[{ on := 0, ground := Ground.data }], guard := none }) (v := ?v3002) rfl (by kernel_rfl) (by kernel_rfl) (by kernel_rfl) (fun _ _ _ h => h) (Or.inl ⟨by rfl, ?hy3002⟩) hHeld ?_
  case hy3002 => (intro w hSw; (try dsimp only at hSw); go_simp; (try with_reducible rfl))
  (try simp only [Act.put, List.setIfInBounds_toArray, List.set_cons_zero, List.set_cons_succ])
  refine wpAnyH_take (i := 2) (oi := { dst := some 17, op := Op.fieldAddr 67 (Operand.tmp 16) 0, type := 0, pos := "table.go:100", after := #[{ on := 1, ground := Ground.data }], guard := none }) (v := ?v3003) rfl (by kernel_rfl) (by kernel_rfl) (by kernel_rfl) (fun _ _ _ h => h) (Or.inl ⟨by rfl, ?hy3003⟩) hHeld ?_
  case hy3003 => (intro w hSw; (try dsimp only at hSw); go_simp; (try with_reducible rfl))
  (try simp only [Act.put, List.setIfInBounds_toArray, List.set_cons_zero, List.set_cons_succ])
  refine wpAnyH_take (i := 3) (oi := { dst := some 18, op := Op.load 65 (Operand.tmp 17), type := 65, pos := "table.go:100", after := #[{ on := 2, ground := Ground.data }], guard := none }) (v := ?v3004) rfl (by kernel_rfl) (by kernel_rfl) (by kernel_rfl) (fun _ _ _ h => h) (Or.inl ⟨by rfl, ?hy3004⟩) hHeld ?_
  case hy3004 => (intro w hSw; (try dsimp only at hSw); go_simp; (try with_reducible rfl))
  (try simp only [Act.put, List.setIfInBounds_toArray, List.set_cons_zero, List.set_cons_succ])
  refine' wpAnyH_take (i := 4) (oi := { dst := some 19, op := Op.load 30 (Operand.tmp 5), type := 30, pos := "table.go:100", after := #[], guard := none }) (v := _) rfl (by kernel_rfl) (by kernel_rfl) (by kernel_rfl) (fun _ _ _ h => h) (yieldsIf_load_mid (by rfl) _ _ rfl K 0 rfl (nums .u8 no) _ (fun _ h => h.2.1) unH rfl hiH) hHeld ?_
  (try simp only [Act.put, List.setIfInBounds_toArray, List.set_cons_zero, List.set_cons_succ])
  refine wpAnyH_take (i := 5) (oi := { dst := some 20, op := Op.lookup 65 (Operand.tmp 18) (Operand.tmp 19) true, type := 44, pos := "table.go:100", after := #[{ on := 3, ground := Ground.data }, { on := 4, ground := Ground.data }], guard := none }) (v := .tuple #[.agg q0.cells.toArray, .bool kn]) rfl (by kernel_rfl) (by kernel_rfl) (by kernel_rfl) (fun _ _ _ h => h) (Or.inl ⟨by rfl, fun w h => by rw [← hval.out]; exact run_look _ _ _ true rfl unMap (ZQ w) h.2.2 rfl no hno rfl⟩) hHeld ?_
  (try simp only [Act.put, List.setIfInBounds_toArray, List.set_cons_zero, List.set_cons_succ])
  refine wpAnyH_take (i := 6) (oi := { dst := some 14, op := Op.move (Operand.tmp 20), type := 44, pos := "table.go:100", after := #[{ on := 5, ground := Ground.data }], guard := none }) (v := ?v3005) rfl (by kernel_rfl) (by kernel_rfl) (by kernel_rfl) (fun _ _ _ h => h) (Or.inl ⟨by rfl, ?hy3005⟩) hHeld ?_
  case hy3005 => (intro w hSw; (try dsimp only at hSw); go_simp; (try with_reducible rfl))
  (try simp only [Act.put, List.setIfInBounds_toArray, List.set_cons_zero, List.set_cons_succ])
  refine wpAnyH_take (i := 7) (oi := { dst := some 21, op := Op.extract (Operand.tmp 14) 0, type := 43, pos := "table.go:100", after := #[{ on := 6, ground := Ground.data }], guard := none }) (v := ?v3006) rfl (by kernel_rfl) (by kernel_rfl) (by kernel_rfl) (fun _ _ _ h => h) (Or.inl ⟨by rfl, ?hy3006⟩) hHeld ?_
  case hy3006 => (intro w hSw; (try dsimp only at hSw); go_simp; (try with_reducible rfl))
  (try simp only [Act.put, List.setIfInBounds_toArray, List.set_cons_zero, List.set_cons_succ])
  refine wpAnyH_take (i := 8) (oi := { dst := some 22, op := Op.extract (Operand.tmp 14) 1, type := 4, pos := "table.go:100", after := #[{ on := 6, ground := Ground.data }, { on := 10, ground := Ground.gcOnly Departure.lateStores }], guard := none }) (v := ?v3007) rfl (by kernel_rfl) (by kernel_rfl) (by kernel_rfl) (fun _ _ _ h => h) (Or.inl ⟨by rfl, ?hy3007⟩) hHeld ?_
  case hy3007 => (intro w hSw; (try dsimp only at hSw); go_simp; (try with_reducible rfl))
  (try simp only [Act.put, List.setIfInBounds_toArray, List.set_cons_zero, List.set_cons_succ])
  refine wpAnyH_ready (rs := [9]) (by kernel_rfl) (by simp) ?_
  refine AllReadyH.cons (o := { dst := some 10, op := Op.alloc 43, type := 0, pos := "table.go:100", after := #[], guard := none }) rfl (fun K hK => ?_) ?_
  go_simp; (first | refine newZ ?_ | refine newZd ?_); intro w5 h5 b5
  refine hK.out _ _ (keepS _ _ b5.out ⟨f1, f2, f3⟩) (fun hHeld => ?_)
  clear hK K
  (try simp only [List.setIfInBounds_toArray, List.set_cons_zero, List.set_cons_succ])
  refine wpAnyH_ready (rs := [10]) (by kernel_rfl) (by simp) ?_
  refine AllReadyH.cons (o := { dst := none, op := Op.store 43 (Operand.tmp 10) (Operand.tmp 21), type := 0, pos := "table.go:100", after := #[{ on := 9, ground := Ground.data }, { on := 7, ground := Ground.data }, { on := 0, ground := Ground.phase }, { on := 1, ground := Ground.phase }, { on := 2, ground := Ground.phase }, { on := 3, ground := Ground.phase }, { on := 4, ground := Ground.phase }, { on := 5, ground := Ground.phase }, { on := 6, ground := Ground.phase }, { on := 7, ground := Ground.phase }, { on := 8, ground := Ground.textOnly Departure.lateStores }, { on := 9, ground := Ground.phase }], guard := none }) rfl (fun K hK => ?_) ?_
  rw [if_pos (by rfl)]; refine wp_store_row _ _ _ rfl _ q0.cells.toArray rfl rfl _ _ h5.out hq0i.out hq0z.out hq0o.out ?_
  refine hK.out _ _ (keepS _ _ (below_setRow b5.out (Nat.le_refl _) _) ⟨f1, f2, f3⟩) (fun hHeld => ?_)
  clear hK K
  (try simp only [List.setIfInBounds_toArray, List.set_cons_zero, List.set_cons_succ])
  refine wpAnyH_take (i := 11) (oi := { dst := some 11, op := Op.assign (Operand.tmp 22), type := 4, pos := "table.go:100", after := #[{ on := 8, ground := Ground.data }, { on := 10, ground := Ground.chain }, { on := 0, ground := Ground.phase }, { on := 1, ground := Ground.phase }, { on := 2, ground := Ground.phase }, { on := 3, ground := Ground.phase }, { on := 4, ground := Ground.phase }, { on := 5, ground := Ground.phase }, { on := 6, ground := Ground.phase }, { on := 7, ground := Ground.phase }, { on := 8, ground := Ground.phase }, { on := 9, ground := Ground.phase }, { on := 10, ground := Ground.phase }], guard := none }) (v := ?v3008) rfl (by kernel_rfl) (by kernel_rfl) (by kernel_rfl) (fun _ _ _ h => h) (Or.inl ⟨by rfl, ?hy3008⟩) hHeld ?_
  case hy3008 => (intro w hSw; (try dsimp only at hSw); go_simp; (try with_reducible rfl))
  (try simp only [Act.put, List.setIfInBounds_toArray, List.set_cons_zero, List.set_cons_succ])
  refine wpAnyH_done (by kernel_rfl) ?_ _
  rotate_left
  exact AllReadyH.nil
  exact AllReadyH.nil
  have H9 := setRow_heap w5 w1.heap.size _ q0.cells.toArray _ _ h5.out
  have L9 := below_setRow b5.out (Nat.le_refl _) q0.cells.toArray
  have HR7 := hid (heap_keep hR.out L9)
  have B7 := hid (bstep B1.out L9)
  have r9 := row_range H9
  have hRG := hid (Array.getElem?_eq_some_iff.1 hR.out).1
  clear L9 keepS hHeld b5 f1 f2 f3 h5
  generalize w5.setRow w1.heap.size q0.cells.toArray = w7 at *
  generalize w1.heap.size = G9 at *
  have c64 := gen_cell r9 (Quo.get hq0.out 0)
  have c65 := gen_cell r9 (Quo.get hq0.out 1)
  have c66 := gen_cell r9 (Quo.get hq0.out 2)
  have c69 := gen_cell r9 (Quo.get hq0.out 5)
  have c70 := gen_cell r9 (Quo.get hq0.out 6)
  rcases HMq.out with ⟨hk, hM, hqz⟩ | ⟨hk, hM⟩
  · subst hk
    have E := hid (show holdsS (M no) ht u = (qz, 5) by rw [hM]; rfl)
    clear hM hqz H9
    have q1 := hid (setRow_heap _ R _ zQ _ _ HR7.out)
    have qB := hid (below_setRow B7.out HR.out zQ)
    go_wp2_with (first | refine wpList_store_row rfl _ _ _ rfl R zQ rfl rfl _ _ HR7.out hz71.out rfl hzo.out ?_)
    (try simp only [Exit.inBlock, Exit.then])
    refine bodyPost_ret (results_cell_tmp rfl _ _ R _ zQ _ _ _ rfl rfl q1.out Try.underlying43 rfl hz71.out) rfl ?_
    exact ⟨by rw [E.out]; rfl, qB.out⟩
  · subst hk
    by_cases hs : q0.st = 1
    · have ts : (q0.st != 1) = false := by simp [hs]
      by_cases hti : q0.til < ht
      · have E := hid (show holdsS (M no) ht u = (qz, 33) by rw [hM]; simp [holdsS, hs, hti])
        have tt : decide (q0.til < ht) = true := by rw [decide_eq_true_eq]; exact hti
        clear hM hs hti H9
        have q1 := hid (setRow_heap _ R _ zQ _ _ HR7.out)
        have qB := hid (below_setRow B7.out HR.out zQ)
        go_wp2_with (first | refine wpList_store_row rfl _ _ _ rfl R zQ rfl rfl _ _ HR7.out hz71.out rfl hzo.out ?_)
        (try simp only [Exit.inBlock, Exit.then])
        refine bodyPost_ret (results_cell_tmp rfl _ _ R _ zQ _ _ _ rfl rfl q1.out Try.underlying43 rfl hz71.out) rfl ?_
        exact ⟨by rw [E.out]; rfl, qB.out⟩
      · have tt : decide (q0.til < ht) = false := by rw [decide_eq_false_iff_not]; exact hti
        have AD := fun wx => hid (sadd_walk q0.used u hq0.out.sb hu wx)
        by_cases hsum : q0.used + u < 18446744073709551616
        · rw [addV_yes hsum] at AD
          by_cases hmost : q0.most < q0.used + u
          · have E := hid (show holdsS (M no) ht u = (qz, 51) by rw [hM]; simp [holdsS, hs, hti, hsum, hmost])
            have tm : decide (((q0.used + u : Nat) : Int) > (q0.most : Int)) = true := by rw [decide_eq_true_eq]; omega
            have tm2 : (q0.most : Int) < ((q0.used + u : Nat) : Int) := by omega
            generalize q0.used + u = nu at *
            clear hM hs hti hmost hsum H9
            go_wp2_with fail
            refine (AD _).out.mono ?_
            rintro e w8 ⟨rfl, rfl⟩
            have q1 := hid (setRow_heap _ R _ zQ _ _ HR7.out)
            have qB := hid (below_setRow B7.out HR.out zQ)
            go_wp2_with (first | refine wpList_store_row rfl _ _ _ rfl R zQ rfl rfl _ _ HR7.out hz71.out rfl hzo.out ?_)
            (try simp only [Exit.inBlock, Exit.then])
            refine bodyPost_ret (results_cell_tmp rfl _ _ R _ zQ _ _ _ rfl rfl q1.out Try.underlying43 rfl hz71.out) rfl ?_
            exact ⟨by rw [E.out]; rfl, qB.out⟩
          · have hq1 : Quo.ok { q0 with used := q0.used + u } := ⟨hq0.out.nl, hq0.out.nb, hq0.out.il, hq0.out.ib, hq0.out.mb, hq0.out.cb, hq0.out.ub, hsum, hq0.out.sw, hq0.out.tw⟩
            have E := hid (show holdsS (M no) ht u = ({ q0 with used := q0.used + u }, 0) by rw [hM]; simp [holdsS, hs, hti, hsum, hmost])
            have tm : ¬ (q0.most : Int) < ((q0.used + u : Nat) : Int) := by omega
            have H8 := heap_set (i := 70) (.int .u64 ((q0.used + u : Nat) : Int)) H9
            rw [show q0.cells.set 70 (.int .u64 ((q0.used + u : Nat) : Int)) = Quo.cells { q0 with used := q0.used + u } from Quo.set hq0.out 6 _] at H8
            have fz : w7.frozen? ⟨G9, 70, none⟩ = false := frozen_of_row _ _ _ _ _ H9
            have r8 := row_range H8
            have hf := Far.set (w := w7) (H := G9) (j := 70) (.int .u64 ((q0.used + u : Nat) : Int))
            have HR8 := hid ((hf.block R (Array.getElem?_eq_some_iff.1 HR7.out).1 (by simp; have := hRG.out; omega)).trans HR7.out)
            have B8 := hid (B7.out.setCell (p := ⟨G9, 70, none⟩) (show w.heap.size ≤ G9 by have := hRG.out; have := HR.out; omega) (.int .u64 ((q0.used + u : Nat) : Int)))
            have hq1i := hid (infoQa hq1)
            have hq1l := hid (infoQl hq1)
            have hq1z := hid (zQ_as hq1)
            have hq1o := hid (all_oneCell_toArray (Quo.one { q0 with used := q0.used + u }))
            have q1 := hid (setRow_heap _ R _ (Quo.cells { q0 with used := q0.used + u }).toArray _ _ HR8.out)
            have qB := hid (below_setRow B8.out HR.out (Quo.cells { q0 with used := q0.used + u }).toArray)
            clear H8 H9 hf hM hs hti hmost hsum hq1
            generalize hCS : Quo.cells { q0 with used := q0.used + u } = CS at *
            have HCS := hid hCS
            clear hCS
            generalize q0.used + u = nu at *
            go_wp2_with fail
            refine (AD _).out.mono ?_
            rintro e w8 ⟨rfl, rfl⟩
            go_wp2_with (first | refine wpList_load_mid rfl _ _ rfl G9 0 rfl CS _ r8 Try.underlying43 rfl hq1l.out ?_ | refine wpList_store_row rfl _ _ _ rfl R CS.toArray rfl rfl _ _ HR8.out hq1i.out hq1z.out hq1o.out ?_)
            (try simp only [Exit.inBlock, Exit.then])
            refine bodyPost_ret (results_cell_tmp rfl _ _ R _ CS.toArray _ _ _ rfl rfl q1.out Try.underlying43 rfl hq1i.out) rfl ?_
            exact ⟨by rw [E.out, ← HCS.out]; rfl, qB.out⟩
        · rw [addV_no hsum] at AD
          have E := hid (show holdsS (M no) ht u = (qz, 51) by rw [hM]; simp [holdsS, hs, hti, hsum])
          clear hM hs hti hsum H9
          go_wp2_with fail
          refine (AD _).out.mono ?_
          rintro e w8 ⟨rfl, rfl⟩
          have q1 := hid (setRow_heap _ R _ zQ _ _ HR7.out)
          have qB := hid (below_setRow B7.out HR.out zQ)
          go_wp2_with (first | refine wpList_store_row rfl _ _ _ rfl R zQ rfl rfl _ _ HR7.out hz71.out rfl hzo.out ?_)
          (try simp only [Exit.inBlock, Exit.then])
          refine bodyPost_ret (results_cell_tmp rfl _ _ R _ zQ _ _ _ rfl rfl q1.out Try.underlying43 rfl hz71.out) rfl ?_
          exact ⟨by rw [E.out]; rfl, qB.out⟩
    · have E := hid (show holdsS (M no) ht u = (qz, 52) by rw [hM]; simp [holdsS, hs])
      have ts : (q0.st != 1) = true := by simp [hs]
      clear hM hs H9
      have q1 := hid (setRow_heap _ R _ zQ _ _ HR7.out)
      have qB := hid (below_setRow B7.out HR.out zQ)
      go_wp2_with (first | refine wpList_store_row rfl _ _ _ rfl R zQ rfl rfl _ _ HR7.out hz71.out rfl hzo.out ?_)
      (try simp only [Exit.inBlock, Exit.then])
      refine bodyPost_ret (results_cell_tmp rfl _ _ R _ zQ _ _ _ rfl rfl q1.out Try.underlying43 rfl hz71.out) rfl ?_
      exact ⟨by rw [E.out]; rfl, qB.out⟩
end Go.Proofs.Ytibjkpejbihcpaa

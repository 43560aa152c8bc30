/- The walks of table's Accept, Undo, use, Sell, Buy. Printed by wip/tabc.py. -/
import Derived.Test.YtibjkpejbihcpaaTabB
namespace Go.Proofs.Ytibjkpejbihcpaa
open Go.RowKit

def accS (o : Option Quo) (rc ru : Nat) (til : Int) : Quo × Nat :=
  if til < 0 ∨ 1073741824 < til then (qz, 1) else if rc = 0 ∨ ru = 0 then (qz, 60) else if (openS o).2 = 0 then ({ (openS o).1 with st := 1, rc := rc, ru := ru, til := til }, 0) else openS o
set_option maxRecDepth 100000 in
set_option maxHeartbeats 8000000 in
theorem acc_walk (tb mb n : Nat) (M : QM) (no : List Nat) (hno : EH.ok no) (rc ru : Nat) (hrc : rc < 18446744073709551616) (hru : ru < 18446744073709551616) (til : Int) (htil : (Lit.int .i64 til).wf = true) (w : World) (h : TabAt w tb mb M n) :
    Calls Try.prog 11 #[.pointer (some ⟨tb, 0, none⟩), .agg (nums .u8 no).toArray, rateV rc ru, .int .i64 til] w (TRes w tb mb (resM M no (accS (M no) rc ru til)) n (accS (M no) rc ru til).2) := by
  have ZQ := zeroQ
  have hne := zQ_ne
  have unH := Try.underlying30
  have unQ := Try.underlying43
  have hiH : (Try.prog.info? 30).map (·.size) = some (nums .u8 no).length := by rw [nums_length, hno.1]; exact infoH
  have A2 := alloc2p w (.cells (nums .u8 no).toArray 30) (.cells #[.int .u64 (rc : Int), .int .u64 (ru : Int)] 24)
  have HT := hid h
  have HT1 := hid (h.below A2.2.2.2)
  have f2 := row_range A2.1
  have x0 : ((w.alloc (.cells (nums .u8 no).toArray 30)).alloc (.cells #[.int .u64 (rc : Int), .int .u64 (ru : Int)] 24)).cell? ⟨w.heap.size + 1, 0, none⟩ = some (.int .u64 (rc : Int)) := by rw [cell_of_row _ _ _ _ _ (0, 0) A2.2.1]; rfl
  have x1 : ((w.alloc (.cells (nums .u8 no).toArray 30)).alloc (.cells #[.int .u64 (rc : Int), .int .u64 (ru : Int)] 24)).cell? ⟨w.heap.size + 1, 1, none⟩ = some (.int .u64 (ru : Int)) := by rw [cell_of_row _ _ _ _ _ (0, 0) A2.2.1]; rfl
  have B1 := hid A2.2.2.2
  have hsz := hid A2.2.2.1
  have OW := fun wx hx => hid (open_walk tb mb n M no hno wx hx)
  have CW := fun wx => hid (check_walk rc ru wx)
  have hok := openS_ok (no := no) h.ok
  have hmb := hid (show mb < w.heap.size from h.map.lt)
  have hgood := hid (@openS_good (M no))
  have hacc := hid (show accS (M no) rc ru til = if til < 0 ∨ 1073741824 < til then (qz, 1) else if rc = 0 ∨ ru = 0 then (qz, 60) else if (openS (M no)).2 = 0 then ({ (openS (M no)).1 with st := 1, rc := rc, ru := ru, til := til }, 0) else openS (M no) from rfl)
  unfold QRes at OW
  unfold IntB at CW
  clear A2 h
  generalize hr : accS (M no) rc ru til = r at *
  generalize hp : openS (M no) = p at *
  clear hr hp
  obtain ⟨q0, k⟩ := p
  simp only at hok hgood hacc OW
  have hq0i := hid (infoQa hok)
  have hq0z := hid (zQ_as hok)
  have hq0o := hid (all_oneCell_toArray (Quo.one q0))
  by_cases hb : til < 0 ∨ 1073741824 < til
  · have E := hid (show r.2 = 1 by rw [hacc.out, if_pos hb])
    have F := hid (fun w' hb => res_bad (no := no) E.out (by decide) (TRes.same (w' := w') (z := 1) rfl HT.out hb))
    by_cases h0 : til < 0
    · have t0 : decide (til < 0) = true := by rw [decide_eq_true_eq]; exact h0
      clear hb h0
      go_enter Try.func11, Try.ntmps11
      go_wp2
      go_ret
      exact F.out _ B1.out
    · have t0 : decide (til < 0) = false := by rw [decide_eq_false_iff_not]; exact h0
      have t1 : decide (til > 1073741824) = true := by rw [decide_eq_true_eq]; omega
      have t2 : (1073741824 : Int) < til := by omega
      clear hb h0
      go_enter Try.func11, Try.ntmps11
      go_wp2
      go_ret
      exact F.out _ B1.out
  · have t0 : decide (til < 0) = false := by rw [decide_eq_false_iff_not]; omega
    have t1 : ¬ (1073741824 : Int) < til := by omega
    have t2 : ¬ til < 0 := by omega
    have hacc2 := hid (hacc.out.trans (if_neg hb))
    clear hacc hb
    by_cases hrr : rc = 0 ∨ ru = 0
    · have E := hid (show r.2 = 60 by rw [hacc2.out, if_pos hrr])
      have F := hid (fun w' hb => res_bad (no := no) E.out (by decide) (TRes.same (w' := w') (z := 60) rfl HT.out hb))
      have hchk : chk rc ru = 60 := if_pos hrr
      rw [hchk] at CW
      clear hrr hchk
      go_enter Try.func11, Try.ntmps11
      go_wp2_with fail
      refine (CW _).out.mono ?_
      rintro e w2 ⟨rfl, b2⟩
      have B2 := hid (bstep B1.out b2)
      go_wp2
      go_ret
      exact F.out _ B2.out
    · have hchk : chk rc ru = 0 := if_neg hrr
      rw [hchk] at CW
      have hacc3 := hid (hacc2.out.trans (if_neg hrr))
      clear hrr hchk hacc2
      go_enter Try.func11, Try.ntmps11
      go_wp2_with fail
      refine (CW _).out.mono ?_
      rintro e w1 ⟨rfl, b1⟩
      have HT2 := hid (HT1.out.below b1)
      have B2 := hid (bstep B1.out b1)
      have f2' := range_keep b1 f2
      have x0' := cell_keep b1 x0
      have x1' := cell_keep b1 x1
      have hsz1 := hid (show w.heap.size + 1 < w1.heap.size by have := b1.size; have := hsz.out; omega)
      clear f2 x0 x1 HT1 B1 b1 CW
      go_wp2_with (refine wpList_load_mid rfl _ _ rfl w.heap.size 0 rfl (nums .u8 no) _ f2' Try.underlying30 rfl hiH ?_)
      refine (OW _ HT2.out).out.mono ?_
      rintro e w2 ⟨rfl, b2⟩
      have A3 := hid (heap_alloc_new w2 (.cells zQ 43))
      have L3 := laid w2 zQ q0.cells.toArray 43
      have HT3 := hid ((HT2.out.below b2).below L3.2)
      have B3 := hid (bstep (bstep B2.out b2) L3.2)
      have f3 := range_keep L3.2 (range_keep b2 f2')
      have x0 := cell_keep L3.2 (cell_keep b2 x0')
      have x1 := cell_keep L3.2 (cell_keep b2 x1')
      have H3 := L3.1
      have hG := hid (show w.heap.size + 1 < w2.heap.size by have := b2.size; have := hsz1.out; omega)
      clear f2' x0' x1' b2 HT2 B2 OW L3
      by_cases hk : k = 0
      · obtain ⟨hM, hst⟩ := hgood.out hk
        have HGQ := hid (hacc3.out.trans (if_pos hk))
        subst hk
        have hq1 : Quo.ok { q0 with st := 1, rc := rc, ru := ru, til := til } := ⟨hok.nl, hok.nb, hok.il, hok.ib, hok.mb, hrc, hru, hok.sb, show (Lit.int .i64 1).wf = true by decide, htil⟩
        have HQ1 := hid hq1
        have hvn := hid (show (if (valM M no).isSome = true then n else n + 1) = n by unfold valM; rw [hM]; exact if_pos rfl)
        have hiC := infoQl hq1
        have hset := hid (show (((q0.cells.set 66 (.int .i64 1)).set 67 (.int .u64 (rc : Int))).set 68 (.int .u64 (ru : Int))).set 69 (.int .i64 til) = Quo.cells { q0 with st := 1, rc := rc, ru := ru, til := til } by
          rw [Quo.set hok 2]
          have e : ∀ (i : Nat) (v : Value) (L : List Value), (nums .u8 q0.no ++ nums .u8 q0.id ++ L).set (64 + i) v = nums .u8 q0.no ++ nums .u8 q0.id ++ L.set i v := fun i v L => by
            rw [List.set_append_right _ _ (by simp [hok.nl, hok.il])]; simp [hok.nl, hok.il]
          rw [e 3, e 4, e 5]
          rfl)
        clear hM hst hq1 htil
        go_wp2_with (refine wpList_store_row rfl _ _ _ rfl w2.heap.size q0.cells.toArray rfl rfl _ _ A3.out hq0i.out hq0z.out hq0o.out ?_)
        clear A3
        generalize (w2.alloc (.cells zQ 43)).setRow w2.heap.size q0.cells.toArray = w3 at *
        generalize w2.heap.size = G9 at *
        have hn2 := hid (show w.heap.size ≠ mb by have := hmb.out; omega)
        have hn3 := hid (show G9 ≠ mb by have := hmb.out; have := hG.out; omega)
        have hnt := hid (show tb ≠ G9 by have := World.block_lt_of_cell? w _ HT.out.cell; simp at this; have := hG.out; omega)
        have hnm := hid (show mb ≠ G9 by have := hmb.out; have := hG.out; omega)
        have hnkk := hid (show w.heap.size ≠ G9 by have := hG.out; omega)
        have hgw := hid (show w.heap.size ≤ G9 by have := hG.out; omega)
        obtain ⟨K2, hK2⟩ : ∃ K, K = w.heap.size + 1 := ⟨_, rfl⟩
        rw [← hK2] at x0 x1 ⊢
        have hnk := hid (show K2 ≠ G9 by have := hG.out; omega)
        obtain ⟨K, hK⟩ : ∃ K, K = w.heap.size := ⟨_, rfl⟩
        rw [← hK] at f3 hn2 hnkk ⊢
        clear hK hK2
        refine wp_region_held_drew (S := fun w' => w'.cell? ⟨K2, 0, none⟩ = some (.int .u64 (rc : Int)) ∧ w'.cell? ⟨K2, 1, none⟩ = some (.int .u64 (ru : Int))) (by kernel_rfl) (⟨x0, x1⟩) (fun hHeld => ?_)
        try simp only [List.size_toArray, List.length_cons, List.length_nil, Nat.reduceAdd, Array.replicate_succ, Array.replicate_zero, List.push_toArray, List.nil_append, List.cons_append]
        refine wpAnyH_take (i := 0) (oi := { dst := some 36, op := Op.load 24 (Operand.tmp 6), type := 24, pos := "table.go:67", after := #[{ on := 3, ground := Ground.gcOnly Departure.lateStores }], guard := none }) (v := ?v1001) rfl (by kernel_rfl) (by kernel_rfl) (by kernel_rfl) (fun _ _ _ h => h) (Or.inl ⟨by rfl, ?hy1001⟩) hHeld ?_
        case hy1001 => (intro w hSw; (try dsimp only at hSw); go_simp; (try with_reducible rfl))
        (try simp only [Act.put, List.setIfInBounds_toArray, List.set_cons_zero, List.set_cons_succ])
        refine wpAnyH_take (i := 1) (oi := { dst := some 37, op := Op.move (Operand.tmp 3), type := 3, pos := "table.go:67", after := #[{ on := 5, ground := Ground.gcOnly Departure.lateStores }], guard := none }) (v := ?v1002) rfl (by kernel_rfl) (by kernel_rfl) (by kernel_rfl) (fun _ _ _ h => h) (Or.inl ⟨by rfl, ?hy1002⟩) hHeld ?_
        case hy1002 => (intro w hSw; (try dsimp only at hSw); go_simp; (try with_reducible rfl))
        (try simp only [Act.put, List.setIfInBounds_toArray, List.set_cons_zero, List.set_cons_succ])
        refine wpAnyH_take (i := 2) (oi := { dst := some 38, op := Op.fieldAddr 43 (Operand.tmp 10) 4, type := 0, pos := "table.go:67", after := #[{ on := 0, ground := Ground.textOnly Departure.lateStores }, { on := 1, ground := Ground.textOnly Departure.lateStores }], guard := none }) (v := ?v1003) rfl (by kernel_rfl) (by kernel_rfl) (by kernel_rfl) (fun _ _ _ h => h) (Or.inl ⟨by rfl, ?hy1003⟩) hHeld ?_
        case hy1003 => (intro w hSw; (try dsimp only at hSw); go_simp; (try with_reducible rfl))
        (try simp only [Act.put, List.setIfInBounds_toArray, List.set_cons_zero, List.set_cons_succ])
        refine wpAnyH_ready (rs := [3]) (by kernel_rfl) (by simp) ?_
        refine AllReadyH.cons (o := { dst := none, op := Op.store 3 (Operand.tmp 38) (Operand.const (Value.int IntKind.i64 1)), type := 0, pos := "table.go:67", after := #[{ on := 2, ground := Ground.data }, { on := 0, ground := Ground.textOnly Departure.lateStores }, { on := 1, ground := Ground.textOnly Departure.lateStores }], guard := none }) rfl (fun K hK => ?_) ?_
        have c66 := gen_cell (row_range H3) (Quo.get hok 2); have fz : World.frozen? _ ⟨G9, 66, none⟩ = false := frozen_of_row _ _ _ _ _ H3; go_simp; (first | refine setW H3 ?_ | refine setWd H3 ?_); intro wa ha fa
        refine hK.out _ _ (⟨far_cell fa.out hHeld.1 hnk.out, far_cell fa.out hHeld.2 hnk.out⟩) (fun hHeld => ?_)
        clear hK K
        (try simp only [List.setIfInBounds_toArray, List.set_cons_zero, List.set_cons_succ])
        refine wpAnyH_take (i := 4) (oi := { dst := some 39, op := Op.fieldAddr 43 (Operand.tmp 10) 5, type := 0, pos := "table.go:67", after := #[{ on := 0, ground := Ground.phase }, { on := 1, ground := Ground.textOnly Departure.lateStores }, { on := 2, ground := Ground.phase }, { on := 3, ground := Ground.phase }], guard := none }) (v := ?v1004) rfl (by kernel_rfl) (by kernel_rfl) (by kernel_rfl) (fun _ _ _ h => h) (Or.inl ⟨by rfl, ?hy1004⟩) hHeld ?_
        case hy1004 => (intro w hSw; (try dsimp only at hSw); go_simp; (try with_reducible rfl))
        (try simp only [Act.put, List.setIfInBounds_toArray, List.set_cons_zero, List.set_cons_succ])
        refine wpAnyH_ready (rs := [5]) (by kernel_rfl) (by simp) ?_
        refine AllReadyH.cons (o := { dst := none, op := Op.store 24 (Operand.tmp 39) (Operand.tmp 36), type := 0, pos := "table.go:67", after := #[{ on := 4, ground := Ground.data }, { on := 0, ground := Ground.data }, { on := 3, ground := Ground.chain }, { on := 0, ground := Ground.phase }, { on := 1, ground := Ground.textOnly Departure.lateStores }, { on := 2, ground := Ground.phase }, { on := 3, ground := Ground.phase }], guard := none }) rfl (fun K hK => ?_) ?_
        have r6 := row_range ha.out; have c67 := gen_cell r6 ((List.getElem?_set_ne (by decide)).trans (Quo.get hok 3)); have c68 := gen_cell r6 ((List.getElem?_set_ne (by decide)).trans (Quo.get hok 4)); have z67 : World.frozen? _ ⟨G9, 67, none⟩ = false := frozen_of_row _ _ _ _ _ ha.out; have z68 : World.frozen? _ ⟨G9, 68, none⟩ = false := frozen_of_row _ _ _ _ _ ha.out; go_simp; refine setW2 ha.out ?_; intro wb hb fb
        refine hK.out _ _ (⟨far_cell fb.out hHeld.1 hnk.out, far_cell fb.out hHeld.2 hnk.out⟩) (fun hHeld => ?_)
        clear hK K
        (try simp only [List.setIfInBounds_toArray, List.set_cons_zero, List.set_cons_succ])
        refine wpAnyH_take (i := 6) (oi := { dst := some 40, op := Op.fieldAddr 43 (Operand.tmp 10) 6, type := 0, pos := "table.go:67", after := #[{ on := 0, ground := Ground.phase }, { on := 1, ground := Ground.phase }, { on := 2, ground := Ground.phase }, { on := 3, ground := Ground.phase }, { on := 4, ground := Ground.phase }, { on := 5, ground := Ground.phase }], guard := none }) (v := ?v1005) rfl (by kernel_rfl) (by kernel_rfl) (by kernel_rfl) (fun _ _ _ h => h) (Or.inl ⟨by rfl, ?hy1005⟩) hHeld ?_
        case hy1005 => (intro w hSw; (try dsimp only at hSw); go_simp; (try with_reducible rfl))
        (try simp only [Act.put, List.setIfInBounds_toArray, List.set_cons_zero, List.set_cons_succ])
        refine wpAnyH_ready (rs := [7]) (by kernel_rfl) (by simp) ?_
        refine AllReadyH.cons (o := { dst := none, op := Op.store 3 (Operand.tmp 40) (Operand.tmp 37), type := 0, pos := "table.go:67", after := #[{ on := 6, ground := Ground.data }, { on := 1, ground := Ground.data }, { on := 5, ground := Ground.chain }, { on := 0, ground := Ground.phase }, { on := 1, ground := Ground.phase }, { on := 2, ground := Ground.phase }, { on := 3, ground := Ground.phase }, { on := 4, ground := Ground.phase }, { on := 5, ground := Ground.phase }], guard := none }) rfl (fun K hK => ?_) ?_
        have r7 := row_range hb.out; have c69 := gen_cell r7 ((List.getElem?_set_ne (by decide)).trans ((List.getElem?_set_ne (by decide)).trans ((List.getElem?_set_ne (by decide)).trans (Quo.get hok 5)))); have z69 : World.frozen? _ ⟨G9, 69, none⟩ = false := frozen_of_row _ _ _ _ _ hb.out; go_simp; refine setW hb.out ?_; intro wc hc fc
        refine hK.out _ _ (⟨far_cell fc.out hHeld.1 hnk.out, far_cell fc.out hHeld.2 hnk.out⟩) (fun hHeld => ?_)
        clear hK K
        (try simp only [List.setIfInBounds_toArray, List.set_cons_zero, List.set_cons_succ])
        refine wpAnyH_done (by kernel_rfl) ?_ _
        rotate_left
        exact AllReadyH.nil
        exact AllReadyH.nil
        exact AllReadyH.nil
        have H9 := hc.out
        rw [hset.out] at H9
        have FX := hid (fa.out.trans (fb.out.trans fc.out))
        have HT9 := hid (HT3.out.far FX.out hnt.out hnm.out)
        have B9 := hid (B3.out.trans (FX.out.below hgw.out B3.out.size))
        have g2 := range_far FX.out f3 hnkk.out
        have g5 := row_range H9
        clear FX ha hb hc fa fb fc r6 r7 c66 c67 c68 c69 z67 z68 z69 fz hHeld H3 x0 x1 H9 f3 HT3 B3
        generalize hCS : Quo.cells { q0 with st := 1, rc := rc, ru := ru, til := til } = CS at *
        have HCS := hid hCS
        clear hCS
        generalize wc = w9 at *
        go_wp2_with fail
        have g1 := HT9.out.cell
        have g3 := hid HT9.out.map
        have hnb := hid (show n < maxLen by have := HT9.out.small; unfold maxLen; omega)
        have hn1 := hid HT9.out.ne
        refine wp_region_held_drew (S := fun w' => w'.cell? ⟨tb, 0, none⟩ = some (.map (some mb)) ∧ w'.rangeAt K 0 (nums .u8 no) ∧ w'.rangeAt G9 0 CS) (by kernel_rfl) (⟨g1, g2, g5⟩) (fun hHeld => ?_)
        try simp only [List.size_toArray, List.length_cons, List.length_nil, Nat.reduceAdd, Array.replicate_succ, Array.replicate_zero, List.push_toArray, List.nil_append, List.cons_append]
        refine wpAnyH_take (i := 0) (oi := { dst := some 41, op := Op.move (Operand.tmp 0), type := 27, pos := "table.go:68", after := #[], guard := none }) (v := ?v2001) rfl (by kernel_rfl) (by kernel_rfl) (by kernel_rfl) (fun _ _ _ h => h) (Or.inl ⟨by rfl, ?hy2001⟩) hHeld ?_
        case hy2001 => (intro w hSw; (try dsimp only at hSw); go_simp; (try with_reducible rfl))
        (try simp only [Act.put, List.setIfInBounds_toArray, List.set_cons_zero, List.set_cons_succ])
        refine wpAnyH_take (i := 1) (oi := { dst := some 42, op := Op.nilCheck (Operand.tmp 41), type := 0, pos := "table.go:68", after := #[{ on := 0, ground := Ground.data }], guard := none }) (v := ?v2002) rfl (by kernel_rfl) (by kernel_rfl) (by kernel_rfl) (fun _ _ _ h => h) (Or.inl ⟨by rfl, ?hy2002⟩) hHeld ?_
        case hy2002 => (intro w hSw; (try dsimp only at hSw); go_simp; (try with_reducible rfl))
        (try simp only [Act.put, List.setIfInBounds_toArray, List.set_cons_zero, List.set_cons_succ])
        refine wpAnyH_take (i := 2) (oi := { dst := some 43, op := Op.fieldAddr 67 (Operand.tmp 42) 0, type := 0, pos := "table.go:68", after := #[{ on := 1, ground := Ground.data }], guard := none }) (v := ?v2003) rfl (by kernel_rfl) (by kernel_rfl) (by kernel_rfl) (fun _ _ _ h => h) (Or.inl ⟨by rfl, ?hy2003⟩) hHeld ?_
        case hy2003 => (intro w hSw; (try dsimp only at hSw); go_simp; (try with_reducible rfl))
        (try simp only [Act.put, List.setIfInBounds_toArray, List.set_cons_zero, List.set_cons_succ])
        refine wpAnyH_take (i := 3) (oi := { dst := some 44, op := Op.load 65 (Operand.tmp 43), type := 65, pos := "table.go:68", after := #[{ on := 2, ground := Ground.data }], guard := none }) (v := ?v2004) rfl (by kernel_rfl) (by kernel_rfl) (by kernel_rfl) (fun _ _ _ h => h) (Or.inl ⟨by rfl, ?hy2004⟩) hHeld ?_
        case hy2004 => (intro w hSw; (try dsimp only at hSw); go_simp; (try with_reducible rfl))
        (try simp only [Act.put, List.setIfInBounds_toArray, List.set_cons_zero, List.set_cons_succ])
        refine' wpAnyH_take (i := 4) (oi := { dst := some 45, op := Op.load 30 (Operand.tmp 5), type := 30, pos := "table.go:68", after := #[], guard := none }) (v := _) rfl (by kernel_rfl) (by kernel_rfl) (by kernel_rfl) (fun _ _ _ h => h) (yieldsIf_load_mid (by rfl) _ _ rfl K 0 rfl (nums .u8 no) _ (fun _ h => h.2.1) unH rfl hiH) hHeld ?_
        (try simp only [Act.put, List.setIfInBounds_toArray, List.set_cons_zero, List.set_cons_succ])
        refine' wpAnyH_take (i := 5) (oi := { dst := some 46, op := Op.load 43 (Operand.tmp 10), type := 43, pos := "table.go:68", after := #[], guard := none }) (v := _) rfl (by kernel_rfl) (by kernel_rfl) (by kernel_rfl) (fun _ _ _ h => h) (yieldsIf_load_mid (by rfl) _ _ rfl G9 0 rfl CS _ (fun _ h => h.2.2) unQ rfl hiC) hHeld ?_
        (try simp only [Act.put, List.setIfInBounds_toArray, List.set_cons_zero, List.set_cons_succ])
        refine wpAnyH_ready (rs := [6]) (by kernel_rfl) (by simp) ?_
        refine AllReadyH.cons (o := { dst := none, op := Op.mapUpdate 65 (Operand.tmp 44) (Operand.tmp 45) (Operand.tmp 46), type := 0, pos := "table.go:68", after := #[{ on := 3, ground := Ground.data }, { on := 4, ground := Ground.data }, { on := 5, ground := Ground.data }, { on := 0, ground := Ground.phase }, { on := 1, ground := Ground.phase }, { on := 2, ground := Ground.phase }, { on := 3, ground := Ground.phase }, { on := 4, ground := Ground.phase }, { on := 5, ground := Ground.phase }], guard := none }) rfl (fun K hK => ?_) ?_
        rw [if_pos (by rfl)]; refine wp_put _ _ _ _ rfl unMap (g3.out.below ((Below.refl _ _).drew)) hnb.out rfl no hno rfl rfl ?_; intro w6 m6 f6
        refine hK.out _ _ (⟨far_cell f6 hHeld.1 hn1.out, range_far f6 hHeld.2.1 hn2.out, range_far f6 hHeld.2.2 hn3.out⟩) (fun hHeld => ?_)
        clear hK K
        (try simp only [List.setIfInBounds_toArray, List.set_cons_zero, List.set_cons_succ])
        refine wpAnyH_done (by kernel_rfl) ?_ _
        rotate_left
        exact AllReadyH.nil
        rw [hvn.out, ← HCS.out] at m6
        have hT6 := hid ((HT9.out.below ((Below.refl _ _).drew)).put m6 f6 HQ1.out HT9.out.small)
        have hF6 := hid ((Far.of (H := mb) (B9.out.drew)).trans f6)
        clear m6 f6 hHeld g1 g2 g5
        go_wp2
        go_ret
        exact res_good HGQ.out ⟨rfl, hT6.out, hF6.out⟩
      · have E := hid (show r.2 = k by rw [hacc3.out, if_neg hk])
        have te : ((k : Int) != 0) = true := by simp; omega
        have F := hid (res_bad (no := no) E.out hk (TRes.same (z := (k : Int)) rfl HT.out B3.out))
        clear hk H3 f3 x0 x1
        go_wp2_with (refine wpList_store_row rfl _ _ _ rfl w2.heap.size q0.cells.toArray rfl rfl _ _ A3.out hq0i.out hq0z.out hq0o.out ?_)
        go_ret
        exact F.out
def undoS (o : Option Quo) (u : Nat) : Quo × Nat := match o with | none => (qz, 5) | some q => if q.used < u then (qz, 11) else ({ q with used := q.used - u }, 0)
set_option maxRecDepth 100000 in
set_option maxHeartbeats 8000000 in
theorem undo_walk (tb mb n : Nat) (M : QM) (no : List Nat) (hno : EH.ok no) (u : Nat) (hu : u < 18446744073709551616) (w : World) (h : TabAt w tb mb M n) :
    Calls Try.prog 20 #[.pointer (some ⟨tb, 0, none⟩), .agg (nums .u8 no).toArray, .int .u64 u] w (TRes w tb mb (resM M no (undoS (M no) u)) n (undoS (M no) u).2) := by
  have ZQ := zeroQ
  have hne := zQ_ne
  have unH := Try.underlying30
  have unQ := Try.underlying43
  have hiH : (Try.prog.info? 30).map (·.size) = some (nums .u8 no).length := by rw [nums_length, hno.1]; exact infoH
  have bb := (Below.refl w.heap.size w).alloc (Nat.le_refl _) (.cells (nums .u8 no).toArray 30)
  have HT := hid h
  have h1 := h.below bb
  have f2 := row_range (L := nums .u8 no) (heap_alloc_new w (.cells (nums .u8 no).toArray 30))
  have B1 := hid bb
  have hmb := hid (show mb < w.heap.size from h.map.lt)
  have hval := lookVal M no
  obtain ⟨q0, kn, hg0, hk0, hq, hMq⟩ := ans_cases M no h.ok
  rw [hg0, hk0] at hval
  replace hval := hid hval
  have hq0 := hid hq
  have hq0i := hid (infoQa hq)
  have hq0z := hid (zQ_as hq)
  have hq0o := hid (all_oneCell_toArray (Quo.one q0))
  have HMq := hid hMq
  have f1 := h1.cell
  have f3 := h1.map
  have hsz := hid (show w.heap.size < (w.alloc (.cells (nums .u8 no).toArray 30)).heap.size by simp)
  clear hg0 hk0 hq hMq bb h h1
  go_enter Try.func20, Try.ntmps20
  go_upto_region 1 with (fail)
  generalize w.alloc (.cells (nums .u8 no).toArray 30) = w1 at *
  go_wp2_with fail
  obtain ⟨K, hK⟩ : ∃ K, K = w.heap.size := ⟨_, rfl⟩
  rw [← hK] at f2 ⊢
  have hn2 := hid (show K ≠ mb by have := hmb.out; omega)
  have hG := hid (show w.heap.size < w1.heap.size from hsz.out)
  have hnkk := hid (show K ≠ w1.heap.size by have := hG.out; omega)
  clear hK hsz
  have keepS : ∀ X Y : World, Below X.heap.size X Y → (X.cell? ⟨tb, 0, none⟩ = some (.map (some mb)) ∧ X.rangeAt K 0 (nums .u8 no) ∧ MapIs EH X mb (valM M) n) → (Y.cell? ⟨tb, 0, none⟩ = some (.map (some mb)) ∧ Y.rangeAt K 0 (nums .u8 no) ∧ MapIs EH Y mb (valM M) n) :=
    fun X Y hb h => ⟨cell_keep hb h.1, range_keep hb h.2.1, h.2.2.below hb⟩
  refine wp_region_held_drew (S := fun w' => w'.cell? ⟨tb, 0, none⟩ = some (.map (some mb)) ∧ w'.rangeAt K 0 (nums .u8 no) ∧ MapIs EH w' mb (valM M) n) (by kernel_rfl) (⟨f1, f2, f3⟩) (fun hHeld => ?_)
  try simp only [List.size_toArray, List.length_cons, List.length_nil, Nat.reduceAdd, Array.replicate_succ, Array.replicate_zero, List.push_toArray, List.nil_append, List.cons_append]
  refine wpAnyH_take (i := 0) (oi := { dst := some 14, op := Op.move (Operand.tmp 0), type := 27, pos := "table.go:148", after := #[], guard := none }) (v := ?v3001) rfl (by kernel_rfl) (by kernel_rfl) (by kernel_rfl) (fun _ _ _ h => h) (Or.inl ⟨by rfl, ?hy3001⟩) hHeld ?_
  case hy3001 => (intro w hSw; (try dsimp only at hSw); go_simp; (try with_reducible rfl))
  (try simp only [Act.put, List.setIfInBounds_toArray, List.set_cons_zero, List.set_cons_succ])
  refine wpAnyH_take (i := 1) (oi := { dst := some 15, op := Op.nilCheck (Operand.tmp 14), type := 0, pos := "table.go:148", after := #[{ on := 0, ground := Ground.data }], guard := none }) (v := ?v3002) rfl (by kernel_rfl) (by kernel_rfl) (by kernel_rfl) (fun _ _ _ h => h) (Or.inl ⟨by rfl, ?hy3002⟩) hHeld ?_
  case hy3002 => (intro w hSw; (try dsimp only at hSw); go_simp; (try with_reducible rfl))
  (try simp only [Act.put, List.setIfInBounds_toArray, List.set_cons_zero, List.set_cons_succ])
  refine wpAnyH_take (i := 2) (oi := { dst := some 16, op := Op.fieldAddr 67 (Operand.tmp 15) 0, type := 0, pos := "table.go:148", after := #[{ on := 1, ground := Ground.data }], guard := none }) (v := ?v3003) rfl (by kernel_rfl) (by kernel_rfl) (by kernel_rfl) (fun _ _ _ h => h) (Or.inl ⟨by rfl, ?hy3003⟩) hHeld ?_
  case hy3003 => (intro w hSw; (try dsimp only at hSw); go_simp; (try with_reducible rfl))
  (try simp only [Act.put, List.setIfInBounds_toArray, List.set_cons_zero, List.set_cons_succ])
  refine wpAnyH_take (i := 3) (oi := { dst := some 17, op := Op.load 65 (Operand.tmp 16), type := 65, pos := "table.go:148", after := #[{ on := 2, ground := Ground.data }], guard := none }) (v := ?v3004) rfl (by kernel_rfl) (by kernel_rfl) (by kernel_rfl) (fun _ _ _ h => h) (Or.inl ⟨by rfl, ?hy3004⟩) hHeld ?_
  case hy3004 => (intro w hSw; (try dsimp only at hSw); go_simp; (try with_reducible rfl))
  (try simp only [Act.put, List.setIfInBounds_toArray, List.set_cons_zero, List.set_cons_succ])
  refine' wpAnyH_take (i := 4) (oi := { dst := some 18, op := Op.load 30 (Operand.tmp 4), type := 30, pos := "table.go:148", after := #[], guard := none }) (v := _) rfl (by kernel_rfl) (by kernel_rfl) (by kernel_rfl) (fun _ _ _ h => h) (yieldsIf_load_mid (by rfl) _ _ rfl K 0 rfl (nums .u8 no) _ (fun _ h => h.2.1) unH rfl hiH) hHeld ?_
  (try simp only [Act.put, List.setIfInBounds_toArray, List.set_cons_zero, List.set_cons_succ])
  refine wpAnyH_take (i := 5) (oi := { dst := some 19, op := Op.lookup 65 (Operand.tmp 17) (Operand.tmp 18) true, type := 44, pos := "table.go:148", after := #[{ on := 3, ground := Ground.data }, { on := 4, ground := Ground.data }], guard := none }) (v := .tuple #[.agg q0.cells.toArray, .bool kn]) rfl (by kernel_rfl) (by kernel_rfl) (by kernel_rfl) (fun _ _ _ h => h) (Or.inl ⟨by rfl, fun w h => by rw [← hval.out]; exact run_look _ _ _ true rfl unMap (ZQ w) h.2.2 rfl no hno rfl⟩) hHeld ?_
  (try simp only [Act.put, List.setIfInBounds_toArray, List.set_cons_zero, List.set_cons_succ])
  refine wpAnyH_take (i := 6) (oi := { dst := some 13, op := Op.move (Operand.tmp 19), type := 44, pos := "table.go:148", after := #[{ on := 5, ground := Ground.data }], guard := none }) (v := ?v3005) rfl (by kernel_rfl) (by kernel_rfl) (by kernel_rfl) (fun _ _ _ h => h) (Or.inl ⟨by rfl, ?hy3005⟩) hHeld ?_
  case hy3005 => (intro w hSw; (try dsimp only at hSw); go_simp; (try with_reducible rfl))
  (try simp only [Act.put, List.setIfInBounds_toArray, List.set_cons_zero, List.set_cons_succ])
  refine wpAnyH_take (i := 7) (oi := { dst := some 20, op := Op.extract (Operand.tmp 13) 0, type := 43, pos := "table.go:148", after := #[{ on := 6, ground := Ground.data }], guard := none }) (v := ?v3006) rfl (by kernel_rfl) (by kernel_rfl) (by kernel_rfl) (fun _ _ _ h => h) (Or.inl ⟨by rfl, ?hy3006⟩) hHeld ?_
  case hy3006 => (intro w hSw; (try dsimp only at hSw); go_simp; (try with_reducible rfl))
  (try simp only [Act.put, List.setIfInBounds_toArray, List.set_cons_zero, List.set_cons_succ])
  refine wpAnyH_take (i := 8) (oi := { dst := some 21, op := Op.extract (Operand.tmp 13) 1, type := 4, pos := "table.go:148", after := #[{ on := 6, ground := Ground.data }, { on := 10, ground := Ground.gcOnly Departure.lateStores }], guard := none }) (v := ?v3007) rfl (by kernel_rfl) (by kernel_rfl) (by kernel_rfl) (fun _ _ _ h => h) (Or.inl ⟨by rfl, ?hy3007⟩) hHeld ?_
  case hy3007 => (intro w hSw; (try dsimp only at hSw); go_simp; (try with_reducible rfl))
  (try simp only [Act.put, List.setIfInBounds_toArray, List.set_cons_zero, List.set_cons_succ])
  refine wpAnyH_ready (rs := [9]) (by kernel_rfl) (by simp) ?_
  refine AllReadyH.cons (o := { dst := some 7, op := Op.alloc 43, type := 0, pos := "table.go:148", after := #[], guard := none }) rfl (fun K hK => ?_) ?_
  go_simp; (first | refine newZ ?_ | refine newZd ?_); intro w5 h5 b5
  refine hK.out _ _ (keepS _ _ b5.out ⟨f1, f2, f3⟩) (fun hHeld => ?_)
  clear hK K
  (try simp only [List.setIfInBounds_toArray, List.set_cons_zero, List.set_cons_succ])
  refine wpAnyH_ready (rs := [10]) (by kernel_rfl) (by simp) ?_
  refine AllReadyH.cons (o := { dst := none, op := Op.store 43 (Operand.tmp 7) (Operand.tmp 20), type := 0, pos := "table.go:148", after := #[{ on := 9, ground := Ground.data }, { on := 7, ground := Ground.data }, { on := 0, ground := Ground.phase }, { on := 1, ground := Ground.phase }, { on := 2, ground := Ground.phase }, { on := 3, ground := Ground.phase }, { on := 4, ground := Ground.phase }, { on := 5, ground := Ground.phase }, { on := 6, ground := Ground.phase }, { on := 7, ground := Ground.phase }, { on := 8, ground := Ground.textOnly Departure.lateStores }, { on := 9, ground := Ground.phase }], guard := none }) rfl (fun K hK => ?_) ?_
  rw [if_pos (by rfl)]; refine wp_store_row _ _ _ rfl _ q0.cells.toArray rfl rfl _ _ h5.out hq0i.out hq0z.out hq0o.out ?_
  refine hK.out _ _ (keepS _ _ (below_setRow b5.out (Nat.le_refl _) _) ⟨f1, f2, f3⟩) (fun hHeld => ?_)
  clear hK K
  (try simp only [List.setIfInBounds_toArray, List.set_cons_zero, List.set_cons_succ])
  refine wpAnyH_take (i := 11) (oi := { dst := some 8, op := Op.assign (Operand.tmp 21), type := 4, pos := "table.go:148", after := #[{ on := 8, ground := Ground.data }, { on := 10, ground := Ground.chain }, { on := 0, ground := Ground.phase }, { on := 1, ground := Ground.phase }, { on := 2, ground := Ground.phase }, { on := 3, ground := Ground.phase }, { on := 4, ground := Ground.phase }, { on := 5, ground := Ground.phase }, { on := 6, ground := Ground.phase }, { on := 7, ground := Ground.phase }, { on := 8, ground := Ground.phase }, { on := 9, ground := Ground.phase }, { on := 10, ground := Ground.phase }], guard := none }) (v := ?v3008) rfl (by kernel_rfl) (by kernel_rfl) (by kernel_rfl) (fun _ _ _ h => h) (Or.inl ⟨by rfl, ?hy3008⟩) hHeld ?_
  case hy3008 => (intro w hSw; (try dsimp only at hSw); go_simp; (try with_reducible rfl))
  (try simp only [Act.put, List.setIfInBounds_toArray, List.set_cons_zero, List.set_cons_succ])
  refine wpAnyH_done (by kernel_rfl) ?_ _
  rotate_left
  exact AllReadyH.nil
  exact AllReadyH.nil
  have H9 := setRow_heap w5 w1.heap.size _ q0.cells.toArray _ _ h5.out
  have L9 := below_setRow b5.out (Nat.le_refl _) q0.cells.toArray
  have B7 := hid (bstep B1.out L9)
  have f2' := range_keep L9 f2
  have hn3 := hid (show w1.heap.size ≠ mb by have := hmb.out; have := hG.out; omega)
  have hnt := hid (show tb ≠ w1.heap.size by have := World.block_lt_of_cell? w _ HT.out.cell; simp at this; have := hG.out; omega)
  clear L9 keepS hHeld b5 f1 f2 f3 h5 hval
  generalize w5.setRow w1.heap.size q0.cells.toArray = w7 at *
  generalize w1.heap.size = G9 at *
  have HT7 := hid (HT.out.below B7.out)
  rcases HMq.out with ⟨hk, hM, hqz⟩ | ⟨hk, hM⟩
  · subst hk
    have E := hid (show (undoS (M no) u).2 = 5 by rw [hM]; rfl)
    have F := hid (res_bad (no := no) E.out (by decide) (TRes.same (z := 5) rfl HT.out B7.out))
    generalize undoS (M no) u = r at *
    clear hM hqz H9 f2'
    go_wp2
    go_ret
    exact F.out
  · subst hk
    have SB := fun wx => hid (ssub_walk q0.used u hq0.out.sb hu wx)
    have c70 := gen_cell (row_range H9) (Quo.get hq0.out 6)
    by_cases hlt : q0.used < u
    · have E := hid (show (undoS (M no) u).2 = 11 by rw [hM, undoS]; simp [hlt])
      have F := hid (res_bad (no := no) E.out (by decide) (TRes.same (z := 11) rfl HT.out B7.out))
      rw [subV_no (by omega)] at SB
      generalize undoS (M no) u = r at *
      clear hM H9 f2' hlt
      go_wp2_with fail
      refine (SB _).out.mono ?_
      rintro e w8 ⟨rfl, rfl⟩
      go_wp2
      go_ret
      exact F.out
    · have hq1 : Quo.ok { q0 with used := q0.used - u } := ⟨hq0.out.nl, hq0.out.nb, hq0.out.il, hq0.out.ib, hq0.out.mb, hq0.out.cb, hq0.out.ub, by have := hq0.out.sb; show q0.used - u < 18446744073709551616; omega, hq0.out.sw, hq0.out.tw⟩
      have HQ1 := hid hq1
      have HGQ := hid (show undoS (M no) u = ({ q0 with used := q0.used - u }, 0) by rw [hM, undoS]; simp [hlt])
      rw [subV_yes (by omega)] at SB
      have hvn := hid (show (if (valM M no).isSome = true then n else n + 1) = n by unfold valM; rw [hM]; exact if_pos rfl)
      have H8 := heap_set (i := 70) (.int .u64 ((q0.used - u : Nat) : Int)) H9
      rw [show q0.cells.set 70 (.int .u64 ((q0.used - u : Nat) : Int)) = Quo.cells { q0 with used := q0.used - u } from Quo.set hq0.out 6 _] at H8
      have fz : w7.frozen? ⟨G9, 70, none⟩ = false := frozen_of_row _ _ _ _ _ H9
      have hf := Far.set (w := w7) (H := G9) (j := 70) (.int .u64 ((q0.used - u : Nat) : Int))
      have HT9 := hid (HT7.out.far hf hnt.out hn3.out.symm)
      have B9 := hid (B7.out.setCell (p := ⟨G9, 70, none⟩) (show w.heap.size ≤ G9 by have := hG.out; omega) (.int .u64 ((q0.used - u : Nat) : Int)))
      have g2 := range_far hf f2' hnkk.out
      have g5 := row_range H8
      have hiC := infoQl hq1
      clear H9 hM hf hq1 H8 f2' hlt
      generalize hCS : Quo.cells { q0 with used := q0.used - u } = CS at *
      have HCS := hid hCS
      clear hCS
      generalize undoS (M no) u = r at *
      generalize hnu : q0.used - u = nu at *
      go_wp2_with fail
      refine (SB _).out.mono ?_
      rintro e w8 ⟨rfl, rfl⟩
      go_wp2_with fail
      generalize w7.setCell ⟨G9, 70, none⟩ (.int .u64 (nu : Int)) = w9 at *
      have g1 := HT9.out.cell
      have g3 := hid HT9.out.map
      have hnb := hid (show n < maxLen by have := HT9.out.small; unfold maxLen; omega)
      have hn1 := hid HT9.out.ne
      refine wp_region_held_drew (S := fun w' => w'.cell? ⟨tb, 0, none⟩ = some (.map (some mb)) ∧ w'.rangeAt K 0 (nums .u8 no) ∧ w'.rangeAt G9 0 CS) (by kernel_rfl) (⟨g1, g2, g5⟩) (fun hHeld => ?_)
      try simp only [List.size_toArray, List.length_cons, List.length_nil, Nat.reduceAdd, Array.replicate_succ, Array.replicate_zero, List.push_toArray, List.nil_append, List.cons_append]
      refine wpAnyH_take (i := 0) (oi := { dst := some 36, op := Op.move (Operand.tmp 0), type := 27, pos := "table.go:157", after := #[], guard := none }) (v := ?v4001) rfl (by kernel_rfl) (by kernel_rfl) (by kernel_rfl) (fun _ _ _ h => h) (Or.inl ⟨by rfl, ?hy4001⟩) hHeld ?_
      case hy4001 => (intro w hSw; (try dsimp only at hSw); go_simp; (try with_reducible rfl))
      (try simp only [Act.put, List.setIfInBounds_toArray, List.set_cons_zero, List.set_cons_succ])
      refine wpAnyH_take (i := 1) (oi := { dst := some 37, op := Op.nilCheck (Operand.tmp 36), type := 0, pos := "table.go:157", after := #[{ on := 0, ground := Ground.data }], guard := none }) (v := ?v4002) rfl (by kernel_rfl) (by kernel_rfl) (by kernel_rfl) (fun _ _ _ h => h) (Or.inl ⟨by rfl, ?hy4002⟩) hHeld ?_
      case hy4002 => (intro w hSw; (try dsimp only at hSw); go_simp; (try with_reducible rfl))
      (try simp only [Act.put, List.setIfInBounds_toArray, List.set_cons_zero, List.set_cons_succ])
      refine wpAnyH_take (i := 2) (oi := { dst := some 38, op := Op.fieldAddr 67 (Operand.tmp 37) 0, type := 0, pos := "table.go:157", after := #[{ on := 1, ground := Ground.data }], guard := none }) (v := ?v4003) rfl (by kernel_rfl) (by kernel_rfl) (by kernel_rfl) (fun _ _ _ h => h) (Or.inl ⟨by rfl, ?hy4003⟩) hHeld ?_
      case hy4003 => (intro w hSw; (try dsimp only at hSw); go_simp; (try with_reducible rfl))
      (try simp only [Act.put, List.setIfInBounds_toArray, List.set_cons_zero, List.set_cons_succ])
      refine wpAnyH_take (i := 3) (oi := { dst := some 39, op := Op.load 65 (Operand.tmp 38), type := 65, pos := "table.go:157", after := #[{ on := 2, ground := Ground.data }], guard := none }) (v := ?v4004) rfl (by kernel_rfl) (by kernel_rfl) (by kernel_rfl) (fun _ _ _ h => h) (Or.inl ⟨by rfl, ?hy4004⟩) hHeld ?_
      case hy4004 => (intro w hSw; (try dsimp only at hSw); go_simp; (try with_reducible rfl))
      (try simp only [Act.put, List.setIfInBounds_toArray, List.set_cons_zero, List.set_cons_succ])
      refine' wpAnyH_take (i := 4) (oi := { dst := some 40, op := Op.load 30 (Operand.tmp 4), type := 30, pos := "table.go:157", after := #[], guard := none }) (v := _) rfl (by kernel_rfl) (by kernel_rfl) (by kernel_rfl) (fun _ _ _ h => h) (yieldsIf_load_mid (by rfl) _ _ rfl K 0 rfl (nums .u8 no) _ (fun _ h => h.2.1) unH rfl hiH) hHeld ?_
      (try simp only [Act.put, List.setIfInBounds_toArray, List.set_cons_zero, List.set_cons_succ])
      refine' wpAnyH_take (i := 5) (oi := { dst := some 41, op := Op.load 43 (Operand.tmp 7), type := 43, pos := "table.go:157", after := #[], guard := none }) (v := _) rfl (by kernel_rfl) (by kernel_rfl) (by kernel_rfl) (fun _ _ _ h => h) (yieldsIf_load_mid (by rfl) _ _ rfl G9 0 rfl CS _ (fun _ h => h.2.2) unQ rfl hiC) hHeld ?_
      (try simp only [Act.put, List.setIfInBounds_toArray, List.set_cons_zero, List.set_cons_succ])
      refine wpAnyH_ready (rs := [6]) (by kernel_rfl) (by simp) ?_
      refine AllReadyH.cons (o := { dst := none, op := Op.mapUpdate 65 (Operand.tmp 39) (Operand.tmp 40) (Operand.tmp 41), type := 0, pos := "table.go:157", after := #[{ on := 3, ground := Ground.data }, { on := 4, ground := Ground.data }, { on := 5, ground := Ground.data }, { on := 0, ground := Ground.phase }, { on := 1, ground := Ground.phase }, { on := 2, ground := Ground.phase }, { on := 3, ground := Ground.phase }, { on := 4, ground := Ground.phase }, { on := 5, ground := Ground.phase }], guard := none }) rfl (fun K hK => ?_) ?_
      rw [if_pos (by rfl)]; refine wp_put _ _ _ _ rfl unMap (g3.out.below ((Below.refl _ _).drew)) hnb.out rfl no hno rfl rfl ?_; intro w6 m6 f6
      refine hK.out _ _ (⟨far_cell f6 hHeld.1 hn1.out, range_far f6 hHeld.2.1 hn2.out, range_far f6 hHeld.2.2 hn3.out⟩) (fun hHeld => ?_)
      clear hK K
      (try simp only [List.setIfInBounds_toArray, List.set_cons_zero, List.set_cons_succ])
      refine wpAnyH_done (by kernel_rfl) ?_ _
      rotate_left
      exact AllReadyH.nil
      rw [hvn.out, ← HCS.out] at m6
      have hT6 := hid ((HT9.out.below ((Below.refl _ _).drew)).put m6 f6 HQ1.out HT9.out.small)
      have hF6 := hid ((Far.of (H := mb) (B9.out.drew)).trans f6)
      clear m6 f6 hHeld g1 g2 g5
      go_wp2
      go_ret
      exact res_good HGQ.out ⟨rfl, hT6.out, hF6.out⟩
theorem sell1_walk (rc ru v1 v2 b1 b2 : Nat) (hrc : rc < 18446744073709551616) (hru : ru < 18446744073709551616) (h1 : v1 < 18446744073709551616) (h2 : v2 < 18446744073709551616) (w : World)
    (c1 : w.cell? ⟨b1, 0, none⟩ = some (.int .u64 (v1 : Int))) (c2 : w.cell? ⟨b2, 0, none⟩ = some (.int .u64 (v2 : Int))) :
    Calls Try.prog 30 #[rateV rc ru, .pointer (some ⟨b1, 0, none⟩), .pointer (some ⟨b2, 0, none⟩)] w (BoolB w (payB v1 rc v2 ru)) := by
  have bb := (Below.refl w.heap.size w).alloc (Nat.le_refl _) (.cells #[.int .u64 (rc : Int), .int .u64 (ru : Int)] 24)
  have bx := Bx2.new w rc ru 24
  have k1 := cell_keep bb c1
  have k2 := cell_keep bb c2
  obtain ⟨x0, x1, _⟩ := bx
  have PW := fun wx => hid (pays_walk rc ru v1 v2 hrc hru h1 h2 wx)
  have HB := hid bb
  generalize payB v1 rc v2 ru = res at *
  clear bb c1 c2
  go_enter Try.func30, Try.ntmps30
  go_upto_region 1 with (fail)
  generalize w.alloc (.cells #[.int .u64 (rc : Int), .int .u64 (ru : Int)] 24) = w1 at *
  go_wp2_with fail
  refine (PW _).out.mono ?_
  rintro e w2 ⟨rfl, b2'⟩
  have B2 := hid (bstep HB.out b2')
  go_wp2
  go_ret
  exact ⟨rfl, B2.out⟩
theorem buy1_walk (rc ru v1 v2 b1 b2 : Nat) (hrc : rc < 18446744073709551616) (hru : ru < 18446744073709551616) (h1 : v1 < 18446744073709551616) (h2 : v2 < 18446744073709551616) (w : World)
    (c1 : w.cell? ⟨b1, 0, none⟩ = some (.int .u64 (v1 : Int))) (c2 : w.cell? ⟨b2, 0, none⟩ = some (.int .u64 (v2 : Int))) :
    Calls Try.prog 35 #[rateV rc ru, .pointer (some ⟨b1, 0, none⟩), .pointer (some ⟨b2, 0, none⟩)] w (BoolB w (payB v1 ru v2 rc)) := by
  have bb := (Below.refl w.heap.size w).alloc (Nat.le_refl _) (.cells #[.int .u64 (rc : Int), .int .u64 (ru : Int)] 24)
  have bx := Bx2.new w rc ru 24
  have k1 := cell_keep bb c1
  have k2 := cell_keep bb c2
  obtain ⟨x0, x1, _⟩ := bx
  have PW := fun wx => hid (buys_walk rc ru v1 v2 hrc hru h1 h2 wx)
  have HB := hid bb
  generalize payB v1 ru v2 rc = res at *
  clear bb c1 c2
  go_enter Try.func35, Try.ntmps35
  go_upto_region 1 with (fail)
  generalize w.alloc (.cells #[.int .u64 (rc : Int), .int .u64 (ru : Int)] 24) = w1 at *
  go_wp2_with fail
  refine (PW _).out.mono ?_
  rintro e w2 ⟨rfl, b2'⟩
  have B2 := hid (bstep HB.out b2')
  go_wp2
  go_ret
  exact ⟨rfl, B2.out⟩
theorem holdsS_ok {M : QM} {no : List Nat} {ht : Int} {u : Nat} (hM : ∀ x q, M x = some q → q.ok) : (holdsS (M no) ht u).1.ok := by
  unfold holdsS
  cases h : M no with
  | none => exact qz_ok
  | some q =>
    have hq := hM no q h
    simp only
    split
    · split
      · exact qz_ok
      · split
        · rename_i hs
          split
          · exact qz_ok
          · exact ⟨hq.nl, hq.nb, hq.il, hq.ib, hq.mb, hq.cb, hq.ub, hs, hq.sw, hq.tw⟩
        · exact qz_ok
    · exact qz_ok
theorem holdsS_some {o : Option Quo} {ht : Int} {u : Nat} (h : (holdsS o ht u).2 = 0) : o.isSome = true := by
  unfold holdsS at h
  cases o with
  | none => cases h
  | some q => rfl
def useS (o : Option Quo) (buy : Bool) (ht : Int) (u : Nat) (kept : Nat → Nat → Bool) : Quo × Nat :=
  if u = 0 then (qz, 1) else if (holdsS o ht u).2 ≠ 0 then holdsS o ht u else if (holdsS o ht u).1.buy ≠ buy ∨ kept (holdsS o ht u).1.rc (holdsS o ht u).1.ru = false then (qz, 60) else holdsS o ht u
set_option maxRecDepth 100000 in
set_option maxHeartbeats 8000000 in
theorem useSell_walk (tb mb n : Nat) (M : QM) (no : List Nat) (hno : EH.ok no) (ht : Int) (u v1 v2 b1 b2 : Nat) (hu : u < 18446744073709551616) (hv1 : v1 < 18446744073709551616) (hv2 : v2 < 18446744073709551616) (w : World) (h : TabAt w tb mb M n)
    (d1 : w.cell? ⟨b1, 0, none⟩ = some (.int .u64 (v1 : Int))) (d2 : w.cell? ⟨b2, 0, none⟩ = some (.int .u64 (v2 : Int))) :
    Calls Try.prog 29 #[.pointer (some ⟨tb, 0, none⟩), .agg (nums .u8 no).toArray, .int .i64 ht, .int .u64 u, .bool false, .func (.func 30) #[] #[.pointer (some ⟨b1, 0, none⟩), .pointer (some ⟨b2, 0, none⟩)]] w
      (TRes w tb mb (resM M no (useS (M no) false ht u (fun rc ru => payB v1 rc v2 ru))) n (useS (M no) false ht u (fun rc ru => payB v1 rc v2 ru)).2) := by
  have ZQ := zeroQ
  have hne := zQ_ne
  have unH := Try.underlying30
  have unQ := Try.underlying43
  have hiH : (Try.prog.info? 30).map (·.size) = some (nums .u8 no).length := by rw [nums_length, hno.1]; exact infoH
  have bb := (Below.refl w.heap.size w).alloc (Nat.le_refl _) (.cells (nums .u8 no).toArray 30)
  have HT := hid h
  have HT1 := hid (h.below bb)
  have f2 := row_range (L := nums .u8 no) (heap_alloc_new w (.cells (nums .u8 no).toArray 30))
  have B1 := hid bb
  have D1 := hid (cell_keep bb d1)
  have D2 := hid (cell_keep bb d2)
  have HW := fun wx hx => hid (holds_walk tb mb n M no hno ht u hu wx hx)
  have hok := holdsS_ok (no := no) (ht := ht) (u := u) h.ok
  have hmb := hid (show mb < w.heap.size from h.map.lt)
  have hsome := hid (@holdsS_some (M no) ht u)
  have hdef := hid (show useS (M no) false ht u (fun rc ru => payB v1 rc v2 ru) = if u = 0 then (qz, 1) else if (holdsS (M no) ht u).2 ≠ 0 then holdsS (M no) ht u else if (holdsS (M no) ht u).1.buy ≠ false ∨ (fun rc ru => payB v1 rc v2 ru) (holdsS (M no) ht u).1.rc (holdsS (M no) ht u).1.ru = false then (qz, 60) else holdsS (M no) ht u from rfl)
  unfold QRes at HW
  clear bb h d1 d2
  generalize hr : useS (M no) false ht u (fun rc ru => payB v1 rc v2 ru) = r at *
  generalize hp : holdsS (M no) ht u = p at *
  clear hr hp
  obtain ⟨q0, k⟩ := p
  simp only at hok hsome hdef HW
  have hq0i := hid (infoQa hok)
  have hq0z := hid (zQ_as hok)
  have hq0o := hid (all_oneCell_toArray (Quo.one q0))
  by_cases hu0 : u = 0
  · have E := hid (show r.2 = 1 by rw [hdef.out, if_pos hu0])
    have F := hid (res_bad (no := no) E.out (by decide) (TRes.same (z := 1) rfl HT.out B1.out))
    have tu : ((u : Int) == 0) = true := by simp [hu0]
    clear hu0
    go_enter Try.func29, Try.ntmps29
    go_wp2
    go_ret
    exact F.out
  · have tu : ((u : Int) == 0) = false := by simp; omega
    have hdef2 := hid (hdef.out.trans (if_neg hu0))
    clear hdef hu0
    go_enter Try.func29, Try.ntmps29
    go_wp2_with (refine wpList_load_mid rfl _ _ rfl w.heap.size 0 rfl (nums .u8 no) _ f2 Try.underlying30 rfl hiH ?_)
    refine (HW _ HT1.out).out.mono ?_
    rintro e w2 ⟨rfl, b2'⟩
    have A3 := hid (heap_alloc_new w2 (.cells zQ 43))
    have L3 := laid w2 zQ q0.cells.toArray 43
    have HT3 := hid ((HT1.out.below b2').below L3.2)
    have B3 := hid (bstep (bstep B1.out b2') L3.2)
    have f3 := range_keep L3.2 (range_keep b2' f2)
    have D1' := cell_keep L3.2 (cell_keep b2' D1.out)
    have D2' := cell_keep L3.2 (cell_keep b2' D2.out)
    have H3 := L3.1
    have hG := hid (show w.heap.size < w2.heap.size by have := b2'.size; simp at this; omega)
    clear L3 b2' f2 HT1 B1 D1 D2 HW
    by_cases hk : k = 0
    · have hM := hsome.out hk
      have hdef3 := hid (hdef2.out.trans (if_neg (fun hh => hh hk)))
      subst hk
      have hvn := hid (show (if (valM M no).isSome = true then n else n + 1) = n by unfold valM; rw [Option.isSome_map, hM]; exact if_pos rfl)
      have c64 := gen_cell (row_range H3) (Quo.get hok 0)
      have c67 := gen_cell (row_range H3) (Quo.get hok 3)
      have c68 := gen_cell (row_range H3) (Quo.get hok 4)
      have g5 := row_range H3
      have hiC := infoQl hok
      have hn3 := hid (show w2.heap.size ≠ mb by have := hmb.out; have := hG.out; omega)
      have hn2 := hid (show w.heap.size ≠ mb by have := hmb.out; omega)
      by_cases hbuy : q0.buy = false
      · rw [show (Value.bool q0.buy) = .bool false by rw [hbuy]] at c64
        have KW := fun wx y1 y2 => hid (sell1_walk q0.rc q0.ru v1 v2 b1 b2 hok.cb hok.ub hv1 hv2 wx y1 y2)
        by_cases hkept : (fun rc ru => payB v1 rc v2 ru) q0.rc q0.ru = false
        · have E := hid (show r.2 = 60 by rw [hdef3.out, if_pos (.inr hkept)])
          have F := hid (fun w' hb => res_bad (no := no) E.out (by decide) (TRes.same (w' := w') (z := 60) rfl HT.out hb))
          simp only at hkept
          rw [hkept] at KW
          clear hkept hbuy H3 g5 f3 hM
          go_wp2_with (refine wpList_store_row rfl _ _ _ rfl w2.heap.size q0.cells.toArray rfl rfl _ _ A3.out hq0i.out hq0z.out hq0o.out ?_)
          refine (KW _ D1' D2').out.mono ?_
          rintro e w4 ⟨rfl, b4⟩
          have B4 := hid (bstep B3.out b4)
          go_wp2
          go_ret
          exact F.out _ B4.out
        · have HGQ := hid (hdef3.out.trans (if_neg (by rintro (hh | hh); exact hh hbuy; exact hkept hh)))
          have HQ1 := hid hok
          simp only [Bool.not_eq_false] at hkept
          rw [hkept] at KW
          clear hkept hbuy H3 hM
          go_wp2_with (refine wpList_store_row rfl _ _ _ rfl w2.heap.size q0.cells.toArray rfl rfl _ _ A3.out hq0i.out hq0z.out hq0o.out ?_)
          refine (KW _ D1' D2').out.mono ?_
          rintro e w9 ⟨rfl, b4⟩
          have B9 := hid (bstep B3.out b4)
          have HT9 := hid (HT3.out.below b4)
          have g2 := range_keep b4 f3
          have g5 := range_keep b4 g5
          clear A3 b4 KW D1' D2' c64 c67 c68 f3 B3 HT3
          generalize w2.heap.size = G9 at *
          obtain ⟨K, hK⟩ : ∃ K, K = w.heap.size := ⟨_, rfl⟩
          rw [← hK] at g2 hn2 ⊢
          clear hK
          generalize hCS : q0.cells = CS at *
          have HCS := hid hCS
          clear hCS
          go_wp2_with fail
          have g1 := HT9.out.cell
          have g3 := hid HT9.out.map
          have hnb := hid (show n < maxLen by have := HT9.out.small; unfold maxLen; omega)
          have hn1 := hid HT9.out.ne
          refine wp_region_held_drew (S := fun w' => w'.cell? ⟨tb, 0, none⟩ = some (.map (some mb)) ∧ w'.rangeAt K 0 (nums .u8 no) ∧ w'.rangeAt G9 0 CS) (by kernel_rfl) (⟨g1, g2, g5⟩) (fun hHeld => ?_)
          try simp only [List.size_toArray, List.length_cons, List.length_nil, Nat.reduceAdd, Array.replicate_succ, Array.replicate_zero, List.push_toArray, List.nil_append, List.cons_append]
          refine wpAnyH_take (i := 0) (oi := { dst := some 43, op := Op.move (Operand.tmp 0), type := 27, pos := "table.go:139", after := #[], guard := none }) (v := ?v5001) rfl (by kernel_rfl) (by kernel_rfl) (by kernel_rfl) (fun _ _ _ h => h) (Or.inl ⟨by rfl, ?hy5001⟩) hHeld ?_
          case hy5001 => (intro w hSw; (try dsimp only at hSw); go_simp; (try with_reducible rfl))
          (try simp only [Act.put, List.setIfInBounds_toArray, List.set_cons_zero, List.set_cons_succ])
          refine wpAnyH_take (i := 1) (oi := { dst := some 44, op := Op.nilCheck (Operand.tmp 43), type := 0, pos := "table.go:139", after := #[{ on := 0, ground := Ground.data }], guard := none }) (v := ?v5002) rfl (by kernel_rfl) (by kernel_rfl) (by kernel_rfl) (fun _ _ _ h => h) (Or.inl ⟨by rfl, ?hy5002⟩) hHeld ?_
          case hy5002 => (intro w hSw; (try dsimp only at hSw); go_simp; (try with_reducible rfl))
          (try simp only [Act.put, List.setIfInBounds_toArray, List.set_cons_zero, List.set_cons_succ])
          refine wpAnyH_take (i := 2) (oi := { dst := some 45, op := Op.fieldAddr 67 (Operand.tmp 44) 0, type := 0, pos := "table.go:139", after := #[{ on := 1, ground := Ground.data }], guard := none }) (v := ?v5003) rfl (by kernel_rfl) (by kernel_rfl) (by kernel_rfl) (fun _ _ _ h => h) (Or.inl ⟨by rfl, ?hy5003⟩) hHeld ?_
          case hy5003 => (intro w hSw; (try dsimp only at hSw); go_simp; (try with_reducible rfl))
          (try simp only [Act.put, List.setIfInBounds_toArray, List.set_cons_zero, List.set_cons_succ])
          refine wpAnyH_take (i := 3) (oi := { dst := some 46, op := Op.load 65 (Operand.tmp 45), type := 65, pos := "table.go:139", after := #[{ on := 2, ground := Ground.data }], guard := none }) (v := ?v5004) rfl (by kernel_rfl) (by kernel_rfl) (by kernel_rfl) (fun _ _ _ h => h) (Or.inl ⟨by rfl, ?hy5004⟩) hHeld ?_
          case hy5004 => (intro w hSw; (try dsimp only at hSw); go_simp; (try with_reducible rfl))
          (try simp only [Act.put, List.setIfInBounds_toArray, List.set_cons_zero, List.set_cons_succ])
          refine' wpAnyH_take (i := 4) (oi := { dst := some 47, op := Op.load 30 (Operand.tmp 7), type := 30, pos := "table.go:139", after := #[], guard := none }) (v := _) rfl (by kernel_rfl) (by kernel_rfl) (by kernel_rfl) (fun _ _ _ h => h) (yieldsIf_load_mid (by rfl) _ _ rfl K 0 rfl (nums .u8 no) _ (fun _ h => h.2.1) unH rfl hiH) hHeld ?_
          (try simp only [Act.put, List.setIfInBounds_toArray, List.set_cons_zero, List.set_cons_succ])
          refine' wpAnyH_take (i := 5) (oi := { dst := some 48, op := Op.load 43 (Operand.tmp 13), type := 43, pos := "table.go:139", after := #[], guard := none }) (v := _) rfl (by kernel_rfl) (by kernel_rfl) (by kernel_rfl) (fun _ _ _ h => h) (yieldsIf_load_mid (by rfl) _ _ rfl G9 0 rfl CS _ (fun _ h => h.2.2) unQ rfl hiC) hHeld ?_
          (try simp only [Act.put, List.setIfInBounds_toArray, List.set_cons_zero, List.set_cons_succ])
          refine wpAnyH_ready (rs := [6]) (by kernel_rfl) (by simp) ?_
          refine AllReadyH.cons (o := { dst := none, op := Op.mapUpdate 65 (Operand.tmp 46) (Operand.tmp 47) (Operand.tmp 48), type := 0, pos := "table.go:139", after := #[{ on := 3, ground := Ground.data }, { on := 4, ground := Ground.data }, { on := 5, ground := Ground.data }, { on := 0, ground := Ground.phase }, { on := 1, ground := Ground.phase }, { on := 2, ground := Ground.phase }, { on := 3, ground := Ground.phase }, { on := 4, ground := Ground.phase }, { on := 5, ground := Ground.phase }], guard := none }) rfl (fun K hK => ?_) ?_
          rw [if_pos (by rfl)]; refine wp_put _ _ _ _ rfl unMap (g3.out.below ((Below.refl _ _).drew)) hnb.out rfl no hno rfl rfl ?_; intro w6 m6 f6
          refine hK.out _ _ (⟨far_cell f6 hHeld.1 hn1.out, range_far f6 hHeld.2.1 hn2.out, range_far f6 hHeld.2.2 hn3.out⟩) (fun hHeld => ?_)
          clear hK K
          (try simp only [List.setIfInBounds_toArray, List.set_cons_zero, List.set_cons_succ])
          refine wpAnyH_done (by kernel_rfl) ?_ _
          rotate_left
          exact AllReadyH.nil
          rw [hvn.out, ← HCS.out] at m6
          have hT6 := hid ((HT9.out.below ((Below.refl _ _).drew)).put m6 f6 HQ1.out HT9.out.small)
          have hF6 := hid ((Far.of (H := mb) (B9.out.drew)).trans f6)
          clear m6 f6 hHeld g1 g2 g5
          go_wp2
          go_ret
          exact res_good HGQ.out ⟨rfl, hT6.out, hF6.out⟩
      · have E := hid (show r.2 = 60 by rw [hdef3.out, if_pos (.inl hbuy)])
        have F := hid (res_bad (no := no) E.out (by decide) (TRes.same (z := 60) rfl HT.out B3.out))
        have hb2 : q0.buy = true := by cases hh : q0.buy <;> simp_all
        rw [show (Value.bool q0.buy) = .bool true by rw [hb2]] at c64
        clear hbuy H3 g5 f3 hM hb2
        go_wp2_with (refine wpList_store_row rfl _ _ _ rfl w2.heap.size q0.cells.toArray rfl rfl _ _ A3.out hq0i.out hq0z.out hq0o.out ?_)
        go_ret
        exact F.out
    · have E := hid (show r.2 = k by rw [hdef2.out, if_pos hk])
      have te : ((k : Int) != 0) = true := by simp; omega
      have F := hid (res_bad (no := no) E.out hk (TRes.same (z := (k : Int)) rfl HT.out B3.out))
      clear hk H3 f3
      go_wp2_with (refine wpList_store_row rfl _ _ _ rfl w2.heap.size q0.cells.toArray rfl rfl _ _ A3.out hq0i.out hq0z.out hq0o.out ?_)
      go_ret
      exact F.out
set_option maxRecDepth 100000 in
set_option maxHeartbeats 8000000 in
theorem useBuy_walk (tb mb n : Nat) (M : QM) (no : List Nat) (hno : EH.ok no) (ht : Int) (u v1 v2 b1 b2 : Nat) (hu : u < 18446744073709551616) (hv1 : v1 < 18446744073709551616) (hv2 : v2 < 18446744073709551616) (w : World) (h : TabAt w tb mb M n)
    (d1 : w.cell? ⟨b1, 0, none⟩ = some (.int .u64 (v1 : Int))) (d2 : w.cell? ⟨b2, 0, none⟩ = some (.int .u64 (v2 : Int))) :
    Calls Try.prog 29 #[.pointer (some ⟨tb, 0, none⟩), .agg (nums .u8 no).toArray, .int .i64 ht, .int .u64 u, .bool true, .func (.func 35) #[] #[.pointer (some ⟨b1, 0, none⟩), .pointer (some ⟨b2, 0, none⟩)]] w
      (TRes w tb mb (resM M no (useS (M no) true ht u (fun rc ru => payB v1 ru v2 rc))) n (useS (M no) true ht u (fun rc ru => payB v1 ru v2 rc)).2) := by
  have ZQ := zeroQ
  have hne := zQ_ne
  have unH := Try.underlying30
  have unQ := Try.underlying43
  have hiH : (Try.prog.info? 30).map (·.size) = some (nums .u8 no).length := by rw [nums_length, hno.1]; exact infoH
  have bb := (Below.refl w.heap.size w).alloc (Nat.le_refl _) (.cells (nums .u8 no).toArray 30)
  have HT := hid h
  have HT1 := hid (h.below bb)
  have f2 := row_range (L := nums .u8 no) (heap_alloc_new w (.cells (nums .u8 no).toArray 30))
  have B1 := hid bb
  have D1 := hid (cell_keep bb d1)
  have D2 := hid (cell_keep bb d2)
  have HW := fun wx hx => hid (holds_walk tb mb n M no hno ht u hu wx hx)
  have hok := holdsS_ok (no := no) (ht := ht) (u := u) h.ok
  have hmb := hid (show mb < w.heap.size from h.map.lt)
  have hsome := hid (@holdsS_some (M no) ht u)
  have hdef := hid (show useS (M no) true ht u (fun rc ru => payB v1 ru v2 rc) = if u = 0 then (qz, 1) else if (holdsS (M no) ht u).2 ≠ 0 then holdsS (M no) ht u else if (holdsS (M no) ht u).1.buy ≠ true ∨ (fun rc ru => payB v1 ru v2 rc) (holdsS (M no) ht u).1.rc (holdsS (M no) ht u).1.ru = false then (qz, 60) else holdsS (M no) ht u from rfl)
  unfold QRes at HW
  clear bb h d1 d2
  generalize hr : useS (M no) true ht u (fun rc ru => payB v1 ru v2 rc) = r at *
  generalize hp : holdsS (M no) ht u = p at *
  clear hr hp
  obtain ⟨q0, k⟩ := p
  simp only at hok hsome hdef HW
  have hq0i := hid (infoQa hok)
  have hq0z := hid (zQ_as hok)
  have hq0o := hid (all_oneCell_toArray (Quo.one q0))
  by_cases hu0 : u = 0
  · have E := hid (show r.2 = 1 by rw [hdef.out, if_pos hu0])
    have F := hid (res_bad (no := no) E.out (by decide) (TRes.same (z := 1) rfl HT.out B1.out))
    have tu : ((u : Int) == 0) = true := by simp [hu0]
    clear hu0
    go_enter Try.func29, Try.ntmps29
    go_wp2
    go_ret
    exact F.out
  · have tu : ((u : Int) == 0) = false := by simp; omega
    have hdef2 := hid (hdef.out.trans (if_neg hu0))
    clear hdef hu0
    go_enter Try.func29, Try.ntmps29
    go_wp2_with (refine wpList_load_mid rfl _ _ rfl w.heap.size 0 rfl (nums .u8 no) _ f2 Try.underlying30 rfl hiH ?_)
    refine (HW _ HT1.out).out.mono ?_
    rintro e w2 ⟨rfl, b2'⟩
    have A3 := hid (heap_alloc_new w2 (.cells zQ 43))
    have L3 := laid w2 zQ q0.cells.toArray 43
    have HT3 := hid ((HT1.out.below b2').below L3.2)
    have B3 := hid (bstep (bstep B1.out b2') L3.2)
    have f3 := range_keep L3.2 (range_keep b2' f2)
    have D1' := cell_keep L3.2 (cell_keep b2' D1.out)
    have D2' := cell_keep L3.2 (cell_keep b2' D2.out)
    have H3 := L3.1
    have hG := hid (show w.heap.size < w2.heap.size by have := b2'.size; simp at this; omega)
    clear L3 b2' f2 HT1 B1 D1 D2 HW
    by_cases hk : k = 0
    · have hM := hsome.out hk
      have hdef3 := hid (hdef2.out.trans (if_neg (fun hh => hh hk)))
      subst hk
      have hvn := hid (show (if (valM M no).isSome = true then n else n + 1) = n by unfold valM; rw [Option.isSome_map, hM]; exact if_pos rfl)
      have c64 := gen_cell (row_range H3) (Quo.get hok 0)
      have c67 := gen_cell (row_range H3) (Quo.get hok 3)
      have c68 := gen_cell (row_range H3) (Quo.get hok 4)
      have g5 := row_range H3
      have hiC := infoQl hok
      have hn3 := hid (show w2.heap.size ≠ mb by have := hmb.out; have := hG.out; omega)
      have hn2 := hid (show w.heap.size ≠ mb by have := hmb.out; omega)
      by_cases hbuy : q0.buy = true
      · rw [show (Value.bool q0.buy) = .bool true by rw [hbuy]] at c64
        have KW := fun wx y1 y2 => hid (buy1_walk q0.rc q0.ru v1 v2 b1 b2 hok.cb hok.ub hv1 hv2 wx y1 y2)
        by_cases hkept : (fun rc ru => payB v1 ru v2 rc) q0.rc q0.ru = false
        · have E := hid (show r.2 = 60 by rw [hdef3.out, if_pos (.inr hkept)])
          have F := hid (fun w' hb => res_bad (no := no) E.out (by decide) (TRes.same (w' := w') (z := 60) rfl HT.out hb))
          simp only at hkept
          rw [hkept] at KW
          clear hkept hbuy H3 g5 f3 hM
          go_wp2_with (refine wpList_store_row rfl _ _ _ rfl w2.heap.size q0.cells.toArray rfl rfl _ _ A3.out hq0i.out hq0z.out hq0o.out ?_)
          refine (KW _ D1' D2').out.mono ?_
          rintro e w4 ⟨rfl, b4⟩
          have B4 := hid (bstep B3.out b4)
          go_wp2
          go_ret
          exact F.out _ B4.out
        · have HGQ := hid (hdef3.out.trans (if_neg (by rintro (hh | hh); exact hh hbuy; exact hkept hh)))
          have HQ1 := hid hok
          simp only [Bool.not_eq_false] at hkept
          rw [hkept] at KW
          clear hkept hbuy H3 hM
          go_wp2_with (refine wpList_store_row rfl _ _ _ rfl w2.heap.size q0.cells.toArray rfl rfl _ _ A3.out hq0i.out hq0z.out hq0o.out ?_)
          refine (KW _ D1' D2').out.mono ?_
          rintro e w9 ⟨rfl, b4⟩
          have B9 := hid (bstep B3.out b4)
          have HT9 := hid (HT3.out.below b4)
          have g2 := range_keep b4 f3
          have g5 := range_keep b4 g5
          clear A3 b4 KW D1' D2' c64 c67 c68 f3 B3 HT3
          generalize w2.heap.size = G9 at *
          obtain ⟨K, hK⟩ : ∃ K, K = w.heap.size := ⟨_, rfl⟩
          rw [← hK] at g2 hn2 ⊢
          clear hK
          generalize hCS : q0.cells = CS at *
          have HCS := hid hCS
          clear hCS
          go_wp2_with fail
          have g1 := HT9.out.cell
          have g3 := hid HT9.out.map
          have hnb := hid (show n < maxLen by have := HT9.out.small; unfold maxLen; omega)
          have hn1 := hid HT9.out.ne
          refine wp_region_held_drew (S := fun w' => w'.cell? ⟨tb, 0, none⟩ = some (.map (some mb)) ∧ w'.rangeAt K 0 (nums .u8 no) ∧ w'.rangeAt G9 0 CS) (by kernel_rfl) (⟨g1, g2, g5⟩) (fun hHeld => ?_)
          try simp only [List.size_toArray, List.length_cons, List.length_nil, Nat.reduceAdd, Array.replicate_succ, Array.replicate_zero, List.push_toArray, List.nil_append, List.cons_append]
          refine wpAnyH_take (i := 0) (oi := { dst := some 43, op := Op.move (Operand.tmp 0), type := 27, pos := "table.go:139", after := #[], guard := none }) (v := ?v6001) rfl (by kernel_rfl) (by kernel_rfl) (by kernel_rfl) (fun _ _ _ h => h) (Or.inl ⟨by rfl, ?hy6001⟩) hHeld ?_
          case hy6001 => (intro w hSw; (try dsimp only at hSw); go_simp; (try with_reducible rfl))
          (try simp only [Act.put, List.setIfInBounds_toArray, List.set_cons_zero, List.set_cons_succ])
          refine wpAnyH_take (i := 1) (oi := { dst := some 44, op := Op.nilCheck (Operand.tmp 43), type := 0, pos := "table.go:139", after := #[{ on := 0, ground := Ground.data }], guard := none }) (v := ?v6002) rfl (by kernel_rfl) (by kernel_rfl) (by kernel_rfl) (fun _ _ _ h => h) (Or.inl ⟨by rfl, ?hy6002⟩) hHeld ?_
          case hy6002 => (intro w hSw; (try dsimp only at hSw); go_simp; (try with_reducible rfl))
          (try simp only [Act.put, List.setIfInBounds_toArray, List.set_cons_zero, List.set_cons_succ])
          refine wpAnyH_take (i := 2) (oi := { dst := some 45, op := Op.fieldAddr 67 (Operand.tmp 44) 0, type := 0, pos := "table.go:139", after := #[{ on := 1, ground := Ground.data }], guard := none }) (v := ?v6003) rfl (by kernel_rfl) (by kernel_rfl) (by kernel_rfl) (fun _ _ _ h => h) (Or.inl ⟨by rfl, ?hy6003⟩) hHeld ?_
          case hy6003 => (intro w hSw; (try dsimp only at hSw); go_simp; (try with_reducible rfl))
          (try simp only [Act.put, List.setIfInBounds_toArray, List.set_cons_zero, List.set_cons_succ])
          refine wpAnyH_take (i := 3) (oi := { dst := some 46, op := Op.load 65 (Operand.tmp 45), type := 65, pos := "table.go:139", after := #[{ on := 2, ground := Ground.data }], guard := none }) (v := ?v6004) rfl (by kernel_rfl) (by kernel_rfl) (by kernel_rfl) (fun _ _ _ h => h) (Or.inl ⟨by rfl, ?hy6004⟩) hHeld ?_
          case hy6004 => (intro w hSw; (try dsimp only at hSw); go_simp; (try with_reducible rfl))
          (try simp only [Act.put, List.setIfInBounds_toArray, List.set_cons_zero, List.set_cons_succ])
          refine' wpAnyH_take (i := 4) (oi := { dst := some 47, op := Op.load 30 (Operand.tmp 7), type := 30, pos := "table.go:139", after := #[], guard := none }) (v := _) rfl (by kernel_rfl) (by kernel_rfl) (by kernel_rfl) (fun _ _ _ h => h) (yieldsIf_load_mid (by rfl) _ _ rfl K 0 rfl (nums .u8 no) _ (fun _ h => h.2.1) unH rfl hiH) hHeld ?_
          (try simp only [Act.put, List.setIfInBounds_toArray, List.set_cons_zero, List.set_cons_succ])
          refine' wpAnyH_take (i := 5) (oi := { dst := some 48, op := Op.load 43 (Operand.tmp 13), type := 43, pos := "table.go:139", after := #[], guard := none }) (v := _) rfl (by kernel_rfl) (by kernel_rfl) (by kernel_rfl) (fun _ _ _ h => h) (yieldsIf_load_mid (by rfl) _ _ rfl G9 0 rfl CS _ (fun _ h => h.2.2) unQ rfl hiC) hHeld ?_
          (try simp only [Act.put, List.setIfInBounds_toArray, List.set_cons_zero, List.set_cons_succ])
          refine wpAnyH_ready (rs := [6]) (by kernel_rfl) (by simp) ?_
          refine AllReadyH.cons (o := { dst := none, op := Op.mapUpdate 65 (Operand.tmp 46) (Operand.tmp 47) (Operand.tmp 48), type := 0, pos := "table.go:139", after := #[{ on := 3, ground := Ground.data }, { on := 4, ground := Ground.data }, { on := 5, ground := Ground.data }, { on := 0, ground := Ground.phase }, { on := 1, ground := Ground.phase }, { on := 2, ground := Ground.phase }, { on := 3, ground := Ground.phase }, { on := 4, ground := Ground.phase }, { on := 5, ground := Ground.phase }], guard := none }) rfl (fun K hK => ?_) ?_
          rw [if_pos (by rfl)]; refine wp_put _ _ _ _ rfl unMap (g3.out.below ((Below.refl _ _).drew)) hnb.out rfl no hno rfl rfl ?_; intro w6 m6 f6
          refine hK.out _ _ (⟨far_cell f6 hHeld.1 hn1.out, range_far f6 hHeld.2.1 hn2.out, range_far f6 hHeld.2.2 hn3.out⟩) (fun hHeld => ?_)
          clear hK K
          (try simp only [List.setIfInBounds_toArray, List.set_cons_zero, List.set_cons_succ])
          refine wpAnyH_done (by kernel_rfl) ?_ _
          rotate_left
          exact AllReadyH.nil
          rw [hvn.out, ← HCS.out] at m6
          have hT6 := hid ((HT9.out.below ((Below.refl _ _).drew)).put m6 f6 HQ1.out HT9.out.small)
          have hF6 := hid ((Far.of (H := mb) (B9.out.drew)).trans f6)
          clear m6 f6 hHeld g1 g2 g5
          go_wp2
          go_ret
          exact res_good HGQ.out ⟨rfl, hT6.out, hF6.out⟩
      · have E := hid (show r.2 = 60 by rw [hdef3.out, if_pos (.inl hbuy)])
        have F := hid (res_bad (no := no) E.out (by decide) (TRes.same (z := 60) rfl HT.out B3.out))
        have hb2 : q0.buy = false := by cases hh : q0.buy <;> simp_all
        rw [show (Value.bool q0.buy) = .bool false by rw [hb2]] at c64
        clear hbuy H3 g5 f3 hM hb2
        go_wp2_with (refine wpList_store_row rfl _ _ _ rfl w2.heap.size q0.cells.toArray rfl rfl _ _ A3.out hq0i.out hq0z.out hq0o.out ?_)
        go_ret
        exact F.out
    · have E := hid (show r.2 = k by rw [hdef2.out, if_pos hk])
      have te : ((k : Int) != 0) = true := by simp; omega
      have F := hid (res_bad (no := no) E.out hk (TRes.same (z := (k : Int)) rfl HT.out B3.out))
      clear hk H3 f3
      go_wp2_with (refine wpList_store_row rfl _ _ _ rfl w2.heap.size q0.cells.toArray rfl rfl _ _ A3.out hq0i.out hq0z.out hq0o.out ?_)
      go_ret
      exact F.out
theorem alloc3t (w : World) (a b c : Obj) : (((w.alloc a).alloc b).alloc c).heap[w.heap.size]? = some a ∧ (((w.alloc a).alloc b).alloc c).heap[w.heap.size + 1]? = some b ∧ (((w.alloc a).alloc b).alloc c).heap[w.heap.size + 1 + 1]? = some c ∧ Below w.heap.size w (((w.alloc a).alloc b).alloc c) := by
  have e1 : (w.alloc a).heap.size = w.heap.size + 1 := by simp
  have e2 : ((w.alloc a).alloc b).heap.size = w.heap.size + 1 + 1 := by simp
  have h0 := heap_alloc_new w a
  have h1 := heap_alloc_new (w.alloc a) b
  have h2 := heap_alloc_new ((w.alloc a).alloc b) c
  rw [e1] at h1
  rw [e2] at h2
  refine ⟨?_, ?_, h2, (((Below.refl w.heap.size w).alloc (Nat.le_refl _) a).alloc (by omega) b).alloc (by omega) c⟩
  · rw [Below.heap_alloc _ _ _ (by omega), Below.heap_alloc _ _ _ (by omega)]; exact h0
  · rw [Below.heap_alloc _ _ _ (by omega)]; exact h1
set_option maxRecDepth 100000 in
set_option maxHeartbeats 2000000 in
theorem tsell_walk (tb mb n : Nat) (M : QM) (no : List Nat) (hno : EH.ok no) (ht : Int) (u c : Nat) (hu : u < 18446744073709551616) (hc : c < 18446744073709551616) (w : World) (h : TabAt w tb mb M n) :
    Calls Try.prog 13 #[.pointer (some ⟨tb, 0, none⟩), .agg (nums .u8 no).toArray, .int .i64 ht, .int .u64 u, .int .u64 c] w (TRes w tb mb (resM M no (useS (M no) false ht u (fun rc ru => payB u rc c ru))) n (useS (M no) false ht u (fun rc ru => payB u rc c ru)).2) := by
  have hmf : ∀ (fn : Fn) (first cap : Array Value) (w : World), (Instr.makeFunc fn first cap).run Try.prog w = .ok (.func fn first cap) w := fun _ _ _ _ => rfl
  have A3 := alloc3t w (.cells (nums .u8 no).toArray 30) (.cells #[.int .u64 (u : Int)] 22) (.cells #[.int .u64 (c : Int)] 22)
  have HT := hid h
  have HT1 := hid (h.below A3.2.2.2)
  have f2 := row_range A3.1
  have B1 := hid A3.2.2.2
  have d1 := gen_cell (j := 0) (row_range (L := [.int .u64 (u : Int)]) A3.2.1) rfl
  have d2 := gen_cell (j := 0) (row_range (L := [.int .u64 (c : Int)]) A3.2.2.1) rfl
  have D1 := hid d1
  have D2 := hid d2
  have hiH : (Try.prog.info? 30).map (·.size) = some (nums .u8 no).length := by rw [nums_length, hno.1]; exact infoH
  have UW := fun wx hx y1 y2 => hid (useSell_walk tb mb n M no hno ht u u c (w.heap.size + 1) (w.heap.size + 1 + 1) hu hu hc wx hx y1 y2)
  clear A3 h d1 d2
  go_enter Try.func13, Try.ntmps13
  go_upto_region 1 with (fail)
  generalize ((w.alloc (.cells (nums .u8 no).toArray 30)).alloc (.cells #[.int .u64 (u : Int)] 22)).alloc (.cells #[.int .u64 (c : Int)] 22) = w1 at *
  have d1 : w1.cell? ⟨w.heap.size + 1, 0, none⟩ = some (.int .u64 (u : Int)) := D1.out
  have d2 : w1.cell? ⟨w.heap.size + 1 + 1, 0, none⟩ = some (.int .u64 (c : Int)) := D2.out
  have HX := hid (UW w1 HT1.out d1 d2).out
  clear UW
  go_wp2_with (refine wpList_load_mid rfl _ _ rfl w.heap.size 0 rfl (nums .u8 no) _ f2 Try.underlying30 rfl hiH ?_)
  refine HX.out.mono ?_
  rintro e w2 ⟨rfl, t2, f2'⟩
  have F := hid (Far.trans (Far.of (H := mb) B1.out) f2')
  have T2 := hid t2
  clear t2 f2' f2 d1 d2
  go_wp2
  go_ret
  exact ⟨rfl, T2.out, F.out⟩
set_option maxRecDepth 100000 in
set_option maxHeartbeats 2000000 in
theorem tbuy_walk (tb mb n : Nat) (M : QM) (no : List Nat) (hno : EH.ok no) (ht : Int) (u c : Nat) (hu : u < 18446744073709551616) (hc : c < 18446744073709551616) (w : World) (h : TabAt w tb mb M n) :
    Calls Try.prog 23 #[.pointer (some ⟨tb, 0, none⟩), .agg (nums .u8 no).toArray, .int .i64 ht, .int .u64 u, .int .u64 c] w (TRes w tb mb (resM M no (useS (M no) true ht u (fun rc ru => payB c ru u rc))) n (useS (M no) true ht u (fun rc ru => payB c ru u rc)).2) := by
  have hmf : ∀ (fn : Fn) (first cap : Array Value) (w : World), (Instr.makeFunc fn first cap).run Try.prog w = .ok (.func fn first cap) w := fun _ _ _ _ => rfl
  have A3 := alloc3t w (.cells (nums .u8 no).toArray 30) (.cells #[.int .u64 (u : Int)] 22) (.cells #[.int .u64 (c : Int)] 22)
  have HT := hid h
  have HT1 := hid (h.below A3.2.2.2)
  have f2 := row_range A3.1
  have B1 := hid A3.2.2.2
  have d1 := gen_cell (j := 0) (row_range (L := [.int .u64 (u : Int)]) A3.2.1) rfl
  have d2 := gen_cell (j := 0) (row_range (L := [.int .u64 (c : Int)]) A3.2.2.1) rfl
  have D1 := hid d1
  have D2 := hid d2
  have hiH : (Try.prog.info? 30).map (·.size) = some (nums .u8 no).length := by rw [nums_length, hno.1]; exact infoH
  have UW := fun wx hx y1 y2 => hid (useBuy_walk tb mb n M no hno ht u c u (w.heap.size + 1 + 1) (w.heap.size + 1) hu hc hu wx hx y1 y2)
  clear A3 h d1 d2
  go_enter Try.func23, Try.ntmps23
  go_upto_region 1 with (fail)
  generalize ((w.alloc (.cells (nums .u8 no).toArray 30)).alloc (.cells #[.int .u64 (u : Int)] 22)).alloc (.cells #[.int .u64 (c : Int)] 22) = w1 at *
  have d1 : w1.cell? ⟨w.heap.size + 1, 0, none⟩ = some (.int .u64 (u : Int)) := D1.out
  have d2 : w1.cell? ⟨w.heap.size + 1 + 1, 0, none⟩ = some (.int .u64 (c : Int)) := D2.out
  have HX := hid (UW w1 HT1.out d2 d1).out
  clear UW
  go_wp2_with (refine wpList_load_mid rfl _ _ rfl w.heap.size 0 rfl (nums .u8 no) _ f2 Try.underlying30 rfl hiH ?_)
  refine HX.out.mono ?_
  rintro e w2 ⟨rfl, t2, f2'⟩
  have F := hid (Far.trans (Far.of (H := mb) B1.out) f2')
  have T2 := hid t2
  clear t2 f2' f2 d1 d2
  go_wp2
  go_ret
  exact ⟨rfl, T2.out, F.out⟩
end Go.Proofs.Ytibjkpejbihcpaa

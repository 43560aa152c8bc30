/- The statement TokenTwice. -/
import Derived.Test.YtbdganopnccicaaDoorTokN
namespace Go.Proofs.YtbdganopnccicaaDoor
open Go.RowKit

theorem alloc4p (w : World) (a b c d : Obj) : ((((w.alloc a).alloc b).alloc c).alloc d).heap[w.heap.size]? = some a ∧ ((((w.alloc a).alloc b).alloc c).alloc d).heap[w.heap.size + 1]? = some b ∧ ((((w.alloc a).alloc b).alloc c).alloc d).heap[w.heap.size + 1 + 1]? = some c ∧
    ((((w.alloc a).alloc b).alloc c).alloc d).heap[w.heap.size + 1 + 1 + 1]? = some d ∧ Below w.heap.size w ((((w.alloc a).alloc b).alloc c).alloc d) := by
  have A := alloc3p w a b c
  have hz : (((w.alloc a).alloc b).alloc c).heap.size = w.heap.size + 1 + 1 + 1 := by simp
  have h2 := heap_alloc_new (((w.alloc a).alloc b).alloc c) d
  rw [hz] at h2
  refine ⟨by rw [Below.heap_alloc _ _ _ (by omega)]; exact A.1, by rw [Below.heap_alloc _ _ _ (by omega)]; exact A.2.1, by rw [Below.heap_alloc _ _ _ (by omega)]; exact A.2.2.1, h2, A.2.2.2.alloc (by omega) d⟩
set_option maxRecDepth 100000 in
set_option maxHeartbeats 8000000 in
theorem lawTwice (a b what other : List Nat) (ha : EH.ok a) (hb : EH.ok b) (hw : EH.ok what) (hoo : EH.ok other) (w : World) (ht : Tabs w) :
    Calls Tryd.prog 5 #[hv a, hv b, hv what, hv other] w (fun e w' => e = .returned (.bool true) ∧ Below w.heap.size w w') := by
  have HT := hid ht
  have unH := Tryd.underlying34
  have hiA := hid (infoHl ha)
  have hiB := hid (infoHl hb)
  have hiW := hid (infoHl hw)
  have hiO := hid (infoHl hoo)
  obtain ⟨X, hX'⟩ : ∃ X, X = tokD a what := ⟨_, rfl⟩
  obtain ⟨Y, hY'⟩ : ∃ Y, Y = tokD b other := ⟨_, rfl⟩
  have hXo := hid (show EH.ok X by rw [hX']; exact tokD_ok a what)
  have hYo := hid (show EH.ok Y by rw [hY']; exact tokD_ok b other)
  have hX := hid hX'.symm
  have hY := hid hY'.symm
  have hXY := hid (show a = b → what = other → X = Y from fun h1 h2 => by rw [hX', hY', h1, h2])
  have hM1 := hid (show allM (updE noneM X (ownD a, what)) a what = updE noneM X (ownD a, what) by unfold allM; rw [← hX']; simp [updE])
  have hN1 := hid (show allN (updE noneM X (ownD a, what)) 1 a what = 1 by unfold allN; rw [← hX']; simp [updE])
  have hM2 := hid (show allM (updE noneM X (ownD a, what)) b other = if X = Y then updE noneM X (ownD a, what) else updE (updE noneM X (ownD a, what)) Y (ownD b, other) by
    unfold allM; rw [← hY']
    by_cases h : X = Y
    · rw [if_pos h, if_pos (by simp [updE, h])]
    · rw [if_neg h, if_neg (by simp [updE, noneM, Ne.symm h])])
  have hN2 := hid (show allN (updE noneM X (ownD a, what)) 1 b other = if X = Y then 1 else 2 by
    unfold allN; rw [← hY']
    by_cases h : X = Y
    · rw [if_pos h, if_pos (by simp [updE, h])]
    · rw [if_neg h, if_neg (by simp [updE, noneM, Ne.symm h])])
  have hiX := hid (infoHl hXo.out)
  have hiY := hid (infoHl hYo.out)
  have hiXa := hid (infoHa hXo.out)
  have hiYa := hid (infoHa hYo.out)
  have hzX := hid (sizeHa hXo.out)
  have hzY := hid (sizeHa hYo.out)
  have hoX := hid (all_oneCell_toArray (nums_oneCell .u8 X))
  have hoY := hid (all_oneCell_toArray (nums_oneCell .u8 Y))
  have A4 := alloc4p w (.cells (nums .u8 a).toArray 34) (.cells (nums .u8 b).toArray 34) (.cells (nums .u8 what).toArray 34) (.cells (nums .u8 other).toArray 34)
  clear ht hX' hY'
  unfold hv
  go_enter Tryd.func5, Tryd.ntmps5
  go_wp2_with fail
  obtain ⟨gP, gQ, gR, gS, b0⟩ := A4
  generalize World.alloc (World.alloc (World.alloc (World.alloc w _) _) _) _ = w0 at *
  refine (tokhead_walk w0 (HT.out.below b0)).mono ?_
  rintro e w1 ⟨rfl, b1⟩
  have B1 := hid (b0.trans (b1.mono b0.size))
  have VP := hid (heap_keep gP b1)
  have VQ := hid (heap_keep gQ b1)
  have VR := hid (heap_keep gR b1)
  have VS := hid (heap_keep gS b1)
  have hSl := (Array.getElem?_eq_some_iff.1 (heap_keep gS b1)).1
  clear gP gQ gR gS b0 b1
  generalize hP : w.heap.size = P at *
  generalize hQ : P + 1 = Q at *
  generalize hR : Q + 1 = R at *
  generalize hS : R + 1 = S at *
  go_wp2_with fail
  refine (onew_walk w1).mono ?_
  rintro e w2 ⟨ob, mb, rfl, o2, lo, lm, b2⟩
  have O2 := hid (show Offs w ob mb noneM 0 w2 from ⟨o2, hP ▸ (B1.out.trans (b2.mono (by omega))), by omega, by omega⟩)
  have VP2 := hid (heap_keep VP.out b2)
  have VQ2 := hid (heap_keep VQ.out b2)
  have VR2 := hid (heap_keep VR.out b2)
  have VS2 := hid (heap_keep VS.out b2)
  clear o2 b2 VP VQ VR VS B1
  have f1 := row_range VP2.out
  have f2 := row_range VR2.out
  go_wp2_with (first | refine wpList_load_mid rfl _ _ rfl P 0 rfl (nums .u8 a) _ f1 unH rfl hiA.out ?_ | refine wpList_load_mid rfl _ _ rfl R 0 rfl (nums .u8 what) _ f2 unH rfl hiW.out ?_)
  refine (allow_walk a what ha hw ob mb 0 noneM w2 O2.out.off (by decide) (HT.out.below O2.out.bel)).mono ?_
  intro e w4 r
  obtain ⟨rfl, o4, f4⟩ := O2.out.alw r
  rw [allM_none, allN_none, hX.out] at o4
  have O4 := hid o4
  have VP4 := hid (f4.heap VP2.out (by omega) (by omega))
  have VQ4 := hid (f4.heap VQ2.out (by omega) (by omega))
  have VR4 := hid (f4.heap VR2.out (by omega) (by omega))
  have VS4 := hid (f4.heap VS2.out (by omega) (by omega))
  clear r o4 f4 O2 f1 f2 VP2 VQ2 VR2 VS2
  rw [hX.out]
  unfold hv
  go_upto_region 5 with (refine wpList_store_row rfl _ _ _ rfl w4.heap.size (nums .u8 X).toArray rfl rfl _ _ (heap_alloc_new w4 _) hiXa.out (hzX.out _ rfl) hoX.out ?_)
  have LB := fun z => laid w4 z (nums .u8 X).toArray 34
  generalize hW : World.setRow _ _ _ = wb
  replace LB := hid (hW ▸ LB _)
  have O5 := hid (O4.out.below LB.out.2)
  have VP := hid (heap_keep VP4.out LB.out.2)
  have VQ := hid (heap_keep VQ4.out LB.out.2)
  have VR := hid (heap_keep VR4.out LB.out.2)
  have VS := hid (heap_keep VS4.out LB.out.2)
  have VX := hid LB.out.1
  have hob4 := (Array.getElem?_eq_some_iff.1 O4.out.off.st).1
  have hmb4 := O4.out.off.map.lt
  clear hW LB O4 VP4 VQ4 VR4 VS4
  generalize hKX : w4.heap.size = KX at *
  have r1 : ∀ (op : BinOp) (x y : Operand) (w : World), (eqGuard op 34 x y (hv X) (.agg (nums .u8 X).toArray)).run Tryd.prog w = .ok () w := guard_hv X X
  have r2 : ∀ w, (binOp .neq 34 (hv X) (.agg (nums .u8 X).toArray)).run Tryd.prog w = .ok (.bool false) w := fun w => by
    have := neq_hv (w := w) hXo.out.1 hXo.out.1 hXo.out.2 hXo.out.2
    rw [decide_eq_true rfl] at this
    exact this
  refine wp_region_held_drew (S := fun w' => Far2 ob mb wb w') (by kernel_rfl) (((Far.of (H := ob) ((Below.refl wb.heap.size wb).drew)).l2 mb)) (fun hHeld => ?_)
  try simp only [List.size_toArray, List.length_cons, List.length_nil, Nat.reduceAdd, Array.replicate_succ, Array.replicate_zero, List.push_toArray, List.nil_append, List.cons_append]
  refine wpAnyH_take (i := 0) (oi := { dst := some 19, op := Op.move (Operand.tmp 9), type := 24, pos := "law.go:94", after := #[], guard := none }) (v := ?v14001) rfl (by kernel_rfl) (by kernel_rfl) (by kernel_rfl) (fun _ _ _ h => h) (Or.inl ⟨by rfl, ?hy14001⟩) hHeld ?_
  case hy14001 => (intro w hSw; (try dsimp only at hSw); go_simp; (try with_reducible rfl))
  (try simp only [Act.put, List.setIfInBounds_toArray, List.set_cons_zero, List.set_cons_succ])
  refine' wpAnyH_take (i := 1) (oi := { dst := some 20, op := Op.load 34 (Operand.tmp 4), type := 34, pos := "law.go:94", after := #[], guard := none }) (v := _) rfl (by kernel_rfl) (by kernel_rfl) (by kernel_rfl) (fun _ _ _ h => h) (yieldsIf_load_mid (by rfl) _ _ rfl P 0 rfl (nums .u8 a) _ (fun _ h => row_range (h.heap VP.out (by omega) (by omega))) unH rfl hiA.out) hHeld ?_
  (try simp only [Act.put, List.setIfInBounds_toArray, List.set_cons_zero, List.set_cons_succ])
  refine' wpAnyH_take (i := 2) (oi := { dst := some 21, op := Op.load 34 (Operand.tmp 6), type := 34, pos := "law.go:94", after := #[], guard := none }) (v := _) rfl (by kernel_rfl) (by kernel_rfl) (by kernel_rfl) (fun _ _ _ h => h) (yieldsIf_load_mid (by rfl) _ _ rfl R 0 rfl (nums .u8 what) _ (fun _ h => row_range (h.heap VR.out (by omega) (by omega))) unH rfl hiW.out) hHeld ?_
  (try simp only [Act.put, List.setIfInBounds_toArray, List.set_cons_zero, List.set_cons_succ])
  refine' wpAnyH_take (i := 4) (oi := { dst := some 23, op := Op.load 34 (Operand.tmp 10), type := 34, pos := "law.go:94", after := #[], guard := none }) (v := _) rfl (by kernel_rfl) (by kernel_rfl) (by kernel_rfl) (fun _ _ _ h => h) (yieldsIf_load_mid (by rfl) _ _ rfl KX 0 rfl (nums .u8 X) _ (fun _ h => row_range (h.heap VX.out (by omega) (by omega))) unH rfl hiX.out) hHeld ?_
  (try simp only [Act.put, List.setIfInBounds_toArray, List.set_cons_zero, List.set_cons_succ])
  refine wpAnyH_ready (rs := [3]) (by kernel_rfl) (by simp) ?_
  refine AllReadyH.cons (o := { dst := some 22, op := Op.call { callee := Callee.value (Operand.func 11), args := #[Operand.tmp 19, Operand.tmp 20, Operand.tmp 21], argTypes := #[24, 34, 34] }, type := 34, pos := "law.go:94", after := #[{ on := 0, ground := Ground.data }, { on := 1, ground := Ground.data }, { on := 2, ground := Ground.data }], guard := none }) rfl (fun K hK => ?_) ?_
  go_simp; refine (allow_walk a what ha hw ob mb 1 _ _ (O5.out.off.below ((Below.refl _ _).drew)) (by decide) (HT.out.below (O5.out.bel.drew))).mono ?_; rintro e wo ⟨rfl, oo, fo⟩; rw [hM1.out, hN1.out] at oo; rw [hX.out]; have OO := hid oo; clear oo
  refine hK.out _ _ (hHeld.trans fo) (fun hHeld => ?_)
  clear hK K
  (try simp only [List.setIfInBounds_toArray, List.set_cons_zero, List.set_cons_succ])
  refine wpAnyH_take (i := 5) (oi := { dst := some 24, op := Op.binOp BinOp.neq 34 (Operand.tmp 22) (Operand.tmp 23) 34, type := 4, pos := "law.go:94", after := #[{ on := 3, ground := Ground.data }, { on := 4, ground := Ground.data }], guard := none }) (v := ?v14002) rfl (by kernel_rfl) (by kernel_rfl) (by kernel_rfl) (fun _ _ _ h => h) (Or.inl ⟨by rfl, ?hy14002⟩) hHeld ?_
  case hy14002 => (intro w hSw; (try dsimp only at hSw); go_simp; (try with_reducible rfl))
  (try simp only [Act.put, List.setIfInBounds_toArray, List.set_cons_zero, List.set_cons_succ])
  refine wpAnyH_take (i := 6) (oi := { dst := some 25, op := Op.move (Operand.tmp 24), type := 4, pos := "law.go:94", after := #[{ on := 5, ground := Ground.data }, { on := 3, ground := Ground.chain }], guard := none }) (v := ?v14003) rfl (by kernel_rfl) (by kernel_rfl) (by kernel_rfl) (fun _ _ _ h => h) (Or.inl ⟨by rfl, ?hy14003⟩) hHeld ?_
  case hy14003 => (intro w hSw; (try dsimp only at hSw); go_simp; (try with_reducible rfl))
  (try simp only [Act.put, List.setIfInBounds_toArray, List.set_cons_zero, List.set_cons_succ])
  refine wpAnyH_take (i := 7) (oi := { dst := some 26, op := Op.move (Operand.tmp 9), type := 24, pos := "law.go:94", after := #[{ on := 6, ground := Ground.guard }], guard := some (6, false) }) (v := ?v14004) rfl (by kernel_rfl) (by kernel_rfl) (by kernel_rfl) (fun _ _ _ h => h) (Or.inl ⟨by rfl, ?hy14004⟩) hHeld ?_
  case hy14004 => (intro w hSw; (try dsimp only at hSw); go_simp; (try with_reducible rfl))
  (try simp only [Act.put, List.setIfInBounds_toArray, List.set_cons_zero, List.set_cons_succ])
  refine wpAnyH_ready (rs := [8]) (by kernel_rfl) (by simp) ?_
  refine AllReadyH.cons (o := { dst := some 27, op := Op.call { callee := Callee.value (Operand.func 14), args := #[Operand.tmp 26], argTypes := #[24] }, type := 3, pos := "law.go:94", after := #[{ on := 7, ground := Ground.data }, { on := 6, ground := Ground.chain }, { on := 6, ground := Ground.guard }], guard := some (6, false) }) rfl (fun K hK => ?_) ?_
  go_simp; refine (count_walk ob mb 1 _ _ OO.out).mono ?_; rintro e wo ⟨rfl, rfl⟩
  refine hK.out _ _ (hHeld) (fun hHeld => ?_)
  clear hK K
  (try simp only [List.setIfInBounds_toArray, List.set_cons_zero, List.set_cons_succ])
  refine wpAnyH_take (i := 9) (oi := { dst := some 28, op := Op.binOp BinOp.neq 3 (Operand.tmp 27) (Operand.const (Value.int IntKind.i64 1)) 3, type := 4, pos := "law.go:94", after := #[{ on := 8, ground := Ground.data }, { on := 6, ground := Ground.guard }], guard := some (6, false) }) (v := ?v14005) rfl (by kernel_rfl) (by kernel_rfl) (by kernel_rfl) (fun _ _ _ h => h) (Or.inl ⟨by rfl, ?hy14005⟩) hHeld ?_
  case hy14005 => (intro w hSw; (try dsimp only at hSw); go_simp; (try with_reducible rfl))
  (try simp only [Act.put, List.setIfInBounds_toArray, List.set_cons_zero, List.set_cons_succ])
  refine wpAnyH_take (i := 10) (oi := { dst := some 29, op := Op.pick (Operand.tmp 25) (Operand.const (Value.bool true)) (Operand.tmp 28), type := 4, pos := "law.go:94", after := #[{ on := 6, ground := Ground.data }, { on := 9, ground := Ground.data }], guard := none }) (v := ?v14006) rfl (by kernel_rfl) (by kernel_rfl) (by kernel_rfl) (fun _ _ _ h => h) (Or.inl ⟨by rfl, ?hy14006⟩) hHeld ?_
  case hy14006 => (intro w hSw; (try dsimp only at hSw); go_simp; (try with_reducible rfl))
  (try simp only [Act.put, List.setIfInBounds_toArray, List.set_cons_zero, List.set_cons_succ])
  refine wpAnyH_done (by kernel_rfl) ?_ _
  rotate_left
  exact AllReadyH.nil
  exact AllReadyH.nil
  have F5 := hid hHeld
  have O6 := hid (show Offs w ob mb (updE noneM X (ownD a, what)) 1 wo from ⟨OO.out, O5.out.bel.trans (hHeld.below O5.out.lo O5.out.lm O5.out.bel.size), O5.out.lo, O5.out.lm⟩)
  have VP6 := hid (hHeld.heap VP.out (by omega) (by omega))
  have VQ6 := hid (hHeld.heap VQ.out (by omega) (by omega))
  have VR6 := hid (hHeld.heap VR.out (by omega) (by omega))
  have VS6 := hid (hHeld.heap VS.out (by omega) (by omega))
  have VX6 := hid (hHeld.heap VX.out (by omega) (by omega))
  clear hHeld F5 O5 VP VQ VR VS VX OO r1 r2 fo
  generalize wo = w6 at *
  have f1 := row_range VQ6.out
  have f2 := row_range VS6.out
  go_wp2_with (first | refine wpList_load_mid rfl _ _ rfl Q 0 rfl (nums .u8 b) _ f1 unH rfl hiB.out ?_ | refine wpList_load_mid rfl _ _ rfl S 0 rfl (nums .u8 other) _ f2 unH rfl hiO.out ?_)
  refine (allow_walk b other hb hoo ob mb 1 _ w6 O6.out.off (by decide) (HT.out.below O6.out.bel)).mono ?_
  intro e w7 r
  obtain ⟨rfl, o7, f7⟩ := O6.out.alw r
  rw [hM2.out, hN2.out] at o7
  have O7 := hid o7
  have VP7 := hid (f7.heap VP6.out (by omega) (by omega))
  have VQ7 := hid (f7.heap VQ6.out (by omega) (by omega))
  have VR7 := hid (f7.heap VR6.out (by omega) (by omega))
  have VS7 := hid (f7.heap VS6.out (by omega) (by omega))
  have VX7 := hid (f7.heap VX6.out (by omega) (by omega))
  have s67 := f7.size
  have hx6 := (Array.getElem?_eq_some_iff.1 VX6.out).1
  clear r o7 f7 O6 f1 f2 VP6 VQ6 VR6 VS6 VX6
  rw [hY.out]
  unfold hv
  go_upto_region 8 with (refine wpList_store_row rfl _ _ _ rfl w7.heap.size (nums .u8 Y).toArray rfl rfl _ _ (heap_alloc_new w7 _) hiYa.out (hzY.out _ rfl) hoY.out ?_)
  have LB := fun z => laid w7 z (nums .u8 Y).toArray 34
  generalize hW : World.setRow _ _ _ = wb
  replace LB := hid (hW ▸ LB _)
  have O8 := hid (O7.out.below LB.out.2)
  have RP := hid (row_range (heap_keep VP7.out LB.out.2))
  have RQ := hid (row_range (heap_keep VQ7.out LB.out.2))
  have RR := hid (row_range (heap_keep VR7.out LB.out.2))
  have RS := hid (row_range (heap_keep VS7.out LB.out.2))
  have RX := hid (row_range (heap_keep VX7.out LB.out.2))
  have RY := hid (row_range LB.out.1)
  clear hW LB O7 VP7 VQ7 VR7 VS7 VX7
  generalize hKY : w7.heap.size = KY at *
  clear hM1 hN1 hM2 hN2 hX hY hiXa hiYa hzX hzY hoX hoY
  by_cases hxy : X = Y
  · have o9 := O8.out
    rw [if_pos hxy, if_pos hxy] at o9
    have O9 := hid o9
    clear o9 O8
    have e3g := guard_hv X Y
    have e3 := eql_hv hXo.out.1 hYo.out.1 hXo.out.2 hYo.out.2
    rw [decide_eq_true hxy] at e3
    unfold hv at e3g e3
    by_cases h1 : a = b
    · have e1g := guard_hv a b
      have e1 := eql_hv ha.1 hb.1 ha.2 hb.2
      rw [decide_eq_true h1] at e1
      unfold hv at e1g e1
      by_cases h2 : what = other
      · have e2g := guard_hv what other
        have e2 := eql_hv hw.1 hoo.1 hw.2 hoo.2
        rw [decide_eq_true h2] at e2
        unfold hv at e2g e2
        clear hXY h1 h2 hxy
        go_wp2_with (first | (go_at_call 14; refine (count_walk ob mb 1 _ wb O9.out.off).mono ?_; rintro e w' ⟨rfl, rfl⟩) | refine wpList_load_mid rfl _ _ rfl P 0 rfl (nums .u8 a) _ RP.out unH rfl hiA.out ?_ | refine wpList_load_mid rfl _ _ rfl Q 0 rfl (nums .u8 b) _ RQ.out unH rfl hiB.out ?_ | refine wpList_load_midG rfl _ _ rfl R 0 rfl (nums .u8 what) _ RR.out unH rfl hiW.out ?_ | refine wpList_load_midG rfl _ _ rfl S 0 rfl (nums .u8 other) _ RS.out unH rfl hiO.out ?_ | refine wpList_load_mid rfl _ _ rfl KX 0 rfl (nums .u8 X) _ RX.out unH rfl hiX.out ?_ | refine wpList_load_mid rfl _ _ rfl KY 0 rfl (nums .u8 Y) _ RY.out unH rfl hiY.out ?_)
        go_ret
        exact ⟨rfl, O9.out.bel⟩
      · have e2g := guard_hv what other
        have e2 := eql_hv hw.1 hoo.1 hw.2 hoo.2
        rw [decide_eq_false h2] at e2
        unfold hv at e2g e2
        clear hXY h1 h2 hxy
        go_wp2_with (first | (go_at_call 14; refine (count_walk ob mb 1 _ wb O9.out.off).mono ?_; rintro e w' ⟨rfl, rfl⟩) | refine wpList_load_mid rfl _ _ rfl P 0 rfl (nums .u8 a) _ RP.out unH rfl hiA.out ?_ | refine wpList_load_mid rfl _ _ rfl Q 0 rfl (nums .u8 b) _ RQ.out unH rfl hiB.out ?_ | refine wpList_load_midG rfl _ _ rfl R 0 rfl (nums .u8 what) _ RR.out unH rfl hiW.out ?_ | refine wpList_load_midG rfl _ _ rfl S 0 rfl (nums .u8 other) _ RS.out unH rfl hiO.out ?_ | refine wpList_load_mid rfl _ _ rfl KX 0 rfl (nums .u8 X) _ RX.out unH rfl hiX.out ?_ | refine wpList_load_mid rfl _ _ rfl KY 0 rfl (nums .u8 Y) _ RY.out unH rfl hiY.out ?_)
        go_ret
        exact ⟨rfl, O9.out.bel⟩
    · have e1g := guard_hv a b
      have e1 := eql_hv ha.1 hb.1 ha.2 hb.2
      rw [decide_eq_false h1] at e1
      unfold hv at e1g e1
      clear hXY h1 hxy
      go_wp2_with (first | (go_at_call 14; refine (count_walk ob mb 1 _ wb O9.out.off).mono ?_; rintro e w' ⟨rfl, rfl⟩) | refine wpList_load_mid rfl _ _ rfl P 0 rfl (nums .u8 a) _ RP.out unH rfl hiA.out ?_ | refine wpList_load_mid rfl _ _ rfl Q 0 rfl (nums .u8 b) _ RQ.out unH rfl hiB.out ?_ | refine wpList_load_midG rfl _ _ rfl R 0 rfl (nums .u8 what) _ RR.out unH rfl hiW.out ?_ | refine wpList_load_midG rfl _ _ rfl S 0 rfl (nums .u8 other) _ RS.out unH rfl hiO.out ?_ | refine wpList_load_mid rfl _ _ rfl KX 0 rfl (nums .u8 X) _ RX.out unH rfl hiX.out ?_ | refine wpList_load_mid rfl _ _ rfl KY 0 rfl (nums .u8 Y) _ RY.out unH rfl hiY.out ?_)
      go_ret
      exact ⟨rfl, O9.out.bel⟩
  · have o9 := O8.out
    rw [if_neg hxy, if_neg hxy] at o9
    have O9 := hid o9
    clear o9 O8
    have e3g := guard_hv X Y
    have e3 := eql_hv hXo.out.1 hYo.out.1 hXo.out.2 hYo.out.2
    rw [decide_eq_false hxy] at e3
    unfold hv at e3g e3
    have MID : Hid (¬ (a = b ∧ what = other)) := hid (fun h => hxy (hXY.out h.1 h.2))
    have HOb := hid O9.out.off
    have HTb := hid (HT.out.below O9.out.bel)
    have hA1 := hid (show aldB (updE (updE noneM X (ownD a, what)) Y (ownD b, other)) (ownD a) what X = true by simp [aldB, updE, hxy])
    have hA2 := hid (show aldB (updE (updE noneM X (ownD a, what)) Y (ownD b, other)) (ownD b) other Y = true by simp [aldB, updE])
    by_cases h1 : a = b
    · have e1g := guard_hv a b
      have e1 := eql_hv ha.1 hb.1 ha.2 hb.2
      rw [decide_eq_true h1] at e1
      unfold hv at e1g e1
      have h2 : ¬ what = other := fun h => MID.out ⟨h1, h⟩
      have e2g := guard_hv what other
      have e2 := eql_hv hw.1 hoo.1 hw.2 hoo.2
      rw [decide_eq_false h2] at e2
      unfold hv at e2g e2
      have ho : ownD a = ownD b := by rw [h1]
      have ob1 := ownD_ok a
      have ob2 := ownD_ok b
      have hA3 := hid (show aldB (updE (updE noneM X (ownD a, what)) Y (ownD b, other)) (ownD a) what Y = false by simp [aldB, updE, Ne.symm h2])
      clear hXY h1 h2 hxy MID
      go_wp2_with (first | refine wpList_load_mid rfl _ _ rfl P 0 rfl (nums .u8 a) _ RP.out unH rfl hiA.out ?_ | refine wpList_load_mid rfl _ _ rfl Q 0 rfl (nums .u8 b) _ RQ.out unH rfl hiB.out ?_ | refine wpList_load_midG rfl _ _ rfl R 0 rfl (nums .u8 what) _ RR.out unH rfl hiW.out ?_ | refine wpList_load_midG rfl _ _ rfl S 0 rfl (nums .u8 other) _ RS.out unH rfl hiO.out ?_ | refine wpList_load_mid rfl _ _ rfl KX 0 rfl (nums .u8 X) _ RX.out unH rfl hiX.out ?_ | refine wpList_load_mid rfl _ _ rfl KY 0 rfl (nums .u8 Y) _ RY.out unH rfl hiY.out ?_)
      have e4g := guard_hv (ownD a) (ownD b)
      have e4 := eql_hv ob1.1 ob2.1 ob1.2 ob2.2
      rw [decide_eq_true ho] at e4
      clear ho ob1 ob2
      refine wp_region_held_drew (S := fun w' => Below wb.heap.size wb w') (by kernel_rfl) ((Below.refl _ _).drew) (fun hHeld => ?_)
      try simp only [List.size_toArray, List.length_cons, List.length_nil, Nat.reduceAdd, Array.replicate_succ, Array.replicate_zero, List.push_toArray, List.nil_append, List.cons_append]
      refine wpAnyH_take (i := 0) (oi := { dst := some 56, op := Op.move (Operand.tmp 9), type := 24, pos := "law.go:104", after := #[], guard := none }) (v := ?v15001) rfl (by kernel_rfl) (by kernel_rfl) (by kernel_rfl) (fun _ _ _ h => h) (Or.inl ⟨by rfl, ?hy15001⟩) hHeld ?_
      case hy15001 => (intro w hSw; (try dsimp only at hSw); go_simp; (try with_reducible rfl))
      (try simp only [Act.put, List.setIfInBounds_toArray, List.set_cons_zero, List.set_cons_succ])
      refine wpAnyH_ready (rs := [1]) (by kernel_rfl) (by simp) ?_
      refine AllReadyH.cons (o := { dst := some 57, op := Op.call { callee := Callee.value (Operand.func 14), args := #[Operand.tmp 56], argTypes := #[24] }, type := 3, pos := "law.go:104", after := #[{ on := 0, ground := Ground.data }], guard := none }) rfl (fun K hK => ?_) ?_
      go_simp; refine (count_walk ob mb 2 _ _ (HOb.out.below hHeld)).mono ?_; rintro e wo ⟨rfl, rfl⟩
      refine hK.out _ _ (hHeld) (fun hHeld => ?_)
      clear hK K
      (try simp only [List.setIfInBounds_toArray, List.set_cons_zero, List.set_cons_succ])
      refine wpAnyH_take (i := 2) (oi := { dst := some 58, op := Op.binOp BinOp.eql 3 (Operand.tmp 57) (Operand.const (Value.int IntKind.i64 2)) 3, type := 4, pos := "law.go:104", after := #[{ on := 1, ground := Ground.data }], guard := none }) (v := ?v15002) rfl (by kernel_rfl) (by kernel_rfl) (by kernel_rfl) (fun _ _ _ h => h) (Or.inl ⟨by rfl, ?hy15002⟩) hHeld ?_
      case hy15002 => (intro w hSw; (try dsimp only at hSw); go_simp; (try with_reducible rfl))
      (try simp only [Act.put, List.setIfInBounds_toArray, List.set_cons_zero, List.set_cons_succ])
      refine wpAnyH_take (i := 3) (oi := { dst := some 59, op := Op.move (Operand.tmp 58), type := 4, pos := "law.go:104", after := #[{ on := 2, ground := Ground.data }, { on := 1, ground := Ground.chain }], guard := none }) (v := ?v15003) rfl (by kernel_rfl) (by kernel_rfl) (by kernel_rfl) (fun _ _ _ h => h) (Or.inl ⟨by rfl, ?hy15003⟩) hHeld ?_
      case hy15003 => (intro w hSw; (try dsimp only at hSw); go_simp; (try with_reducible rfl))
      (try simp only [Act.put, List.setIfInBounds_toArray, List.set_cons_zero, List.set_cons_succ])
      refine wpAnyH_take (i := 4) (oi := { dst := some 60, op := Op.move (Operand.tmp 9), type := 24, pos := "law.go:104", after := #[{ on := 3, ground := Ground.guard }], guard := some (3, true) }) (v := ?v15004) rfl (by kernel_rfl) (by kernel_rfl) (by kernel_rfl) (fun _ _ _ h => h) (Or.inl ⟨by rfl, ?hy15004⟩) hHeld ?_
      case hy15004 => (intro w hSw; (try dsimp only at hSw); go_simp; (try with_reducible rfl))
      (try simp only [Act.put, List.setIfInBounds_toArray, List.set_cons_zero, List.set_cons_succ])
      refine' wpAnyH_take (i := 5) (oi := { dst := some 61, op := Op.load 34 (Operand.tmp 4), type := 34, pos := "law.go:104", after := #[{ on := 3, ground := Ground.guard }], guard := some (3, true) }) (v := _) rfl (by kernel_rfl) (by kernel_rfl) (by kernel_rfl) (fun _ _ _ h => h) (yieldsIf_load_mid (by rfl) _ _ rfl P 0 rfl (nums .u8 a) _ (fun _ h => range_keep h RP.out) unH rfl hiA.out) hHeld ?_
      (try simp only [Act.put, List.setIfInBounds_toArray, List.set_cons_zero, List.set_cons_succ])
      refine' wpAnyH_take (i := 7) (oi := { dst := some 63, op := Op.load 34 (Operand.tmp 6), type := 34, pos := "law.go:104", after := #[{ on := 3, ground := Ground.guard }], guard := some (3, true) }) (v := _) rfl (by kernel_rfl) (by kernel_rfl) (by kernel_rfl) (fun _ _ _ h => h) (yieldsIf_load_mid (by rfl) _ _ rfl R 0 rfl (nums .u8 what) _ (fun _ h => range_keep h RR.out) unH rfl hiW.out) hHeld ?_
      (try simp only [Act.put, List.setIfInBounds_toArray, List.set_cons_zero, List.set_cons_succ])
      refine' wpAnyH_take (i := 8) (oi := { dst := some 64, op := Op.load 34 (Operand.tmp 10), type := 34, pos := "law.go:104", after := #[{ on := 3, ground := Ground.guard }], guard := some (3, true) }) (v := _) rfl (by kernel_rfl) (by kernel_rfl) (by kernel_rfl) (fun _ _ _ h => h) (yieldsIf_load_mid (by rfl) _ _ rfl KX 0 rfl (nums .u8 X) _ (fun _ h => range_keep h RX.out) unH rfl hiX.out) hHeld ?_
      (try simp only [Act.put, List.setIfInBounds_toArray, List.set_cons_zero, List.set_cons_succ])
      refine wpAnyH_ready (rs := [6]) (by kernel_rfl) (by simp) ?_
      refine AllReadyH.cons (o := { dst := some 62, op := Op.call { callee := Callee.value (Operand.func 12), args := #[Operand.tmp 61], argTypes := #[34] }, type := 34, pos := "law.go:104", after := #[{ on := 5, ground := Ground.data }, { on := 3, ground := Ground.chain }, { on := 3, ground := Ground.guard }], guard := some (3, true) }) rfl (fun K hK => ?_) ?_
      go_simp; refine (owner_walk a ha.1 ha.2 _ (HTb.out.below hHeld)).mono ?_; rintro e wo ⟨rfl, bo⟩
      refine hK.out _ _ (hHeld.trans (bo.mono hHeld.size)) (fun hHeld => ?_)
      clear hK K
      (try simp only [List.setIfInBounds_toArray, List.set_cons_zero, List.set_cons_succ])
      refine wpAnyH_ready (rs := [9]) (by kernel_rfl) (by simp) ?_
      refine AllReadyH.cons (o := { dst := some 65, op := Op.call { callee := Callee.value (Operand.func 13), args := #[Operand.tmp 60, Operand.tmp 62, Operand.tmp 63, Operand.tmp 64], argTypes := #[24, 34, 34, 34] }, type := 4, pos := "law.go:104", after := #[{ on := 4, ground := Ground.data }, { on := 6, ground := Ground.data }, { on := 7, ground := Ground.data }, { on := 8, ground := Ground.data }, { on := 6, ground := Ground.chain }, { on := 3, ground := Ground.guard }], guard := some (3, true) }) rfl (fun K hK => ?_) ?_
      go_simp; refine (allowed_walk (ownD a) what X (ownD_ok _) hw hXo.out ob mb 2 _ _ (HOb.out.below hHeld)).mono ?_; rintro e wo ⟨he, bo⟩; rw [hA1.out] at he; subst he
      refine hK.out _ _ (hHeld.trans (bo.mono hHeld.size)) (fun hHeld => ?_)
      clear hK K
      (try simp only [List.setIfInBounds_toArray, List.set_cons_zero, List.set_cons_succ])
      refine wpAnyH_take (i := 10) (oi := { dst := some 66, op := Op.pick (Operand.tmp 59) (Operand.tmp 65) (Operand.const (Value.bool false)), type := 4, pos := "law.go:104", after := #[{ on := 3, ground := Ground.data }, { on := 9, ground := Ground.data }], guard := none }) (v := ?v15005) rfl (by kernel_rfl) (by kernel_rfl) (by kernel_rfl) (fun _ _ _ h => h) (Or.inl ⟨by rfl, ?hy15005⟩) hHeld ?_
      case hy15005 => (intro w hSw; (try dsimp only at hSw); go_simp; (try with_reducible rfl))
      (try simp only [Act.put, List.setIfInBounds_toArray, List.set_cons_zero, List.set_cons_succ])
      refine wpAnyH_take (i := 11) (oi := { dst := some 67, op := Op.move (Operand.tmp 66), type := 4, pos := "law.go:104", after := #[{ on := 10, ground := Ground.data }, { on := 9, ground := Ground.chain }], guard := none }) (v := ?v15006) rfl (by kernel_rfl) (by kernel_rfl) (by kernel_rfl) (fun _ _ _ h => h) (Or.inl ⟨by rfl, ?hy15006⟩) hHeld ?_
      case hy15006 => (intro w hSw; (try dsimp only at hSw); go_simp; (try with_reducible rfl))
      (try simp only [Act.put, List.setIfInBounds_toArray, List.set_cons_zero, List.set_cons_succ])
      refine wpAnyH_take (i := 12) (oi := { dst := some 68, op := Op.move (Operand.tmp 9), type := 24, pos := "law.go:104", after := #[{ on := 11, ground := Ground.guard }], guard := some (11, true) }) (v := ?v15007) rfl (by kernel_rfl) (by kernel_rfl) (by kernel_rfl) (fun _ _ _ h => h) (Or.inl ⟨by rfl, ?hy15007⟩) hHeld ?_
      case hy15007 => (intro w hSw; (try dsimp only at hSw); go_simp; (try with_reducible rfl))
      (try simp only [Act.put, List.setIfInBounds_toArray, List.set_cons_zero, List.set_cons_succ])
      refine' wpAnyH_take (i := 13) (oi := { dst := some 69, op := Op.load 34 (Operand.tmp 5), type := 34, pos := "law.go:104", after := #[{ on := 11, ground := Ground.guard }], guard := some (11, true) }) (v := _) rfl (by kernel_rfl) (by kernel_rfl) (by kernel_rfl) (fun _ _ _ h => h) (yieldsIf_load_mid (by rfl) _ _ rfl Q 0 rfl (nums .u8 b) _ (fun _ h => range_keep h RQ.out) unH rfl hiB.out) hHeld ?_
      (try simp only [Act.put, List.setIfInBounds_toArray, List.set_cons_zero, List.set_cons_succ])
      refine' wpAnyH_take (i := 15) (oi := { dst := some 71, op := Op.load 34 (Operand.tmp 7), type := 34, pos := "law.go:104", after := #[{ on := 11, ground := Ground.guard }], guard := some (11, true) }) (v := _) rfl (by kernel_rfl) (by kernel_rfl) (by kernel_rfl) (fun _ _ _ h => h) (yieldsIf_load_mid (by rfl) _ _ rfl S 0 rfl (nums .u8 other) _ (fun _ h => range_keep h RS.out) unH rfl hiO.out) hHeld ?_
      (try simp only [Act.put, List.setIfInBounds_toArray, List.set_cons_zero, List.set_cons_succ])
      refine' wpAnyH_take (i := 16) (oi := { dst := some 72, op := Op.load 34 (Operand.tmp 11), type := 34, pos := "law.go:104", after := #[{ on := 11, ground := Ground.guard }], guard := some (11, true) }) (v := _) rfl (by kernel_rfl) (by kernel_rfl) (by kernel_rfl) (fun _ _ _ h => h) (yieldsIf_load_mid (by rfl) _ _ rfl KY 0 rfl (nums .u8 Y) _ (fun _ h => range_keep h RY.out) unH rfl hiY.out) hHeld ?_
      (try simp only [Act.put, List.setIfInBounds_toArray, List.set_cons_zero, List.set_cons_succ])
      refine wpAnyH_ready (rs := [14]) (by kernel_rfl) (by simp) ?_
      refine AllReadyH.cons (o := { dst := some 70, op := Op.call { callee := Callee.value (Operand.func 12), args := #[Operand.tmp 69], argTypes := #[34] }, type := 34, pos := "law.go:104", after := #[{ on := 13, ground := Ground.data }, { on := 11, ground := Ground.chain }, { on := 11, ground := Ground.guard }], guard := some (11, true) }) rfl (fun K hK => ?_) ?_
      go_simp; refine (owner_walk b hb.1 hb.2 _ (HTb.out.below hHeld)).mono ?_; rintro e wo ⟨rfl, bo⟩
      refine hK.out _ _ (hHeld.trans (bo.mono hHeld.size)) (fun hHeld => ?_)
      clear hK K
      (try simp only [List.setIfInBounds_toArray, List.set_cons_zero, List.set_cons_succ])
      refine wpAnyH_ready (rs := [17]) (by kernel_rfl) (by simp) ?_
      refine AllReadyH.cons (o := { dst := some 73, op := Op.call { callee := Callee.value (Operand.func 13), args := #[Operand.tmp 68, Operand.tmp 70, Operand.tmp 71, Operand.tmp 72], argTypes := #[24, 34, 34, 34] }, type := 4, pos := "law.go:104", after := #[{ on := 12, ground := Ground.data }, { on := 14, ground := Ground.data }, { on := 15, ground := Ground.data }, { on := 16, ground := Ground.data }, { on := 14, ground := Ground.chain }, { on := 11, ground := Ground.guard }], guard := some (11, true) }) rfl (fun K hK => ?_) ?_
      go_simp; refine (allowed_walk (ownD b) other Y (ownD_ok _) hoo hYo.out ob mb 2 _ _ (HOb.out.below hHeld)).mono ?_; rintro e wo ⟨he, bo⟩; rw [hA2.out] at he; subst he
      refine hK.out _ _ (hHeld.trans (bo.mono hHeld.size)) (fun hHeld => ?_)
      clear hK K
      (try simp only [List.setIfInBounds_toArray, List.set_cons_zero, List.set_cons_succ])
      refine wpAnyH_take (i := 18) (oi := { dst := some 74, op := Op.pick (Operand.tmp 67) (Operand.tmp 73) (Operand.const (Value.bool false)), type := 4, pos := "law.go:104", after := #[{ on := 11, ground := Ground.data }, { on := 17, ground := Ground.data }], guard := none }) (v := ?v15008) rfl (by kernel_rfl) (by kernel_rfl) (by kernel_rfl) (fun _ _ _ h => h) (Or.inl ⟨by rfl, ?hy15008⟩) hHeld ?_
      case hy15008 => (intro w hSw; (try dsimp only at hSw); go_simp; (try with_reducible rfl))
      (try simp only [Act.put, List.setIfInBounds_toArray, List.set_cons_zero, List.set_cons_succ])
      refine wpAnyH_take (i := 19) (oi := { dst := some 75, op := Op.move (Operand.tmp 74), type := 4, pos := "law.go:104", after := #[{ on := 18, ground := Ground.data }, { on := 17, ground := Ground.chain }], guard := none }) (v := ?v15009) rfl (by kernel_rfl) (by kernel_rfl) (by kernel_rfl) (fun _ _ _ h => h) (Or.inl ⟨by rfl, ?hy15009⟩) hHeld ?_
      case hy15009 => (intro w hSw; (try dsimp only at hSw); go_simp; (try with_reducible rfl))
      (try simp only [Act.put, List.setIfInBounds_toArray, List.set_cons_zero, List.set_cons_succ])
      refine wpAnyH_take (i := 20) (oi := { dst := some 76, op := Op.move (Operand.tmp 9), type := 24, pos := "law.go:104", after := #[{ on := 19, ground := Ground.guard }], guard := some (19, true) }) (v := ?v15010) rfl (by kernel_rfl) (by kernel_rfl) (by kernel_rfl) (fun _ _ _ h => h) (Or.inl ⟨by rfl, ?hy15010⟩) hHeld ?_
      case hy15010 => (intro w hSw; (try dsimp only at hSw); go_simp; (try with_reducible rfl))
      (try simp only [Act.put, List.setIfInBounds_toArray, List.set_cons_zero, List.set_cons_succ])
      refine' wpAnyH_take (i := 21) (oi := { dst := some 77, op := Op.load 34 (Operand.tmp 4), type := 34, pos := "law.go:104", after := #[{ on := 19, ground := Ground.guard }], guard := some (19, true) }) (v := _) rfl (by kernel_rfl) (by kernel_rfl) (by kernel_rfl) (fun _ _ _ h => h) (yieldsIf_load_mid (by rfl) _ _ rfl P 0 rfl (nums .u8 a) _ (fun _ h => range_keep h RP.out) unH rfl hiA.out) hHeld ?_
      (try simp only [Act.put, List.setIfInBounds_toArray, List.set_cons_zero, List.set_cons_succ])
      refine' wpAnyH_take (i := 23) (oi := { dst := some 79, op := Op.load 34 (Operand.tmp 6), type := 34, pos := "law.go:104", after := #[{ on := 19, ground := Ground.guard }], guard := some (19, true) }) (v := _) rfl (by kernel_rfl) (by kernel_rfl) (by kernel_rfl) (fun _ _ _ h => h) (yieldsIf_load_mid (by rfl) _ _ rfl R 0 rfl (nums .u8 what) _ (fun _ h => range_keep h RR.out) unH rfl hiW.out) hHeld ?_
      (try simp only [Act.put, List.setIfInBounds_toArray, List.set_cons_zero, List.set_cons_succ])
      refine' wpAnyH_take (i := 24) (oi := { dst := some 80, op := Op.load 34 (Operand.tmp 11), type := 34, pos := "law.go:104", after := #[{ on := 19, ground := Ground.guard }], guard := some (19, true) }) (v := _) rfl (by kernel_rfl) (by kernel_rfl) (by kernel_rfl) (fun _ _ _ h => h) (yieldsIf_load_mid (by rfl) _ _ rfl KY 0 rfl (nums .u8 Y) _ (fun _ h => range_keep h RY.out) unH rfl hiY.out) hHeld ?_
      (try simp only [Act.put, List.setIfInBounds_toArray, List.set_cons_zero, List.set_cons_succ])
      refine' wpAnyH_take (i := 26) (oi := { dst := some 82, op := Op.load 34 (Operand.tmp 4), type := 34, pos := "law.go:104", after := #[{ on := 19, ground := Ground.guard }], guard := some (19, true) }) (v := _) rfl (by kernel_rfl) (by kernel_rfl) (by kernel_rfl) (fun _ _ _ h => h) (yieldsIf_load_mid (by rfl) _ _ rfl P 0 rfl (nums .u8 a) _ (fun _ h => range_keep h RP.out) unH rfl hiA.out) hHeld ?_
      (try simp only [Act.put, List.setIfInBounds_toArray, List.set_cons_zero, List.set_cons_succ])
      refine' wpAnyH_take (i := 28) (oi := { dst := some 84, op := Op.load 34 (Operand.tmp 5), type := 34, pos := "law.go:104", after := #[{ on := 19, ground := Ground.guard }], guard := some (19, true) }) (v := _) rfl (by kernel_rfl) (by kernel_rfl) (by kernel_rfl) (fun _ _ _ h => h) (yieldsIf_load_mid (by rfl) _ _ rfl Q 0 rfl (nums .u8 b) _ (fun _ h => range_keep h RQ.out) unH rfl hiB.out) hHeld ?_
      (try simp only [Act.put, List.setIfInBounds_toArray, List.set_cons_zero, List.set_cons_succ])
      refine wpAnyH_ready (rs := [22]) (by kernel_rfl) (by simp) ?_
      refine AllReadyH.cons (o := { dst := some 78, op := Op.call { callee := Callee.value (Operand.func 12), args := #[Operand.tmp 77], argTypes := #[34] }, type := 34, pos := "law.go:104", after := #[{ on := 21, ground := Ground.data }, { on := 19, ground := Ground.chain }, { on := 19, ground := Ground.guard }], guard := some (19, true) }) rfl (fun K hK => ?_) ?_
      go_simp; refine (owner_walk a ha.1 ha.2 _ (HTb.out.below hHeld)).mono ?_; rintro e wo ⟨rfl, bo⟩
      refine hK.out _ _ (hHeld.trans (bo.mono hHeld.size)) (fun hHeld => ?_)
      clear hK K
      (try simp only [List.setIfInBounds_toArray, List.set_cons_zero, List.set_cons_succ])
      refine wpAnyH_ready (rs := [25]) (by kernel_rfl) (by simp) ?_
      refine AllReadyH.cons (o := { dst := some 81, op := Op.call { callee := Callee.value (Operand.func 13), args := #[Operand.tmp 76, Operand.tmp 78, Operand.tmp 79, Operand.tmp 80], argTypes := #[24, 34, 34, 34] }, type := 4, pos := "law.go:104", after := #[{ on := 20, ground := Ground.data }, { on := 22, ground := Ground.data }, { on := 23, ground := Ground.data }, { on := 24, ground := Ground.data }, { on := 22, ground := Ground.chain }, { on := 19, ground := Ground.guard }], guard := some (19, true) }) rfl (fun K hK => ?_) ?_
      go_simp; refine (allowed_walk (ownD a) what Y (ownD_ok _) hw hYo.out ob mb 2 _ _ (HOb.out.below hHeld)).mono ?_; rintro e wo ⟨he, bo⟩; rw [hA3.out] at he; subst he
      refine hK.out _ _ (hHeld.trans (bo.mono hHeld.size)) (fun hHeld => ?_)
      clear hK K
      (try simp only [List.setIfInBounds_toArray, List.set_cons_zero, List.set_cons_succ])
      refine wpAnyH_ready (rs := [27]) (by kernel_rfl) (by simp) ?_
      refine AllReadyH.cons (o := { dst := some 83, op := Op.call { callee := Callee.value (Operand.func 12), args := #[Operand.tmp 82], argTypes := #[34] }, type := 34, pos := "law.go:104", after := #[{ on := 26, ground := Ground.data }, { on := 25, ground := Ground.chain }, { on := 19, ground := Ground.guard }], guard := some (19, true) }) rfl (fun K hK => ?_) ?_
      go_simp; refine (owner_walk a ha.1 ha.2 _ (HTb.out.below hHeld)).mono ?_; rintro e wo ⟨rfl, bo⟩
      refine hK.out _ _ (hHeld.trans (bo.mono hHeld.size)) (fun hHeld => ?_)
      clear hK K
      (try simp only [List.setIfInBounds_toArray, List.set_cons_zero, List.set_cons_succ])
      refine wpAnyH_ready (rs := [29]) (by kernel_rfl) (by simp) ?_
      refine AllReadyH.cons (o := { dst := some 85, op := Op.call { callee := Callee.value (Operand.func 12), args := #[Operand.tmp 84], argTypes := #[34] }, type := 34, pos := "law.go:104", after := #[{ on := 28, ground := Ground.data }, { on := 27, ground := Ground.chain }, { on := 19, ground := Ground.guard }], guard := some (19, true) }) rfl (fun K hK => ?_) ?_
      go_simp; refine (owner_walk b hb.1 hb.2 _ (HTb.out.below hHeld)).mono ?_; rintro e wo ⟨rfl, bo⟩
      refine hK.out _ _ (hHeld.trans (bo.mono hHeld.size)) (fun hHeld => ?_)
      clear hK K
      (try simp only [List.setIfInBounds_toArray, List.set_cons_zero, List.set_cons_succ])
      refine wpAnyH_take (i := 30) (oi := { dst := some 86, op := Op.binOp BinOp.eql 34 (Operand.tmp 83) (Operand.tmp 85) 34, type := 4, pos := "law.go:104", after := #[{ on := 27, ground := Ground.data }, { on := 29, ground := Ground.data }, { on := 19, ground := Ground.guard }], guard := some (19, true) }) (v := ?v15011) rfl (by kernel_rfl) (by kernel_rfl) (by kernel_rfl) (fun _ _ _ h => h) (Or.inl ⟨by rfl, ?hy15011⟩) hHeld ?_
      case hy15011 => (intro w hSw; (try dsimp only at hSw); go_simp; (try with_reducible rfl))
      (try simp only [Act.put, List.setIfInBounds_toArray, List.set_cons_zero, List.set_cons_succ])
      refine wpAnyH_take (i := 31) (oi := { dst := some 87, op := Op.move (Operand.tmp 86), type := 4, pos := "law.go:104", after := #[{ on := 30, ground := Ground.data }, { on := 29, ground := Ground.chain }, { on := 19, ground := Ground.guard }], guard := some (19, true) }) (v := ?v15012) rfl (by kernel_rfl) (by kernel_rfl) (by kernel_rfl) (fun _ _ _ h => h) (Or.inl ⟨by rfl, ?hy15012⟩) hHeld ?_
      case hy15012 => (intro w hSw; (try dsimp only at hSw); go_simp; (try with_reducible rfl))
      (try simp only [Act.put, List.setIfInBounds_toArray, List.set_cons_zero, List.set_cons_succ])
      refine' wpAnyH_take (i := 32) (oi := { dst := some 88, op := Op.load 34 (Operand.tmp 6), type := 34, pos := "law.go:104", after := #[{ on := 31, ground := Ground.guard }], guard := some (31, true) }) (v := _) rfl (by kernel_rfl) (by kernel_rfl) (by kernel_rfl) (fun _ _ _ h => h) (yieldsIf_load_mid (by rfl) _ _ rfl R 0 rfl (nums .u8 what) _ (fun _ h => range_keep h RR.out) unH rfl hiW.out) hHeld ?_
      (try simp only [Act.put, List.setIfInBounds_toArray, List.set_cons_zero, List.set_cons_succ])
      refine' wpAnyH_take (i := 33) (oi := { dst := some 89, op := Op.load 34 (Operand.tmp 7), type := 34, pos := "law.go:104", after := #[{ on := 31, ground := Ground.guard }], guard := some (31, true) }) (v := _) rfl (by kernel_rfl) (by kernel_rfl) (by kernel_rfl) (fun _ _ _ h => h) (yieldsIf_load_mid (by rfl) _ _ rfl S 0 rfl (nums .u8 other) _ (fun _ h => range_keep h RS.out) unH rfl hiO.out) hHeld ?_
      (try simp only [Act.put, List.setIfInBounds_toArray, List.set_cons_zero, List.set_cons_succ])
      refine wpAnyH_take (i := 34) (oi := { dst := some 90, op := Op.binOp BinOp.eql 34 (Operand.tmp 88) (Operand.tmp 89) 34, type := 4, pos := "law.go:104", after := #[{ on := 32, ground := Ground.data }, { on := 33, ground := Ground.data }, { on := 31, ground := Ground.guard }], guard := some (31, true) }) (v := ?v15013) rfl (by kernel_rfl) (by kernel_rfl) (by kernel_rfl) (fun _ _ _ h => h) (Or.inl ⟨by rfl, ?hy15013⟩) hHeld ?_
      case hy15013 => (intro w hSw; (try dsimp only at hSw); go_simp; (try with_reducible rfl))
      (try simp only [Act.put, List.setIfInBounds_toArray, List.set_cons_zero, List.set_cons_succ])
      refine wpAnyH_take (i := 35) (oi := { dst := some 91, op := Op.pick (Operand.tmp 87) (Operand.tmp 90) (Operand.const (Value.bool false)), type := 4, pos := "law.go:104", after := #[{ on := 31, ground := Ground.data }, { on := 34, ground := Ground.data }, { on := 19, ground := Ground.guard }], guard := some (19, true) }) (v := ?v15014) rfl (by kernel_rfl) (by kernel_rfl) (by kernel_rfl) (fun _ _ _ h => h) (Or.inl ⟨by rfl, ?hy15014⟩) hHeld ?_
      case hy15014 => (intro w hSw; (try dsimp only at hSw); go_simp; (try with_reducible rfl))
      (try simp only [Act.put, List.setIfInBounds_toArray, List.set_cons_zero, List.set_cons_succ])
      refine wpAnyH_take (i := 36) (oi := { dst := some 92, op := Op.binOp BinOp.eql 4 (Operand.tmp 81) (Operand.tmp 91) 4, type := 4, pos := "law.go:104", after := #[{ on := 25, ground := Ground.data }, { on := 35, ground := Ground.data }, { on := 19, ground := Ground.guard }], guard := some (19, true) }) (v := ?v15015) rfl (by kernel_rfl) (by kernel_rfl) (by kernel_rfl) (fun _ _ _ h => h) (Or.inl ⟨by rfl, ?hy15015⟩) hHeld ?_
      case hy15015 => (intro w hSw; (try dsimp only at hSw); go_simp; (try with_reducible rfl))
      (try simp only [Act.put, List.setIfInBounds_toArray, List.set_cons_zero, List.set_cons_succ])
      refine wpAnyH_take (i := 37) (oi := { dst := some 93, op := Op.pick (Operand.tmp 75) (Operand.tmp 92) (Operand.const (Value.bool false)), type := 4, pos := "law.go:104", after := #[{ on := 19, ground := Ground.data }, { on := 36, ground := Ground.data }], guard := none }) (v := ?v15016) rfl (by kernel_rfl) (by kernel_rfl) (by kernel_rfl) (fun _ _ _ h => h) (Or.inl ⟨by rfl, ?hy15016⟩) hHeld ?_
      case hy15016 => (intro w hSw; (try dsimp only at hSw); go_simp; (try with_reducible rfl))
      (try simp only [Act.put, List.setIfInBounds_toArray, List.set_cons_zero, List.set_cons_succ])
      refine wpAnyH_take (i := 38) (oi := { dst := some 8, op := Op.assign (Operand.tmp 93), type := 4, pos := "law.go:104", after := #[{ on := 37, ground := Ground.data }, { on := 31, ground := Ground.chain }, { on := 0, ground := Ground.phase }, { on := 1, ground := Ground.phase }, { on := 2, ground := Ground.phase }, { on := 3, ground := Ground.phase }, { on := 4, ground := Ground.phase }, { on := 5, ground := Ground.phase }, { on := 6, ground := Ground.phase }, { on := 7, ground := Ground.phase }, { on := 8, ground := Ground.phase }, { on := 9, ground := Ground.phase }, { on := 10, ground := Ground.phase }, { on := 11, ground := Ground.phase }, { on := 12, ground := Ground.phase }, { on := 13, ground := Ground.phase }, { on := 14, ground := Ground.phase }, { on := 15, ground := Ground.phase }, { on := 16, ground := Ground.phase }, { on := 17, ground := Ground.phase }, { on := 18, ground := Ground.phase }, { on := 19, ground := Ground.phase }, { on := 20, ground := Ground.phase }, { on := 21, ground := Ground.phase }, { on := 22, ground := Ground.phase }, { on := 23, ground := Ground.phase }, { on := 24, ground := Ground.phase }, { on := 25, ground := Ground.phase }, { on := 26, ground := Ground.phase }, { on := 27, ground := Ground.phase }, { on := 28, ground := Ground.phase }, { on := 29, ground := Ground.phase }, { on := 30, ground := Ground.phase }, { on := 31, ground := Ground.phase }, { on := 32, ground := Ground.phase }, { on := 33, ground := Ground.phase }, { on := 34, ground := Ground.phase }, { on := 35, ground := Ground.phase }, { on := 36, ground := Ground.phase }, { on := 37, ground := Ground.phase }], guard := none }) (v := ?v15017) rfl (by kernel_rfl) (by kernel_rfl) (by kernel_rfl) (fun _ _ _ h => h) (Or.inl ⟨by rfl, ?hy15017⟩) hHeld ?_
      case hy15017 => (intro w hSw; (try dsimp only at hSw); go_simp; (try with_reducible rfl))
      (try simp only [Act.put, List.setIfInBounds_toArray, List.set_cons_zero, List.set_cons_succ])
      refine wpAnyH_done (by kernel_rfl) ?_ _
      rotate_left
      exact AllReadyH.nil
      exact AllReadyH.nil
      exact AllReadyH.nil
      exact AllReadyH.nil
      exact AllReadyH.nil
      exact AllReadyH.nil
      exact AllReadyH.nil
      exact AllReadyH.nil
      exact AllReadyH.nil
      all_goals
        go_wp2
        go_ret
        exact ⟨rfl, O9.out.bel.trans (hHeld.mono O9.out.bel.size)⟩
    · have e1g := guard_hv a b
      have e1 := eql_hv ha.1 hb.1 ha.2 hb.2
      rw [decide_eq_false h1] at e1
      unfold hv at e1g e1
      have ob1 := ownD_ok a
      have ob2 := ownD_ok b
      by_cases ho : ownD a = ownD b
      · obtain ⟨c, hc⟩ : ∃ c : Bool, c = decide (what = other) := ⟨_, rfl⟩
        have hA3 := hid (show aldB (updE (updE noneM X (ownD a, what)) Y (ownD b, other)) (ownD a) what Y = c by rw [hc]; simp [aldB, updE, ho, eq_comm])
        have e2g := guard_hv what other
        have e2 := eql_hv hw.1 hoo.1 hw.2 hoo.2
        rw [← hc] at e2
        unfold hv at e2g e2
        clear hXY h1 hxy MID hc
        go_wp2_with (first | refine wpList_load_mid rfl _ _ rfl P 0 rfl (nums .u8 a) _ RP.out unH rfl hiA.out ?_ | refine wpList_load_mid rfl _ _ rfl Q 0 rfl (nums .u8 b) _ RQ.out unH rfl hiB.out ?_ | refine wpList_load_midG rfl _ _ rfl R 0 rfl (nums .u8 what) _ RR.out unH rfl hiW.out ?_ | refine wpList_load_midG rfl _ _ rfl S 0 rfl (nums .u8 other) _ RS.out unH rfl hiO.out ?_ | refine wpList_load_mid rfl _ _ rfl KX 0 rfl (nums .u8 X) _ RX.out unH rfl hiX.out ?_ | refine wpList_load_mid rfl _ _ rfl KY 0 rfl (nums .u8 Y) _ RY.out unH rfl hiY.out ?_)
        have e4g := guard_hv (ownD a) (ownD b)
        have e4 := eql_hv ob1.1 ob2.1 ob1.2 ob2.2
        rw [decide_eq_true ho] at e4
        clear ho ob1 ob2
        refine wp_region_held_drew (S := fun w' => Below wb.heap.size wb w') (by kernel_rfl) ((Below.refl _ _).drew) (fun hHeld => ?_)
        try simp only [List.size_toArray, List.length_cons, List.length_nil, Nat.reduceAdd, Array.replicate_succ, Array.replicate_zero, List.push_toArray, List.nil_append, List.cons_append]
        refine wpAnyH_take (i := 0) (oi := { dst := some 56, op := Op.move (Operand.tmp 9), type := 24, pos := "law.go:104", after := #[], guard := none }) (v := ?v16001) rfl (by kernel_rfl) (by kernel_rfl) (by kernel_rfl) (fun _ _ _ h => h) (Or.inl ⟨by rfl, ?hy16001⟩) hHeld ?_
        case hy16001 => (intro w hSw; (try dsimp only at hSw); go_simp; (try with_reducible rfl))
        (try simp only [Act.put, List.setIfInBounds_toArray, List.set_cons_zero, List.set_cons_succ])
        refine wpAnyH_ready (rs := [1]) (by kernel_rfl) (by simp) ?_
        refine AllReadyH.cons (o := { dst := some 57, op := Op.call { callee := Callee.value (Operand.func 14), args := #[Operand.tmp 56], argTypes := #[24] }, type := 3, pos := "law.go:104", after := #[{ on := 0, ground := Ground.data }], guard := none }) rfl (fun K hK => ?_) ?_
        go_simp; refine (count_walk ob mb 2 _ _ (HOb.out.below hHeld)).mono ?_; rintro e wo ⟨rfl, rfl⟩
        refine hK.out _ _ (hHeld) (fun hHeld => ?_)
        clear hK K
        (try simp only [List.setIfInBounds_toArray, List.set_cons_zero, List.set_cons_succ])
        refine wpAnyH_take (i := 2) (oi := { dst := some 58, op := Op.binOp BinOp.eql 3 (Operand.tmp 57) (Operand.const (Value.int IntKind.i64 2)) 3, type := 4, pos := "law.go:104", after := #[{ on := 1, ground := Ground.data }], guard := none }) (v := ?v16002) rfl (by kernel_rfl) (by kernel_rfl) (by kernel_rfl) (fun _ _ _ h => h) (Or.inl ⟨by rfl, ?hy16002⟩) hHeld ?_
        case hy16002 => (intro w hSw; (try dsimp only at hSw); go_simp; (try with_reducible rfl))
        (try simp only [Act.put, List.setIfInBounds_toArray, List.set_cons_zero, List.set_cons_succ])
        refine wpAnyH_take (i := 3) (oi := { dst := some 59, op := Op.move (Operand.tmp 58), type := 4, pos := "law.go:104", after := #[{ on := 2, ground := Ground.data }, { on := 1, ground := Ground.chain }], guard := none }) (v := ?v16003) rfl (by kernel_rfl) (by kernel_rfl) (by kernel_rfl) (fun _ _ _ h => h) (Or.inl ⟨by rfl, ?hy16003⟩) hHeld ?_
        case hy16003 => (intro w hSw; (try dsimp only at hSw); go_simp; (try with_reducible rfl))
        (try simp only [Act.put, List.setIfInBounds_toArray, List.set_cons_zero, List.set_cons_succ])
        refine wpAnyH_take (i := 4) (oi := { dst := some 60, op := Op.move (Operand.tmp 9), type := 24, pos := "law.go:104", after := #[{ on := 3, ground := Ground.guard }], guard := some (3, true) }) (v := ?v16004) rfl (by kernel_rfl) (by kernel_rfl) (by kernel_rfl) (fun _ _ _ h => h) (Or.inl ⟨by rfl, ?hy16004⟩) hHeld ?_
        case hy16004 => (intro w hSw; (try dsimp only at hSw); go_simp; (try with_reducible rfl))
        (try simp only [Act.put, List.setIfInBounds_toArray, List.set_cons_zero, List.set_cons_succ])
        refine' wpAnyH_take (i := 5) (oi := { dst := some 61, op := Op.load 34 (Operand.tmp 4), type := 34, pos := "law.go:104", after := #[{ on := 3, ground := Ground.guard }], guard := some (3, true) }) (v := _) rfl (by kernel_rfl) (by kernel_rfl) (by kernel_rfl) (fun _ _ _ h => h) (yieldsIf_load_mid (by rfl) _ _ rfl P 0 rfl (nums .u8 a) _ (fun _ h => range_keep h RP.out) unH rfl hiA.out) hHeld ?_
        (try simp only [Act.put, List.setIfInBounds_toArray, List.set_cons_zero, List.set_cons_succ])
        refine' wpAnyH_take (i := 7) (oi := { dst := some 63, op := Op.load 34 (Operand.tmp 6), type := 34, pos := "law.go:104", after := #[{ on := 3, ground := Ground.guard }], guard := some (3, true) }) (v := _) rfl (by kernel_rfl) (by kernel_rfl) (by kernel_rfl) (fun _ _ _ h => h) (yieldsIf_load_mid (by rfl) _ _ rfl R 0 rfl (nums .u8 what) _ (fun _ h => range_keep h RR.out) unH rfl hiW.out) hHeld ?_
        (try simp only [Act.put, List.setIfInBounds_toArray, List.set_cons_zero, List.set_cons_succ])
        refine' wpAnyH_take (i := 8) (oi := { dst := some 64, op := Op.load 34 (Operand.tmp 10), type := 34, pos := "law.go:104", after := #[{ on := 3, ground := Ground.guard }], guard := some (3, true) }) (v := _) rfl (by kernel_rfl) (by kernel_rfl) (by kernel_rfl) (fun _ _ _ h => h) (yieldsIf_load_mid (by rfl) _ _ rfl KX 0 rfl (nums .u8 X) _ (fun _ h => range_keep h RX.out) unH rfl hiX.out) hHeld ?_
        (try simp only [Act.put, List.setIfInBounds_toArray, List.set_cons_zero, List.set_cons_succ])
        refine wpAnyH_ready (rs := [6]) (by kernel_rfl) (by simp) ?_
        refine AllReadyH.cons (o := { dst := some 62, op := Op.call { callee := Callee.value (Operand.func 12), args := #[Operand.tmp 61], argTypes := #[34] }, type := 34, pos := "law.go:104", after := #[{ on := 5, ground := Ground.data }, { on := 3, ground := Ground.chain }, { on := 3, ground := Ground.guard }], guard := some (3, true) }) rfl (fun K hK => ?_) ?_
        go_simp; refine (owner_walk a ha.1 ha.2 _ (HTb.out.below hHeld)).mono ?_; rintro e wo ⟨rfl, bo⟩
        refine hK.out _ _ (hHeld.trans (bo.mono hHeld.size)) (fun hHeld => ?_)
        clear hK K
        (try simp only [List.setIfInBounds_toArray, List.set_cons_zero, List.set_cons_succ])
        refine wpAnyH_ready (rs := [9]) (by kernel_rfl) (by simp) ?_
        refine AllReadyH.cons (o := { dst := some 65, op := Op.call { callee := Callee.value (Operand.func 13), args := #[Operand.tmp 60, Operand.tmp 62, Operand.tmp 63, Operand.tmp 64], argTypes := #[24, 34, 34, 34] }, type := 4, pos := "law.go:104", after := #[{ on := 4, ground := Ground.data }, { on := 6, ground := Ground.data }, { on := 7, ground := Ground.data }, { on := 8, ground := Ground.data }, { on := 6, ground := Ground.chain }, { on := 3, ground := Ground.guard }], guard := some (3, true) }) rfl (fun K hK => ?_) ?_
        go_simp; refine (allowed_walk (ownD a) what X (ownD_ok _) hw hXo.out ob mb 2 _ _ (HOb.out.below hHeld)).mono ?_; rintro e wo ⟨he, bo⟩; rw [hA1.out] at he; subst he
        refine hK.out _ _ (hHeld.trans (bo.mono hHeld.size)) (fun hHeld => ?_)
        clear hK K
        (try simp only [List.setIfInBounds_toArray, List.set_cons_zero, List.set_cons_succ])
        refine wpAnyH_take (i := 10) (oi := { dst := some 66, op := Op.pick (Operand.tmp 59) (Operand.tmp 65) (Operand.const (Value.bool false)), type := 4, pos := "law.go:104", after := #[{ on := 3, ground := Ground.data }, { on := 9, ground := Ground.data }], guard := none }) (v := ?v16005) rfl (by kernel_rfl) (by kernel_rfl) (by kernel_rfl) (fun _ _ _ h => h) (Or.inl ⟨by rfl, ?hy16005⟩) hHeld ?_
        case hy16005 => (intro w hSw; (try dsimp only at hSw); go_simp; (try with_reducible rfl))
        (try simp only [Act.put, List.setIfInBounds_toArray, List.set_cons_zero, List.set_cons_succ])
        refine wpAnyH_take (i := 11) (oi := { dst := some 67, op := Op.move (Operand.tmp 66), type := 4, pos := "law.go:104", after := #[{ on := 10, ground := Ground.data }, { on := 9, ground := Ground.chain }], guard := none }) (v := ?v16006) rfl (by kernel_rfl) (by kernel_rfl) (by kernel_rfl) (fun _ _ _ h => h) (Or.inl ⟨by rfl, ?hy16006⟩) hHeld ?_
        case hy16006 => (intro w hSw; (try dsimp only at hSw); go_simp; (try with_reducible rfl))
        (try simp only [Act.put, List.setIfInBounds_toArray, List.set_cons_zero, List.set_cons_succ])
        refine wpAnyH_take (i := 12) (oi := { dst := some 68, op := Op.move (Operand.tmp 9), type := 24, pos := "law.go:104", after := #[{ on := 11, ground := Ground.guard }], guard := some (11, true) }) (v := ?v16007) rfl (by kernel_rfl) (by kernel_rfl) (by kernel_rfl) (fun _ _ _ h => h) (Or.inl ⟨by rfl, ?hy16007⟩) hHeld ?_
        case hy16007 => (intro w hSw; (try dsimp only at hSw); go_simp; (try with_reducible rfl))
        (try simp only [Act.put, List.setIfInBounds_toArray, List.set_cons_zero, List.set_cons_succ])
        refine' wpAnyH_take (i := 13) (oi := { dst := some 69, op := Op.load 34 (Operand.tmp 5), type := 34, pos := "law.go:104", after := #[{ on := 11, ground := Ground.guard }], guard := some (11, true) }) (v := _) rfl (by kernel_rfl) (by kernel_rfl) (by kernel_rfl) (fun _ _ _ h => h) (yieldsIf_load_mid (by rfl) _ _ rfl Q 0 rfl (nums .u8 b) _ (fun _ h => range_keep h RQ.out) unH rfl hiB.out) hHeld ?_
        (try simp only [Act.put, List.setIfInBounds_toArray, List.set_cons_zero, List.set_cons_succ])
        refine' wpAnyH_take (i := 15) (oi := { dst := some 71, op := Op.load 34 (Operand.tmp 7), type := 34, pos := "law.go:104", after := #[{ on := 11, ground := Ground.guard }], guard := some (11, true) }) (v := _) rfl (by kernel_rfl) (by kernel_rfl) (by kernel_rfl) (fun _ _ _ h => h) (yieldsIf_load_mid (by rfl) _ _ rfl S 0 rfl (nums .u8 other) _ (fun _ h => range_keep h RS.out) unH rfl hiO.out) hHeld ?_
        (try simp only [Act.put, List.setIfInBounds_toArray, List.set_cons_zero, List.set_cons_succ])
        refine' wpAnyH_take (i := 16) (oi := { dst := some 72, op := Op.load 34 (Operand.tmp 11), type := 34, pos := "law.go:104", after := #[{ on := 11, ground := Ground.guard }], guard := some (11, true) }) (v := _) rfl (by kernel_rfl) (by kernel_rfl) (by kernel_rfl) (fun _ _ _ h => h) (yieldsIf_load_mid (by rfl) _ _ rfl KY 0 rfl (nums .u8 Y) _ (fun _ h => range_keep h RY.out) unH rfl hiY.out) hHeld ?_
        (try simp only [Act.put, List.setIfInBounds_toArray, List.set_cons_zero, List.set_cons_succ])
        refine wpAnyH_ready (rs := [14]) (by kernel_rfl) (by simp) ?_
        refine AllReadyH.cons (o := { dst := some 70, op := Op.call { callee := Callee.value (Operand.func 12), args := #[Operand.tmp 69], argTypes := #[34] }, type := 34, pos := "law.go:104", after := #[{ on := 13, ground := Ground.data }, { on := 11, ground := Ground.chain }, { on := 11, ground := Ground.guard }], guard := some (11, true) }) rfl (fun K hK => ?_) ?_
        go_simp; refine (owner_walk b hb.1 hb.2 _ (HTb.out.below hHeld)).mono ?_; rintro e wo ⟨rfl, bo⟩
        refine hK.out _ _ (hHeld.trans (bo.mono hHeld.size)) (fun hHeld => ?_)
        clear hK K
        (try simp only [List.setIfInBounds_toArray, List.set_cons_zero, List.set_cons_succ])
        refine wpAnyH_ready (rs := [17]) (by kernel_rfl) (by simp) ?_
        refine AllReadyH.cons (o := { dst := some 73, op := Op.call { callee := Callee.value (Operand.func 13), args := #[Operand.tmp 68, Operand.tmp 70, Operand.tmp 71, Operand.tmp 72], argTypes := #[24, 34, 34, 34] }, type := 4, pos := "law.go:104", after := #[{ on := 12, ground := Ground.data }, { on := 14, ground := Ground.data }, { on := 15, ground := Ground.data }, { on := 16, ground := Ground.data }, { on := 14, ground := Ground.chain }, { on := 11, ground := Ground.guard }], guard := some (11, true) }) rfl (fun K hK => ?_) ?_
        go_simp; refine (allowed_walk (ownD b) other Y (ownD_ok _) hoo hYo.out ob mb 2 _ _ (HOb.out.below hHeld)).mono ?_; rintro e wo ⟨he, bo⟩; rw [hA2.out] at he; subst he
        refine hK.out _ _ (hHeld.trans (bo.mono hHeld.size)) (fun hHeld => ?_)
        clear hK K
        (try simp only [List.setIfInBounds_toArray, List.set_cons_zero, List.set_cons_succ])
        refine wpAnyH_take (i := 18) (oi := { dst := some 74, op := Op.pick (Operand.tmp 67) (Operand.tmp 73) (Operand.const (Value.bool false)), type := 4, pos := "law.go:104", after := #[{ on := 11, ground := Ground.data }, { on := 17, ground := Ground.data }], guard := none }) (v := ?v16008) rfl (by kernel_rfl) (by kernel_rfl) (by kernel_rfl) (fun _ _ _ h => h) (Or.inl ⟨by rfl, ?hy16008⟩) hHeld ?_
        case hy16008 => (intro w hSw; (try dsimp only at hSw); go_simp; (try with_reducible rfl))
        (try simp only [Act.put, List.setIfInBounds_toArray, List.set_cons_zero, List.set_cons_succ])
        refine wpAnyH_take (i := 19) (oi := { dst := some 75, op := Op.move (Operand.tmp 74), type := 4, pos := "law.go:104", after := #[{ on := 18, ground := Ground.data }, { on := 17, ground := Ground.chain }], guard := none }) (v := ?v16009) rfl (by kernel_rfl) (by kernel_rfl) (by kernel_rfl) (fun _ _ _ h => h) (Or.inl ⟨by rfl, ?hy16009⟩) hHeld ?_
        case hy16009 => (intro w hSw; (try dsimp only at hSw); go_simp; (try with_reducible rfl))
        (try simp only [Act.put, List.setIfInBounds_toArray, List.set_cons_zero, List.set_cons_succ])
        refine wpAnyH_take (i := 20) (oi := { dst := some 76, op := Op.move (Operand.tmp 9), type := 24, pos := "law.go:104", after := #[{ on := 19, ground := Ground.guard }], guard := some (19, true) }) (v := ?v16010) rfl (by kernel_rfl) (by kernel_rfl) (by kernel_rfl) (fun _ _ _ h => h) (Or.inl ⟨by rfl, ?hy16010⟩) hHeld ?_
        case hy16010 => (intro w hSw; (try dsimp only at hSw); go_simp; (try with_reducible rfl))
        (try simp only [Act.put, List.setIfInBounds_toArray, List.set_cons_zero, List.set_cons_succ])
        refine' wpAnyH_take (i := 21) (oi := { dst := some 77, op := Op.load 34 (Operand.tmp 4), type := 34, pos := "law.go:104", after := #[{ on := 19, ground := Ground.guard }], guard := some (19, true) }) (v := _) rfl (by kernel_rfl) (by kernel_rfl) (by kernel_rfl) (fun _ _ _ h => h) (yieldsIf_load_mid (by rfl) _ _ rfl P 0 rfl (nums .u8 a) _ (fun _ h => range_keep h RP.out) unH rfl hiA.out) hHeld ?_
        (try simp only [Act.put, List.setIfInBounds_toArray, List.set_cons_zero, List.set_cons_succ])
        refine' wpAnyH_take (i := 23) (oi := { dst := some 79, op := Op.load 34 (Operand.tmp 6), type := 34, pos := "law.go:104", after := #[{ on := 19, ground := Ground.guard }], guard := some (19, true) }) (v := _) rfl (by kernel_rfl) (by kernel_rfl) (by kernel_rfl) (fun _ _ _ h => h) (yieldsIf_load_mid (by rfl) _ _ rfl R 0 rfl (nums .u8 what) _ (fun _ h => range_keep h RR.out) unH rfl hiW.out) hHeld ?_
        (try simp only [Act.put, List.setIfInBounds_toArray, List.set_cons_zero, List.set_cons_succ])
        refine' wpAnyH_take (i := 24) (oi := { dst := some 80, op := Op.load 34 (Operand.tmp 11), type := 34, pos := "law.go:104", after := #[{ on := 19, ground := Ground.guard }], guard := some (19, true) }) (v := _) rfl (by kernel_rfl) (by kernel_rfl) (by kernel_rfl) (fun _ _ _ h => h) (yieldsIf_load_mid (by rfl) _ _ rfl KY 0 rfl (nums .u8 Y) _ (fun _ h => range_keep h RY.out) unH rfl hiY.out) hHeld ?_
        (try simp only [Act.put, List.setIfInBounds_toArray, List.set_cons_zero, List.set_cons_succ])
        refine' wpAnyH_take (i := 26) (oi := { dst := some 82, op := Op.load 34 (Operand.tmp 4), type := 34, pos := "law.go:104", after := #[{ on := 19, ground := Ground.guard }], guard := some (19, true) }) (v := _) rfl (by kernel_rfl) (by kernel_rfl) (by kernel_rfl) (fun _ _ _ h => h) (yieldsIf_load_mid (by rfl) _ _ rfl P 0 rfl (nums .u8 a) _ (fun _ h => range_keep h RP.out) unH rfl hiA.out) hHeld ?_
        (try simp only [Act.put, List.setIfInBounds_toArray, List.set_cons_zero, List.set_cons_succ])
        refine' wpAnyH_take (i := 28) (oi := { dst := some 84, op := Op.load 34 (Operand.tmp 5), type := 34, pos := "law.go:104", after := #[{ on := 19, ground := Ground.guard }], guard := some (19, true) }) (v := _) rfl (by kernel_rfl) (by kernel_rfl) (by kernel_rfl) (fun _ _ _ h => h) (yieldsIf_load_mid (by rfl) _ _ rfl Q 0 rfl (nums .u8 b) _ (fun _ h => range_keep h RQ.out) unH rfl hiB.out) hHeld ?_
        (try simp only [Act.put, List.setIfInBounds_toArray, List.set_cons_zero, List.set_cons_succ])
        refine wpAnyH_ready (rs := [22]) (by kernel_rfl) (by simp) ?_
        refine AllReadyH.cons (o := { dst := some 78, op := Op.call { callee := Callee.value (Operand.func 12), args := #[Operand.tmp 77], argTypes := #[34] }, type := 34, pos := "law.go:104", after := #[{ on := 21, ground := Ground.data }, { on := 19, ground := Ground.chain }, { on := 19, ground := Ground.guard }], guard := some (19, true) }) rfl (fun K hK => ?_) ?_
        go_simp; refine (owner_walk a ha.1 ha.2 _ (HTb.out.below hHeld)).mono ?_; rintro e wo ⟨rfl, bo⟩
        refine hK.out _ _ (hHeld.trans (bo.mono hHeld.size)) (fun hHeld => ?_)
        clear hK K
        (try simp only [List.setIfInBounds_toArray, List.set_cons_zero, List.set_cons_succ])
        refine wpAnyH_ready (rs := [25]) (by kernel_rfl) (by simp) ?_
        refine AllReadyH.cons (o := { dst := some 81, op := Op.call { callee := Callee.value (Operand.func 13), args := #[Operand.tmp 76, Operand.tmp 78, Operand.tmp 79, Operand.tmp 80], argTypes := #[24, 34, 34, 34] }, type := 4, pos := "law.go:104", after := #[{ on := 20, ground := Ground.data }, { on := 22, ground := Ground.data }, { on := 23, ground := Ground.data }, { on := 24, ground := Ground.data }, { on := 22, ground := Ground.chain }, { on := 19, ground := Ground.guard }], guard := some (19, true) }) rfl (fun K hK => ?_) ?_
        go_simp; refine (allowed_walk (ownD a) what Y (ownD_ok _) hw hYo.out ob mb 2 _ _ (HOb.out.below hHeld)).mono ?_; rintro e wo ⟨he, bo⟩; rw [hA3.out] at he; subst he
        refine hK.out _ _ (hHeld.trans (bo.mono hHeld.size)) (fun hHeld => ?_)
        clear hK K
        (try simp only [List.setIfInBounds_toArray, List.set_cons_zero, List.set_cons_succ])
        refine wpAnyH_ready (rs := [27]) (by kernel_rfl) (by simp) ?_
        refine AllReadyH.cons (o := { dst := some 83, op := Op.call { callee := Callee.value (Operand.func 12), args := #[Operand.tmp 82], argTypes := #[34] }, type := 34, pos := "law.go:104", after := #[{ on := 26, ground := Ground.data }, { on := 25, ground := Ground.chain }, { on := 19, ground := Ground.guard }], guard := some (19, true) }) rfl (fun K hK => ?_) ?_
        go_simp; refine (owner_walk a ha.1 ha.2 _ (HTb.out.below hHeld)).mono ?_; rintro e wo ⟨rfl, bo⟩
        refine hK.out _ _ (hHeld.trans (bo.mono hHeld.size)) (fun hHeld => ?_)
        clear hK K
        (try simp only [List.setIfInBounds_toArray, List.set_cons_zero, List.set_cons_succ])
        refine wpAnyH_ready (rs := [29]) (by kernel_rfl) (by simp) ?_
        refine AllReadyH.cons (o := { dst := some 85, op := Op.call { callee := Callee.value (Operand.func 12), args := #[Operand.tmp 84], argTypes := #[34] }, type := 34, pos := "law.go:104", after := #[{ on := 28, ground := Ground.data }, { on := 27, ground := Ground.chain }, { on := 19, ground := Ground.guard }], guard := some (19, true) }) rfl (fun K hK => ?_) ?_
        go_simp; refine (owner_walk b hb.1 hb.2 _ (HTb.out.below hHeld)).mono ?_; rintro e wo ⟨rfl, bo⟩
        refine hK.out _ _ (hHeld.trans (bo.mono hHeld.size)) (fun hHeld => ?_)
        clear hK K
        (try simp only [List.setIfInBounds_toArray, List.set_cons_zero, List.set_cons_succ])
        refine wpAnyH_take (i := 30) (oi := { dst := some 86, op := Op.binOp BinOp.eql 34 (Operand.tmp 83) (Operand.tmp 85) 34, type := 4, pos := "law.go:104", after := #[{ on := 27, ground := Ground.data }, { on := 29, ground := Ground.data }, { on := 19, ground := Ground.guard }], guard := some (19, true) }) (v := ?v16011) rfl (by kernel_rfl) (by kernel_rfl) (by kernel_rfl) (fun _ _ _ h => h) (Or.inl ⟨by rfl, ?hy16011⟩) hHeld ?_
        case hy16011 => (intro w hSw; (try dsimp only at hSw); go_simp; (try with_reducible rfl))
        (try simp only [Act.put, List.setIfInBounds_toArray, List.set_cons_zero, List.set_cons_succ])
        refine wpAnyH_take (i := 31) (oi := { dst := some 87, op := Op.move (Operand.tmp 86), type := 4, pos := "law.go:104", after := #[{ on := 30, ground := Ground.data }, { on := 29, ground := Ground.chain }, { on := 19, ground := Ground.guard }], guard := some (19, true) }) (v := ?v16012) rfl (by kernel_rfl) (by kernel_rfl) (by kernel_rfl) (fun _ _ _ h => h) (Or.inl ⟨by rfl, ?hy16012⟩) hHeld ?_
        case hy16012 => (intro w hSw; (try dsimp only at hSw); go_simp; (try with_reducible rfl))
        (try simp only [Act.put, List.setIfInBounds_toArray, List.set_cons_zero, List.set_cons_succ])
        refine' wpAnyH_take (i := 32) (oi := { dst := some 88, op := Op.load 34 (Operand.tmp 6), type := 34, pos := "law.go:104", after := #[{ on := 31, ground := Ground.guard }], guard := some (31, true) }) (v := _) rfl (by kernel_rfl) (by kernel_rfl) (by kernel_rfl) (fun _ _ _ h => h) (yieldsIf_load_mid (by rfl) _ _ rfl R 0 rfl (nums .u8 what) _ (fun _ h => range_keep h RR.out) unH rfl hiW.out) hHeld ?_
        (try simp only [Act.put, List.setIfInBounds_toArray, List.set_cons_zero, List.set_cons_succ])
        refine' wpAnyH_take (i := 33) (oi := { dst := some 89, op := Op.load 34 (Operand.tmp 7), type := 34, pos := "law.go:104", after := #[{ on := 31, ground := Ground.guard }], guard := some (31, true) }) (v := _) rfl (by kernel_rfl) (by kernel_rfl) (by kernel_rfl) (fun _ _ _ h => h) (yieldsIf_load_mid (by rfl) _ _ rfl S 0 rfl (nums .u8 other) _ (fun _ h => range_keep h RS.out) unH rfl hiO.out) hHeld ?_
        (try simp only [Act.put, List.setIfInBounds_toArray, List.set_cons_zero, List.set_cons_succ])
        refine wpAnyH_take (i := 34) (oi := { dst := some 90, op := Op.binOp BinOp.eql 34 (Operand.tmp 88) (Operand.tmp 89) 34, type := 4, pos := "law.go:104", after := #[{ on := 32, ground := Ground.data }, { on := 33, ground := Ground.data }, { on := 31, ground := Ground.guard }], guard := some (31, true) }) (v := ?v16013) rfl (by kernel_rfl) (by kernel_rfl) (by kernel_rfl) (fun _ _ _ h => h) (Or.inl ⟨by rfl, ?hy16013⟩) hHeld ?_
        case hy16013 => (intro w hSw; (try dsimp only at hSw); go_simp; (try with_reducible rfl))
        (try simp only [Act.put, List.setIfInBounds_toArray, List.set_cons_zero, List.set_cons_succ])
        refine wpAnyH_take (i := 35) (oi := { dst := some 91, op := Op.pick (Operand.tmp 87) (Operand.tmp 90) (Operand.const (Value.bool false)), type := 4, pos := "law.go:104", after := #[{ on := 31, ground := Ground.data }, { on := 34, ground := Ground.data }, { on := 19, ground := Ground.guard }], guard := some (19, true) }) (v := ?v16014) rfl (by kernel_rfl) (by kernel_rfl) (by kernel_rfl) (fun _ _ _ h => h) (Or.inl ⟨by rfl, ?hy16014⟩) hHeld ?_
        case hy16014 => (intro w hSw; (try dsimp only at hSw); go_simp; (try with_reducible rfl))
        (try simp only [Act.put, List.setIfInBounds_toArray, List.set_cons_zero, List.set_cons_succ])
        refine wpAnyH_take (i := 36) (oi := { dst := some 92, op := Op.binOp BinOp.eql 4 (Operand.tmp 81) (Operand.tmp 91) 4, type := 4, pos := "law.go:104", after := #[{ on := 25, ground := Ground.data }, { on := 35, ground := Ground.data }, { on := 19, ground := Ground.guard }], guard := some (19, true) }) (v := ?v16015) rfl (by kernel_rfl) (by kernel_rfl) (by kernel_rfl) (fun _ _ _ h => h) (Or.inl ⟨by rfl, ?hy16015⟩) hHeld ?_
        case hy16015 => (intro w hSw; (try dsimp only at hSw); go_simp; (try with_reducible rfl))
        (try simp only [Act.put, List.setIfInBounds_toArray, List.set_cons_zero, List.set_cons_succ])
        refine wpAnyH_take (i := 37) (oi := { dst := some 93, op := Op.pick (Operand.tmp 75) (Operand.tmp 92) (Operand.const (Value.bool false)), type := 4, pos := "law.go:104", after := #[{ on := 19, ground := Ground.data }, { on := 36, ground := Ground.data }], guard := none }) (v := ?v16016) rfl (by kernel_rfl) (by kernel_rfl) (by kernel_rfl) (fun _ _ _ h => h) (Or.inl ⟨by rfl, ?hy16016⟩) hHeld ?_
        case hy16016 => (intro w hSw; (try dsimp only at hSw); go_simp; (try with_reducible rfl))
        (try simp only [Act.put, List.setIfInBounds_toArray, List.set_cons_zero, List.set_cons_succ])
        refine wpAnyH_take (i := 38) (oi := { dst := some 8, op := Op.assign (Operand.tmp 93), type := 4, pos := "law.go:104", after := #[{ on := 37, ground := Ground.data }, { on := 31, ground := Ground.chain }, { on := 0, ground := Ground.phase }, { on := 1, ground := Ground.phase }, { on := 2, ground := Ground.phase }, { on := 3, ground := Ground.phase }, { on := 4, ground := Ground.phase }, { on := 5, ground := Ground.phase }, { on := 6, ground := Ground.phase }, { on := 7, ground := Ground.phase }, { on := 8, ground := Ground.phase }, { on := 9, ground := Ground.phase }, { on := 10, ground := Ground.phase }, { on := 11, ground := Ground.phase }, { on := 12, ground := Ground.phase }, { on := 13, ground := Ground.phase }, { on := 14, ground := Ground.phase }, { on := 15, ground := Ground.phase }, { on := 16, ground := Ground.phase }, { on := 17, ground := Ground.phase }, { on := 18, ground := Ground.phase }, { on := 19, ground := Ground.phase }, { on := 20, ground := Ground.phase }, { on := 21, ground := Ground.phase }, { on := 22, ground := Ground.phase }, { on := 23, ground := Ground.phase }, { on := 24, ground := Ground.phase }, { on := 25, ground := Ground.phase }, { on := 26, ground := Ground.phase }, { on := 27, ground := Ground.phase }, { on := 28, ground := Ground.phase }, { on := 29, ground := Ground.phase }, { on := 30, ground := Ground.phase }, { on := 31, ground := Ground.phase }, { on := 32, ground := Ground.phase }, { on := 33, ground := Ground.phase }, { on := 34, ground := Ground.phase }, { on := 35, ground := Ground.phase }, { on := 36, ground := Ground.phase }, { on := 37, ground := Ground.phase }], guard := none }) (v := ?v16017) rfl (by kernel_rfl) (by kernel_rfl) (by kernel_rfl) (fun _ _ _ h => h) (Or.inl ⟨by rfl, ?hy16017⟩) hHeld ?_
        case hy16017 => (intro w hSw; (try dsimp only at hSw); go_simp; (try with_reducible rfl))
        (try simp only [Act.put, List.setIfInBounds_toArray, List.set_cons_zero, List.set_cons_succ])
        refine wpAnyH_done (by kernel_rfl) ?_ _
        rotate_left
        exact AllReadyH.nil
        exact AllReadyH.nil
        exact AllReadyH.nil
        exact AllReadyH.nil
        exact AllReadyH.nil
        exact AllReadyH.nil
        exact AllReadyH.nil
        exact AllReadyH.nil
        exact AllReadyH.nil
        all_goals
          go_wp2
          go_ret
          exact ⟨by simp, O9.out.bel.trans (hHeld.mono O9.out.bel.size)⟩
      · have hA3 := hid (show aldB (updE (updE noneM X (ownD a, what)) Y (ownD b, other)) (ownD a) what Y = false by simp [aldB, updE, Ne.symm ho])
        clear hXY h1 hxy MID
        go_wp2_with (first | refine wpList_load_mid rfl _ _ rfl P 0 rfl (nums .u8 a) _ RP.out unH rfl hiA.out ?_ | refine wpList_load_mid rfl _ _ rfl Q 0 rfl (nums .u8 b) _ RQ.out unH rfl hiB.out ?_ | refine wpList_load_midG rfl _ _ rfl R 0 rfl (nums .u8 what) _ RR.out unH rfl hiW.out ?_ | refine wpList_load_midG rfl _ _ rfl S 0 rfl (nums .u8 other) _ RS.out unH rfl hiO.out ?_ | refine wpList_load_mid rfl _ _ rfl KX 0 rfl (nums .u8 X) _ RX.out unH rfl hiX.out ?_ | refine wpList_load_mid rfl _ _ rfl KY 0 rfl (nums .u8 Y) _ RY.out unH rfl hiY.out ?_)
        have e4g := guard_hv (ownD a) (ownD b)
        have e4 := eql_hv ob1.1 ob2.1 ob1.2 ob2.2
        rw [decide_eq_false ho] at e4
        clear ho ob1 ob2
        refine wp_region_held_drew (S := fun w' => Below wb.heap.size wb w') (by kernel_rfl) ((Below.refl _ _).drew) (fun hHeld => ?_)
        try simp only [List.size_toArray, List.length_cons, List.length_nil, Nat.reduceAdd, Array.replicate_succ, Array.replicate_zero, List.push_toArray, List.nil_append, List.cons_append]
        refine wpAnyH_take (i := 0) (oi := { dst := some 56, op := Op.move (Operand.tmp 9), type := 24, pos := "law.go:104", after := #[], guard := none }) (v := ?v17001) rfl (by kernel_rfl) (by kernel_rfl) (by kernel_rfl) (fun _ _ _ h => h) (Or.inl ⟨by rfl, ?hy17001⟩) hHeld ?_
        case hy17001 => (intro w hSw; (try dsimp only at hSw); go_simp; (try with_reducible rfl))
        (try simp only [Act.put, List.setIfInBounds_toArray, List.set_cons_zero, List.set_cons_succ])
        refine wpAnyH_ready (rs := [1]) (by kernel_rfl) (by simp) ?_
        refine AllReadyH.cons (o := { dst := some 57, op := Op.call { callee := Callee.value (Operand.func 14), args := #[Operand.tmp 56], argTypes := #[24] }, type := 3, pos := "law.go:104", after := #[{ on := 0, ground := Ground.data }], guard := none }) rfl (fun K hK => ?_) ?_
        go_simp; refine (count_walk ob mb 2 _ _ (HOb.out.below hHeld)).mono ?_; rintro e wo ⟨rfl, rfl⟩
        refine hK.out _ _ (hHeld) (fun hHeld => ?_)
        clear hK K
        (try simp only [List.setIfInBounds_toArray, List.set_cons_zero, List.set_cons_succ])
        refine wpAnyH_take (i := 2) (oi := { dst := some 58, op := Op.binOp BinOp.eql 3 (Operand.tmp 57) (Operand.const (Value.int IntKind.i64 2)) 3, type := 4, pos := "law.go:104", after := #[{ on := 1, ground := Ground.data }], guard := none }) (v := ?v17002) rfl (by kernel_rfl) (by kernel_rfl) (by kernel_rfl) (fun _ _ _ h => h) (Or.inl ⟨by rfl, ?hy17002⟩) hHeld ?_
        case hy17002 => (intro w hSw; (try dsimp only at hSw); go_simp; (try with_reducible rfl))
        (try simp only [Act.put, List.setIfInBounds_toArray, List.set_cons_zero, List.set_cons_succ])
        refine wpAnyH_take (i := 3) (oi := { dst := some 59, op := Op.move (Operand.tmp 58), type := 4, pos := "law.go:104", after := #[{ on := 2, ground := Ground.data }, { on := 1, ground := Ground.chain }], guard := none }) (v := ?v17003) rfl (by kernel_rfl) (by kernel_rfl) (by kernel_rfl) (fun _ _ _ h => h) (Or.inl ⟨by rfl, ?hy17003⟩) hHeld ?_
        case hy17003 => (intro w hSw; (try dsimp only at hSw); go_simp; (try with_reducible rfl))
        (try simp only [Act.put, List.setIfInBounds_toArray, List.set_cons_zero, List.set_cons_succ])
        refine wpAnyH_take (i := 4) (oi := { dst := some 60, op := Op.move (Operand.tmp 9), type := 24, pos := "law.go:104", after := #[{ on := 3, ground := Ground.guard }], guard := some (3, true) }) (v := ?v17004) rfl (by kernel_rfl) (by kernel_rfl) (by kernel_rfl) (fun _ _ _ h => h) (Or.inl ⟨by rfl, ?hy17004⟩) hHeld ?_
        case hy17004 => (intro w hSw; (try dsimp only at hSw); go_simp; (try with_reducible rfl))
        (try simp only [Act.put, List.setIfInBounds_toArray, List.set_cons_zero, List.set_cons_succ])
        refine' wpAnyH_take (i := 5) (oi := { dst := some 61, op := Op.load 34 (Operand.tmp 4), type := 34, pos := "law.go:104", after := #[{ on := 3, ground := Ground.guard }], guard := some (3, true) }) (v := _) rfl (by kernel_rfl) (by kernel_rfl) (by kernel_rfl) (fun _ _ _ h => h) (yieldsIf_load_mid (by rfl) _ _ rfl P 0 rfl (nums .u8 a) _ (fun _ h => range_keep h RP.out) unH rfl hiA.out) hHeld ?_
        (try simp only [Act.put, List.setIfInBounds_toArray, List.set_cons_zero, List.set_cons_succ])
        refine' wpAnyH_take (i := 7) (oi := { dst := some 63, op := Op.load 34 (Operand.tmp 6), type := 34, pos := "law.go:104", after := #[{ on := 3, ground := Ground.guard }], guard := some (3, true) }) (v := _) rfl (by kernel_rfl) (by kernel_rfl) (by kernel_rfl) (fun _ _ _ h => h) (yieldsIf_load_mid (by rfl) _ _ rfl R 0 rfl (nums .u8 what) _ (fun _ h => range_keep h RR.out) unH rfl hiW.out) hHeld ?_
        (try simp only [Act.put, List.setIfInBounds_toArray, List.set_cons_zero, List.set_cons_succ])
        refine' wpAnyH_take (i := 8) (oi := { dst := some 64, op := Op.load 34 (Operand.tmp 10), type := 34, pos := "law.go:104", after := #[{ on := 3, ground := Ground.guard }], guard := some (3, true) }) (v := _) rfl (by kernel_rfl) (by kernel_rfl) (by kernel_rfl) (fun _ _ _ h => h) (yieldsIf_load_mid (by rfl) _ _ rfl KX 0 rfl (nums .u8 X) _ (fun _ h => range_keep h RX.out) unH rfl hiX.out) hHeld ?_
        (try simp only [Act.put, List.setIfInBounds_toArray, List.set_cons_zero, List.set_cons_succ])
        refine wpAnyH_ready (rs := [6]) (by kernel_rfl) (by simp) ?_
        refine AllReadyH.cons (o := { dst := some 62, op := Op.call { callee := Callee.value (Operand.func 12), args := #[Operand.tmp 61], argTypes := #[34] }, type := 34, pos := "law.go:104", after := #[{ on := 5, ground := Ground.data }, { on := 3, ground := Ground.chain }, { on := 3, ground := Ground.guard }], guard := some (3, true) }) rfl (fun K hK => ?_) ?_
        go_simp; refine (owner_walk a ha.1 ha.2 _ (HTb.out.below hHeld)).mono ?_; rintro e wo ⟨rfl, bo⟩
        refine hK.out _ _ (hHeld.trans (bo.mono hHeld.size)) (fun hHeld => ?_)
        clear hK K
        (try simp only [List.setIfInBounds_toArray, List.set_cons_zero, List.set_cons_succ])
        refine wpAnyH_ready (rs := [9]) (by kernel_rfl) (by simp) ?_
        refine AllReadyH.cons (o := { dst := some 65, op := Op.call { callee := Callee.value (Operand.func 13), args := #[Operand.tmp 60, Operand.tmp 62, Operand.tmp 63, Operand.tmp 64], argTypes := #[24, 34, 34, 34] }, type := 4, pos := "law.go:104", after := #[{ on := 4, ground := Ground.data }, { on := 6, ground := Ground.data }, { on := 7, ground := Ground.data }, { on := 8, ground := Ground.data }, { on := 6, ground := Ground.chain }, { on := 3, ground := Ground.guard }], guard := some (3, true) }) rfl (fun K hK => ?_) ?_
        go_simp; refine (allowed_walk (ownD a) what X (ownD_ok _) hw hXo.out ob mb 2 _ _ (HOb.out.below hHeld)).mono ?_; rintro e wo ⟨he, bo⟩; rw [hA1.out] at he; subst he
        refine hK.out _ _ (hHeld.trans (bo.mono hHeld.size)) (fun hHeld => ?_)
        clear hK K
        (try simp only [List.setIfInBounds_toArray, List.set_cons_zero, List.set_cons_succ])
        refine wpAnyH_take (i := 10) (oi := { dst := some 66, op := Op.pick (Operand.tmp 59) (Operand.tmp 65) (Operand.const (Value.bool false)), type := 4, pos := "law.go:104", after := #[{ on := 3, ground := Ground.data }, { on := 9, ground := Ground.data }], guard := none }) (v := ?v17005) rfl (by kernel_rfl) (by kernel_rfl) (by kernel_rfl) (fun _ _ _ h => h) (Or.inl ⟨by rfl, ?hy17005⟩) hHeld ?_
        case hy17005 => (intro w hSw; (try dsimp only at hSw); go_simp; (try with_reducible rfl))
        (try simp only [Act.put, List.setIfInBounds_toArray, List.set_cons_zero, List.set_cons_succ])
        refine wpAnyH_take (i := 11) (oi := { dst := some 67, op := Op.move (Operand.tmp 66), type := 4, pos := "law.go:104", after := #[{ on := 10, ground := Ground.data }, { on := 9, ground := Ground.chain }], guard := none }) (v := ?v17006) rfl (by kernel_rfl) (by kernel_rfl) (by kernel_rfl) (fun _ _ _ h => h) (Or.inl ⟨by rfl, ?hy17006⟩) hHeld ?_
        case hy17006 => (intro w hSw; (try dsimp only at hSw); go_simp; (try with_reducible rfl))
        (try simp only [Act.put, List.setIfInBounds_toArray, List.set_cons_zero, List.set_cons_succ])
        refine wpAnyH_take (i := 12) (oi := { dst := some 68, op := Op.move (Operand.tmp 9), type := 24, pos := "law.go:104", after := #[{ on := 11, ground := Ground.guard }], guard := some (11, true) }) (v := ?v17007) rfl (by kernel_rfl) (by kernel_rfl) (by kernel_rfl) (fun _ _ _ h => h) (Or.inl ⟨by rfl, ?hy17007⟩) hHeld ?_
        case hy17007 => (intro w hSw; (try dsimp only at hSw); go_simp; (try with_reducible rfl))
        (try simp only [Act.put, List.setIfInBounds_toArray, List.set_cons_zero, List.set_cons_succ])
        refine' wpAnyH_take (i := 13) (oi := { dst := some 69, op := Op.load 34 (Operand.tmp 5), type := 34, pos := "law.go:104", after := #[{ on := 11, ground := Ground.guard }], guard := some (11, true) }) (v := _) rfl (by kernel_rfl) (by kernel_rfl) (by kernel_rfl) (fun _ _ _ h => h) (yieldsIf_load_mid (by rfl) _ _ rfl Q 0 rfl (nums .u8 b) _ (fun _ h => range_keep h RQ.out) unH rfl hiB.out) hHeld ?_
        (try simp only [Act.put, List.setIfInBounds_toArray, List.set_cons_zero, List.set_cons_succ])
        refine' wpAnyH_take (i := 15) (oi := { dst := some 71, op := Op.load 34 (Operand.tmp 7), type := 34, pos := "law.go:104", after := #[{ on := 11, ground := Ground.guard }], guard := some (11, true) }) (v := _) rfl (by kernel_rfl) (by kernel_rfl) (by kernel_rfl) (fun _ _ _ h => h) (yieldsIf_load_mid (by rfl) _ _ rfl S 0 rfl (nums .u8 other) _ (fun _ h => range_keep h RS.out) unH rfl hiO.out) hHeld ?_
        (try simp only [Act.put, List.setIfInBounds_toArray, List.set_cons_zero, List.set_cons_succ])
        refine' wpAnyH_take (i := 16) (oi := { dst := some 72, op := Op.load 34 (Operand.tmp 11), type := 34, pos := "law.go:104", after := #[{ on := 11, ground := Ground.guard }], guard := some (11, true) }) (v := _) rfl (by kernel_rfl) (by kernel_rfl) (by kernel_rfl) (fun _ _ _ h => h) (yieldsIf_load_mid (by rfl) _ _ rfl KY 0 rfl (nums .u8 Y) _ (fun _ h => range_keep h RY.out) unH rfl hiY.out) hHeld ?_
        (try simp only [Act.put, List.setIfInBounds_toArray, List.set_cons_zero, List.set_cons_succ])
        refine wpAnyH_ready (rs := [14]) (by kernel_rfl) (by simp) ?_
        refine AllReadyH.cons (o := { dst := some 70, op := Op.call { callee := Callee.value (Operand.func 12), args := #[Operand.tmp 69], argTypes := #[34] }, type := 34, pos := "law.go:104", after := #[{ on := 13, ground := Ground.data }, { on := 11, ground := Ground.chain }, { on := 11, ground := Ground.guard }], guard := some (11, true) }) rfl (fun K hK => ?_) ?_
        go_simp; refine (owner_walk b hb.1 hb.2 _ (HTb.out.below hHeld)).mono ?_; rintro e wo ⟨rfl, bo⟩
        refine hK.out _ _ (hHeld.trans (bo.mono hHeld.size)) (fun hHeld => ?_)
        clear hK K
        (try simp only [List.setIfInBounds_toArray, List.set_cons_zero, List.set_cons_succ])
        refine wpAnyH_ready (rs := [17]) (by kernel_rfl) (by simp) ?_
        refine AllReadyH.cons (o := { dst := some 73, op := Op.call { callee := Callee.value (Operand.func 13), args := #[Operand.tmp 68, Operand.tmp 70, Operand.tmp 71, Operand.tmp 72], argTypes := #[24, 34, 34, 34] }, type := 4, pos := "law.go:104", after := #[{ on := 12, ground := Ground.data }, { on := 14, ground := Ground.data }, { on := 15, ground := Ground.data }, { on := 16, ground := Ground.data }, { on := 14, ground := Ground.chain }, { on := 11, ground := Ground.guard }], guard := some (11, true) }) rfl (fun K hK => ?_) ?_
        go_simp; refine (allowed_walk (ownD b) other Y (ownD_ok _) hoo hYo.out ob mb 2 _ _ (HOb.out.below hHeld)).mono ?_; rintro e wo ⟨he, bo⟩; rw [hA2.out] at he; subst he
        refine hK.out _ _ (hHeld.trans (bo.mono hHeld.size)) (fun hHeld => ?_)
        clear hK K
        (try simp only [List.setIfInBounds_toArray, List.set_cons_zero, List.set_cons_succ])
        refine wpAnyH_take (i := 18) (oi := { dst := some 74, op := Op.pick (Operand.tmp 67) (Operand.tmp 73) (Operand.const (Value.bool false)), type := 4, pos := "law.go:104", after := #[{ on := 11, ground := Ground.data }, { on := 17, ground := Ground.data }], guard := none }) (v := ?v17008) rfl (by kernel_rfl) (by kernel_rfl) (by kernel_rfl) (fun _ _ _ h => h) (Or.inl ⟨by rfl, ?hy17008⟩) hHeld ?_
        case hy17008 => (intro w hSw; (try dsimp only at hSw); go_simp; (try with_reducible rfl))
        (try simp only [Act.put, List.setIfInBounds_toArray, List.set_cons_zero, List.set_cons_succ])
        refine wpAnyH_take (i := 19) (oi := { dst := some 75, op := Op.move (Operand.tmp 74), type := 4, pos := "law.go:104", after := #[{ on := 18, ground := Ground.data }, { on := 17, ground := Ground.chain }], guard := none }) (v := ?v17009) rfl (by kernel_rfl) (by kernel_rfl) (by kernel_rfl) (fun _ _ _ h => h) (Or.inl ⟨by rfl, ?hy17009⟩) hHeld ?_
        case hy17009 => (intro w hSw; (try dsimp only at hSw); go_simp; (try with_reducible rfl))
        (try simp only [Act.put, List.setIfInBounds_toArray, List.set_cons_zero, List.set_cons_succ])
        refine wpAnyH_take (i := 20) (oi := { dst := some 76, op := Op.move (Operand.tmp 9), type := 24, pos := "law.go:104", after := #[{ on := 19, ground := Ground.guard }], guard := some (19, true) }) (v := ?v17010) rfl (by kernel_rfl) (by kernel_rfl) (by kernel_rfl) (fun _ _ _ h => h) (Or.inl ⟨by rfl, ?hy17010⟩) hHeld ?_
        case hy17010 => (intro w hSw; (try dsimp only at hSw); go_simp; (try with_reducible rfl))
        (try simp only [Act.put, List.setIfInBounds_toArray, List.set_cons_zero, List.set_cons_succ])
        refine' wpAnyH_take (i := 21) (oi := { dst := some 77, op := Op.load 34 (Operand.tmp 4), type := 34, pos := "law.go:104", after := #[{ on := 19, ground := Ground.guard }], guard := some (19, true) }) (v := _) rfl (by kernel_rfl) (by kernel_rfl) (by kernel_rfl) (fun _ _ _ h => h) (yieldsIf_load_mid (by rfl) _ _ rfl P 0 rfl (nums .u8 a) _ (fun _ h => range_keep h RP.out) unH rfl hiA.out) hHeld ?_
        (try simp only [Act.put, List.setIfInBounds_toArray, List.set_cons_zero, List.set_cons_succ])
        refine' wpAnyH_take (i := 23) (oi := { dst := some 79, op := Op.load 34 (Operand.tmp 6), type := 34, pos := "law.go:104", after := #[{ on := 19, ground := Ground.guard }], guard := some (19, true) }) (v := _) rfl (by kernel_rfl) (by kernel_rfl) (by kernel_rfl) (fun _ _ _ h => h) (yieldsIf_load_mid (by rfl) _ _ rfl R 0 rfl (nums .u8 what) _ (fun _ h => range_keep h RR.out) unH rfl hiW.out) hHeld ?_
        (try simp only [Act.put, List.setIfInBounds_toArray, List.set_cons_zero, List.set_cons_succ])
        refine' wpAnyH_take (i := 24) (oi := { dst := some 80, op := Op.load 34 (Operand.tmp 11), type := 34, pos := "law.go:104", after := #[{ on := 19, ground := Ground.guard }], guard := some (19, true) }) (v := _) rfl (by kernel_rfl) (by kernel_rfl) (by kernel_rfl) (fun _ _ _ h => h) (yieldsIf_load_mid (by rfl) _ _ rfl KY 0 rfl (nums .u8 Y) _ (fun _ h => range_keep h RY.out) unH rfl hiY.out) hHeld ?_
        (try simp only [Act.put, List.setIfInBounds_toArray, List.set_cons_zero, List.set_cons_succ])
        refine' wpAnyH_take (i := 26) (oi := { dst := some 82, op := Op.load 34 (Operand.tmp 4), type := 34, pos := "law.go:104", after := #[{ on := 19, ground := Ground.guard }], guard := some (19, true) }) (v := _) rfl (by kernel_rfl) (by kernel_rfl) (by kernel_rfl) (fun _ _ _ h => h) (yieldsIf_load_mid (by rfl) _ _ rfl P 0 rfl (nums .u8 a) _ (fun _ h => range_keep h RP.out) unH rfl hiA.out) hHeld ?_
        (try simp only [Act.put, List.setIfInBounds_toArray, List.set_cons_zero, List.set_cons_succ])
        refine' wpAnyH_take (i := 28) (oi := { dst := some 84, op := Op.load 34 (Operand.tmp 5), type := 34, pos := "law.go:104", after := #[{ on := 19, ground := Ground.guard }], guard := some (19, true) }) (v := _) rfl (by kernel_rfl) (by kernel_rfl) (by kernel_rfl) (fun _ _ _ h => h) (yieldsIf_load_mid (by rfl) _ _ rfl Q 0 rfl (nums .u8 b) _ (fun _ h => range_keep h RQ.out) unH rfl hiB.out) hHeld ?_
        (try simp only [Act.put, List.setIfInBounds_toArray, List.set_cons_zero, List.set_cons_succ])
        refine wpAnyH_ready (rs := [22]) (by kernel_rfl) (by simp) ?_
        refine AllReadyH.cons (o := { dst := some 78, op := Op.call { callee := Callee.value (Operand.func 12), args := #[Operand.tmp 77], argTypes := #[34] }, type := 34, pos := "law.go:104", after := #[{ on := 21, ground := Ground.data }, { on := 19, ground := Ground.chain }, { on := 19, ground := Ground.guard }], guard := some (19, true) }) rfl (fun K hK => ?_) ?_
        go_simp; refine (owner_walk a ha.1 ha.2 _ (HTb.out.below hHeld)).mono ?_; rintro e wo ⟨rfl, bo⟩
        refine hK.out _ _ (hHeld.trans (bo.mono hHeld.size)) (fun hHeld => ?_)
        clear hK K
        (try simp only [List.setIfInBounds_toArray, List.set_cons_zero, List.set_cons_succ])
        refine wpAnyH_ready (rs := [25]) (by kernel_rfl) (by simp) ?_
        refine AllReadyH.cons (o := { dst := some 81, op := Op.call { callee := Callee.value (Operand.func 13), args := #[Operand.tmp 76, Operand.tmp 78, Operand.tmp 79, Operand.tmp 80], argTypes := #[24, 34, 34, 34] }, type := 4, pos := "law.go:104", after := #[{ on := 20, ground := Ground.data }, { on := 22, ground := Ground.data }, { on := 23, ground := Ground.data }, { on := 24, ground := Ground.data }, { on := 22, ground := Ground.chain }, { on := 19, ground := Ground.guard }], guard := some (19, true) }) rfl (fun K hK => ?_) ?_
        go_simp; refine (allowed_walk (ownD a) what Y (ownD_ok _) hw hYo.out ob mb 2 _ _ (HOb.out.below hHeld)).mono ?_; rintro e wo ⟨he, bo⟩; rw [hA3.out] at he; subst he
        refine hK.out _ _ (hHeld.trans (bo.mono hHeld.size)) (fun hHeld => ?_)
        clear hK K
        (try simp only [List.setIfInBounds_toArray, List.set_cons_zero, List.set_cons_succ])
        refine wpAnyH_ready (rs := [27]) (by kernel_rfl) (by simp) ?_
        refine AllReadyH.cons (o := { dst := some 83, op := Op.call { callee := Callee.value (Operand.func 12), args := #[Operand.tmp 82], argTypes := #[34] }, type := 34, pos := "law.go:104", after := #[{ on := 26, ground := Ground.data }, { on := 25, ground := Ground.chain }, { on := 19, ground := Ground.guard }], guard := some (19, true) }) rfl (fun K hK => ?_) ?_
        go_simp; refine (owner_walk a ha.1 ha.2 _ (HTb.out.below hHeld)).mono ?_; rintro e wo ⟨rfl, bo⟩
        refine hK.out _ _ (hHeld.trans (bo.mono hHeld.size)) (fun hHeld => ?_)
        clear hK K
        (try simp only [List.setIfInBounds_toArray, List.set_cons_zero, List.set_cons_succ])
        refine wpAnyH_ready (rs := [29]) (by kernel_rfl) (by simp) ?_
        refine AllReadyH.cons (o := { dst := some 85, op := Op.call { callee := Callee.value (Operand.func 12), args := #[Operand.tmp 84], argTypes := #[34] }, type := 34, pos := "law.go:104", after := #[{ on := 28, ground := Ground.data }, { on := 27, ground := Ground.chain }, { on := 19, ground := Ground.guard }], guard := some (19, true) }) rfl (fun K hK => ?_) ?_
        go_simp; refine (owner_walk b hb.1 hb.2 _ (HTb.out.below hHeld)).mono ?_; rintro e wo ⟨rfl, bo⟩
        refine hK.out _ _ (hHeld.trans (bo.mono hHeld.size)) (fun hHeld => ?_)
        clear hK K
        (try simp only [List.setIfInBounds_toArray, List.set_cons_zero, List.set_cons_succ])
        refine wpAnyH_take (i := 30) (oi := { dst := some 86, op := Op.binOp BinOp.eql 34 (Operand.tmp 83) (Operand.tmp 85) 34, type := 4, pos := "law.go:104", after := #[{ on := 27, ground := Ground.data }, { on := 29, ground := Ground.data }, { on := 19, ground := Ground.guard }], guard := some (19, true) }) (v := ?v17011) rfl (by kernel_rfl) (by kernel_rfl) (by kernel_rfl) (fun _ _ _ h => h) (Or.inl ⟨by rfl, ?hy17011⟩) hHeld ?_
        case hy17011 => (intro w hSw; (try dsimp only at hSw); go_simp; (try with_reducible rfl))
        (try simp only [Act.put, List.setIfInBounds_toArray, List.set_cons_zero, List.set_cons_succ])
        refine wpAnyH_take (i := 31) (oi := { dst := some 87, op := Op.move (Operand.tmp 86), type := 4, pos := "law.go:104", after := #[{ on := 30, ground := Ground.data }, { on := 29, ground := Ground.chain }, { on := 19, ground := Ground.guard }], guard := some (19, true) }) (v := ?v17012) rfl (by kernel_rfl) (by kernel_rfl) (by kernel_rfl) (fun _ _ _ h => h) (Or.inl ⟨by rfl, ?hy17012⟩) hHeld ?_
        case hy17012 => (intro w hSw; (try dsimp only at hSw); go_simp; (try with_reducible rfl))
        (try simp only [Act.put, List.setIfInBounds_toArray, List.set_cons_zero, List.set_cons_succ])
        refine wpAnyH_take (i := 32) (oi := { dst := some 88, op := Op.load 34 (Operand.tmp 6), type := 34, pos := "law.go:104", after := #[{ on := 31, ground := Ground.guard }], guard := some (31, true) }) (v := undef) rfl (by kernel_rfl) (by kernel_rfl) (by kernel_rfl) (fun _ _ _ h => h) (Or.inr ⟨by rfl, rfl⟩) hHeld ?_
        (try simp only [Act.put, List.setIfInBounds_toArray, List.set_cons_zero, List.set_cons_succ])
        refine wpAnyH_take (i := 33) (oi := { dst := some 89, op := Op.load 34 (Operand.tmp 7), type := 34, pos := "law.go:104", after := #[{ on := 31, ground := Ground.guard }], guard := some (31, true) }) (v := undef) rfl (by kernel_rfl) (by kernel_rfl) (by kernel_rfl) (fun _ _ _ h => h) (Or.inr ⟨by rfl, rfl⟩) hHeld ?_
        (try simp only [Act.put, List.setIfInBounds_toArray, List.set_cons_zero, List.set_cons_succ])
        refine wpAnyH_take (i := 34) (oi := { dst := some 90, op := Op.binOp BinOp.eql 34 (Operand.tmp 88) (Operand.tmp 89) 34, type := 4, pos := "law.go:104", after := #[{ on := 32, ground := Ground.data }, { on := 33, ground := Ground.data }, { on := 31, ground := Ground.guard }], guard := some (31, true) }) (v := undef) rfl (by kernel_rfl) (by kernel_rfl) (by kernel_rfl) (fun _ _ _ h => h) (Or.inr ⟨by rfl, rfl⟩) hHeld ?_
        (try simp only [Act.put, List.setIfInBounds_toArray, List.set_cons_zero, List.set_cons_succ])
        refine wpAnyH_take (i := 35) (oi := { dst := some 91, op := Op.pick (Operand.tmp 87) (Operand.tmp 90) (Operand.const (Value.bool false)), type := 4, pos := "law.go:104", after := #[{ on := 31, ground := Ground.data }, { on := 34, ground := Ground.data }, { on := 19, ground := Ground.guard }], guard := some (19, true) }) (v := ?v17013) rfl (by kernel_rfl) (by kernel_rfl) (by kernel_rfl) (fun _ _ _ h => h) (Or.inl ⟨by rfl, ?hy17013⟩) hHeld ?_
        case hy17013 => (intro w hSw; (try dsimp only at hSw); go_simp; (try with_reducible rfl))
        (try simp only [Act.put, List.setIfInBounds_toArray, List.set_cons_zero, List.set_cons_succ])
        refine wpAnyH_take (i := 36) (oi := { dst := some 92, op := Op.binOp BinOp.eql 4 (Operand.tmp 81) (Operand.tmp 91) 4, type := 4, pos := "law.go:104", after := #[{ on := 25, ground := Ground.data }, { on := 35, ground := Ground.data }, { on := 19, ground := Ground.guard }], guard := some (19, true) }) (v := ?v17014) rfl (by kernel_rfl) (by kernel_rfl) (by kernel_rfl) (fun _ _ _ h => h) (Or.inl ⟨by rfl, ?hy17014⟩) hHeld ?_
        case hy17014 => (intro w hSw; (try dsimp only at hSw); go_simp; (try with_reducible rfl))
        (try simp only [Act.put, List.setIfInBounds_toArray, List.set_cons_zero, List.set_cons_succ])
        refine wpAnyH_take (i := 37) (oi := { dst := some 93, op := Op.pick (Operand.tmp 75) (Operand.tmp 92) (Operand.const (Value.bool false)), type := 4, pos := "law.go:104", after := #[{ on := 19, ground := Ground.data }, { on := 36, ground := Ground.data }], guard := none }) (v := ?v17015) rfl (by kernel_rfl) (by kernel_rfl) (by kernel_rfl) (fun _ _ _ h => h) (Or.inl ⟨by rfl, ?hy17015⟩) hHeld ?_
        case hy17015 => (intro w hSw; (try dsimp only at hSw); go_simp; (try with_reducible rfl))
        (try simp only [Act.put, List.setIfInBounds_toArray, List.set_cons_zero, List.set_cons_succ])
        refine wpAnyH_take (i := 38) (oi := { dst := some 8, op := Op.assign (Operand.tmp 93), type := 4, pos := "law.go:104", after := #[{ on := 37, ground := Ground.data }, { on := 31, ground := Ground.chain }, { on := 0, ground := Ground.phase }, { on := 1, ground := Ground.phase }, { on := 2, ground := Ground.phase }, { on := 3, ground := Ground.phase }, { on := 4, ground := Ground.phase }, { on := 5, ground := Ground.phase }, { on := 6, ground := Ground.phase }, { on := 7, ground := Ground.phase }, { on := 8, ground := Ground.phase }, { on := 9, ground := Ground.phase }, { on := 10, ground := Ground.phase }, { on := 11, ground := Ground.phase }, { on := 12, ground := Ground.phase }, { on := 13, ground := Ground.phase }, { on := 14, ground := Ground.phase }, { on := 15, ground := Ground.phase }, { on := 16, ground := Ground.phase }, { on := 17, ground := Ground.phase }, { on := 18, ground := Ground.phase }, { on := 19, ground := Ground.phase }, { on := 20, ground := Ground.phase }, { on := 21, ground := Ground.phase }, { on := 22, ground := Ground.phase }, { on := 23, ground := Ground.phase }, { on := 24, ground := Ground.phase }, { on := 25, ground := Ground.phase }, { on := 26, ground := Ground.phase }, { on := 27, ground := Ground.phase }, { on := 28, ground := Ground.phase }, { on := 29, ground := Ground.phase }, { on := 30, ground := Ground.phase }, { on := 31, ground := Ground.phase }, { on := 32, ground := Ground.phase }, { on := 33, ground := Ground.phase }, { on := 34, ground := Ground.phase }, { on := 35, ground := Ground.phase }, { on := 36, ground := Ground.phase }, { on := 37, ground := Ground.phase }], guard := none }) (v := ?v17016) rfl (by kernel_rfl) (by kernel_rfl) (by kernel_rfl) (fun _ _ _ h => h) (Or.inl ⟨by rfl, ?hy17016⟩) hHeld ?_
        case hy17016 => (intro w hSw; (try dsimp only at hSw); go_simp; (try with_reducible rfl))
        (try simp only [Act.put, List.setIfInBounds_toArray, List.set_cons_zero, List.set_cons_succ])
        refine wpAnyH_done (by kernel_rfl) ?_ _
        rotate_left
        exact AllReadyH.nil
        exact AllReadyH.nil
        exact AllReadyH.nil
        exact AllReadyH.nil
        exact AllReadyH.nil
        exact AllReadyH.nil
        exact AllReadyH.nil
        exact AllReadyH.nil
        exact AllReadyH.nil
        all_goals
          go_wp2
          go_ret
          exact ⟨rfl, O9.out.bel.trans (hHeld.mono O9.out.bel.size)⟩
end Go.Proofs.YtbdganopnccicaaDoor

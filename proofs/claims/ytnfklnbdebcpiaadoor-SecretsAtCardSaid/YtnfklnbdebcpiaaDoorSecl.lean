/- The walk of the statement SecretsAt. -/
import Derived.Test.YtnfklnbdebcpiaaDoorSecw
namespace Go.Proofs.YtnfklnbdebcpiaaDoor
open Go.RowKit

set_option maxRecDepth 100000 in
set_option maxHeartbeats 8000000 in
theorem lawAt (s : List Nat) (p : Nat) (hs : H32 s) (hp : p < 18446744073709551616) (w : World) (ht : Tabs w ∧ Tab64 w) :
    Calls Tryd.prog 3 #[hv s, .int .u64 (p : Int)] w fun e w' => e = .returned (.bool true) ∧ Below w.heap.size w w' := by
  have HT := hid ht.1
  have H6 := hid ht.2
  have unH := Tryd.underlying23
  have hiP := hid (infoHl' hs)
  have gP := heap_alloc_new w (.cells (nums .u8 s).toArray 23)
  have b0 := (Below.refl w.heap.size w).alloc (Nat.le_refl _) (.cells (nums .u8 s).toArray 23)
  clear ht
  unfold hv
  go_enter Tryd.func3, Tryd.ntmps3
  go_wp2_with fail
  generalize World.alloc w _ = w0 at *
  refine (sechead_walk w0 (HT.out.below b0) (H6.out.below b0)).mono ?_
  rintro e w1 ⟨rfl, b1⟩
  have B1 := hid (b0.trans (b1.mono b0.size))
  have VP1 := hid (heap_keep gP b1)
  clear gP b0 b1
  generalize hP : w.heap.size = P at *
  have f1 := row_range VP1.out
  have hpw1 : P < w1.heap.size := (Array.getElem?_eq_some_iff.1 VP1.out).1
  by_cases hbig : 281474976710656 ≤ p
  · have t1 : decide ((p : Int) ≥ 281474976710656) = true := by rw [decide_eq_true_eq]; omega
    have HBG := hid hbig
    clear hbig
    go_wp2_with (refine wpList_load_mid rfl _ _ rfl P 0 rfl (nums .u8 s) _ f1 unH rfl hiP.out ?_)
    refine (at_no s p HBG.out _).mono ?_
    rintro e w2 ⟨rfl, b2⟩
    have B2 := hid (B1.out.trans (b2.mono (Nat.le_of_lt hpw1)))
    have hpw2 : P ≤ w2.heap.size := by have := b2.size; omega
    clear b2 f1
    unfold hv
    go_upto_region 4 with (refine wpList_store_row rfl _ _ _ rfl w2.heap.size (nums .u8 zero32).toArray rfl rfl _ _ (heap_alloc_new w2 _) infoHaZ (hzZ _ rfl) oneZ ?_)
    have LA := fun z => laid w2 z (nums .u8 zero32).toArray 23
    generalize hW : World.setRow _ _ _ = w3
    replace LA := hid (hW ▸ LA _)
    have B3 := hid (B2.out.trans (LA.out.2.mono hpw2))
    have rV := row_range LA.out.1
    have e2 : ∀ w, (binOp .eql 23 (.agg (nums .u8 zero32).toArray) (.agg #[.int .u8 0, .int .u8 0, .int .u8 0, .int .u8 0, .int .u8 0, .int .u8 0, .int .u8 0, .int .u8 0, .int .u8 0, .int .u8 0, .int .u8 0, .int .u8 0, .int .u8 0, .int .u8 0, .int .u8 0, .int .u8 0, .int .u8 0, .int .u8 0, .int .u8 0, .int .u8 0, .int .u8 0, .int .u8 0, .int .u8 0, .int .u8 0, .int .u8 0, .int .u8 0, .int .u8 0, .int .u8 0, .int .u8 0, .int .u8 0, .int .u8 0, .int .u8 0])).run Tryd.prog w = .ok (.bool true) w := fun w => by
      have := eql_hv (w := w) zero32_ok.1 zero32_ok.1 zero32_ok.2 zero32_ok.2
      rw [decide_eq_true rfl] at this; exact this
    have e4 : ∀ (op : BinOp) (x y : Operand) (w : World), (eqGuard op 23 x y (.agg (nums .u8 zero32).toArray) (.agg #[.int .u8 0, .int .u8 0, .int .u8 0, .int .u8 0, .int .u8 0, .int .u8 0, .int .u8 0, .int .u8 0, .int .u8 0, .int .u8 0, .int .u8 0, .int .u8 0, .int .u8 0, .int .u8 0, .int .u8 0, .int .u8 0, .int .u8 0, .int .u8 0, .int .u8 0, .int .u8 0, .int .u8 0, .int .u8 0, .int .u8 0, .int .u8 0, .int .u8 0, .int .u8 0, .int .u8 0, .int .u8 0, .int .u8 0, .int .u8 0, .int .u8 0, .int .u8 0])).run Tryd.prog w = .ok () w := guard_hv zero32 zero32
    clear hW LA
    generalize w2.heap.size = V at *
    go_wp2_with (refine wpList_load_midG rfl _ _ rfl V 0 rfl (nums .u8 zero32) _ rV unH rfl infoHlz ?_)
    go_ret
    exact ⟨rfl, hP ▸ B3.out⟩
  · have hp48 : p < 281474976710656 := by omega
    have t1 : decide ((p : Int) ≥ 281474976710656) = false := by rw [decide_eq_false_iff_not]; omega
    clear hbig
    go_wp2_with (refine wpList_load_mid rfl _ _ rfl P 0 rfl (nums .u8 s) _ f1 unH rfl hiP.out ?_)
    refine (at_walk s p hs hp48 _ (HT.out.below (hP ▸ B1.out))).mono ?_
    rintro e w2 ⟨rfl, b2⟩
    have B2 := hid (B1.out.trans (b2.mono (Nat.le_of_lt hpw1)))
    have VP2 := hid (heap_keep VP1.out b2)
    have hpw2 : P ≤ w2.heap.size := by have := b2.size; omega
    clear b2 f1
    have hSo := hid (show H32 (leadN p 48 s) from leadN_ok hs)
    have e1 : ∀ (op : BinOp) (x y : Operand) (w : World), (eqGuard op 23 x y (.agg (nums .u8 (leadN p 48 s)).toArray) (hv (leadN p 48 s))).run Tryd.prog w = .ok () w := guard_hv (leadN p 48 s) (leadN p 48 s)
    have e2 : ∀ w, (binOp .eql 23 (.agg (nums .u8 (leadN p 48 s)).toArray) (hv (leadN p 48 s))).run Tryd.prog w = .ok (.bool true) w := fun w => by
      have := eql_hv (w := w) hSo.out.1 hSo.out.1 hSo.out.2 hSo.out.2
      rw [decide_eq_true rfl] at this; exact this
    obtain ⟨S, hS⟩ : ∃ S, S = leadN p 48 s := ⟨_, rfl⟩
    rw [← hS] at hSo e1 e2 ⊢
    have HS := hid hS
    have hiS := hid (infoHl' hSo.out)
    have hiSa := hid (infoHa hSo.out)
    have hzS : ∀ z : Array Value, z.size = 32 → z.size = (nums .u8 S).toArray.size := fun z hz => by rw [hz, List.size_toArray, nums_length, hSo.out.1]
    have hoS := hid (all_oneCell_toArray (nums_oneCell .u8 S))
    have ld := fun (w : World) => HS.out ▸ lead_walk s p 48 hs hp (by omega) w
    have LDW := hid ld
    clear hS ld
    unfold hv
    go_upto_region 4 with (refine wpList_store_row rfl _ _ _ rfl w2.heap.size (nums .u8 S).toArray rfl rfl _ _ (heap_alloc_new w2 _) hiSa.out (hzS _ rfl) hoS.out ?_)
    have LA := fun z => laid w2 z (nums .u8 S).toArray 23
    generalize hW : World.setRow _ _ _ = wb
    replace LA := hid (hW ▸ LA _)
    have B3 := hid (B2.out.trans (LA.out.2.mono hpw2))
    have RV := hid (row_range LA.out.1)
    have RP := hid (row_range (heap_keep VP2.out LA.out.2))
    have hpb : P ≤ wb.heap.size := by have := B3.out.size; omega
    clear hW LA hzS
    generalize w2.heap.size = V at *
    go_upto_region 6 with (fail)
    clear t1
    refine wp_region_held_drew (S := fun w' => Below wb.heap.size wb w') (by kernel_rfl) ((Below.refl _ _).drew) (fun hHeld => ?_)
    try simp only [List.size_toArray, List.length_cons, List.length_nil, Nat.reduceAdd, Array.replicate_succ, Array.replicate_zero, List.push_toArray, List.nil_append, List.cons_append]
    refine wpAnyH_take (i := 0) (oi := { dst := some 24, op := Op.move (Operand.tmp 6), type := 26, pos := "law.go:56", after := #[], guard := none }) (v := ?v1) rfl (by kernel_rfl) (by kernel_rfl) (by kernel_rfl) (fun _ _ _ h => h) (Or.inl ⟨by rfl, ?hy1⟩) hHeld ?_
    case hy1 => (intro w hSw; (try dsimp only at hSw); go_simp; (try with_reducible rfl))
    (try simp only [Act.put, List.setIfInBounds_toArray, List.set_cons_zero, List.set_cons_succ])
    refine wpAnyH_take (i := 1) (oi := { dst := some 25, op := Op.binOp BinOp.eql 26 (Operand.tmp 24) (Operand.const (Value.int IntKind.i64 0)) 26, type := 4, pos := "law.go:56", after := #[{ on := 0, ground := Ground.data }], guard := none }) (v := ?v2) rfl (by kernel_rfl) (by kernel_rfl) (by kernel_rfl) (fun _ _ _ h => h) (Or.inl ⟨by rfl, ?hy2⟩) hHeld ?_
    case hy2 => (intro w hSw; (try dsimp only at hSw); go_simp; (try with_reducible rfl))
    (try simp only [Act.put, List.setIfInBounds_toArray, List.set_cons_zero, List.set_cons_succ])
    refine wpAnyH_take (i := 2) (oi := { dst := some 26, op := Op.move (Operand.tmp 25), type := 4, pos := "law.go:56", after := #[{ on := 1, ground := Ground.data }], guard := none }) (v := ?v3) rfl (by kernel_rfl) (by kernel_rfl) (by kernel_rfl) (fun _ _ _ h => h) (Or.inl ⟨by rfl, ?hy3⟩) hHeld ?_
    case hy3 => (intro w hSw; (try dsimp only at hSw); go_simp; (try with_reducible rfl))
    (try simp only [Act.put, List.setIfInBounds_toArray, List.set_cons_zero, List.set_cons_succ])
    refine' wpAnyH_take (i := 3) (oi := { dst := some 27, op := Op.load 23 (Operand.tmp 5), type := 23, pos := "law.go:56", after := #[{ on := 2, ground := Ground.guard }], guard := some (2, true) }) (v := _) rfl (by kernel_rfl) (by kernel_rfl) (by kernel_rfl) (fun _ _ _ h => h) (yieldsIf_load_mid (by rfl) _ _ rfl V 0 rfl (nums .u8 S) _ (fun _ h => range_keep h RV.out) unH rfl hiS.out) hHeld ?_
    (try simp only [Act.put, List.setIfInBounds_toArray, List.set_cons_zero, List.set_cons_succ])
    refine' wpAnyH_take (i := 5) (oi := { dst := some 29, op := Op.load 23 (Operand.tmp 2), type := 23, pos := "law.go:56", after := #[{ on := 2, ground := Ground.guard }], guard := some (2, true) }) (v := _) rfl (by kernel_rfl) (by kernel_rfl) (by kernel_rfl) (fun _ _ _ h => h) (yieldsIf_load_mid (by rfl) _ _ rfl P 0 rfl (nums .u8 s) _ (fun _ h => range_keep h RP.out) unH rfl hiP.out) hHeld ?_
    (try simp only [Act.put, List.setIfInBounds_toArray, List.set_cons_zero, List.set_cons_succ])
    refine wpAnyH_take (i := 6) (oi := { dst := some 30, op := Op.move (Operand.tmp 1), type := 24, pos := "law.go:56", after := #[{ on := 2, ground := Ground.guard }], guard := some (2, true) }) (v := ?v4) rfl (by kernel_rfl) (by kernel_rfl) (by kernel_rfl) (fun _ _ _ h => h) (Or.inl ⟨by rfl, ?hy4⟩) hHeld ?_
    case hy4 => (intro w hSw; (try dsimp only at hSw); go_simp; (try with_reducible rfl))
    (try simp only [Act.put, List.setIfInBounds_toArray, List.set_cons_zero, List.set_cons_succ])
    refine wpAnyH_ready (rs := [4]) (by kernel_rfl) (by simp) ?_
    refine AllReadyH.cons (o := { dst := some 28, op := Op.call { callee := Callee.value (Operand.func 11), args := #[], argTypes := #[] }, type := 34, pos := "law.go:56", after := #[{ on := 2, ground := Ground.chain }, { on := 2, ground := Ground.guard }], guard := some (2, true) }) rfl (fun K hK => ?_) ?_
    go_simp; refine (make_walk _).mono ?_; rintro e wm ⟨rfl, bm⟩; have BM := hid bm; clear bm
    refine hK.out _ _ (by first | exact hHeld.trans (BM.out.mono hHeld.size) | exact BM.out) (fun hHeld => ?_)
    clear hK K
    (try simp only [List.setIfInBounds_toArray, List.set_cons_zero, List.set_cons_succ])
    refine wpAnyH_ready (rs := [7]) (by kernel_rfl) (by simp) ?_
    refine AllReadyH.cons (o := { dst := some 31, op := Op.call { callee := Callee.value (Operand.func 10), args := #[Operand.tmp 28, Operand.tmp 29, Operand.tmp 30, Operand.const (Value.int IntKind.i64 48)], argTypes := #[34, 22, 24, 3] }, type := 22, pos := "law.go:56", after := #[{ on := 4, ground := Ground.data }, { on := 5, ground := Ground.data }, { on := 6, ground := Ground.data }, { on := 4, ground := Ground.chain }, { on := 2, ground := Ground.guard }], guard := some (2, true) }) rfl (fun K hK => ?_) ?_
    go_simp; refine (LDW.out _).mono ?_; rintro e wo ⟨rfl, bo⟩; have BO := hid bo; clear bo
    refine hK.out _ _ (by first | exact hHeld.trans (BO.out.mono hHeld.size) | exact BO.out) (fun hHeld => ?_)
    clear hK K
    (try simp only [List.setIfInBounds_toArray, List.set_cons_zero, List.set_cons_succ])
    refine wpAnyH_take (i := 8) (oi := { dst := some 32, op := Op.binOp BinOp.eql 23 (Operand.tmp 27) (Operand.tmp 31) 23, type := 4, pos := "law.go:56", after := #[{ on := 3, ground := Ground.data }, { on := 7, ground := Ground.data }, { on := 2, ground := Ground.guard }], guard := some (2, true) }) (v := ?v5) rfl (by kernel_rfl) (by kernel_rfl) (by kernel_rfl) (fun _ _ _ h => h) (Or.inl ⟨by rfl, ?hy5⟩) hHeld ?_
    case hy5 => (intro w hSw; (try dsimp only at hSw); go_simp; (try with_reducible rfl))
    (try simp only [Act.put, List.setIfInBounds_toArray, List.set_cons_zero, List.set_cons_succ])
    refine wpAnyH_take (i := 9) (oi := { dst := some 33, op := Op.pick (Operand.tmp 26) (Operand.tmp 32) (Operand.const (Value.bool false)), type := 4, pos := "law.go:56", after := #[{ on := 2, ground := Ground.data }, { on := 8, ground := Ground.data }], guard := none }) (v := ?v6) rfl (by kernel_rfl) (by kernel_rfl) (by kernel_rfl) (fun _ _ _ h => h) (Or.inl ⟨by rfl, ?hy6⟩) hHeld ?_
    case hy6 => (intro w hSw; (try dsimp only at hSw); go_simp; (try with_reducible rfl))
    (try simp only [Act.put, List.setIfInBounds_toArray, List.set_cons_zero, List.set_cons_succ])
    refine wpAnyH_take (i := 10) (oi := { dst := some 4, op := Op.assign (Operand.tmp 33), type := 4, pos := "law.go:56", after := #[{ on := 9, ground := Ground.data }, { on := 7, ground := Ground.chain }, { on := 0, ground := Ground.phase }, { on := 1, ground := Ground.phase }, { on := 2, ground := Ground.phase }, { on := 3, ground := Ground.phase }, { on := 4, ground := Ground.phase }, { on := 5, ground := Ground.phase }, { on := 6, ground := Ground.phase }, { on := 7, ground := Ground.phase }, { on := 8, ground := Ground.phase }, { on := 9, ground := Ground.phase }], guard := none }) (v := ?v7) rfl (by kernel_rfl) (by kernel_rfl) (by kernel_rfl) (fun _ _ _ h => h) (Or.inl ⟨by rfl, ?hy7⟩) hHeld ?_
    case hy7 => (intro w hSw; (try dsimp only at hSw); go_simp; (try with_reducible rfl))
    (try simp only [Act.put, List.setIfInBounds_toArray, List.set_cons_zero, List.set_cons_succ])
    refine wpAnyH_done (by kernel_rfl) ?_ _
    rotate_left
    exact AllReadyH.nil
    exact AllReadyH.nil
    all_goals
      have BF := hid (B3.out.trans (hHeld.mono hpb))
      clear hHeld e1 e2
      go_wp2
      go_ret
      exact ⟨rfl, hP ▸ BF.out⟩
end Go.Proofs.YtnfklnbdebcpiaaDoor

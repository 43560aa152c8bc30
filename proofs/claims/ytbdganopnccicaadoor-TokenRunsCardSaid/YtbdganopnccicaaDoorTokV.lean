/- The walk of the statement TokenOwners. -/
import Derived.Test.YtbdganopnccicaaDoorTokN
import Derived.Test.YtbdganopnccicaaDoorRtag
namespace Go.Proofs.YtbdganopnccicaaDoor
open Go.RowKit

theorem row1 {w : World} {g : Nat} {v : Value} {T : TypeId} (h : w.heap[g]? = some (.cells #[v] T (0, 0))) : w.cell? ⟨g, 0, none⟩ = some v := by rw [cell_of_row _ g 0 _ _ (0, 0) h]; rfl
theorem rtag1_walk (nm : ByteArray) (hnm : nm.size ≤ 1048576) (Q : Nat) (a : Option Addr) (xs : List Nat) (hx : EH.ok xs) (w : World) (hQ : w.cell? ⟨Q, 0, none⟩ = some (.slice a 32 32)) (hs : Sl .u8 w a 32 32 xs) :
    Calls Tryd.prog 10 #[tabV, .string nm, .slice (some ⟨Q, 0, none⟩) 1 1] w (DigRes (sha (tagH nm ++ xs)) w) := by
  have P := parts1 hQ hs hx.2 (by omega)
  have hl := hs.len
  have := rtag_walk nm hnm (some ⟨Q, 0, none⟩) 1 1 _ w P (by simp [flat]; omega)
  simpa [flat] using this
theorem rtagO_walk (Q : Nat) (a : Option Addr) (xs : List Nat) (hx : EH.ok xs) (w : World) (hQ : w.cell? ⟨Q, 0, none⟩ = some (.slice a 32 32)) (hs : Sl .u8 w a 32 32 xs) :
    Calls Tryd.prog 10 #[tabV, .string nmOwner, .slice (some ⟨Q, 0, none⟩) 1 1] w (DigRes (ownD xs) w) := rtag1_walk nmOwner nmOwner_size Q a xs hx w hQ hs
set_option maxRecDepth 100000 in
set_option maxHeartbeats 4000000 in
theorem lawOwners (s : List Nat) (hs : EH.ok s) (w : World) (ht : Tabs w) :
    Calls Tryd.prog 6 #[hv s] w (fun e w' => e = .returned (.bool true) ∧ Below w.heap.size w w') := by
  have HT := hid ht
  have unH := Tryd.underlying34
  have hiS := hid (infoHl hs)
  have hO := hid (show EH.ok (ownD s) from ownD_ok s)
  have hiO := hid (infoHl hO.out)
  have hiOa := hid (infoHa hO.out)
  have hzO := hid (sizeHa hO.out)
  have hoO := hid (all_oneCell_toArray (nums_oneCell .u8 (ownD s)))
  have gP := heap_alloc_new w (.cells (nums .u8 s).toArray 34)
  have b0 := (Below.refl w.heap.size w).alloc (Nat.le_refl _) (.cells (nums .u8 s).toArray 34)
  clear ht
  unfold hv
  go_enter Tryd.func6, Tryd.ntmps6
  go_wp2_with fail
  generalize World.alloc w _ = w0 at *
  refine (tokhead_walk w0 (HT.out.below b0)).mono ?_
  rintro e w1 ⟨rfl, b1⟩
  have B1 := hid (b0.trans (b1.mono b0.size))
  have VP1 := hid (heap_keep gP b1)
  clear gP b0 b1
  generalize hP : w.heap.size = P at *
  have f1 := row_range VP1.out
  go_wp2_with (refine wpList_load_mid rfl _ _ rfl P 0 rfl (nums .u8 s) _ f1 unH rfl hiS.out ?_)
  refine (owner_walk s hs.1 hs.2 _ (HT.out.below (hP ▸ B1.out))).mono ?_
  rintro e w2 ⟨rfl, b2⟩
  have hp1 : P ≤ w1.heap.size := by have := B1.out.size; omega
  have B2 := hid (B1.out.trans (b2.mono hp1))
  have VP2 := hid (heap_keep VP1.out b2)
  unfold hv
  clear b2 B1 VP1 f1
  go_upto_region 4 with (refine wpList_store_row rfl _ _ _ rfl w2.heap.size (nums .u8 (ownD s)).toArray rfl rfl _ _ (heap_alloc_new w2 _) hiOa.out (hzO.out _ rfl) hoO.out ?_)
  have LB := fun z => laid w2 z (nums .u8 (ownD s)).toArray 34
  generalize hW : World.setRow _ _ _ = w3
  replace LB := hid (hW ▸ LB _)
  have hp2 : P ≤ w2.heap.size := by have := B2.out.size; omega
  have B3 := hid (B2.out.trans (LB.out.2.mono hp2))
  have VP3 := hid (heap_keep VP2.out LB.out.2)
  have V33 := hid LB.out.1
  have hp3 := B2.out.size
  have hl3 := (Array.getElem?_eq_some_iff.1 LB.out.1).1
  clear hW LB B2 VP2
  generalize hK3 : w2.heap.size = K3 at *
  go_wp2_with fail
  refine (onew_walk w3).mono ?_
  rintro e w4 ⟨ob, mb, rfl, o4, lo, lm, b4⟩
  have O4 := hid (show Offs w ob mb noneM 0 w4 from ⟨o4, hP ▸ (B3.out.trans (b4.mono (by omega))), by omega, by omega⟩)
  have VP4 := hid (heap_keep VP3.out b4)
  have V34 := hid (heap_keep V33.out b4)
  have hpl := (Array.getElem?_eq_some_iff.1 VP3.out).1
  clear o4 b4 VP3 V33 B3
  have f1 := row_range VP4.out
  go_wp2_with (refine wpList_load_mid rfl _ _ rfl P 0 rfl (nums .u8 s) _ f1 unH rfl hiS.out ?_)
  refine (allow_walk s s hs hs ob mb 0 noneM w4 O4.out.off (by decide) (HT.out.below O4.out.bel)).mono ?_
  intro e w5 r
  obtain ⟨rfl, o5, f5⟩ := O4.out.alw r
  have O5 := hid o5
  have VP5 := hid (f5.heap VP4.out (by omega) (by omega))
  have V35 := hid (f5.heap V34.out (by omega) (by omega))
  clear r o5 f5 O4 f1 VP4 V34
  go_upto_region 6 with (fail)
  generalize w5 = wb at *
  have VP := VP5
  have RP := hid (row_range VP5.out)
  have R3 := hid (row_range V35.out)
  have HTb := hid (HT.out.below O5.out.bel)
  have e1 : ∀ (op : BinOp) (x y : Operand) (w : World), (eqGuard op 34 x y (.agg (nums .u8 (ownD s)).toArray) (hv (ownD s))).run Tryd.prog w = .ok () w := guard_hv (ownD s) (ownD s)
  have e2 : ∀ w, (binOp .eql 34 (.agg (nums .u8 (ownD s)).toArray) (hv (ownD s))).run Tryd.prog w = .ok (.bool true) w := fun w => by
    have := eql_hv (w := w) hO.out.1 hO.out.1 hO.out.2 hO.out.2
    rw [decide_eq_true rfl] at this
    exact this
  clear VP5 V35
  refine wp_region_held_drew (S := fun w' => Below wb.heap.size wb w') (by kernel_rfl) ((Below.refl _ _).drew) (fun hHeld => ?_)
  try simp only [List.size_toArray, List.length_cons, List.length_nil, Nat.reduceAdd, Array.replicate_succ, Array.replicate_zero, List.push_toArray, List.nil_append, List.cons_append]
  refine' wpAnyH_take (i := 0) (oi := { dst := some 14, op := Op.load 34 (Operand.tmp 3), type := 34, pos := "law.go:115", after := #[], guard := none }) (v := _) rfl (by kernel_rfl) (by kernel_rfl) (by kernel_rfl) (fun _ _ _ h => h) (yieldsIf_load_mid (by rfl) _ _ rfl K3 0 rfl (nums .u8 (ownD s)) _ (fun _ h => range_keep h R3.out) unH rfl hiO.out) hHeld ?_
  (try simp only [Act.put, List.setIfInBounds_toArray, List.set_cons_zero, List.set_cons_succ])
  refine' wpAnyH_take (i := 1) (oi := { dst := some 15, op := Op.load 34 (Operand.tmp 1), type := 34, pos := "law.go:115", after := #[], guard := none }) (v := _) rfl (by kernel_rfl) (by kernel_rfl) (by kernel_rfl) (fun _ _ _ h => h) (yieldsIf_load_mid (by rfl) _ _ rfl P 0 rfl (nums .u8 s) _ (fun _ h => range_keep h RP.out) unH rfl hiS.out) hHeld ?_
  (try simp only [Act.put, List.setIfInBounds_toArray, List.set_cons_zero, List.set_cons_succ])
  refine wpAnyH_ready (rs := [2]) (by kernel_rfl) (by simp) ?_
  refine AllReadyH.cons (o := { dst := some 16, op := Op.call { callee := Callee.value (Operand.func 12), args := #[Operand.tmp 15], argTypes := #[34] }, type := 34, pos := "law.go:115", after := #[{ on := 1, ground := Ground.data }], guard := none }) rfl (fun K hK => ?_) ?_
  go_simp; refine (owner_walk s hs.1 hs.2 _ (HTb.out.below hHeld)).mono ?_; rintro e wo ⟨rfl, bo⟩; have BO := hid bo; clear bo
  refine hK.out _ _ (by first | exact hHeld.trans (BO.out.mono hHeld.size) | exact BO.out) (fun hHeld => ?_)
  clear hK K
  (try simp only [List.setIfInBounds_toArray, List.set_cons_zero, List.set_cons_succ])
  refine wpAnyH_take (i := 3) (oi := { dst := some 17, op := Op.binOp BinOp.eql 34 (Operand.tmp 14) (Operand.tmp 16) 34, type := 4, pos := "law.go:115", after := #[{ on := 0, ground := Ground.data }, { on := 2, ground := Ground.data }], guard := none }) (v := ?v1) rfl (by kernel_rfl) (by kernel_rfl) (by kernel_rfl) (fun _ _ _ h => h) (Or.inl ⟨by rfl, ?hy1⟩) hHeld ?_
  case hy1 => (intro w hSw; (try dsimp only at hSw); go_simp; (try with_reducible rfl))
  (try simp only [Act.put, List.setIfInBounds_toArray, List.set_cons_zero, List.set_cons_succ])
  refine wpAnyH_take (i := 4) (oi := { dst := some 18, op := Op.move (Operand.tmp 17), type := 4, pos := "law.go:115", after := #[{ on := 3, ground := Ground.data }, { on := 2, ground := Ground.chain }], guard := none }) (v := ?v2) rfl (by kernel_rfl) (by kernel_rfl) (by kernel_rfl) (fun _ _ _ h => h) (Or.inl ⟨by rfl, ?hy2⟩) hHeld ?_
  case hy2 => (intro w hSw; (try dsimp only at hSw); go_simp; (try with_reducible rfl))
  (try simp only [Act.put, List.setIfInBounds_toArray, List.set_cons_zero, List.set_cons_succ])
  refine' wpAnyH_take (i := 5) (oi := { dst := some 19, op := Op.load 34 (Operand.tmp 3), type := 34, pos := "law.go:115", after := #[{ on := 4, ground := Ground.guard }], guard := some (4, true) }) (v := _) rfl (by kernel_rfl) (by kernel_rfl) (by kernel_rfl) (fun _ _ _ h => h) (yieldsIf_load_mid (by rfl) _ _ rfl K3 0 rfl (nums .u8 (ownD s)) _ (fun _ h => range_keep h R3.out) unH rfl hiO.out) hHeld ?_
  (try simp only [Act.put, List.setIfInBounds_toArray, List.set_cons_zero, List.set_cons_succ])
  refine wpAnyH_take (i := 7) (oi := { dst := some 21, op := Op.slice 34 (Operand.tmp 1) none none none, type := 38, pos := "law.go:115", after := #[{ on := 4, ground := Ground.guard }], guard := some (4, true) }) (v := ?v3) rfl (by kernel_rfl) (by kernel_rfl) (by kernel_rfl) (fun _ _ _ h => h) (Or.inl ⟨by rfl, ?hy3⟩) hHeld ?_
  case hy3 => (intro w hSw; (try dsimp only at hSw); go_simp; (try with_reducible rfl))
  (try simp only [Act.put, List.setIfInBounds_toArray, List.set_cons_zero, List.set_cons_succ])
  refine wpAnyH_ready (rs := [6, 8]) (by kernel_rfl) (by simp) ?_
  refine AllReadyH.cons (o := { dst := some 20, op := Op.call { callee := Callee.value (Operand.func 9), args := #[], argTypes := #[] }, type := 30, pos := "law.go:115", after := #[{ on := 4, ground := Ground.chain }, { on := 4, ground := Ground.guard }], guard := some (4, true) }) rfl (fun K hK => ?_) ?_
  go_simp; refine (make_walk _).mono ?_; rintro e wm ⟨rfl, bm⟩; have BM := hid bm; clear bm
  refine hK.out _ _ (by first | exact hHeld.trans (BM.out.mono hHeld.size) | exact BM.out) (fun hHeld => ?_)
  clear hK K
  (try simp only [List.setIfInBounds_toArray, List.set_cons_zero, List.set_cons_succ])
  refine wpAnyH_ready (rs := [8]) (by kernel_rfl) (by simp) ?_
  refine AllReadyH.cons (o := { dst := some 22, op := Op.buildSlice 59 1 #[(0, Operand.tmp 21)], type := 59, pos := "law.go:115", after := #[{ on := 7, ground := Ground.data }, { on := 4, ground := Ground.guard }], guard := some (4, true) }) rfl (fun K hK => ?_) ?_
  go_simp; (first | refine newZ ?_ | refine newZd ?_); intro wq HQ BQ
  refine hK.out _ _ (by first | exact hHeld.trans (BQ.out.mono hHeld.size) | exact BQ.out) (fun hHeld => ?_)
  clear hK K
  (try simp only [List.setIfInBounds_toArray, List.set_cons_zero, List.set_cons_succ])
  refine wpAnyH_ready (rs := [9]) (by kernel_rfl) (by simp) ?_
  refine AllReadyH.cons (o := { dst := some 23, op := Op.call { callee := Callee.value (Operand.func 10), args := #[Operand.tmp 20, Operand.const (Value.string { data := #[109, 111, 110, 101, 121, 101, 114, 47, 111, 119, 110, 101, 114] }), Operand.tmp 22], argTypes := #[30, 9, 59] }, type := 33, pos := "law.go:115", after := #[{ on := 6, ground := Ground.data }, { on := 8, ground := Ground.data }, { on := 6, ground := Ground.chain }, { on := 4, ground := Ground.guard }], guard := some (4, true) }) rfl (fun K hK => ?_) ?_
  go_simp; refine (rtagO_walk _ _ s hs _ (row1 (by first | exact HQ.out | exact heap_keep HQ.out BM.out)) (sl_row (heap_keep VP.out hHeld) hs.1 (by decide))).mono ?_; rintro e wt ⟨rfl, bt⟩; have BT := hid bt; clear bt
  refine hK.out _ _ (by first | exact hHeld.trans (BT.out.mono hHeld.size) | exact BT.out) (fun hHeld => ?_)
  clear hK K
  (try simp only [List.setIfInBounds_toArray, List.set_cons_zero, List.set_cons_succ])
  refine wpAnyH_take (i := 10) (oi := { dst := some 24, op := Op.binOp BinOp.eql 34 (Operand.tmp 19) (Operand.tmp 23) 34, type := 4, pos := "law.go:115", after := #[{ on := 5, ground := Ground.data }, { on := 9, ground := Ground.data }, { on := 4, ground := Ground.guard }], guard := some (4, true) }) (v := ?v4) rfl (by kernel_rfl) (by kernel_rfl) (by kernel_rfl) (fun _ _ _ h => h) (Or.inl ⟨by rfl, ?hy4⟩) hHeld ?_
  case hy4 => (intro w hSw; (try dsimp only at hSw); go_simp; (try with_reducible rfl))
  (try simp only [Act.put, List.setIfInBounds_toArray, List.set_cons_zero, List.set_cons_succ])
  refine wpAnyH_take (i := 11) (oi := { dst := some 25, op := Op.pick (Operand.tmp 18) (Operand.tmp 24) (Operand.const (Value.bool false)), type := 4, pos := "law.go:115", after := #[{ on := 4, ground := Ground.data }, { on := 10, ground := Ground.data }], guard := none }) (v := ?v5) rfl (by kernel_rfl) (by kernel_rfl) (by kernel_rfl) (fun _ _ _ h => h) (Or.inl ⟨by rfl, ?hy5⟩) hHeld ?_
  case hy5 => (intro w hSw; (try dsimp only at hSw); go_simp; (try with_reducible rfl))
  (try simp only [Act.put, List.setIfInBounds_toArray, List.set_cons_zero, List.set_cons_succ])
  refine wpAnyH_take (i := 12) (oi := { dst := some 2, op := Op.assign (Operand.tmp 25), type := 4, pos := "law.go:115", after := #[{ on := 11, ground := Ground.data }, { on := 9, ground := Ground.chain }, { on := 0, ground := Ground.phase }, { on := 1, ground := Ground.phase }, { on := 2, ground := Ground.phase }, { on := 3, ground := Ground.phase }, { on := 4, ground := Ground.phase }, { on := 5, ground := Ground.phase }, { on := 6, ground := Ground.phase }, { on := 7, ground := Ground.phase }, { on := 8, ground := Ground.phase }, { on := 9, ground := Ground.phase }, { on := 10, ground := Ground.phase }, { on := 11, ground := Ground.phase }], guard := none }) (v := ?v6) rfl (by kernel_rfl) (by kernel_rfl) (by kernel_rfl) (fun _ _ _ h => h) (Or.inl ⟨by rfl, ?hy6⟩) hHeld ?_
  case hy6 => (intro w hSw; (try dsimp only at hSw); go_simp; (try with_reducible rfl))
  (try simp only [Act.put, List.setIfInBounds_toArray, List.set_cons_zero, List.set_cons_succ])
  refine wpAnyH_done (by kernel_rfl) ?_ _
  rotate_left
  exact AllReadyH.nil
  exact AllReadyH.nil
  refine AllReadyH.cons (o := { dst := some 22, op := Op.buildSlice 59 1 #[(0, Operand.tmp 21)], type := 59, pos := "law.go:115", after := #[{ on := 7, ground := Ground.data }, { on := 4, ground := Ground.guard }], guard := some (4, true) }) rfl (fun K hK => ?_) ?_
  go_simp; (first | refine newZ ?_ | refine newZd ?_); intro wq HQ BQ
  refine hK.out _ _ (by first | exact hHeld.trans (BQ.out.mono hHeld.size) | exact BQ.out) (fun hHeld => ?_)
  clear hK K
  (try simp only [List.setIfInBounds_toArray, List.set_cons_zero, List.set_cons_succ])
  refine wpAnyH_ready (rs := [6]) (by kernel_rfl) (by simp) ?_
  refine AllReadyH.cons (o := { dst := some 20, op := Op.call { callee := Callee.value (Operand.func 9), args := #[], argTypes := #[] }, type := 30, pos := "law.go:115", after := #[{ on := 4, ground := Ground.chain }, { on := 4, ground := Ground.guard }], guard := some (4, true) }) rfl (fun K hK => ?_) ?_
  go_simp; refine (make_walk _).mono ?_; rintro e wm ⟨rfl, bm⟩; have BM := hid bm; clear bm
  refine hK.out _ _ (by first | exact hHeld.trans (BM.out.mono hHeld.size) | exact BM.out) (fun hHeld => ?_)
  clear hK K
  (try simp only [List.setIfInBounds_toArray, List.set_cons_zero, List.set_cons_succ])
  refine wpAnyH_ready (rs := [9]) (by kernel_rfl) (by simp) ?_
  refine AllReadyH.cons (o := { dst := some 23, op := Op.call { callee := Callee.value (Operand.func 10), args := #[Operand.tmp 20, Operand.const (Value.string { data := #[109, 111, 110, 101, 121, 101, 114, 47, 111, 119, 110, 101, 114] }), Operand.tmp 22], argTypes := #[30, 9, 59] }, type := 33, pos := "law.go:115", after := #[{ on := 6, ground := Ground.data }, { on := 8, ground := Ground.data }, { on := 6, ground := Ground.chain }, { on := 4, ground := Ground.guard }], guard := some (4, true) }) rfl (fun K hK => ?_) ?_
  go_simp; refine (rtagO_walk _ _ s hs _ (row1 (by first | exact HQ.out | exact heap_keep HQ.out BM.out)) (sl_row (heap_keep VP.out hHeld) hs.1 (by decide))).mono ?_; rintro e wt ⟨rfl, bt⟩; have BT := hid bt; clear bt
  refine hK.out _ _ (by first | exact hHeld.trans (BT.out.mono hHeld.size) | exact BT.out) (fun hHeld => ?_)
  clear hK K
  (try simp only [List.setIfInBounds_toArray, List.set_cons_zero, List.set_cons_succ])
  refine wpAnyH_take (i := 10) (oi := { dst := some 24, op := Op.binOp BinOp.eql 34 (Operand.tmp 19) (Operand.tmp 23) 34, type := 4, pos := "law.go:115", after := #[{ on := 5, ground := Ground.data }, { on := 9, ground := Ground.data }, { on := 4, ground := Ground.guard }], guard := some (4, true) }) (v := ?v7) rfl (by kernel_rfl) (by kernel_rfl) (by kernel_rfl) (fun _ _ _ h => h) (Or.inl ⟨by rfl, ?hy7⟩) hHeld ?_
  case hy7 => (intro w hSw; (try dsimp only at hSw); go_simp; (try with_reducible rfl))
  (try simp only [Act.put, List.setIfInBounds_toArray, List.set_cons_zero, List.set_cons_succ])
  refine wpAnyH_take (i := 11) (oi := { dst := some 25, op := Op.pick (Operand.tmp 18) (Operand.tmp 24) (Operand.const (Value.bool false)), type := 4, pos := "law.go:115", after := #[{ on := 4, ground := Ground.data }, { on := 10, ground := Ground.data }], guard := none }) (v := ?v8) rfl (by kernel_rfl) (by kernel_rfl) (by kernel_rfl) (fun _ _ _ h => h) (Or.inl ⟨by rfl, ?hy8⟩) hHeld ?_
  case hy8 => (intro w hSw; (try dsimp only at hSw); go_simp; (try with_reducible rfl))
  (try simp only [Act.put, List.setIfInBounds_toArray, List.set_cons_zero, List.set_cons_succ])
  refine wpAnyH_take (i := 12) (oi := { dst := some 2, op := Op.assign (Operand.tmp 25), type := 4, pos := "law.go:115", after := #[{ on := 11, ground := Ground.data }, { on := 9, ground := Ground.chain }, { on := 0, ground := Ground.phase }, { on := 1, ground := Ground.phase }, { on := 2, ground := Ground.phase }, { on := 3, ground := Ground.phase }, { on := 4, ground := Ground.phase }, { on := 5, ground := Ground.phase }, { on := 6, ground := Ground.phase }, { on := 7, ground := Ground.phase }, { on := 8, ground := Ground.phase }, { on := 9, ground := Ground.phase }, { on := 10, ground := Ground.phase }, { on := 11, ground := Ground.phase }], guard := none }) (v := ?v9) rfl (by kernel_rfl) (by kernel_rfl) (by kernel_rfl) (fun _ _ _ h => h) (Or.inl ⟨by rfl, ?hy9⟩) hHeld ?_
  case hy9 => (intro w hSw; (try dsimp only at hSw); go_simp; (try with_reducible rfl))
  (try simp only [Act.put, List.setIfInBounds_toArray, List.set_cons_zero, List.set_cons_succ])
  refine wpAnyH_done (by kernel_rfl) ?_ _
  rotate_left
  exact AllReadyH.nil
  exact AllReadyH.nil
  exact AllReadyH.nil
  exact AllReadyH.nil
  all_goals
    go_wp2
    go_ret
    exact ⟨rfl, O5.out.bel.trans (hHeld.mono O5.out.bel.size)⟩
end Go.Proofs.YtbdganopnccicaaDoor

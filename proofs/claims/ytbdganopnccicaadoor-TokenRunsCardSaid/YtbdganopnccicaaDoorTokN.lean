/- The chapter's head; the statement TokenNever. -/
import Derived.Test.YtbdganopnccicaaDoorTokA
namespace Go.Proofs.YtbdganopnccicaaDoor
open Go.RowKit

def h1x : List Nat := [1, 0, 0, 0, 0, 0, 0, 0, 0, 0, 0, 0, 0, 0, 0, 0, 0, 0, 0, 0, 0, 0, 0, 0, 0, 0, 0, 0, 0, 0, 0, 0]
def h2x : List Nat := [2, 0, 0, 0, 0, 0, 0, 0, 0, 0, 0, 0, 0, 0, 0, 0, 0, 0, 0, 0, 0, 0, 0, 0, 0, 0, 0, 0, 0, 0, 0, 0]
def h3x : List Nat := [3, 0, 0, 0, 0, 0, 0, 0, 0, 0, 0, 0, 0, 0, 0, 0, 0, 0, 0, 0, 0, 0, 0, 0, 0, 0, 0, 0, 0, 0, 0, 0]
theorem h1_ok : EH.ok h1x := ⟨rfl, by decide⟩
theorem h2_ok : EH.ok h2x := ⟨rfl, by decide⟩
theorem h3_ok : EH.ok h3x := ⟨rfl, by decide⟩
theorem h23 : h2x ≠ h3x := by decide
def noneM : EM := fun _ => none
theorem allM_none (s w : List Nat) : allM noneM s w = updE noneM (tokD s w) (ownD s, w) := rfl
theorem allN_none (s w : List Nat) : allN noneM 0 s w = 1 := rfl
/-- an office of the law's own -/
structure Offs (w0 : World) (ob mb : Nat) (M : EM) (n : Nat) (w : World) : Prop where
  off : OffAt w ob mb M n
  bel : Below w0.heap.size w0 w
  lo : w0.heap.size ≤ ob
  lm : w0.heap.size ≤ mb
theorem Offs.below {w0 w w' : World} {ob mb n : Nat} {M : EM} (h : Offs w0 ob mb M n w) (hb : Below w.heap.size w w') : Offs w0 ob mb M n w' := ⟨h.off.below hb, bstep h.bel hb, h.lo, h.lm⟩
theorem Offs.alw {w0 w w' : World} {ob mb n n' : Nat} {M M' : EM} {t : List Nat} {e : Ending} (h : Offs w0 ob mb M n w) (r : AlwRes w ob mb M' n' t e w') : e = .returned (hv t) ∧ Offs w0 ob mb M' n' w' ∧ Far2 ob mb w w' :=
  ⟨r.1, ⟨r.2.1, h.bel.trans (r.2.2.below h.lo h.lm h.bel.size), h.lo, h.lm⟩, r.2.2⟩
theorem infoHl {xs : List Nat} (h : EH.ok xs) : (Tryd.prog.info? 34).map (·.size) = some (nums .u8 xs).length := by rw [nums_length, h.1]; kernel_rfl
theorem infoHa {xs : List Nat} (h : EH.ok xs) : (Tryd.prog.info? 34).map (·.size) = some (nums .u8 xs).toArray.size := by rw [List.size_toArray]; exact infoHl h
theorem sizeHa {xs : List Nat} (h : EH.ok xs) (z : Array Value) (hz : z.size = 32) : z.size = (nums .u8 xs).toArray.size := by rw [hz]; simp [h.1]
set_option maxRecDepth 100000 in
set_option maxHeartbeats 4000000 in
theorem tokhead_walk (w : World) (ht : Tabs w) : Calls Tryd.prog 7 #[] w (fun e w' => e = .returned (.bool true) ∧ Below w.heap.size w w') := by
  have HT := hid ht
  have unH := Tryd.underlying34
  have hiL := hid (infoHl h1_ok)
  have hiA := hid (infoHa h1_ok)
  have ho1 := hid (all_oneCell_toArray (nums_oneCell .u8 h1x))
  have hTK := hid (tokD_ok h1x h2x)
  have hiT := hid (infoHl hTK.out)
  have hiTa := hid (infoHa hTK.out)
  have hzT := hid (sizeHa hTK.out)
  have hoT := hid (all_oneCell_toArray (nums_oneCell .u8 (tokD h1x h2x)))
  clear ht
  go_enter Tryd.func7, Tryd.ntmps7
  go_wp2_with fail
  refine (onew_walk w).mono ?_
  rintro e w1 ⟨ob, mb, rfl, o1, lo, lm, b1⟩
  have O1 := hid (show Offs w ob mb noneM 0 w1 from ⟨o1, b1, lo, lm⟩)
  have lo' := lo
  have lm' := lm
  clear o1 b1 lo lm
  go_upto_region 5 with (refine wpList_store_row rfl _ _ _ rfl w1.heap.size (nums .u8 h1x).toArray rfl rfl _ _ (heap_alloc_new w1 _) hiA.out rfl ho1.out ?_)
  have LA := fun z => laid w1 z (nums .u8 h1x).toArray 34
  generalize hW : World.setRow _ _ _ = w2
  replace LA := hid (hW ▸ LA _)
  have O2 := hid (O1.out.below LA.out.2)
  have V2 := hid LA.out.1
  have hob1 := (Array.getElem?_eq_some_iff.1 O1.out.off.st).1
  have hmb1 := O1.out.off.map.lt
  clear hW LA O1
  generalize hK2 : w1.heap.size = K2 at *
  have f := row_range V2.out
  go_wp2_with (refine wpList_load_mid rfl _ _ rfl K2 0 rfl (nums .u8 h1x) _ f unH rfl hiL.out ?_)
  refine (allow_walk h1x h2x h1_ok h2_ok ob mb 0 noneM w2 O2.out.off (by decide) (HT.out.below O2.out.bel)).mono ?_
  intro e w3 r
  obtain ⟨rfl, o3, f3⟩ := O2.out.alw r
  rw [allM_none, allN_none] at o3
  have O3 := hid o3
  have V3 := hid (f3.heap V2.out (by omega) (by omega))
  clear r o3 f3 O2 f
  generalize tokD h1x h2x = TK at *
  unfold hv
  go_upto_region 6 with (refine wpList_store_row rfl _ _ _ rfl w3.heap.size (nums .u8 TK).toArray rfl rfl _ _ (heap_alloc_new w3 _) hiTa.out (hzT.out _ rfl) hoT.out ?_)
  have LB := fun z => laid w3 z (nums .u8 TK).toArray 34
  generalize hW : World.setRow _ _ _ = wb
  replace LB := hid (hW ▸ LB _)
  have HOw := hid (O3.out.below LB.out.2)
  have HOb := hid HOw.out.off
  have R2 := hid (row_range (heap_keep V3.out LB.out.2))
  have R3 := hid (row_range LB.out.1)
  have HTb := hid (HT.out.below HOw.out.bel)
  clear hW LB O3 V2 V3
  generalize hK3 : w3.heap.size = K3 at *
  have hA1 := hid (show aldB (updE noneM TK (ownD h1x, h2x)) (ownD h1x) h2x TK = true by simp [aldB, updE])
  have hA2 := hid (show aldB (updE noneM TK (ownD h1x, h2x)) (ownD h1x) h3x TK = false by simp [aldB, updE, h23])
  refine wp_region_held_drew (S := fun w' => Below wb.heap.size wb w') (by kernel_rfl) ((Below.refl _ _).drew) (fun hHeld => ?_)
  try simp only [List.size_toArray, List.length_cons, List.length_nil, Nat.reduceAdd, Array.replicate_succ, Array.replicate_zero, List.push_toArray, List.nil_append, List.cons_append]
  refine wpAnyH_take (i := 0) (oi := { dst := some 12, op := Op.move (Operand.tmp 1), type := 24, pos := "law.go:18", after := #[], guard := none }) (v := ?v9001) rfl (by kernel_rfl) (by kernel_rfl) (by kernel_rfl) (fun _ _ _ h => h) (Or.inl ⟨by rfl, ?hy9001⟩) hHeld ?_
  case hy9001 => (intro w hSw; (try dsimp only at hSw); go_simp; (try with_reducible rfl))
  (try simp only [Act.put, List.setIfInBounds_toArray, List.set_cons_zero, List.set_cons_succ])
  refine' wpAnyH_take (i := 1) (oi := { dst := some 13, op := Op.load 34 (Operand.tmp 2), type := 34, pos := "law.go:18", after := #[], guard := none }) (v := _) rfl (by kernel_rfl) (by kernel_rfl) (by kernel_rfl) (fun _ _ _ h => h) (yieldsIf_load_mid (by rfl) _ _ rfl K2 0 rfl (nums .u8 h1x) _ (fun _ h => range_keep h R2.out) unH rfl hiL.out) hHeld ?_
  (try simp only [Act.put, List.setIfInBounds_toArray, List.set_cons_zero, List.set_cons_succ])
  refine wpAnyH_take (i := 3) (oi := { dst := some 15, op := Op.build 34 #[(0, Operand.const (Value.int IntKind.u8 2))], type := 34, pos := "law.go:18", after := #[], guard := none }) (v := ?v9002) rfl (by kernel_rfl) (by kernel_rfl) (by kernel_rfl) (fun _ _ _ h => h) (Or.inl ⟨by rfl, ?hy9002⟩) hHeld ?_
  case hy9002 => (intro w hSw; (try dsimp only at hSw); go_simp; (try with_reducible rfl))
  (try simp only [Act.put, List.setIfInBounds_toArray, List.set_cons_zero, List.set_cons_succ])
  refine' wpAnyH_take (i := 4) (oi := { dst := some 16, op := Op.load 34 (Operand.tmp 3), type := 34, pos := "law.go:18", after := #[], guard := none }) (v := _) rfl (by kernel_rfl) (by kernel_rfl) (by kernel_rfl) (fun _ _ _ h => h) (yieldsIf_load_mid (by rfl) _ _ rfl K3 0 rfl (nums .u8 TK) _ (fun _ h => range_keep h R3.out) unH rfl hiT.out) hHeld ?_
  (try simp only [Act.put, List.setIfInBounds_toArray, List.set_cons_zero, List.set_cons_succ])
  refine wpAnyH_ready (rs := [2]) (by kernel_rfl) (by simp) ?_
  refine AllReadyH.cons (o := { dst := some 14, op := Op.call { callee := Callee.value (Operand.func 12), args := #[Operand.tmp 13], argTypes := #[34] }, type := 34, pos := "law.go:18", after := #[{ on := 1, ground := Ground.data }], guard := none }) rfl (fun K hK => ?_) ?_
  go_simp; refine (owner_walk h1x h1_ok.1 h1_ok.2 _ (HTb.out.below hHeld)).mono ?_; rintro e wo ⟨rfl, bo⟩
  refine hK.out _ _ (hHeld.trans (bo.mono hHeld.size)) (fun hHeld => ?_)
  clear hK K
  (try simp only [List.setIfInBounds_toArray, List.set_cons_zero, List.set_cons_succ])
  refine wpAnyH_ready (rs := [5]) (by kernel_rfl) (by simp) ?_
  refine AllReadyH.cons (o := { dst := some 17, op := Op.call { callee := Callee.value (Operand.func 13), args := #[Operand.tmp 12, Operand.tmp 14, Operand.tmp 15, Operand.tmp 16], argTypes := #[24, 34, 34, 34] }, type := 4, pos := "law.go:18", after := #[{ on := 0, ground := Ground.data }, { on := 2, ground := Ground.data }, { on := 3, ground := Ground.data }, { on := 4, ground := Ground.data }, { on := 2, ground := Ground.chain }], guard := none }) rfl (fun K hK => ?_) ?_
  go_simp; refine (allowed_walk (ownD h1x) h2x TK (ownD_ok _) h2_ok hTK.out ob mb 1 _ _ (HOb.out.below hHeld)).mono ?_; rintro e wo ⟨he, bo⟩; rw [hA1.out] at he; subst he
  refine hK.out _ _ (hHeld.trans (bo.mono hHeld.size)) (fun hHeld => ?_)
  clear hK K
  (try simp only [List.setIfInBounds_toArray, List.set_cons_zero, List.set_cons_succ])
  refine wpAnyH_take (i := 6) (oi := { dst := some 18, op := Op.move (Operand.tmp 17), type := 4, pos := "law.go:18", after := #[{ on := 5, ground := Ground.data }, { on := 5, ground := Ground.chain }], guard := none }) (v := ?v9003) rfl (by kernel_rfl) (by kernel_rfl) (by kernel_rfl) (fun _ _ _ h => h) (Or.inl ⟨by rfl, ?hy9003⟩) hHeld ?_
  case hy9003 => (intro w hSw; (try dsimp only at hSw); go_simp; (try with_reducible rfl))
  (try simp only [Act.put, List.setIfInBounds_toArray, List.set_cons_zero, List.set_cons_succ])
  refine wpAnyH_take (i := 7) (oi := { dst := some 19, op := Op.move (Operand.tmp 1), type := 24, pos := "law.go:18", after := #[{ on := 6, ground := Ground.guard }], guard := some (6, true) }) (v := ?v9004) rfl (by kernel_rfl) (by kernel_rfl) (by kernel_rfl) (fun _ _ _ h => h) (Or.inl ⟨by rfl, ?hy9004⟩) hHeld ?_
  case hy9004 => (intro w hSw; (try dsimp only at hSw); go_simp; (try with_reducible rfl))
  (try simp only [Act.put, List.setIfInBounds_toArray, List.set_cons_zero, List.set_cons_succ])
  refine' wpAnyH_take (i := 8) (oi := { dst := some 20, op := Op.load 34 (Operand.tmp 2), type := 34, pos := "law.go:18", after := #[{ on := 6, ground := Ground.guard }], guard := some (6, true) }) (v := _) rfl (by kernel_rfl) (by kernel_rfl) (by kernel_rfl) (fun _ _ _ h => h) (yieldsIf_load_mid (by rfl) _ _ rfl K2 0 rfl (nums .u8 h1x) _ (fun _ h => range_keep h R2.out) unH rfl hiL.out) hHeld ?_
  (try simp only [Act.put, List.setIfInBounds_toArray, List.set_cons_zero, List.set_cons_succ])
  refine wpAnyH_take (i := 10) (oi := { dst := some 22, op := Op.build 34 #[(0, Operand.const (Value.int IntKind.u8 3))], type := 34, pos := "law.go:18", after := #[{ on := 6, ground := Ground.guard }], guard := some (6, true) }) (v := ?v9005) rfl (by kernel_rfl) (by kernel_rfl) (by kernel_rfl) (fun _ _ _ h => h) (Or.inl ⟨by rfl, ?hy9005⟩) hHeld ?_
  case hy9005 => (intro w hSw; (try dsimp only at hSw); go_simp; (try with_reducible rfl))
  (try simp only [Act.put, List.setIfInBounds_toArray, List.set_cons_zero, List.set_cons_succ])
  refine' wpAnyH_take (i := 11) (oi := { dst := some 23, op := Op.load 34 (Operand.tmp 3), type := 34, pos := "law.go:18", after := #[{ on := 6, ground := Ground.guard }], guard := some (6, true) }) (v := _) rfl (by kernel_rfl) (by kernel_rfl) (by kernel_rfl) (fun _ _ _ h => h) (yieldsIf_load_mid (by rfl) _ _ rfl K3 0 rfl (nums .u8 TK) _ (fun _ h => range_keep h R3.out) unH rfl hiT.out) hHeld ?_
  (try simp only [Act.put, List.setIfInBounds_toArray, List.set_cons_zero, List.set_cons_succ])
  refine wpAnyH_ready (rs := [9]) (by kernel_rfl) (by simp) ?_
  refine AllReadyH.cons (o := { dst := some 21, op := Op.call { callee := Callee.value (Operand.func 12), args := #[Operand.tmp 20], argTypes := #[34] }, type := 34, pos := "law.go:18", after := #[{ on := 8, ground := Ground.data }, { on := 6, ground := Ground.chain }, { on := 6, ground := Ground.guard }], guard := some (6, true) }) rfl (fun K hK => ?_) ?_
  go_simp; refine (owner_walk h1x h1_ok.1 h1_ok.2 _ (HTb.out.below hHeld)).mono ?_; rintro e wo ⟨rfl, bo⟩
  refine hK.out _ _ (hHeld.trans (bo.mono hHeld.size)) (fun hHeld => ?_)
  clear hK K
  (try simp only [List.setIfInBounds_toArray, List.set_cons_zero, List.set_cons_succ])
  refine wpAnyH_ready (rs := [12]) (by kernel_rfl) (by simp) ?_
  refine AllReadyH.cons (o := { dst := some 24, op := Op.call { callee := Callee.value (Operand.func 13), args := #[Operand.tmp 19, Operand.tmp 21, Operand.tmp 22, Operand.tmp 23], argTypes := #[24, 34, 34, 34] }, type := 4, pos := "law.go:18", after := #[{ on := 7, ground := Ground.data }, { on := 9, ground := Ground.data }, { on := 10, ground := Ground.data }, { on := 11, ground := Ground.data }, { on := 9, ground := Ground.chain }, { on := 6, ground := Ground.guard }], guard := some (6, true) }) rfl (fun K hK => ?_) ?_
  go_simp; refine (allowed_walk (ownD h1x) h3x TK (ownD_ok _) h3_ok hTK.out ob mb 1 _ _ (HOb.out.below hHeld)).mono ?_; rintro e wo ⟨he, bo⟩; rw [hA2.out] at he; subst he
  refine hK.out _ _ (hHeld.trans (bo.mono hHeld.size)) (fun hHeld => ?_)
  clear hK K
  (try simp only [List.setIfInBounds_toArray, List.set_cons_zero, List.set_cons_succ])
  refine wpAnyH_take (i := 13) (oi := { dst := some 25, op := Op.unOp UnOp.not 4 (Operand.tmp 24), type := 4, pos := "law.go:18", after := #[{ on := 12, ground := Ground.data }, { on := 6, ground := Ground.guard }], guard := some (6, true) }) (v := ?v9006) rfl (by kernel_rfl) (by kernel_rfl) (by kernel_rfl) (fun _ _ _ h => h) (Or.inl ⟨by rfl, ?hy9006⟩) hHeld ?_
  case hy9006 => (intro w hSw; (try dsimp only at hSw); go_simp; (try with_reducible rfl))
  (try simp only [Act.put, List.setIfInBounds_toArray, List.set_cons_zero, List.set_cons_succ])
  refine wpAnyH_take (i := 14) (oi := { dst := some 26, op := Op.pick (Operand.tmp 18) (Operand.tmp 25) (Operand.const (Value.bool false)), type := 4, pos := "law.go:18", after := #[{ on := 6, ground := Ground.data }, { on := 13, ground := Ground.data }], guard := none }) (v := ?v9007) rfl (by kernel_rfl) (by kernel_rfl) (by kernel_rfl) (fun _ _ _ h => h) (Or.inl ⟨by rfl, ?hy9007⟩) hHeld ?_
  case hy9007 => (intro w hSw; (try dsimp only at hSw); go_simp; (try with_reducible rfl))
  (try simp only [Act.put, List.setIfInBounds_toArray, List.set_cons_zero, List.set_cons_succ])
  refine wpAnyH_take (i := 15) (oi := { dst := some 27, op := Op.move (Operand.tmp 26), type := 4, pos := "law.go:18", after := #[{ on := 14, ground := Ground.data }, { on := 12, ground := Ground.chain }], guard := none }) (v := ?v9008) rfl (by kernel_rfl) (by kernel_rfl) (by kernel_rfl) (fun _ _ _ h => h) (Or.inl ⟨by rfl, ?hy9008⟩) hHeld ?_
  case hy9008 => (intro w hSw; (try dsimp only at hSw); go_simp; (try with_reducible rfl))
  (try simp only [Act.put, List.setIfInBounds_toArray, List.set_cons_zero, List.set_cons_succ])
  refine wpAnyH_take (i := 16) (oi := { dst := some 28, op := Op.move (Operand.tmp 1), type := 24, pos := "law.go:18", after := #[{ on := 15, ground := Ground.guard }], guard := some (15, true) }) (v := ?v9009) rfl (by kernel_rfl) (by kernel_rfl) (by kernel_rfl) (fun _ _ _ h => h) (Or.inl ⟨by rfl, ?hy9009⟩) hHeld ?_
  case hy9009 => (intro w hSw; (try dsimp only at hSw); go_simp; (try with_reducible rfl))
  (try simp only [Act.put, List.setIfInBounds_toArray, List.set_cons_zero, List.set_cons_succ])
  refine wpAnyH_ready (rs := [17]) (by kernel_rfl) (by simp) ?_
  refine AllReadyH.cons (o := { dst := some 29, op := Op.call { callee := Callee.value (Operand.func 14), args := #[Operand.tmp 28], argTypes := #[24] }, type := 3, pos := "law.go:18", after := #[{ on := 16, ground := Ground.data }, { on := 15, ground := Ground.chain }, { on := 15, ground := Ground.guard }], guard := some (15, true) }) rfl (fun K hK => ?_) ?_
  go_simp; refine (count_walk ob mb 1 _ _ (HOb.out.below hHeld)).mono ?_; rintro e wo ⟨rfl, rfl⟩
  refine hK.out _ _ (hHeld) (fun hHeld => ?_)
  clear hK K
  (try simp only [List.setIfInBounds_toArray, List.set_cons_zero, List.set_cons_succ])
  refine wpAnyH_take (i := 18) (oi := { dst := some 30, op := Op.binOp BinOp.eql 3 (Operand.tmp 29) (Operand.const (Value.int IntKind.i64 1)) 3, type := 4, pos := "law.go:18", after := #[{ on := 17, ground := Ground.data }, { on := 15, ground := Ground.guard }], guard := some (15, true) }) (v := ?v9010) rfl (by kernel_rfl) (by kernel_rfl) (by kernel_rfl) (fun _ _ _ h => h) (Or.inl ⟨by rfl, ?hy9010⟩) hHeld ?_
  case hy9010 => (intro w hSw; (try dsimp only at hSw); go_simp; (try with_reducible rfl))
  (try simp only [Act.put, List.setIfInBounds_toArray, List.set_cons_zero, List.set_cons_succ])
  refine wpAnyH_take (i := 19) (oi := { dst := some 31, op := Op.pick (Operand.tmp 27) (Operand.tmp 30) (Operand.const (Value.bool false)), type := 4, pos := "law.go:18", after := #[{ on := 15, ground := Ground.data }, { on := 18, ground := Ground.data }], guard := none }) (v := ?v9011) rfl (by kernel_rfl) (by kernel_rfl) (by kernel_rfl) (fun _ _ _ h => h) (Or.inl ⟨by rfl, ?hy9011⟩) hHeld ?_
  case hy9011 => (intro w hSw; (try dsimp only at hSw); go_simp; (try with_reducible rfl))
  (try simp only [Act.put, List.setIfInBounds_toArray, List.set_cons_zero, List.set_cons_succ])
  refine wpAnyH_take (i := 20) (oi := { dst := some 0, op := Op.assign (Operand.tmp 31), type := 4, pos := "law.go:18", after := #[{ on := 19, ground := Ground.data }, { on := 17, ground := Ground.chain }, { on := 0, ground := Ground.phase }, { on := 1, ground := Ground.phase }, { on := 2, ground := Ground.phase }, { on := 3, ground := Ground.phase }, { on := 4, ground := Ground.phase }, { on := 5, ground := Ground.phase }, { on := 6, ground := Ground.phase }, { on := 7, ground := Ground.phase }, { on := 8, ground := Ground.phase }, { on := 9, ground := Ground.phase }, { on := 10, ground := Ground.phase }, { on := 11, ground := Ground.phase }, { on := 12, ground := Ground.phase }, { on := 13, ground := Ground.phase }, { on := 14, ground := Ground.phase }, { on := 15, ground := Ground.phase }, { on := 16, ground := Ground.phase }, { on := 17, ground := Ground.phase }, { on := 18, ground := Ground.phase }, { on := 19, ground := Ground.phase }], guard := none }) (v := ?v9012) rfl (by kernel_rfl) (by kernel_rfl) (by kernel_rfl) (fun _ _ _ h => h) (Or.inl ⟨by rfl, ?hy9012⟩) hHeld ?_
  case hy9012 => (intro w hSw; (try dsimp only at hSw); go_simp; (try with_reducible rfl))
  (try simp only [Act.put, List.setIfInBounds_toArray, List.set_cons_zero, List.set_cons_succ])
  refine wpAnyH_done (by kernel_rfl) ?_ _
  rotate_left
  exact AllReadyH.nil
  exact AllReadyH.nil
  exact AllReadyH.nil
  exact AllReadyH.nil
  exact AllReadyH.nil
  go_wp2
  go_ret
  exact ⟨rfl, HOw.out.bel.trans (hHeld.mono HOw.out.bel.size)⟩
set_option maxRecDepth 100000 in
set_option maxHeartbeats 8000000 in
theorem lawNever (sec what t : List Nat) (hs : EH.ok sec) (hw : EH.ok what) (htt : EH.ok t) (w : World) (ht : Tabs w) :
    Calls Tryd.prog 4 #[hv sec, hv what, hv t] w (fun e w' => e = .returned (.bool true) ∧ Below w.heap.size w w') := by
  have HT := hid ht
  have unH := Tryd.underlying34
  have hiS := hid (infoHl hs)
  have hiW := hid (infoHl hw)
  have hiT := hid (infoHl htt)
  have hTK := hid (tokD_ok sec what)
  have hiTK := hid (infoHl hTK.out)
  have hiTKa := hid (infoHa hTK.out)
  have hzTK := hid (sizeHa hTK.out)
  have hoTK := hid (all_oneCell_toArray (nums_oneCell .u8 (tokD sec what)))
  have A3 := alloc3p w (.cells (nums .u8 sec).toArray 34) (.cells (nums .u8 what).toArray 34) (.cells (nums .u8 t).toArray 34)
  clear ht
  unfold hv
  go_enter Tryd.func4, Tryd.ntmps4
  go_wp2_with fail
  obtain ⟨gP, gQ, gR, b0⟩ := A3
  generalize World.alloc (World.alloc (World.alloc w _) _) _ = w0 at *
  refine (tokhead_walk w0 (HT.out.below b0)).mono ?_
  rintro e w1 ⟨rfl, b1⟩
  have B1 := hid (b0.trans (b1.mono b0.size))
  have VP := hid (heap_keep gP b1)
  have VQ := hid (heap_keep gQ b1)
  have VR := hid (heap_keep gR b1)
  have hRl := (Array.getElem?_eq_some_iff.1 (heap_keep gR b1)).1
  clear gP gQ gR b0 b1
  generalize hP : w.heap.size = P at *
  generalize hQ : P + 1 = Q at *
  generalize hR : Q + 1 = R at *
  go_wp2_with fail
  refine (onew_walk w1).mono ?_
  rintro e w2 ⟨ob, mb, rfl, o2, lo, lm, b2⟩
  have O2 := hid (show Offs w ob mb noneM 0 w2 from ⟨o2, hP ▸ (B1.out.trans (b2.mono (by omega))), by omega, by omega⟩)
  have VP2 := hid (heap_keep VP.out b2)
  have VQ2 := hid (heap_keep VQ.out b2)
  have VR2 := hid (heap_keep VR.out b2)
  clear o2 b2 VP VQ VR B1
  go_upto_region 4 with (fail)
  generalize w2 = wb at *
  have RP := hid (row_range VP2.out)
  have RQ := hid (row_range VQ2.out)
  have RR := hid (row_range VR2.out)
  have HOb := hid O2.out.off
  have HTb := hid (HT.out.below O2.out.bel)
  have hA1 := hid (show aldB noneM (ownD sec) what t = false from rfl)
  refine wp_region_held_drew (S := fun w' => Below wb.heap.size wb w') (by kernel_rfl) ((Below.refl _ _).drew) (fun hHeld => ?_)
  try simp only [List.size_toArray, List.length_cons, List.length_nil, Nat.reduceAdd, Array.replicate_succ, Array.replicate_zero, List.push_toArray, List.nil_append, List.cons_append]
  refine wpAnyH_take (i := 0) (oi := { dst := some 13, op := Op.move (Operand.tmp 7), type := 24, pos := "law.go:76", after := #[], guard := none }) (v := ?v10001) rfl (by kernel_rfl) (by kernel_rfl) (by kernel_rfl) (fun _ _ _ h => h) (Or.inl ⟨by rfl, ?hy10001⟩) hHeld ?_
  case hy10001 => (intro w hSw; (try dsimp only at hSw); go_simp; (try with_reducible rfl))
  (try simp only [Act.put, List.setIfInBounds_toArray, List.set_cons_zero, List.set_cons_succ])
  refine' wpAnyH_take (i := 1) (oi := { dst := some 14, op := Op.load 34 (Operand.tmp 3), type := 34, pos := "law.go:76", after := #[], guard := none }) (v := _) rfl (by kernel_rfl) (by kernel_rfl) (by kernel_rfl) (fun _ _ _ h => h) (yieldsIf_load_mid (by rfl) _ _ rfl P 0 rfl (nums .u8 sec) _ (fun _ h => range_keep h RP.out) unH rfl hiS.out) hHeld ?_
  (try simp only [Act.put, List.setIfInBounds_toArray, List.set_cons_zero, List.set_cons_succ])
  refine' wpAnyH_take (i := 3) (oi := { dst := some 16, op := Op.load 34 (Operand.tmp 4), type := 34, pos := "law.go:76", after := #[], guard := none }) (v := _) rfl (by kernel_rfl) (by kernel_rfl) (by kernel_rfl) (fun _ _ _ h => h) (yieldsIf_load_mid (by rfl) _ _ rfl Q 0 rfl (nums .u8 what) _ (fun _ h => range_keep h RQ.out) unH rfl hiW.out) hHeld ?_
  (try simp only [Act.put, List.setIfInBounds_toArray, List.set_cons_zero, List.set_cons_succ])
  refine' wpAnyH_take (i := 4) (oi := { dst := some 17, op := Op.load 34 (Operand.tmp 5), type := 34, pos := "law.go:76", after := #[], guard := none }) (v := _) rfl (by kernel_rfl) (by kernel_rfl) (by kernel_rfl) (fun _ _ _ h => h) (yieldsIf_load_mid (by rfl) _ _ rfl R 0 rfl (nums .u8 t) _ (fun _ h => range_keep h RR.out) unH rfl hiT.out) hHeld ?_
  (try simp only [Act.put, List.setIfInBounds_toArray, List.set_cons_zero, List.set_cons_succ])
  refine wpAnyH_ready (rs := [2]) (by kernel_rfl) (by simp) ?_
  refine AllReadyH.cons (o := { dst := some 15, op := Op.call { callee := Callee.value (Operand.func 12), args := #[Operand.tmp 14], argTypes := #[34] }, type := 34, pos := "law.go:76", after := #[{ on := 1, ground := Ground.data }], guard := none }) rfl (fun K hK => ?_) ?_
  go_simp; refine (owner_walk sec hs.1 hs.2 _ (HTb.out.below hHeld)).mono ?_; rintro e wo ⟨rfl, bo⟩
  refine hK.out _ _ (hHeld.trans (bo.mono hHeld.size)) (fun hHeld => ?_)
  clear hK K
  (try simp only [List.setIfInBounds_toArray, List.set_cons_zero, List.set_cons_succ])
  refine wpAnyH_ready (rs := [5]) (by kernel_rfl) (by simp) ?_
  refine AllReadyH.cons (o := { dst := some 18, op := Op.call { callee := Callee.value (Operand.func 13), args := #[Operand.tmp 13, Operand.tmp 15, Operand.tmp 16, Operand.tmp 17], argTypes := #[24, 34, 34, 34] }, type := 4, pos := "law.go:76", after := #[{ on := 0, ground := Ground.data }, { on := 2, ground := Ground.data }, { on := 3, ground := Ground.data }, { on := 4, ground := Ground.data }, { on := 2, ground := Ground.chain }], guard := none }) rfl (fun K hK => ?_) ?_
  go_simp; refine (allowed_walk (ownD sec) what t (ownD_ok _) hw htt ob mb 0 noneM _ (HOb.out.below hHeld)).mono ?_; rintro e wo ⟨he, bo⟩; rw [hA1.out] at he; subst he
  refine hK.out _ _ (hHeld.trans (bo.mono hHeld.size)) (fun hHeld => ?_)
  clear hK K
  (try simp only [List.setIfInBounds_toArray, List.set_cons_zero, List.set_cons_succ])
  refine wpAnyH_take (i := 6) (oi := { dst := some 19, op := Op.move (Operand.tmp 18), type := 4, pos := "law.go:76", after := #[{ on := 5, ground := Ground.data }, { on := 5, ground := Ground.chain }], guard := none }) (v := ?v10002) rfl (by kernel_rfl) (by kernel_rfl) (by kernel_rfl) (fun _ _ _ h => h) (Or.inl ⟨by rfl, ?hy10002⟩) hHeld ?_
  case hy10002 => (intro w hSw; (try dsimp only at hSw); go_simp; (try with_reducible rfl))
  (try simp only [Act.put, List.setIfInBounds_toArray, List.set_cons_zero, List.set_cons_succ])
  refine wpAnyH_take (i := 7) (oi := { dst := some 20, op := Op.move (Operand.tmp 7), type := 24, pos := "law.go:76", after := #[{ on := 6, ground := Ground.guard }], guard := some (6, false) }) (v := ?v10003) rfl (by kernel_rfl) (by kernel_rfl) (by kernel_rfl) (fun _ _ _ h => h) (Or.inl ⟨by rfl, ?hy10003⟩) hHeld ?_
  case hy10003 => (intro w hSw; (try dsimp only at hSw); go_simp; (try with_reducible rfl))
  (try simp only [Act.put, List.setIfInBounds_toArray, List.set_cons_zero, List.set_cons_succ])
  refine wpAnyH_ready (rs := [8]) (by kernel_rfl) (by simp) ?_
  refine AllReadyH.cons (o := { dst := some 21, op := Op.call { callee := Callee.value (Operand.func 14), args := #[Operand.tmp 20], argTypes := #[24] }, type := 3, pos := "law.go:76", after := #[{ on := 7, ground := Ground.data }, { on := 6, ground := Ground.chain }, { on := 6, ground := Ground.guard }], guard := some (6, false) }) rfl (fun K hK => ?_) ?_
  go_simp; refine (count_walk ob mb 0 _ _ (HOb.out.below hHeld)).mono ?_; rintro e wo ⟨rfl, rfl⟩
  refine hK.out _ _ (hHeld) (fun hHeld => ?_)
  clear hK K
  (try simp only [List.setIfInBounds_toArray, List.set_cons_zero, List.set_cons_succ])
  refine wpAnyH_take (i := 9) (oi := { dst := some 22, op := Op.binOp BinOp.neq 3 (Operand.tmp 21) (Operand.const (Value.int IntKind.i64 0)) 3, type := 4, pos := "law.go:76", after := #[{ on := 8, ground := Ground.data }, { on := 6, ground := Ground.guard }], guard := some (6, false) }) (v := ?v10004) rfl (by kernel_rfl) (by kernel_rfl) (by kernel_rfl) (fun _ _ _ h => h) (Or.inl ⟨by rfl, ?hy10004⟩) hHeld ?_
  case hy10004 => (intro w hSw; (try dsimp only at hSw); go_simp; (try with_reducible rfl))
  (try simp only [Act.put, List.setIfInBounds_toArray, List.set_cons_zero, List.set_cons_succ])
  refine wpAnyH_take (i := 10) (oi := { dst := some 23, op := Op.pick (Operand.tmp 19) (Operand.const (Value.bool true)) (Operand.tmp 22), type := 4, pos := "law.go:76", after := #[{ on := 6, ground := Ground.data }, { on := 9, ground := Ground.data }], guard := none }) (v := ?v10005) rfl (by kernel_rfl) (by kernel_rfl) (by kernel_rfl) (fun _ _ _ h => h) (Or.inl ⟨by rfl, ?hy10005⟩) hHeld ?_
  case hy10005 => (intro w hSw; (try dsimp only at hSw); go_simp; (try with_reducible rfl))
  (try simp only [Act.put, List.setIfInBounds_toArray, List.set_cons_zero, List.set_cons_succ])
  refine wpAnyH_done (by kernel_rfl) ?_ _
  rotate_left
  exact AllReadyH.nil
  exact AllReadyH.nil
  exact AllReadyH.nil
  have O3 := hid (O2.out.below hHeld)
  have VP3 := hid (heap_keep VP2.out hHeld)
  have VQ3 := hid (heap_keep VQ2.out hHeld)
  have VR3 := hid (heap_keep VR2.out hHeld)
  clear hHeld RP RQ RR HOb HTb hA1 O2 VP2 VQ2 VR2 bo
  generalize wo = w3 at *
  have f1 := row_range VP3.out
  have f2 := row_range VQ3.out
  go_wp2_with (first | refine wpList_load_mid rfl _ _ rfl P 0 rfl (nums .u8 sec) _ f1 unH rfl hiS.out ?_ | refine wpList_load_mid rfl _ _ rfl Q 0 rfl (nums .u8 what) _ f2 unH rfl hiW.out ?_)
  refine (allow_walk sec what hs hw ob mb 0 noneM w3 O3.out.off (by decide) (HT.out.below O3.out.bel)).mono ?_
  intro e w4 r
  obtain ⟨rfl, o4, f4⟩ := O3.out.alw r
  rw [allM_none, allN_none] at o4
  have O4 := hid o4
  have VP4 := hid (f4.heap VP3.out (by omega) (by omega))
  have VQ4 := hid (f4.heap VQ3.out (by omega) (by omega))
  have VR4 := hid (f4.heap VR3.out (by omega) (by omega))
  clear r o4 f4 O3 f1 f2 VP3 VQ3 VR3
  generalize tokD sec what = TK at *
  unfold hv
  go_upto_region 7 with (refine wpList_store_row rfl _ _ _ rfl w4.heap.size (nums .u8 TK).toArray rfl rfl _ _ (heap_alloc_new w4 _) hiTKa.out (hzTK.out _ rfl) hoTK.out ?_)
  have LB := fun z => laid w4 z (nums .u8 TK).toArray 34
  generalize hW : World.setRow _ _ _ = w5
  replace LB := hid (hW ▸ LB _)
  have O5 := hid (O4.out.below LB.out.2)
  have VP5 := hid (heap_keep VP4.out LB.out.2)
  have VQ5 := hid (heap_keep VQ4.out LB.out.2)
  have VR5 := hid (heap_keep VR4.out LB.out.2)
  have V85 := hid LB.out.1
  clear hW LB O4 VP4 VQ4 VR4
  generalize hK8 : w4.heap.size = K8 at *
  go_wp2_with fail
  refine (onew_walk w5).mono ?_
  rintro e w6 ⟨ob2, mb2, rfl, o6, _, _, b6⟩
  have HO2b := hid o6
  have O6 := hid (O5.out.below b6)
  have VP6 := hid (heap_keep VP5.out b6)
  have VQ6 := hid (heap_keep VQ5.out b6)
  have VR6 := hid (heap_keep VR5.out b6)
  have V86 := hid (heap_keep V85.out b6)
  clear o6 b6 O5 VP5 VQ5 VR5 V85
  go_upto_region 8 with (fail)
  generalize w6 = wb at *
  have RP := hid (row_range VP6.out)
  have RQ := hid (row_range VQ6.out)
  have R8 := hid (row_range V86.out)
  have HTb := hid (HT.out.below O6.out.bel)
  have hA2 := hid (show aldB noneM (ownD sec) what TK = false from rfl)
  refine wp_region_held_drew (S := fun w' => Below wb.heap.size wb w') (by kernel_rfl) ((Below.refl _ _).drew) (fun hHeld => ?_)
  try simp only [List.size_toArray, List.length_cons, List.length_nil, Nat.reduceAdd, Array.replicate_succ, Array.replicate_zero, List.push_toArray, List.nil_append, List.cons_append]
  refine wpAnyH_take (i := 0) (oi := { dst := some 29, op := Op.move (Operand.tmp 9), type := 24, pos := "law.go:81", after := #[], guard := none }) (v := ?v11001) rfl (by kernel_rfl) (by kernel_rfl) (by kernel_rfl) (fun _ _ _ h => h) (Or.inl ⟨by rfl, ?hy11001⟩) hHeld ?_
  case hy11001 => (intro w hSw; (try dsimp only at hSw); go_simp; (try with_reducible rfl))
  (try simp only [Act.put, List.setIfInBounds_toArray, List.set_cons_zero, List.set_cons_succ])
  refine' wpAnyH_take (i := 1) (oi := { dst := some 30, op := Op.load 34 (Operand.tmp 3), type := 34, pos := "law.go:81", after := #[], guard := none }) (v := _) rfl (by kernel_rfl) (by kernel_rfl) (by kernel_rfl) (fun _ _ _ h => h) (yieldsIf_load_mid (by rfl) _ _ rfl P 0 rfl (nums .u8 sec) _ (fun _ h => range_keep h RP.out) unH rfl hiS.out) hHeld ?_
  (try simp only [Act.put, List.setIfInBounds_toArray, List.set_cons_zero, List.set_cons_succ])
  refine' wpAnyH_take (i := 3) (oi := { dst := some 32, op := Op.load 34 (Operand.tmp 4), type := 34, pos := "law.go:81", after := #[], guard := none }) (v := _) rfl (by kernel_rfl) (by kernel_rfl) (by kernel_rfl) (fun _ _ _ h => h) (yieldsIf_load_mid (by rfl) _ _ rfl Q 0 rfl (nums .u8 what) _ (fun _ h => range_keep h RQ.out) unH rfl hiW.out) hHeld ?_
  (try simp only [Act.put, List.setIfInBounds_toArray, List.set_cons_zero, List.set_cons_succ])
  refine' wpAnyH_take (i := 4) (oi := { dst := some 33, op := Op.load 34 (Operand.tmp 8), type := 34, pos := "law.go:81", after := #[], guard := none }) (v := _) rfl (by kernel_rfl) (by kernel_rfl) (by kernel_rfl) (fun _ _ _ h => h) (yieldsIf_load_mid (by rfl) _ _ rfl K8 0 rfl (nums .u8 TK) _ (fun _ h => range_keep h R8.out) unH rfl hiTK.out) hHeld ?_
  (try simp only [Act.put, List.setIfInBounds_toArray, List.set_cons_zero, List.set_cons_succ])
  refine wpAnyH_ready (rs := [2]) (by kernel_rfl) (by simp) ?_
  refine AllReadyH.cons (o := { dst := some 31, op := Op.call { callee := Callee.value (Operand.func 12), args := #[Operand.tmp 30], argTypes := #[34] }, type := 34, pos := "law.go:81", after := #[{ on := 1, ground := Ground.data }], guard := none }) rfl (fun K hK => ?_) ?_
  go_simp; refine (owner_walk sec hs.1 hs.2 _ (HTb.out.below hHeld)).mono ?_; rintro e wo ⟨rfl, bo⟩
  refine hK.out _ _ (hHeld.trans (bo.mono hHeld.size)) (fun hHeld => ?_)
  clear hK K
  (try simp only [List.setIfInBounds_toArray, List.set_cons_zero, List.set_cons_succ])
  refine wpAnyH_ready (rs := [5]) (by kernel_rfl) (by simp) ?_
  refine AllReadyH.cons (o := { dst := some 34, op := Op.call { callee := Callee.value (Operand.func 13), args := #[Operand.tmp 29, Operand.tmp 31, Operand.tmp 32, Operand.tmp 33], argTypes := #[24, 34, 34, 34] }, type := 4, pos := "law.go:81", after := #[{ on := 0, ground := Ground.data }, { on := 2, ground := Ground.data }, { on := 3, ground := Ground.data }, { on := 4, ground := Ground.data }, { on := 2, ground := Ground.chain }], guard := none }) rfl (fun K hK => ?_) ?_
  go_simp; refine (allowed_walk (ownD sec) what TK (ownD_ok _) hw hTK.out ob2 mb2 0 noneM _ (HO2b.out.below hHeld)).mono ?_; rintro e wo ⟨he, bo⟩; rw [hA2.out] at he; subst he
  refine hK.out _ _ (hHeld.trans (bo.mono hHeld.size)) (fun hHeld => ?_)
  clear hK K
  (try simp only [List.setIfInBounds_toArray, List.set_cons_zero, List.set_cons_succ])
  refine wpAnyH_done (by kernel_rfl) ?_ _
  rotate_left
  exact AllReadyH.nil
  exact AllReadyH.nil
  have O7 := hid (O6.out.below hHeld)
  have VP7 := hid (heap_keep VP6.out hHeld)
  have VQ7 := hid (heap_keep VQ6.out hHeld)
  have VR7 := hid (heap_keep VR6.out hHeld)
  have V87 := hid (heap_keep V86.out hHeld)
  clear hHeld RP RQ R8 HTb hA2 O6 VP6 VQ6 VR6 V86 HO2b bo
  generalize wo = w7 at *
  go_upto_region 10 with (fail)
  generalize w7 = wb at *
  have RP := hid (row_range VP7.out)
  have RQ := hid (row_range VQ7.out)
  have RR := hid (row_range VR7.out)
  have R8 := hid (row_range V87.out)
  have HOb := hid O7.out.off
  have HTb := hid (HT.out.below O7.out.bel)
  by_cases hte : t = TK
  · subst hte
    have r1 := guard_hv t t
    have r2 := eql_hv htt.1 htt.1 htt.2 htt.2
    rw [decide_eq_true rfl] at r2
    unfold hv at r1 r2
    refine wp_region_held_drew (S := fun w' => Below wb.heap.size wb w') (by kernel_rfl) ((Below.refl _ _).drew) (fun hHeld => ?_)
    try simp only [List.size_toArray, List.length_cons, List.length_nil, Nat.reduceAdd, Array.replicate_succ, Array.replicate_zero, List.push_toArray, List.nil_append, List.cons_append]
    refine' wpAnyH_take (i := 0) (oi := { dst := some 35, op := Op.load 34 (Operand.tmp 5), type := 34, pos := "law.go:84", after := #[], guard := none }) (v := _) rfl (by kernel_rfl) (by kernel_rfl) (by kernel_rfl) (fun _ _ _ h => h) (yieldsIf_load_mid (by rfl) _ _ rfl R 0 rfl (nums .u8 t) _ (fun _ h => range_keep h RR.out) unH rfl hiT.out) hHeld ?_
    (try simp only [Act.put, List.setIfInBounds_toArray, List.set_cons_zero, List.set_cons_succ])
    refine' wpAnyH_take (i := 1) (oi := { dst := some 36, op := Op.load 34 (Operand.tmp 8), type := 34, pos := "law.go:84", after := #[], guard := none }) (v := _) rfl (by kernel_rfl) (by kernel_rfl) (by kernel_rfl) (fun _ _ _ h => h) (yieldsIf_load_mid (by rfl) _ _ rfl K8 0 rfl (nums .u8 t) _ (fun _ h => range_keep h R8.out) unH rfl hiT.out) hHeld ?_
    (try simp only [Act.put, List.setIfInBounds_toArray, List.set_cons_zero, List.set_cons_succ])
    refine wpAnyH_take (i := 2) (oi := { dst := some 37, op := Op.binOp BinOp.eql 34 (Operand.tmp 35) (Operand.tmp 36) 34, type := 4, pos := "law.go:84", after := #[{ on := 0, ground := Ground.data }, { on := 1, ground := Ground.data }], guard := none }) (v := ?v13001) rfl (by kernel_rfl) (by kernel_rfl) (by kernel_rfl) (fun _ _ _ h => h) (Or.inl ⟨by rfl, ?hy13001⟩) hHeld ?_
    case hy13001 => (intro w hSw; (try dsimp only at hSw); go_simp; (try with_reducible rfl))
    (try simp only [Act.put, List.setIfInBounds_toArray, List.set_cons_zero, List.set_cons_succ])
    refine wpAnyH_take (i := 3) (oi := { dst := some 38, op := Op.move (Operand.tmp 37), type := 4, pos := "law.go:84", after := #[{ on := 2, ground := Ground.data }], guard := none }) (v := ?v13002) rfl (by kernel_rfl) (by kernel_rfl) (by kernel_rfl) (fun _ _ _ h => h) (Or.inl ⟨by rfl, ?hy13002⟩) hHeld ?_
    case hy13002 => (intro w hSw; (try dsimp only at hSw); go_simp; (try with_reducible rfl))
    (try simp only [Act.put, List.setIfInBounds_toArray, List.set_cons_zero, List.set_cons_succ])
    refine wpAnyH_take (i := 4) (oi := { dst := some 39, op := Op.move (Operand.tmp 7), type := 24, pos := "law.go:84", after := #[{ on := 3, ground := Ground.guard }], guard := some (3, false) }) (v := undef) rfl (by kernel_rfl) (by kernel_rfl) (by kernel_rfl) (fun _ _ _ h => h) (Or.inr ⟨by rfl, rfl⟩) hHeld ?_
    (try simp only [Act.put, List.setIfInBounds_toArray, List.set_cons_zero, List.set_cons_succ])
    refine wpAnyH_take (i := 5) (oi := { dst := some 40, op := Op.load 34 (Operand.tmp 3), type := 34, pos := "law.go:84", after := #[{ on := 3, ground := Ground.guard }], guard := some (3, false) }) (v := undef) rfl (by kernel_rfl) (by kernel_rfl) (by kernel_rfl) (fun _ _ _ h => h) (Or.inr ⟨by rfl, rfl⟩) hHeld ?_
    (try simp only [Act.put, List.setIfInBounds_toArray, List.set_cons_zero, List.set_cons_succ])
    refine wpAnyH_take (i := 6) (oi := { dst := some 41, op := Op.call { callee := Callee.value (Operand.func 12), args := #[Operand.tmp 40], argTypes := #[34] }, type := 34, pos := "law.go:84", after := #[{ on := 5, ground := Ground.data }, { on := 3, ground := Ground.chain }, { on := 3, ground := Ground.guard }], guard := some (3, false) }) (v := undef) rfl (by kernel_rfl) (by kernel_rfl) (by kernel_rfl) (fun _ _ _ h => h) (Or.inr ⟨by rfl, rfl⟩) hHeld ?_
    (try simp only [Act.put, List.setIfInBounds_toArray, List.set_cons_zero, List.set_cons_succ])
    refine wpAnyH_take (i := 7) (oi := { dst := some 42, op := Op.load 34 (Operand.tmp 4), type := 34, pos := "law.go:84", after := #[{ on := 3, ground := Ground.guard }], guard := some (3, false) }) (v := undef) rfl (by kernel_rfl) (by kernel_rfl) (by kernel_rfl) (fun _ _ _ h => h) (Or.inr ⟨by rfl, rfl⟩) hHeld ?_
    (try simp only [Act.put, List.setIfInBounds_toArray, List.set_cons_zero, List.set_cons_succ])
    refine wpAnyH_take (i := 8) (oi := { dst := some 43, op := Op.load 34 (Operand.tmp 5), type := 34, pos := "law.go:84", after := #[{ on := 3, ground := Ground.guard }], guard := some (3, false) }) (v := undef) rfl (by kernel_rfl) (by kernel_rfl) (by kernel_rfl) (fun _ _ _ h => h) (Or.inr ⟨by rfl, rfl⟩) hHeld ?_
    (try simp only [Act.put, List.setIfInBounds_toArray, List.set_cons_zero, List.set_cons_succ])
    refine wpAnyH_take (i := 9) (oi := { dst := some 44, op := Op.call { callee := Callee.value (Operand.func 13), args := #[Operand.tmp 39, Operand.tmp 41, Operand.tmp 42, Operand.tmp 43], argTypes := #[24, 34, 34, 34] }, type := 4, pos := "law.go:84", after := #[{ on := 4, ground := Ground.data }, { on := 6, ground := Ground.data }, { on := 7, ground := Ground.data }, { on := 8, ground := Ground.data }, { on := 6, ground := Ground.chain }, { on := 3, ground := Ground.guard }], guard := some (3, false) }) (v := undef) rfl (by kernel_rfl) (by kernel_rfl) (by kernel_rfl) (fun _ _ _ h => h) (Or.inr ⟨by rfl, rfl⟩) hHeld ?_
    (try simp only [Act.put, List.setIfInBounds_toArray, List.set_cons_zero, List.set_cons_succ])
    refine wpAnyH_take (i := 10) (oi := { dst := some 45, op := Op.unOp UnOp.not 4 (Operand.tmp 44), type := 4, pos := "law.go:84", after := #[{ on := 9, ground := Ground.data }, { on := 3, ground := Ground.guard }], guard := some (3, false) }) (v := undef) rfl (by kernel_rfl) (by kernel_rfl) (by kernel_rfl) (fun _ _ _ h => h) (Or.inr ⟨by rfl, rfl⟩) hHeld ?_
    (try simp only [Act.put, List.setIfInBounds_toArray, List.set_cons_zero, List.set_cons_succ])
    refine wpAnyH_take (i := 11) (oi := { dst := some 46, op := Op.pick (Operand.tmp 38) (Operand.const (Value.bool true)) (Operand.tmp 45), type := 4, pos := "law.go:84", after := #[{ on := 3, ground := Ground.data }, { on := 10, ground := Ground.data }], guard := none }) (v := ?v13003) rfl (by kernel_rfl) (by kernel_rfl) (by kernel_rfl) (fun _ _ _ h => h) (Or.inl ⟨by rfl, ?hy13003⟩) hHeld ?_
    case hy13003 => (intro w hSw; (try dsimp only at hSw); go_simp; (try with_reducible rfl))
    (try simp only [Act.put, List.setIfInBounds_toArray, List.set_cons_zero, List.set_cons_succ])
    refine wpAnyH_take (i := 12) (oi := { dst := some 6, op := Op.assign (Operand.tmp 46), type := 4, pos := "law.go:84", after := #[{ on := 11, ground := Ground.data }, { on := 9, ground := Ground.chain }, { on := 0, ground := Ground.phase }, { on := 1, ground := Ground.phase }, { on := 2, ground := Ground.phase }, { on := 3, ground := Ground.phase }, { on := 4, ground := Ground.phase }, { on := 5, ground := Ground.phase }, { on := 6, ground := Ground.phase }, { on := 7, ground := Ground.phase }, { on := 8, ground := Ground.phase }, { on := 9, ground := Ground.phase }, { on := 10, ground := Ground.phase }, { on := 11, ground := Ground.phase }], guard := none }) (v := ?v13004) rfl (by kernel_rfl) (by kernel_rfl) (by kernel_rfl) (fun _ _ _ h => h) (Or.inl ⟨by rfl, ?hy13004⟩) hHeld ?_
    case hy13004 => (intro w hSw; (try dsimp only at hSw); go_simp; (try with_reducible rfl))
    (try simp only [Act.put, List.setIfInBounds_toArray, List.set_cons_zero, List.set_cons_succ])
    refine wpAnyH_done (by kernel_rfl) ?_ _
    rotate_left
    go_wp2
    go_ret
    exact ⟨rfl, O7.out.bel.trans (hHeld.mono O7.out.bel.size)⟩
  · have r1 := guard_hv t TK
    have r2 := eql_hv htt.1 hTK.out.1 htt.2 hTK.out.2
    rw [decide_eq_false hte] at r2
    unfold hv at r1 r2
    have hA3 := hid (show aldB (updE noneM TK (ownD sec, what)) (ownD sec) what t = false by simp [aldB, updE, hte, noneM])
    refine wp_region_held_drew (S := fun w' => Below wb.heap.size wb w') (by kernel_rfl) ((Below.refl _ _).drew) (fun hHeld => ?_)
    try simp only [List.size_toArray, List.length_cons, List.length_nil, Nat.reduceAdd, Array.replicate_succ, Array.replicate_zero, List.push_toArray, List.nil_append, List.cons_append]
    refine' wpAnyH_take (i := 0) (oi := { dst := some 35, op := Op.load 34 (Operand.tmp 5), type := 34, pos := "law.go:84", after := #[], guard := none }) (v := _) rfl (by kernel_rfl) (by kernel_rfl) (by kernel_rfl) (fun _ _ _ h => h) (yieldsIf_load_mid (by rfl) _ _ rfl R 0 rfl (nums .u8 t) _ (fun _ h => range_keep h RR.out) unH rfl hiT.out) hHeld ?_
    (try simp only [Act.put, List.setIfInBounds_toArray, List.set_cons_zero, List.set_cons_succ])
    refine' wpAnyH_take (i := 1) (oi := { dst := some 36, op := Op.load 34 (Operand.tmp 8), type := 34, pos := "law.go:84", after := #[], guard := none }) (v := _) rfl (by kernel_rfl) (by kernel_rfl) (by kernel_rfl) (fun _ _ _ h => h) (yieldsIf_load_mid (by rfl) _ _ rfl K8 0 rfl (nums .u8 TK) _ (fun _ h => range_keep h R8.out) unH rfl hiTK.out) hHeld ?_
    (try simp only [Act.put, List.setIfInBounds_toArray, List.set_cons_zero, List.set_cons_succ])
    refine wpAnyH_take (i := 2) (oi := { dst := some 37, op := Op.binOp BinOp.eql 34 (Operand.tmp 35) (Operand.tmp 36) 34, type := 4, pos := "law.go:84", after := #[{ on := 0, ground := Ground.data }, { on := 1, ground := Ground.data }], guard := none }) (v := ?v12001) rfl (by kernel_rfl) (by kernel_rfl) (by kernel_rfl) (fun _ _ _ h => h) (Or.inl ⟨by rfl, ?hy12001⟩) hHeld ?_
    case hy12001 => (intro w hSw; (try dsimp only at hSw); go_simp; (try with_reducible rfl))
    (try simp only [Act.put, List.setIfInBounds_toArray, List.set_cons_zero, List.set_cons_succ])
    refine wpAnyH_take (i := 3) (oi := { dst := some 38, op := Op.move (Operand.tmp 37), type := 4, pos := "law.go:84", after := #[{ on := 2, ground := Ground.data }], guard := none }) (v := ?v12002) rfl (by kernel_rfl) (by kernel_rfl) (by kernel_rfl) (fun _ _ _ h => h) (Or.inl ⟨by rfl, ?hy12002⟩) hHeld ?_
    case hy12002 => (intro w hSw; (try dsimp only at hSw); go_simp; (try with_reducible rfl))
    (try simp only [Act.put, List.setIfInBounds_toArray, List.set_cons_zero, List.set_cons_succ])
    refine wpAnyH_take (i := 4) (oi := { dst := some 39, op := Op.move (Operand.tmp 7), type := 24, pos := "law.go:84", after := #[{ on := 3, ground := Ground.guard }], guard := some (3, false) }) (v := ?v12003) rfl (by kernel_rfl) (by kernel_rfl) (by kernel_rfl) (fun _ _ _ h => h) (Or.inl ⟨by rfl, ?hy12003⟩) hHeld ?_
    case hy12003 => (intro w hSw; (try dsimp only at hSw); go_simp; (try with_reducible rfl))
    (try simp only [Act.put, List.setIfInBounds_toArray, List.set_cons_zero, List.set_cons_succ])
    refine' wpAnyH_take (i := 5) (oi := { dst := some 40, op := Op.load 34 (Operand.tmp 3), type := 34, pos := "law.go:84", after := #[{ on := 3, ground := Ground.guard }], guard := some (3, false) }) (v := _) rfl (by kernel_rfl) (by kernel_rfl) (by kernel_rfl) (fun _ _ _ h => h) (yieldsIf_load_mid (by rfl) _ _ rfl P 0 rfl (nums .u8 sec) _ (fun _ h => range_keep h RP.out) unH rfl hiS.out) hHeld ?_
    (try simp only [Act.put, List.setIfInBounds_toArray, List.set_cons_zero, List.set_cons_succ])
    refine' wpAnyH_take (i := 7) (oi := { dst := some 42, op := Op.load 34 (Operand.tmp 4), type := 34, pos := "law.go:84", after := #[{ on := 3, ground := Ground.guard }], guard := some (3, false) }) (v := _) rfl (by kernel_rfl) (by kernel_rfl) (by kernel_rfl) (fun _ _ _ h => h) (yieldsIf_load_mid (by rfl) _ _ rfl Q 0 rfl (nums .u8 what) _ (fun _ h => range_keep h RQ.out) unH rfl hiW.out) hHeld ?_
    (try simp only [Act.put, List.setIfInBounds_toArray, List.set_cons_zero, List.set_cons_succ])
    refine' wpAnyH_take (i := 8) (oi := { dst := some 43, op := Op.load 34 (Operand.tmp 5), type := 34, pos := "law.go:84", after := #[{ on := 3, ground := Ground.guard }], guard := some (3, false) }) (v := _) rfl (by kernel_rfl) (by kernel_rfl) (by kernel_rfl) (fun _ _ _ h => h) (yieldsIf_load_mid (by rfl) _ _ rfl R 0 rfl (nums .u8 t) _ (fun _ h => range_keep h RR.out) unH rfl hiT.out) hHeld ?_
    (try simp only [Act.put, List.setIfInBounds_toArray, List.set_cons_zero, List.set_cons_succ])
    refine wpAnyH_ready (rs := [6]) (by kernel_rfl) (by simp) ?_
    refine AllReadyH.cons (o := { dst := some 41, op := Op.call { callee := Callee.value (Operand.func 12), args := #[Operand.tmp 40], argTypes := #[34] }, type := 34, pos := "law.go:84", after := #[{ on := 5, ground := Ground.data }, { on := 3, ground := Ground.chain }, { on := 3, ground := Ground.guard }], guard := some (3, false) }) rfl (fun K hK => ?_) ?_
    go_simp; refine (owner_walk sec hs.1 hs.2 _ (HTb.out.below hHeld)).mono ?_; rintro e wo ⟨rfl, bo⟩
    refine hK.out _ _ (hHeld.trans (bo.mono hHeld.size)) (fun hHeld => ?_)
    clear hK K
    (try simp only [List.setIfInBounds_toArray, List.set_cons_zero, List.set_cons_succ])
    refine wpAnyH_ready (rs := [9]) (by kernel_rfl) (by simp) ?_
    refine AllReadyH.cons (o := { dst := some 44, op := Op.call { callee := Callee.value (Operand.func 13), args := #[Operand.tmp 39, Operand.tmp 41, Operand.tmp 42, Operand.tmp 43], argTypes := #[24, 34, 34, 34] }, type := 4, pos := "law.go:84", after := #[{ on := 4, ground := Ground.data }, { on := 6, ground := Ground.data }, { on := 7, ground := Ground.data }, { on := 8, ground := Ground.data }, { on := 6, ground := Ground.chain }, { on := 3, ground := Ground.guard }], guard := some (3, false) }) rfl (fun K hK => ?_) ?_
    go_simp; refine (allowed_walk (ownD sec) what t (ownD_ok _) hw htt ob mb 1 _ _ (HOb.out.below hHeld)).mono ?_; rintro e wo ⟨he, bo⟩; rw [hA3.out] at he; subst he
    refine hK.out _ _ (hHeld.trans (bo.mono hHeld.size)) (fun hHeld => ?_)
    clear hK K
    (try simp only [List.setIfInBounds_toArray, List.set_cons_zero, List.set_cons_succ])
    refine wpAnyH_take (i := 10) (oi := { dst := some 45, op := Op.unOp UnOp.not 4 (Operand.tmp 44), type := 4, pos := "law.go:84", after := #[{ on := 9, ground := Ground.data }, { on := 3, ground := Ground.guard }], guard := some (3, false) }) (v := ?v12004) rfl (by kernel_rfl) (by kernel_rfl) (by kernel_rfl) (fun _ _ _ h => h) (Or.inl ⟨by rfl, ?hy12004⟩) hHeld ?_
    case hy12004 => (intro w hSw; (try dsimp only at hSw); go_simp; (try with_reducible rfl))
    (try simp only [Act.put, List.setIfInBounds_toArray, List.set_cons_zero, List.set_cons_succ])
    refine wpAnyH_take (i := 11) (oi := { dst := some 46, op := Op.pick (Operand.tmp 38) (Operand.const (Value.bool true)) (Operand.tmp 45), type := 4, pos := "law.go:84", after := #[{ on := 3, ground := Ground.data }, { on := 10, ground := Ground.data }], guard := none }) (v := ?v12005) rfl (by kernel_rfl) (by kernel_rfl) (by kernel_rfl) (fun _ _ _ h => h) (Or.inl ⟨by rfl, ?hy12005⟩) hHeld ?_
    case hy12005 => (intro w hSw; (try dsimp only at hSw); go_simp; (try with_reducible rfl))
    (try simp only [Act.put, List.setIfInBounds_toArray, List.set_cons_zero, List.set_cons_succ])
    refine wpAnyH_take (i := 12) (oi := { dst := some 6, op := Op.assign (Operand.tmp 46), type := 4, pos := "law.go:84", after := #[{ on := 11, ground := Ground.data }, { on := 9, ground := Ground.chain }, { on := 0, ground := Ground.phase }, { on := 1, ground := Ground.phase }, { on := 2, ground := Ground.phase }, { on := 3, ground := Ground.phase }, { on := 4, ground := Ground.phase }, { on := 5, ground := Ground.phase }, { on := 6, ground := Ground.phase }, { on := 7, ground := Ground.phase }, { on := 8, ground := Ground.phase }, { on := 9, ground := Ground.phase }, { on := 10, ground := Ground.phase }, { on := 11, ground := Ground.phase }], guard := none }) (v := ?v12006) rfl (by kernel_rfl) (by kernel_rfl) (by kernel_rfl) (fun _ _ _ h => h) (Or.inl ⟨by rfl, ?hy12006⟩) hHeld ?_
    case hy12006 => (intro w hSw; (try dsimp only at hSw); go_simp; (try with_reducible rfl))
    (try simp only [Act.put, List.setIfInBounds_toArray, List.set_cons_zero, List.set_cons_succ])
    refine wpAnyH_done (by kernel_rfl) ?_ _
    rotate_left
    exact AllReadyH.nil
    exact AllReadyH.nil
    go_wp2
    go_ret
    exact ⟨rfl, O7.out.bel.trans (hHeld.mono O7.out.bel.size)⟩
end Go.Proofs.YtbdganopnccicaaDoor

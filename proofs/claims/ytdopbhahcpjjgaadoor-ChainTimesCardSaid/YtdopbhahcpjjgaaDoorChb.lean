/- The chain's transaction as bytes: PutPoint, body. -/
import Derived.Test.YtdopbhahcpjjgaaDoorChv
namespace Go.Proofs.YtdopbhahcpjjgaaDoor
open Go.RowKit

theorem rd_lit {w : World} {g : Nat} {e : TypeId} {xs : List Nat} {n : Nat} (hn : xs.length = n) (hm : n ≤ 4096) (h : w.heap[g]? = some (.cells (nums .u8 xs).toArray e (0, 0))) : Rd w 1 (some ⟨g, 0, none⟩) n n (nums .u8 xs) :=
  ⟨by rw [nums_length, hn, Nat.mul_one], Nat.le_refl _, by unfold maxLen; omega, (fun e => nomatch e), g, 0, fun _ => rfl, fun j u hu => by have := gen_cell (j := j) (row_range h) hu; rw [Nat.zero_add]; exact this⟩
theorem grown_nil {w w' : World} (h : w.grownBy w' none) : Below w.heap.size w w' := (Keep.grown (S := fun _ => False) h (fun _ e => nomatch e)).below (fun _ h => h.elim) (Nat.le_refl _)
set_option maxRecDepth 100000 in
set_option maxHeartbeats 4000000 in
theorem cput_walk (tx : List Nat) (o : Int) (ht : H32b tx) (w : World) : Calls Tryd.prog 42 #[.agg (ptI tx o).toArray] w (OutsR w (tx ++ f4 o)) := by
  have HT := hid ht
  obtain ⟨x0, hx0⟩ : ∃ x0, x0 = (o / 16777216 % 256).toNat := ⟨_, rfl⟩
  obtain ⟨x1, hx1⟩ : ∃ x1, x1 = (o / 65536 % 256).toNat := ⟨_, rfl⟩
  obtain ⟨x2, hx2⟩ : ∃ x2, x2 = (o / 256 % 256).toNat := ⟨_, rfl⟩
  obtain ⟨x3, hx3⟩ : ∃ x3, x3 = (o % 256).toNat := ⟨_, rfl⟩
  have e0 : o / 16777216 % 256 = (x0 : Int) := by omega
  have e1 : o / 65536 % 256 = (x1 : Int) := by omega
  have e2 : o / 256 % 256 = (x2 : Int) := by omega
  have e3 : o % 256 = (x3 : Int) := by omega
  have f0 : IntKind.u8.wrap (o / 16777216) = (x0 : Int) := by rw [IntKind.wrap_u8]; omega
  have f1 : IntKind.u8.wrap (o / 65536) = (x1 : Int) := by rw [IntKind.wrap_u8]; omega
  have f2 : IntKind.u8.wrap (o / 256) = (x2 : Int) := by rw [IntKind.wrap_u8]; omega
  have f3 : IntKind.u8.wrap o = (x3 : Int) := by rw [IntKind.wrap_u8]; omega
  have F4 := hid (show f4 o = [x0, x1, x2, x3] by rw [hx0, hx1, hx2, hx3]; rfl)
  obtain ⟨lp, hlp⟩ : ∃ lp, lp = ptI tx o := ⟨_, rfl⟩
  have L0 := hid (show (lp.drop 0).take 32 = nums .u8 tx ∧ lp[32]? = some (.int .i64 o) from by
    rw [hlp]; unfold ptI
    refine ⟨by rw [List.drop_zero, List.take_left' (by rw [nums_length, ht.1])], ?_⟩
    rw [List.getElem?_append_right (by rw [nums_length, ht.1]; exact Nat.le_refl _), nums_length, ht.1]; rfl)
  rw [← hlp]
  have b1 := (Below.refl w.heap.size w).alloc (Nat.le_refl _) (.cells lp.toArray 31)
  have hR := heap_alloc_new w (.cells lp.toArray 31)
  have B1 := hid b1
  clear hx0 hx1 hx2 hx3 ht hlp b1
  go_enter Tryd.func42, Tryd.ntmps42
  go_upto_region 1 with (fail)
  generalize w.alloc (.cells lp.toArray 31) = w1 at *
  have HR := hid hR
  have SL := hid (sl_in hR HT.out L0.out.1)
  have c32 := hid (gen_cell (j := 32) (row_range hR) L0.out.2)
  clear hR
  refine wp_region_held_drew (S := fun w' => Below w1.heap.size w1 w') (by kernel_rfl) ((Below.refl _ _).drew) (fun hHeld => ?_)
  try simp only [List.size_toArray, List.length_cons, List.length_nil, Nat.reduceAdd, Array.replicate_succ, Array.replicate_zero, List.push_toArray, List.nil_append, List.cons_append]
  refine wpAnyH_take (i := 0) (oi := { dst := some 3, op := Op.fieldAddr 31 (Operand.tmp 1) 0, type := 0, pos := "asset.go:40", after := #[], guard := none }) (v := ?v1001) rfl (by kernel_rfl) (by kernel_rfl) (by kernel_rfl) (fun _ _ _ h => h) (Or.inl ⟨by rfl, ?hy1001⟩) hHeld ?_
  case hy1001 => (intro w hSw; (try dsimp only at hSw); go_simp; (try with_reducible rfl))
  (try simp only [Act.put, List.setIfInBounds_toArray, List.set_cons_zero, List.set_cons_succ])
  refine wpAnyH_take (i := 1) (oi := { dst := some 4, op := Op.slice 27 (Operand.tmp 3) none none none, type := 73, pos := "asset.go:40", after := #[{ on := 0, ground := Ground.data }], guard := none }) (v := ?v1002) rfl (by kernel_rfl) (by kernel_rfl) (by kernel_rfl) (fun _ _ _ h => h) (Or.inl ⟨by rfl, ?hy1002⟩) hHeld ?_
  case hy1002 => (intro w hSw; (try dsimp only at hSw); go_simp; (try with_reducible rfl))
  (try simp only [Act.put, List.setIfInBounds_toArray, List.set_cons_zero, List.set_cons_succ])
  refine wpAnyH_take (i := 3) (oi := { dst := some 6, op := Op.fieldAddr 31 (Operand.tmp 1) 1, type := 0, pos := "asset.go:40", after := #[], guard := none }) (v := ?v1003) rfl (by kernel_rfl) (by kernel_rfl) (by kernel_rfl) (fun _ _ _ h => h) (Or.inl ⟨by rfl, ?hy1003⟩) hHeld ?_
  case hy1003 => (intro w hSw; (try dsimp only at hSw); go_simp; (try with_reducible rfl))
  (try simp only [Act.put, List.setIfInBounds_toArray, List.set_cons_zero, List.set_cons_succ])
  refine wpAnyH_take (i := 4) (oi := { dst := some 7, op := Op.load 3 (Operand.tmp 6), type := 3, pos := "asset.go:40", after := #[{ on := 3, ground := Ground.data }], guard := none }) (v := (.int .i64 o)) rfl (by kernel_rfl) (by kernel_rfl) (by kernel_rfl) (fun _ _ _ h => h) (Or.inl ⟨by rfl, fun w h => by have c9 := cell_keep h c32.out; go_simp⟩) hHeld ?_
  (try simp only [Act.put, List.setIfInBounds_toArray, List.set_cons_zero, List.set_cons_succ])
  refine wpAnyH_take (i := 5) (oi := { dst := some 8, op := Op.binOp BinOp.shr 3 (Operand.tmp 7) (Operand.const (Value.int IntKind.u64 24)) 122, type := 3, pos := "asset.go:40", after := #[{ on := 4, ground := Ground.data }], guard := none }) (v := ?v1004) rfl (by kernel_rfl) (by kernel_rfl) (by kernel_rfl) (fun _ _ _ h => h) (Or.inl ⟨by rfl, ?hy1004⟩) hHeld ?_
  case hy1004 => (intro w hSw; (try dsimp only at hSw); go_simp; (try with_reducible rfl))
  (try simp only [Act.put, List.setIfInBounds_toArray, List.set_cons_zero, List.set_cons_succ])
  refine wpAnyH_take (i := 6) (oi := { dst := some 9, op := Op.convert 3 5 (Operand.tmp 8), type := 5, pos := "asset.go:40", after := #[{ on := 5, ground := Ground.data }], guard := none }) (v := ?v1005) rfl (by kernel_rfl) (by kernel_rfl) (by kernel_rfl) (fun _ _ _ h => h) (Or.inl ⟨by rfl, ?hy1005⟩) hHeld ?_
  case hy1005 => (intro w hSw; (try dsimp only at hSw); go_simp; (try with_reducible rfl))
  (try simp only [Act.put, List.setIfInBounds_toArray, List.set_cons_zero, List.set_cons_succ])
  refine wpAnyH_take (i := 7) (oi := { dst := some 10, op := Op.fieldAddr 31 (Operand.tmp 1) 1, type := 0, pos := "asset.go:40", after := #[], guard := none }) (v := ?v1006) rfl (by kernel_rfl) (by kernel_rfl) (by kernel_rfl) (fun _ _ _ h => h) (Or.inl ⟨by rfl, ?hy1006⟩) hHeld ?_
  case hy1006 => (intro w hSw; (try dsimp only at hSw); go_simp; (try with_reducible rfl))
  (try simp only [Act.put, List.setIfInBounds_toArray, List.set_cons_zero, List.set_cons_succ])
  refine wpAnyH_take (i := 8) (oi := { dst := some 11, op := Op.load 3 (Operand.tmp 10), type := 3, pos := "asset.go:40", after := #[{ on := 7, ground := Ground.data }], guard := none }) (v := (.int .i64 o)) rfl (by kernel_rfl) (by kernel_rfl) (by kernel_rfl) (fun _ _ _ h => h) (Or.inl ⟨by rfl, fun w h => by have c9 := cell_keep h c32.out; go_simp⟩) hHeld ?_
  (try simp only [Act.put, List.setIfInBounds_toArray, List.set_cons_zero, List.set_cons_succ])
  refine wpAnyH_take (i := 9) (oi := { dst := some 12, op := Op.binOp BinOp.shr 3 (Operand.tmp 11) (Operand.const (Value.int IntKind.u64 16)) 122, type := 3, pos := "asset.go:40", after := #[{ on := 8, ground := Ground.data }], guard := none }) (v := ?v1007) rfl (by kernel_rfl) (by kernel_rfl) (by kernel_rfl) (fun _ _ _ h => h) (Or.inl ⟨by rfl, ?hy1007⟩) hHeld ?_
  case hy1007 => (intro w hSw; (try dsimp only at hSw); go_simp; (try with_reducible rfl))
  (try simp only [Act.put, List.setIfInBounds_toArray, List.set_cons_zero, List.set_cons_succ])
  refine wpAnyH_take (i := 10) (oi := { dst := some 13, op := Op.convert 3 5 (Operand.tmp 12), type := 5, pos := "asset.go:40", after := #[{ on := 9, ground := Ground.data }], guard := none }) (v := ?v1008) rfl (by kernel_rfl) (by kernel_rfl) (by kernel_rfl) (fun _ _ _ h => h) (Or.inl ⟨by rfl, ?hy1008⟩) hHeld ?_
  case hy1008 => (intro w hSw; (try dsimp only at hSw); go_simp; (try with_reducible rfl))
  (try simp only [Act.put, List.setIfInBounds_toArray, List.set_cons_zero, List.set_cons_succ])
  refine wpAnyH_take (i := 11) (oi := { dst := some 14, op := Op.fieldAddr 31 (Operand.tmp 1) 1, type := 0, pos := "asset.go:40", after := #[], guard := none }) (v := ?v1009) rfl (by kernel_rfl) (by kernel_rfl) (by kernel_rfl) (fun _ _ _ h => h) (Or.inl ⟨by rfl, ?hy1009⟩) hHeld ?_
  case hy1009 => (intro w hSw; (try dsimp only at hSw); go_simp; (try with_reducible rfl))
  (try simp only [Act.put, List.setIfInBounds_toArray, List.set_cons_zero, List.set_cons_succ])
  refine wpAnyH_take (i := 12) (oi := { dst := some 15, op := Op.load 3 (Operand.tmp 14), type := 3, pos := "asset.go:40", after := #[{ on := 11, ground := Ground.data }], guard := none }) (v := (.int .i64 o)) rfl (by kernel_rfl) (by kernel_rfl) (by kernel_rfl) (fun _ _ _ h => h) (Or.inl ⟨by rfl, fun w h => by have c9 := cell_keep h c32.out; go_simp⟩) hHeld ?_
  (try simp only [Act.put, List.setIfInBounds_toArray, List.set_cons_zero, List.set_cons_succ])
  refine wpAnyH_take (i := 13) (oi := { dst := some 16, op := Op.binOp BinOp.shr 3 (Operand.tmp 15) (Operand.const (Value.int IntKind.u64 8)) 122, type := 3, pos := "asset.go:40", after := #[{ on := 12, ground := Ground.data }], guard := none }) (v := ?v1010) rfl (by kernel_rfl) (by kernel_rfl) (by kernel_rfl) (fun _ _ _ h => h) (Or.inl ⟨by rfl, ?hy1010⟩) hHeld ?_
  case hy1010 => (intro w hSw; (try dsimp only at hSw); go_simp; (try with_reducible rfl))
  (try simp only [Act.put, List.setIfInBounds_toArray, List.set_cons_zero, List.set_cons_succ])
  refine wpAnyH_take (i := 14) (oi := { dst := some 17, op := Op.convert 3 5 (Operand.tmp 16), type := 5, pos := "asset.go:40", after := #[{ on := 13, ground := Ground.data }], guard := none }) (v := ?v1011) rfl (by kernel_rfl) (by kernel_rfl) (by kernel_rfl) (fun _ _ _ h => h) (Or.inl ⟨by rfl, ?hy1011⟩) hHeld ?_
  case hy1011 => (intro w hSw; (try dsimp only at hSw); go_simp; (try with_reducible rfl))
  (try simp only [Act.put, List.setIfInBounds_toArray, List.set_cons_zero, List.set_cons_succ])
  refine wpAnyH_take (i := 15) (oi := { dst := some 18, op := Op.fieldAddr 31 (Operand.tmp 1) 1, type := 0, pos := "asset.go:40", after := #[], guard := none }) (v := ?v1012) rfl (by kernel_rfl) (by kernel_rfl) (by kernel_rfl) (fun _ _ _ h => h) (Or.inl ⟨by rfl, ?hy1012⟩) hHeld ?_
  case hy1012 => (intro w hSw; (try dsimp only at hSw); go_simp; (try with_reducible rfl))
  (try simp only [Act.put, List.setIfInBounds_toArray, List.set_cons_zero, List.set_cons_succ])
  refine wpAnyH_take (i := 16) (oi := { dst := some 19, op := Op.load 3 (Operand.tmp 18), type := 3, pos := "asset.go:40", after := #[{ on := 15, ground := Ground.data }], guard := none }) (v := (.int .i64 o)) rfl (by kernel_rfl) (by kernel_rfl) (by kernel_rfl) (fun _ _ _ h => h) (Or.inl ⟨by rfl, fun w h => by have c9 := cell_keep h c32.out; go_simp⟩) hHeld ?_
  (try simp only [Act.put, List.setIfInBounds_toArray, List.set_cons_zero, List.set_cons_succ])
  refine wpAnyH_take (i := 17) (oi := { dst := some 20, op := Op.convert 3 5 (Operand.tmp 19), type := 5, pos := "asset.go:40", after := #[{ on := 16, ground := Ground.data }], guard := none }) (v := ?v1013) rfl (by kernel_rfl) (by kernel_rfl) (by kernel_rfl) (fun _ _ _ h => h) (Or.inl ⟨by rfl, ?hy1013⟩) hHeld ?_
  case hy1013 => (intro w hSw; (try dsimp only at hSw); go_simp; (try with_reducible rfl))
  (try simp only [Act.put, List.setIfInBounds_toArray, List.set_cons_zero, List.set_cons_succ])
  refine wpAnyH_ready (rs := [2, 18]) (by kernel_rfl) (by simp) ?_
  refine AllReadyH.cons (o := { dst := some 5, op := Op.call { callee := Callee.builtin Builtin.append, args := #[Operand.const (Value.slice none 0 0), Operand.tmp 4], argTypes := #[73, 73] }, type := 73, pos := "asset.go:40", after := #[{ on := 1, ground := Ground.data }], guard := none }) rfl (fun K hK => ?_) ?_
  have BLo := hid hHeld.size; rw [if_pos (by rfl)]; refine wp_cat _ _ 73 rfl tyBy w1.heap.size (v := .slice none 0 0) (n := 0) (xs := []) ⟨by simp, .inl ⟨rfl, rfl⟩⟩ rfl rfl (SL.out.below hHeld) (nums_oneCell _ _) (by decide) (by decide) hHeld.size ?_; intro v5 w5 own5 g5 nb5; have O5 := hid own5; have B5 := hid (grown_nil g5); clear own5 g5 nb5
  refine hK.out _ _ (by first | exact hHeld.trans (B5.out.mono hHeld.size) | exact B5.out) (fun hHeld => ?_)
  clear hK K
  (try simp only [List.setIfInBounds_toArray, List.set_cons_zero, List.set_cons_succ])
  refine wpAnyH_ready (rs := [18]) (by kernel_rfl) (by simp) ?_
  refine AllReadyH.cons (o := { dst := some 21, op := Op.buildSlice 73 4 #[(0, Operand.tmp 9), (1, Operand.tmp 13), (2, Operand.tmp 17), (3, Operand.tmp 20)], type := 73, pos := "asset.go:40", after := #[{ on := 6, ground := Ground.data }, { on := 10, ground := Ground.data }, { on := 14, ground := Ground.data }, { on := 17, ground := Ground.data }], guard := none }) rfl (fun K hK => ?_) ?_
  go_simp; (first | refine newZ ?_ | refine newZd ?_); intro wl HLt BL
  refine hK.out _ _ (by first | exact hHeld.trans (BL.out.mono hHeld.size) | exact BL.out) (fun hHeld => ?_)
  clear hK K
  (try simp only [List.setIfInBounds_toArray, List.set_cons_zero, List.set_cons_succ])
  refine wpAnyH_ready (rs := [19]) (by kernel_rfl) (by simp) ?_
  refine AllReadyH.cons (o := { dst := some 22, op := Op.call { callee := Callee.builtin Builtin.append, args := #[Operand.tmp 5, Operand.tmp 21], argTypes := #[73, 73] }, type := 73, pos := "asset.go:40", after := #[{ on := 2, ground := Ground.data }, { on := 18, ground := Ground.data }, { on := 2, ground := Ground.chain }], guard := none }) rfl (fun K hK => ?_) ?_
  rw [if_pos (by rfl)]; refine wp_cat _ _ 73 rfl tyBy w1.heap.size (by first | exact O5.out | exact ownKB O5.out BL.out) rfl rfl (show Rd _ 1 (some ⟨_, 0, none⟩) 4 4 (nums .u8 [x0, x1, x2, x3]) from by first | exact rd_lit rfl (by decide) HLt.out | exact rd_lit rfl (by decide) (heap_keep HLt.out B5.out)) (nums_oneCell _ _) (by decide) (by decide) hHeld.size ?_; intro v6 w6 own6 g6 nb6; have O6 := hid own6; have B6 := hid ((Keep.grown g6 (S := fun i => v5.ownBlock = some i) (fun _ e => e)).below (B := w1.heap.size) (fun i e => (O5.out.lt _ e).1) hHeld.size); clear own6 g6 nb6
  refine hK.out _ _ (hHeld.trans B6.out) (fun hHeld => ?_)
  clear hK K
  (try simp only [List.setIfInBounds_toArray, List.set_cons_zero, List.set_cons_succ])
  refine wpAnyH_take (i := 20) (oi := { dst := some 2, op := Op.assign (Operand.tmp 22), type := 73, pos := "asset.go:40", after := #[{ on := 19, ground := Ground.data }, { on := 19, ground := Ground.chain }, { on := 0, ground := Ground.phase }, { on := 1, ground := Ground.phase }, { on := 2, ground := Ground.phase }, { on := 3, ground := Ground.phase }, { on := 4, ground := Ground.phase }, { on := 5, ground := Ground.phase }, { on := 6, ground := Ground.phase }, { on := 7, ground := Ground.phase }, { on := 8, ground := Ground.phase }, { on := 9, ground := Ground.phase }, { on := 10, ground := Ground.phase }, { on := 11, ground := Ground.phase }, { on := 12, ground := Ground.phase }, { on := 13, ground := Ground.phase }, { on := 14, ground := Ground.phase }, { on := 15, ground := Ground.phase }, { on := 16, ground := Ground.phase }, { on := 17, ground := Ground.phase }, { on := 18, ground := Ground.phase }, { on := 19, ground := Ground.phase }], guard := none }) (v := ?v1014) rfl (by kernel_rfl) (by kernel_rfl) (by kernel_rfl) (fun _ _ _ h => h) (Or.inl ⟨by rfl, ?hy1014⟩) hHeld ?_
  case hy1014 => (intro w hSw; (try dsimp only at hSw); go_simp; (try with_reducible rfl))
  (try simp only [Act.put, List.setIfInBounds_toArray, List.set_cons_zero, List.set_cons_succ])
  refine wpAnyH_done (by kernel_rfl) ?_ _
  rotate_left
  exact AllReadyH.nil
  exact AllReadyH.nil
  refine AllReadyH.cons (o := { dst := some 21, op := Op.buildSlice 73 4 #[(0, Operand.tmp 9), (1, Operand.tmp 13), (2, Operand.tmp 17), (3, Operand.tmp 20)], type := 73, pos := "asset.go:40", after := #[{ on := 6, ground := Ground.data }, { on := 10, ground := Ground.data }, { on := 14, ground := Ground.data }, { on := 17, ground := Ground.data }], guard := none }) rfl (fun K hK => ?_) ?_
  go_simp; (first | refine newZ ?_ | refine newZd ?_); intro wl HLt BL
  refine hK.out _ _ (by first | exact hHeld.trans (BL.out.mono hHeld.size) | exact BL.out) (fun hHeld => ?_)
  clear hK K
  (try simp only [List.setIfInBounds_toArray, List.set_cons_zero, List.set_cons_succ])
  refine wpAnyH_ready (rs := [2]) (by kernel_rfl) (by simp) ?_
  refine AllReadyH.cons (o := { dst := some 5, op := Op.call { callee := Callee.builtin Builtin.append, args := #[Operand.const (Value.slice none 0 0), Operand.tmp 4], argTypes := #[73, 73] }, type := 73, pos := "asset.go:40", after := #[{ on := 1, ground := Ground.data }], guard := none }) rfl (fun K hK => ?_) ?_
  have BLo := hid hHeld.size; rw [if_pos (by rfl)]; refine wp_cat _ _ 73 rfl tyBy w1.heap.size (v := .slice none 0 0) (n := 0) (xs := []) ⟨by simp, .inl ⟨rfl, rfl⟩⟩ rfl rfl (SL.out.below hHeld) (nums_oneCell _ _) (by decide) (by decide) hHeld.size ?_; intro v5 w5 own5 g5 nb5; have O5 := hid own5; have B5 := hid (grown_nil g5); clear own5 g5 nb5
  refine hK.out _ _ (by first | exact hHeld.trans (B5.out.mono hHeld.size) | exact B5.out) (fun hHeld => ?_)
  clear hK K
  (try simp only [List.setIfInBounds_toArray, List.set_cons_zero, List.set_cons_succ])
  refine wpAnyH_ready (rs := [19]) (by kernel_rfl) (by simp) ?_
  refine AllReadyH.cons (o := { dst := some 22, op := Op.call { callee := Callee.builtin Builtin.append, args := #[Operand.tmp 5, Operand.tmp 21], argTypes := #[73, 73] }, type := 73, pos := "asset.go:40", after := #[{ on := 2, ground := Ground.data }, { on := 18, ground := Ground.data }, { on := 2, ground := Ground.chain }], guard := none }) rfl (fun K hK => ?_) ?_
  rw [if_pos (by rfl)]; refine wp_cat _ _ 73 rfl tyBy w1.heap.size (by first | exact O5.out | exact ownKB O5.out BL.out) rfl rfl (show Rd _ 1 (some ⟨_, 0, none⟩) 4 4 (nums .u8 [x0, x1, x2, x3]) from by first | exact rd_lit rfl (by decide) HLt.out | exact rd_lit rfl (by decide) (heap_keep HLt.out B5.out)) (nums_oneCell _ _) (by decide) (by decide) hHeld.size ?_; intro v6 w6 own6 g6 nb6; have O6 := hid own6; have B6 := hid ((Keep.grown g6 (S := fun i => v5.ownBlock = some i) (fun _ e => e)).below (B := w1.heap.size) (fun i e => (O5.out.lt _ e).1) hHeld.size); clear own6 g6 nb6
  refine hK.out _ _ (hHeld.trans B6.out) (fun hHeld => ?_)
  clear hK K
  (try simp only [List.setIfInBounds_toArray, List.set_cons_zero, List.set_cons_succ])
  refine wpAnyH_take (i := 20) (oi := { dst := some 2, op := Op.assign (Operand.tmp 22), type := 73, pos := "asset.go:40", after := #[{ on := 19, ground := Ground.data }, { on := 19, ground := Ground.chain }, { on := 0, ground := Ground.phase }, { on := 1, ground := Ground.phase }, { on := 2, ground := Ground.phase }, { on := 3, ground := Ground.phase }, { on := 4, ground := Ground.phase }, { on := 5, ground := Ground.phase }, { on := 6, ground := Ground.phase }, { on := 7, ground := Ground.phase }, { on := 8, ground := Ground.phase }, { on := 9, ground := Ground.phase }, { on := 10, ground := Ground.phase }, { on := 11, ground := Ground.phase }, { on := 12, ground := Ground.phase }, { on := 13, ground := Ground.phase }, { on := 14, ground := Ground.phase }, { on := 15, ground := Ground.phase }, { on := 16, ground := Ground.phase }, { on := 17, ground := Ground.phase }, { on := 18, ground := Ground.phase }, { on := 19, ground := Ground.phase }], guard := none }) (v := ?v1015) rfl (by kernel_rfl) (by kernel_rfl) (by kernel_rfl) (fun _ _ _ h => h) (Or.inl ⟨by rfl, ?hy1015⟩) hHeld ?_
  case hy1015 => (intro w hSw; (try dsimp only at hSw); go_simp; (try with_reducible rfl))
  (try simp only [Act.put, List.setIfInBounds_toArray, List.set_cons_zero, List.set_cons_succ])
  refine wpAnyH_done (by kernel_rfl) ?_ _
  rotate_left
  exact AllReadyH.nil
  exact AllReadyH.nil
  exact AllReadyH.nil
  all_goals
    have BF := hid (B1.out.trans (hHeld.mono B1.out.size))
    clear hHeld
    go_wp2_with (fail)
    go_ret
    refine ⟨v6, rfl, ?_, BF.out⟩
    have o6 := own_mono O6.out B1.out.size
    rw [List.nil_append, nums_append] at o6
    rw [F4.out]
    have hl := o6.1
    rw [nums_length, Nat.mul_one] at hl
    rw [hl]
    exact o6
end Go.Proofs.YtdopbhahcpjjgaaDoor

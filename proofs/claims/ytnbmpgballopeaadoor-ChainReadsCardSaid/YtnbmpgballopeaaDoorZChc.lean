/- The chain's transaction as bytes: PutPoint, body. -/
import Derived.Test.YtnbmpgballopeaaDoorZChv
namespace Go.Proofs.YtnbmpgballopeaaDoor
open Go.RowKit
theorem rd_lit {w : World} {g : Nat} {e : TypeId} {xs : List Nat} {n : Nat} (hn : xs.length = n) (hm : n ≤ 4096) (h : w.heap[g]? = some (.cells (nums .u8 xs).toArray e (0, 0))) : Rd w 1 (some ⟨g, 0, none⟩) n n (nums .u8 xs) :=
 ⟨by rw [nums_length, hn, Nat.mul_one], Nat.le_refl _, by unfold maxLen; omega, (fun e => nomatch e), g, 0, fun _ => rfl, fun j u hu => by have := gen_cell (j := j) (row_range h) hu; rw [Nat.zero_add]; exact this⟩
theorem grown_nil {w w' : World} (h : w.grownBy w' none) : Below w.heap.size w w' := (Keep.grown (S := fun _ => False) h (fun _ e => nomatch e)).below (fun _ h => h.elim) (Nat.le_refl _)
set_option maxRecDepth 100000 in
set_option maxHeartbeats 4000000 in
theorem cput_walk (tx : List Nat) (o : Int) (ht : H32b tx) (w : World) : Calls Tryd.prog 34 #[.agg (ptI tx o).toArray] w (OutsR w (tx ++ f4 o)) := by
 have HT := hid ht
 obtain ⟨x0, hx0⟩ : ∃ x0, x0 = (o / 16777216 % 256).toNat := ⟨_, rfl⟩
 obtain ⟨x1, hx1⟩ : ∃ x1, x1 = (o / 65536 % 256).toNat := ⟨_, rfl⟩
 obtain ⟨x2, hx2⟩ : ∃ x2, x2 = (o / 256 % 256).toNat := ⟨_, rfl⟩
 obtain ⟨x3, hx3⟩ : ∃ x3, x3 = (o % 256).toNat := ⟨_, rfl⟩
 have e0 : o / 16777216 % 256 = (x0 : Int) := by omega
 have e1 : o / 65536 % 256 = (x1 : Int) := by omega
 have e2 : o / 256 % 256 = (x2 : Int) := by omega
 have e3 : o % 256 = (x3 : Int) := by omega
 have f0 : IntKind.u8.wrap (o / 16777216) = (x0 : Int) := by rw [IntKind.wrap_u8]; omega
 have f1 : IntKind.u8.wrap (o / 65536) = (x1 : Int) := by rw [IntKind.wrap_u8]; omega
 have f2 : IntKind.u8.wrap (o / 256) = (x2 : Int) := by rw [IntKind.wrap_u8]; omega
 have f3 : IntKind.u8.wrap o = (x3 : Int) := by rw [IntKind.wrap_u8]; omega
 have F4 := hid (show f4 o = [x0, x1, x2, x3] by rw [hx0, hx1, hx2, hx3]; rfl)
 obtain ⟨lp, hlp⟩ : ∃ lp, lp = ptI tx o := ⟨_, rfl⟩
 have L0 := hid (show (lp.drop 0).take 32 = nums .u8 tx ∧ lp[32]? = some (.int .i64 o) from by
  rw [hlp]; unfold ptI
  refine ⟨by rw [List.drop_zero, List.take_left' (by rw [nums_length, ht.1])], ?_⟩
  rw [List.getElem?_append_right (by rw [nums_length, ht.1]; exact Nat.le_refl _), nums_length, ht.1]; rfl)
 rw [← hlp]
 have b1 := (Below.refl w.heap.size w).alloc (Nat.le_refl _) (.cells lp.toArray 51)
 have hR := heap_alloc_new w (.cells lp.toArray 51)
 have B1 := hid b1
 clear hx0 hx1 hx2 hx3 ht hlp b1
 go_enter Tryd.func34, Tryd.ntmps34
 go_upto_region 1 with (fail)
 generalize w.alloc (.cells lp.toArray 51) = w1 at *
 have HR := hid hR
 have SL := hid (sl_in hR HT.out L0.out.1)
 have c32 := hid (gen_cell (j := 32) (row_range hR) L0.out.2)
 clear hR
 refine wp_region_held_drew (S := fun w' => Below w1.heap.size w1 w') (by kernel_rfl) ((Below.refl _ _).drew) (fun hHeld => ?_)
 try simp only [List.size_toArray, List.length_cons, List.length_nil, Nat.reduceAdd, Array.replicate_succ, Array.replicate_zero, List.push_toArray, List.nil_append, List.cons_append]
 refine tkH (i := 0) (oi := ⟨some 3, .fieldAddr 51 (.tmp 1) 0, 0, "asset.go:40", #[], none⟩) (v := ?v1001) (yi ?y1001) hHeld ?_
 case y1001 => (intro w _; go_simp; (try with_reducible rfl))
 (try simp only [Act.put, s0, s1, s2])
 refine tkH (i := 1) (oi := ⟨some 4, .slice 49 (.tmp 3) none none none, 22, "asset.go:40", #[⟨0, .data⟩], none⟩) (v := ?v1002) (yi ?y1002) hHeld ?_
 case y1002 => (intro w _; go_simp; (try with_reducible rfl))
 (try simp only [Act.put, s0, s1, s2])
 refine tkH (i := 3) (oi := ⟨some 6, .fieldAddr 51 (.tmp 1) 1, 0, "asset.go:40", #[], none⟩) (v := ?v1003) (yi ?y1003) hHeld ?_
 case y1003 => (intro w _; go_simp; (try with_reducible rfl))
 (try simp only [Act.put, s0, s1, s2])
 refine tkH (i := 4) (oi := ⟨some 7, .load 3 (.tmp 6), 3, "asset.go:40", #[⟨3, .data⟩], none⟩) (v := (.int .i64 o)) (Or.inl ⟨by rfl, fun w h => by have c9 := cell_keep h c32.out; go_simp⟩) hHeld ?_
 (try simp only [Act.put, s0, s1, s2])
 refine tkH (i := 5) (oi := ⟨some 8, .binOp .shr 3 (.tmp 7) (.const (.int .u64 24)) 140, 3, "asset.go:40", #[⟨4, .data⟩], none⟩) (v := ?v1004) (yi ?y1004) hHeld ?_
 case y1004 => (intro w _; go_simp; (try with_reducible rfl))
 (try simp only [Act.put, s0, s1, s2])
 refine tkH (i := 6) (oi := ⟨some 9, .convert 3 5 (.tmp 8), 5, "asset.go:40", #[⟨5, .data⟩], none⟩) (v := ?v1005) (yi ?y1005) hHeld ?_
 case y1005 => (intro w _; go_simp; (try with_reducible rfl))
 (try simp only [Act.put, s0, s1, s2])
 refine tkH (i := 7) (oi := ⟨some 10, .fieldAddr 51 (.tmp 1) 1, 0, "asset.go:40", #[], none⟩) (v := ?v1006) (yi ?y1006) hHeld ?_
 case y1006 => (intro w _; go_simp; (try with_reducible rfl))
 (try simp only [Act.put, s0, s1, s2])
 refine tkH (i := 8) (oi := ⟨some 11, .load 3 (.tmp 10), 3, "asset.go:40", #[⟨7, .data⟩], none⟩) (v := (.int .i64 o)) (Or.inl ⟨by rfl, fun w h => by have c9 := cell_keep h c32.out; go_simp⟩) hHeld ?_
 (try simp only [Act.put, s0, s1, s2])
 refine tkH (i := 9) (oi := ⟨some 12, .binOp .shr 3 (.tmp 11) (.const (.int .u64 16)) 140, 3, "asset.go:40", #[⟨8, .data⟩], none⟩) (v := ?v1007) (yi ?y1007) hHeld ?_
 case y1007 => (intro w _; go_simp; (try with_reducible rfl))
 (try simp only [Act.put, s0, s1, s2])
 refine tkH (i := 10) (oi := ⟨some 13, .convert 3 5 (.tmp 12), 5, "asset.go:40", #[⟨9, .data⟩], none⟩) (v := ?v1008) (yi ?y1008) hHeld ?_
 case y1008 => (intro w _; go_simp; (try with_reducible rfl))
 (try simp only [Act.put, s0, s1, s2])
 refine tkH (i := 11) (oi := ⟨some 14, .fieldAddr 51 (.tmp 1) 1, 0, "asset.go:40", #[], none⟩) (v := ?v1009) (yi ?y1009) hHeld ?_
 case y1009 => (intro w _; go_simp; (try with_reducible rfl))
 (try simp only [Act.put, s0, s1, s2])
 refine tkH (i := 12) (oi := ⟨some 15, .load 3 (.tmp 14), 3, "asset.go:40", #[⟨11, .data⟩], none⟩) (v := (.int .i64 o)) (Or.inl ⟨by rfl, fun w h => by have c9 := cell_keep h c32.out; go_simp⟩) hHeld ?_
 (try simp only [Act.put, s0, s1, s2])
 refine tkH (i := 13) (oi := ⟨some 16, .binOp .shr 3 (.tmp 15) (.const (.int .u64 8)) 140, 3, "asset.go:40", #[⟨12, .data⟩], none⟩) (v := ?v1010) (yi ?y1010) hHeld ?_
 case y1010 => (intro w _; go_simp; (try with_reducible rfl))
 (try simp only [Act.put, s0, s1, s2])
 refine tkH (i := 14) (oi := ⟨some 17, .convert 3 5 (.tmp 16), 5, "asset.go:40", #[⟨13, .data⟩], none⟩) (v := ?v1011) (yi ?y1011) hHeld ?_
 case y1011 => (intro w _; go_simp; (try with_reducible rfl))
 (try simp only [Act.put, s0, s1, s2])
 refine tkH (i := 15) (oi := ⟨some 18, .fieldAddr 51 (.tmp 1) 1, 0, "asset.go:40", #[], none⟩) (v := ?v1012) (yi ?y1012) hHeld ?_
 case y1012 => (intro w _; go_simp; (try with_reducible rfl))
 (try simp only [Act.put, s0, s1, s2])
 refine tkH (i := 16) (oi := ⟨some 19, .load 3 (.tmp 18), 3, "asset.go:40", #[⟨15, .data⟩], none⟩) (v := (.int .i64 o)) (Or.inl ⟨by rfl, fun w h => by have c9 := cell_keep h c32.out; go_simp⟩) hHeld ?_
 (try simp only [Act.put, s0, s1, s2])
 refine tkH (i := 17) (oi := ⟨some 20, .convert 3 5 (.tmp 19), 5, "asset.go:40", #[⟨16, .data⟩], none⟩) (v := ?v1013) (yi ?y1013) hHeld ?_
 case y1013 => (intro w _; go_simp; (try with_reducible rfl))
 (try simp only [Act.put, s0, s1, s2])
 refine wpAnyH_ready (rs := [2, 18]) (by kernel_rfl) (by simp) ?_
 refine AllReadyH.cons (o := ⟨some 5, .call ⟨.builtin .append, #[.const (.slice none 0 0), .tmp 4], #[22, 22]⟩, 22, "asset.go:40", #[⟨1, .data⟩], none⟩) rfl (fun K hK => ?_) ?_
 have BLo := hid hHeld.size; rw [if_pos (by rfl)]; refine wp_cat _ _ 22 rfl tyBy w1.heap.size (v := .slice none 0 0) (n := 0) (xs := []) ⟨by simp, .inl ⟨rfl, rfl⟩⟩ rfl rfl (SL.out.below hHeld) (nums_oneCell _ _) (by decide) (by decide) hHeld.size ?_; intro v5 w5 own5 g5 nb5; have O5 := hid own5; have B5 := hid (grown_nil g5); clear own5 g5 nb5
 refine hK.out _ _ (by first | exact hHeld.trans (B5.out.mono hHeld.size) | exact B5.out) (fun hHeld => ?_)
 clear hK K
 (try simp only [s0, s1, s2])
 refine wpAnyH_ready (rs := [18]) (by kernel_rfl) (by simp) ?_
 refine AllReadyH.cons (o := ⟨some 21, .buildSlice 22 4 #[(0, .tmp 9), (1, .tmp 13), (2, .tmp 17), (3, .tmp 20)], 22, "asset.go:40", #[⟨6, .data⟩, ⟨10, .data⟩, ⟨14, .data⟩, ⟨17, .data⟩], none⟩) rfl (fun K hK => ?_) ?_
 go_simp; (first | refine newZ ?_ | refine newZd ?_); intro wl HLt BL
 refine hK.out _ _ (by first | exact hHeld.trans (BL.out.mono hHeld.size) | exact BL.out) (fun hHeld => ?_)
 clear hK K
 (try simp only [s0, s1, s2])
 refine wpAnyH_ready (rs := [19]) (by kernel_rfl) (by simp) ?_
 refine AllReadyH.cons (o := ⟨some 22, .call ⟨.builtin .append, #[.tmp 5, .tmp 21], #[22, 22]⟩, 22, "asset.go:40", #[⟨2, .data⟩, ⟨18, .data⟩, ⟨2, .chain⟩], none⟩) rfl (fun K hK => ?_) ?_
 rw [if_pos (by rfl)]; refine wp_cat _ _ 22 rfl tyBy w1.heap.size (by first | exact O5.out | exact ownKB O5.out BL.out) rfl rfl (show Rd _ 1 (some ⟨_, 0, none⟩) 4 4 (nums .u8 [x0, x1, x2, x3]) from by first | exact rd_lit rfl (by decide) HLt.out | exact rd_lit rfl (by decide) (heap_keep HLt.out B5.out)) (nums_oneCell _ _) (by decide) (by decide) hHeld.size ?_; intro v6 w6 own6 g6 nb6; have O6 := hid own6; have B6 := hid ((Keep.grown g6 (S := fun i => v5.ownBlock = some i) (fun _ e => e)).below (B := w1.heap.size) (fun i e => (O5.out.lt _ e).1) hHeld.size); clear own6 g6 nb6
 refine hK.out _ _ (hHeld.trans B6.out) (fun hHeld => ?_)
 clear hK K
 (try simp only [s0, s1, s2])
 refine tkH (i := 20) (oi := ⟨some 2, .assign (.tmp 22), 22, "asset.go:40", #[⟨19, .data⟩, ⟨19, .chain⟩, ⟨0, .phase⟩, ⟨1, .phase⟩, ⟨2, .phase⟩, ⟨3, .phase⟩, ⟨4, .phase⟩, ⟨5, .phase⟩, ⟨6, .phase⟩, ⟨7, .phase⟩, ⟨8, .phase⟩, ⟨9, .phase⟩, ⟨10, .phase⟩, ⟨11, .phase⟩, ⟨12, .phase⟩, ⟨13, .phase⟩, ⟨14, .phase⟩, ⟨15, .phase⟩, ⟨16, .phase⟩, ⟨17, .phase⟩, ⟨18, .phase⟩, ⟨19, .phase⟩], none⟩) (v := ?v1014) (yi ?y1014) hHeld ?_
 case y1014 => (intro w _; go_simp; (try with_reducible rfl))
 (try simp only [Act.put, s0, s1, s2])
 refine wpAnyH_done (by kernel_rfl) ?_ _
 rotate_left
 exact AllReadyH.nil
 exact AllReadyH.nil
 refine AllReadyH.cons (o := ⟨some 21, .buildSlice 22 4 #[(0, .tmp 9), (1, .tmp 13), (2, .tmp 17), (3, .tmp 20)], 22, "asset.go:40", #[⟨6, .data⟩, ⟨10, .data⟩, ⟨14, .data⟩, ⟨17, .data⟩], none⟩) rfl (fun K hK => ?_) ?_
 go_simp; (first | refine newZ ?_ | refine newZd ?_); intro wl HLt BL
 refine hK.out _ _ (by first | exact hHeld.trans (BL.out.mono hHeld.size) | exact BL.out) (fun hHeld => ?_)
 clear hK K
 (try simp only [s0, s1, s2])
 refine wpAnyH_ready (rs := [2]) (by kernel_rfl) (by simp) ?_
 refine AllReadyH.cons (o := ⟨some 5, .call ⟨.builtin .append, #[.const (.slice none 0 0), .tmp 4], #[22, 22]⟩, 22, "asset.go:40", #[⟨1, .data⟩], none⟩) rfl (fun K hK => ?_) ?_
 have BLo := hid hHeld.size; rw [if_pos (by rfl)]; refine wp_cat _ _ 22 rfl tyBy w1.heap.size (v := .slice none 0 0) (n := 0) (xs := []) ⟨by simp, .inl ⟨rfl, rfl⟩⟩ rfl rfl (SL.out.below hHeld) (nums_oneCell _ _) (by decide) (by decide) hHeld.size ?_; intro v5 w5 own5 g5 nb5; have O5 := hid own5; have B5 := hid (grown_nil g5); clear own5 g5 nb5
 refine hK.out _ _ (by first | exact hHeld.trans (B5.out.mono hHeld.size) | exact B5.out) (fun hHeld => ?_)
 clear hK K
 (try simp only [s0, s1, s2])
 refine wpAnyH_ready (rs := [19]) (by kernel_rfl) (by simp) ?_
 refine AllReadyH.cons (o := ⟨some 22, .call ⟨.builtin .append, #[.tmp 5, .tmp 21], #[22, 22]⟩, 22, "asset.go:40", #[⟨2, .data⟩, ⟨18, .data⟩, ⟨2, .chain⟩], none⟩) rfl (fun K hK => ?_) ?_
 rw [if_pos (by rfl)]; refine wp_cat _ _ 22 rfl tyBy w1.heap.size (by first | exact O5.out | exact ownKB O5.out BL.out) rfl rfl (show Rd _ 1 (some ⟨_, 0, none⟩) 4 4 (nums .u8 [x0, x1, x2, x3]) from by first | exact rd_lit rfl (by decide) HLt.out | exact rd_lit rfl (by decide) (heap_keep HLt.out B5.out)) (nums_oneCell _ _) (by decide) (by decide) hHeld.size ?_; intro v6 w6 own6 g6 nb6; have O6 := hid own6; have B6 := hid ((Keep.grown g6 (S := fun i => v5.ownBlock = some i) (fun _ e => e)).below (B := w1.heap.size) (fun i e => (O5.out.lt _ e).1) hHeld.size); clear own6 g6 nb6
 refine hK.out _ _ (hHeld.trans B6.out) (fun hHeld => ?_)
 clear hK K
 (try simp only [s0, s1, s2])
 refine tkH (i := 20) (oi := ⟨some 2, .assign (.tmp 22), 22, "asset.go:40", #[⟨19, .data⟩, ⟨19, .chain⟩, ⟨0, .phase⟩, ⟨1, .phase⟩, ⟨2, .phase⟩, ⟨3, .phase⟩, ⟨4, .phase⟩, ⟨5, .phase⟩, ⟨6, .phase⟩, ⟨7, .phase⟩, ⟨8, .phase⟩, ⟨9, .phase⟩, ⟨10, .phase⟩, ⟨11, .phase⟩, ⟨12, .phase⟩, ⟨13, .phase⟩, ⟨14, .phase⟩, ⟨15, .phase⟩, ⟨16, .phase⟩, ⟨17, .phase⟩, ⟨18, .phase⟩, ⟨19, .phase⟩], none⟩) (v := ?v1015) (yi ?y1015) hHeld ?_
 case y1015 => (intro w _; go_simp; (try with_reducible rfl))
 (try simp only [Act.put, s0, s1, s2])
 refine wpAnyH_done (by kernel_rfl) ?_ _
 rotate_left
 exact AllReadyH.nil
 exact AllReadyH.nil
 exact AllReadyH.nil
 all_goals
  have BF := hid (B1.out.trans (hHeld.mono B1.out.size))
  clear hHeld
  go_wp2_with (fail)
  go_ret
  refine ⟨v6, rfl, ?_, BF.out⟩
  have o6 := own_mono O6.out B1.out.size
  rw [List.nil_append, nums_append] at o6
  rw [F4.out]
  have hl := o6.1
  rw [nums_length, Nat.mul_one] at hl
  rw [hl]
  exact o6
end Go.Proofs.YtnbmpgballopeaaDoor
/- The chain's transaction as bytes: body. -/
namespace Go.Proofs.YtnbmpgballopeaaDoor
open Go.RowKit
def inB (i : InD) : List Nat := i.tx ++ f4 i.out
def bodyB (t : TxD) : List Nat := [t.ins.length % 256, t.ins.length / 256 % 256] ++ (t.ins.flatMap inB ++ t.outs.flatMap outB)
theorem inB_len {i : InD} (h : i.ok) : (inB i).length = 36 := by simp [inB, h.tx.1, f4_len]
theorem insB_len : ∀ {is : List InD}, (∀ i ∈ is, i.ok) → (is.flatMap inB).length = 36 * is.length
 | [], _ => rfl
 | i :: r, h => by
  rw [List.flatMap_cons, List.length_append, inB_len (h i (by simp)), insB_len (fun q hq => h q (by simp [hq])), List.length_cons]; omega
theorem own_lit2 (w : World) (a b : Nat) : (w.alloc (.cells #[.int .u8 (a : Int), .int .u8 (b : Int)] 5)).ownsRow w.heap.size 5 1 (.slice (some ⟨w.heap.size, 0, none⟩) 2 2) 2 (nums .u8 [a, b]) :=
 ⟨rfl, .inr ⟨w.heap.size, 2, _, rfl, Nat.le_refl _, heap_alloc_new _ _, Nat.le_refl _, by decide, rfl, rfl⟩⟩
set_option maxRecDepth 100000 in
set_option maxHeartbeats 8000000 in
theorem cbody_walk (t : TxD) (w : World) (h : t.good w) (hN : t.ins.length ≤ 256) (hM : t.outs.length ≤ 256) (h4 : ∀ o ∈ t.outs, o.paths.length ≤ 4) :
  Calls Tryd.prog 44 #[.agg t.cells.toArray] w (OutsR w (bodyB t)) := by
 obtain ⟨N, hN'⟩ : ∃ N, N = t.ins.length := ⟨_, rfl⟩
 obtain ⟨M, hM'⟩ : ∃ M, M = t.outs.length := ⟨_, rfl⟩
 obtain ⟨ia, hia⟩ : ∃ ia, ia = t.ia := ⟨_, rfl⟩
 obtain ⟨ic, hic⟩ : ∃ ic, ic = t.ic := ⟨_, rfl⟩
 obtain ⟨oa, hoa⟩ : ∃ oa, oa = t.oa := ⟨_, rfl⟩
 obtain ⟨oc, hoc⟩ : ∃ oc, oc = t.oc := ⟨_, rfl⟩
 have G := hid h
 have NN := hid (And.intro hN' hM')
 have NB := hid (show N ≤ 256 ∧ M ≤ 256 by rw [hN', hM']; exact ⟨hN, hM⟩)
 have H4 := hid h4
 have PI := hid (show Rd w 130 ia N ic (t.ins.flatMap InD.cells) by rw [hia, hic, hN']; exact h.ins)
 have PO := hid (show Rd w 34 oa M oc (t.outs.flatMap OutD.cells) by rw [hoa, hoc, hM']; exact h.outs)
 have OLEN := hid (show (t.outs.flatMap outB).length ≤ 457 * 256 from by
  have := outsB_len (os := t.outs) (fun o ho => ⟨(h.ook o ho).anchor.1, (h.ook o ho).ok, h4 o ho⟩)
  omega)
 have ILEN := hid (show ∀ k, ((t.ins.take k).flatMap inB).length ≤ 36 * 256 from fun k => by
  rw [insB_len (fun i hi => h.iok i (List.mem_of_mem_take hi)), List.length_take]; omega)
 have e : t.cells = [.slice ia N ic, .slice oa M oc] := by unfold TxD.cells; rw [hia, hic, hN', hoa, hoc, hM']
 rw [e]
 obtain ⟨c0, hc0⟩ : ∃ c0, c0 = N % 256 := ⟨_, rfl⟩
 obtain ⟨c1, hc1⟩ : ∃ c1, c1 = N / 256 % 256 := ⟨_, rfl⟩
 have r0 : IntKind.u8.wrap (N : Int) = (c0 : Int) := by rw [IntKind.wrap_u8]; omega
 have r0' : (N : Int) % 256 = (c0 : Int) := by omega
 have r1 : IntKind.u8.wrap ((N : Int) / 256) = (c1 : Int) := by rw [IntKind.wrap_u8]; omega
 have r1' : (N : Int) / 256 % 256 = (c1 : Int) := by omega
 have HC := hid (And.intro hc0 hc1)
 have b1 := (Below.refl w.heap.size w).alloc (Nat.le_refl _) (.cells #[.slice ia N ic, .slice oa M oc] 28)
 have k0 : (w.alloc (.cells #[.slice ia N ic, .slice oa M oc] 28)).cell? ⟨w.heap.size, 0, none⟩ = some (.slice ia N ic) := gen_cell (j := 0) (row_range (L := [.slice ia N ic, .slice oa M oc]) (heap_alloc_new w _)) rfl
 have k1 : (w.alloc (.cells #[.slice ia N ic, .slice oa M oc] 28)).cell? ⟨w.heap.size, 1, none⟩ = some (.slice oa M oc) := gen_cell (j := 1) (row_range (L := [.slice ia N ic, .slice oa M oc]) (heap_alloc_new w _)) rfl
 have B1 := hid b1
 clear h hN hM hN' hM' hia hic hoa hoc e b1 h4 hc0 hc1
 go_enter Tryd.func44, Tryd.ntmps44
 go_upto_region 1 with (fail)
 generalize w.alloc (.cells #[.slice ia N ic, .slice oa M oc] 28) = w1 at *
 have K0 := hid k0
 have K1 := hid k1
 have M2 := hid (own_lit2 w1 c0 c1)
 have bl := hid ((Below.refl w1.heap.size w1).alloc (Nat.le_refl _) (.cells #[.int .u8 (c0 : Int), .int .u8 (c1 : Int)] 5))
 have k0' := cell_keep bl.out k0
 go_upto_region 3 with (fail)
 clear r0 r0' r1 r1' k0 k1 k0'
 go_loopw [3, 19] (fun x3 x19 wr => ∃ (k : Nat) (v3 : Value), v3 = x3 ∧ k ≤ N ∧ x19 = .int .i64 (k : Int) ∧ wr.ownsRow w1.heap.size 5 1 v3 (2 + ((t.ins.take k).flatMap inB).length) (nums .u8 ([c0, c1] ++ (t.ins.take k).flatMap inB)) ∧ Below w1.heap.size w1 wr) (fun _ x19 _ => N - (intOf x19).toNat)
 case atStart => exact ⟨0, _, rfl, Nat.zero_le _, rfl, M2.out, bl.out⟩
 case round =>
  obtain ⟨k, v3, hv3, hk, rfl, ho, hb⟩ := hrel
  obtain ⟨wo, rfl⟩ : ∃ wo, wo = wr := ⟨_, rfl⟩
  subst hv3
  have BR := hid hb
  have OW := hid ho
  have BW := hid (B1.out.trans (hb.mono B1.out.size))
  clear hb ho M2 bl
  by_cases hlk : k < N
  case neg =>
   obtain rfl : k = N := by omega
   have u1 : decide (k < k) = false := decide_eq_false (by omega)
   have u2 : decide ((k : Int) < (k : Int)) = false := decide_eq_false (by omega)
   have k1' := cell_keep BR.out K1.out
   have CO := hid (couts_walk oa M oc t.outs wo NN.out.2 (PO.out.below BW.out) (fun o ho => (G.out.ook o ho).below BW.out) H4.out NB.out.2)
   clear hk hlk
   go_wp2_with (fail)
   refine CO.out.mono ?_
   rintro e w5 ⟨v5, rfl, o5, b5⟩
   obtain ⟨ol, hol⟩ : ∃ ol, ol = (t.outs.flatMap outB).length := ⟨_, rfl⟩
   have HOL := hid (show ol ≤ 457 * 256 by rw [hol]; exact OLEN.out)
   rw [← hol] at o5
   obtain ⟨a5, c5, rfl, rd5⟩ := Rd.of_owns o5
   have RD5 := hid rd5
   have B5 := hid b5
   have OW5 := hid (ownKB OW.out b5)
   have NL := hid (ILEN.out k)
   clear o5 b5 rd5 CO k1' hol
   go_wp2_with (at_builtin; refine wpList_when (by rfl) (fun K hK => wp_cat _ _ 22 rfl tyBy w1.heap.size OW5.out rfl rfl RD5.out (nums_oneCell _ _) (by have := NL.out; have := HOL.out; omega) (by have := NL.out; have := HOL.out; unfold maxLen; omega) (Nat.le_trans BR.out.size B5.out.size) (fun v6 w6 own6 g6 nb6 => hK _ _ ?_)); clear hK K; have O6 := hid own6; have B6 := hid ((Keep.grown g6 (S := fun i => v3.ownBlock = some i) (fun _ e => e)).below (B := w1.heap.size) (fun i e => (OW5.out.lt _ e).1) (Nat.le_trans BR.out.size B5.out.size)); clear own6 g6 nb6)
   go_ret
   refine ⟨v6, rfl, ?_, BW.out.trans ((B5.out.mono BW.out.size).trans (B6.out.mono B1.out.size))⟩
   have o6 := own_mono O6.out B1.out.size
   rw [nums_append] at o6
   have hl := o6.1
   rw [nums_length, Nat.mul_one] at hl
   have e : bodyB t = [c0, c1] ++ (t.ins.take k).flatMap inB ++ t.outs.flatMap outB := by
    unfold bodyB
    rw [HC.out.1, HC.out.2, NN.out.1, List.take_length, List.append_assoc]
   rw [e, hl]
   exact o6
  have u1 : decide (k < N) = true := decide_eq_true hlk
  have u2 : decide ((k : Int) < (N : Int)) = true := decide_eq_true (by omega)
  have u6 : (k : Int) < (N : Int) := by omega
  have u7 : ¬ ((N : Int) ≤ (k : Int)) := by omega
  have u8' : ¬ (N ≤ k) := by omega
  obtain ⟨x, hx⟩ : ∃ x, t.ins[k]? = some x := ⟨_, List.getElem?_eq_getElem (by rw [← NN.out.1]; exact hlk)⟩
  have xok := hid (G.out.iok x (List.mem_of_getElem? hx))
  obtain ⟨b, off, rfl, rg⟩ := rd_row (fun z hz => InD.len (G.out.iok z hz)) PI.out hx hlk
  have rgr := range_keep BW.out rg
  obtain ⟨xcs, hxcs⟩ : ∃ xcs, xcs = x.cells := ⟨_, rfl⟩
  have XL := hid (show xcs.length = 130 by rw [hxcs]; exact InD.len xok.out)
  rw [← hxcs] at rgr
  have hiC := hid (show (Tryd.prog.info? 60).map (·.size) = some xcs.length by rw [XL.out]; kernel_rfl)
  have hiCa := hid (show (Tryd.prog.info? 60).map (·.size) = some xcs.toArray.size by rw [List.size_toArray, XL.out]; kernel_rfl)
  have hoC := hid (show 130 = xcs.toArray.size by rw [List.size_toArray, XL.out])
  have h16 := hid (show (xcs.toArray.all fun x => x.oneCell') = true by rw [hxcs]; exact all_oneCell_toArray (InD.one x))
  obtain ⟨k1n, hk1⟩ : ∃ k1n, k1n = k + 1 := ⟨_, rfl⟩
  have r4 : IntKind.i64.wrap ((k : Int) + 1) = (k1n : Int) := by have := NB.out; rw [IntKind.wrap_i64]; omega
  have I1 := hid (And.intro hk1 hlk)
  have XC := hid (show (xcs.drop 0).take 33 = ptI x.tx x.out from by rw [hxcs]; exact InD.point xok.out)
  have HX := hid hx
  have NL := hid (ILEN.out k)
  clear hk hlk hx rg hxcs hk1
  go_upto_region 5 with (first | with_reducible refine wpList_load_mid rfl _ _ rfl b (off + k * 130) rfl xcs _ rgr Tryd.underlying60 rfl hiC.out ?_ | (refine wpList_store_row rfl _ _ _ rfl wo.heap.size xcs.toArray rfl rfl _ _ (heap_alloc_new _ _) hiCa.out hoC.out h16.out ?_; refine laidW (F := fun w3 => wpList _ _ _ _ _ w3) ?_; intro w3 h3 b3))
  have px := gen_range (row_range h3.out) 0 33
  rw [XC.out] at px
  obtain ⟨lx, hlx⟩ : ∃ lx, lx = ptI x.tx x.out := ⟨_, rfl⟩
  have hiP := hid (show (Tryd.prog.info? 51).map (·.size) = some lx.length from by rw [hlx, show (ptI x.tx x.out).length = 33 by simp [ptI, xok.out.tx.1]]; kernel_rfl)
  have CP := hid (cput_walk x.tx x.out xok.out.tx w3)
  rw [← hlx] at CP px
  have OW3 := hid (ownKB OW.out b3.out)
  clear u1 u2 u6 u7 u8' rgr hlx
  go_wp2_with (with_reducible refine wpList_load_mid rfl _ _ rfl wo.heap.size 0 rfl lx _ px Tryd.underlying51 rfl hiP.out ?_)
  refine CP.out.mono ?_
  rintro e w5 ⟨v5, rfl, o5, b5⟩
  have l5 : (x.tx ++ f4 x.out).length = 36 := inB_len xok.out
  rw [l5] at o5
  obtain ⟨a5, c5, rfl, rd5⟩ := Rd.of_owns o5
  have RD5 := hid rd5
  have OW5 := hid (ownKB OW3.out b5)
  have B5 := hid (show Below w1.heap.size w1 w5 from (BR.out.trans (b3.out.mono BR.out.size)).trans (b5.mono (Nat.le_trans BR.out.size b3.out.size)))
  clear o5 b5 rd5 CP px l5
  go_wp2_with (at_builtin; refine wpList_when (by rfl) (fun K hK => wp_cat _ _ 22 rfl tyBy w1.heap.size OW5.out rfl rfl RD5.out (nums_oneCell _ _) (by have := NL.out; omega) (by have := NL.out; unfold maxLen; omega) B5.out.size (fun v6 w6 own6 g6 nb6 => hK _ _ ?_)); clear hK K; have O6 := hid own6; have B6 := hid ((Keep.grown g6 (S := fun i => v3.ownBlock = some i) (fun _ e => e)).below (B := w1.heap.size) (fun i e => (OW5.out.lt _ e).1) B5.out.size); clear own6 g6 nb6)
  go_roundw
  case rel =>
   refine ⟨k1n, v6, rfl, by have := I1.out; omega, rfl, ?_, B5.out.trans B6.out⟩
   have o6 := O6.out
   rw [nums_append] at o6
   have hl := o6.1
   rw [nums_length, Nat.mul_one] at hl
   have e : [c0, c1] ++ (t.ins.take k).flatMap inB ++ (x.tx ++ f4 x.out) = [c0, c1] ++ (t.ins.take k1n).flatMap inB := by
    rw [I1.out.1, List.take_add_one, HX.out, List.flatMap_append]
    simp [inB]
   rw [e] at o6 hl
   rw [← hl] at o6
   rw [show 2 + ((t.ins.take k1n).flatMap inB).length = ([c0, c1] ++ (t.ins.take k1n).flatMap inB).length from by rw [List.length_append]; rfl]
   exact o6
  case measure => simp [intOf]; have := I1.out; omega
end Go.Proofs.YtnbmpgballopeaaDoor
/- slices.Clone at the chain's paths, inputs, outputs. -/
namespace Go.Proofs.YtnbmpgballopeaaDoor
open Go.RowKit
def zPath : Array Value := (nums .u8 (List.replicate 96 0) ++ [Value.int .i64 0, Value.int .i64 0]).toArray
def zIn : Array Value := (nums .u8 (List.replicate 32 0) ++ (Value.int .i64 0 :: Value.int .i64 0 :: nums .u8 (List.replicate 96 0))).toArray
def zOut : Array Value := (Value.int .u64 0 :: Value.slice none 0 0 :: nums .u8 (List.replicate 32 0)).toArray
def CloC (w : World) (t : TypeId) (size n : Nat) (xs : List Value) (e : Ending) (w' : World) : Prop := ∃ a c, e = .returned (.slice a n c) ∧ w'.ownsRow w.heap.size t size (.slice a n c) n xs ∧ Below w.heap.size w w'
set_option maxRecDepth 100000 in
theorem tyPath : SliceTy Tryd.prog 55 83 98 112 (.agg zPath) := .mk' Tryd.underlying55 (by kernel_rfl) (by decide) (by decide)
set_option maxRecDepth 100000 in
set_option maxHeartbeats 4000000 in
theorem cloPath_walk (a : Option Addr) (n c : Nat) (xs : List Value) (w : World) (h : Rd w 98 a n c xs) (h1 : ∀ u ∈ xs, u.oneCell' = true) (hn : n ≤ 4096) : Calls Tryd.prog 61 #[.slice a n c] w (CloC w 83 98 n xs) := by
 have H := hid h
 have hn0' : ∀ (a : Option Addr) (n c : Nat) (w : World), (binOp .eql 55 (.slice a n c) (.slice none 0 0)).run Tryd.prog w = .ok (.bool a.isNone) w := fun a n c w => Go.Lib.run_eql_slice_nil w _ _ a n c 0 0 Tryd.underlying55
 cases a with
 | none =>
  have hc : c = 0 := h.2.2.2.1 rfl
  have hn0 : n = 0 := by have := h.2.1; omega
  subst hc
  subst hn0
  have hx : xs = [] := List.eq_nil_of_length_eq_zero (by have := h.1; omega)
  subst hx
  clear h h1
  go_enter Tryd.func61, Tryd.ntmps61
  go_wp2
  go_ret
  exact ⟨none, 0, rfl, ⟨rfl, .inl ⟨rfl, rfl⟩⟩, Below.refl _ _⟩
 | some ad =>
  have MD := hid (World.ownsRow_made w #[] 0 (base := w.heap.size) (e := 83) (size := 98) (Nat.le_refl _) (by simp) (by simp))
  have mb0 := (Below.refl w.heap.size w).alloc (Nat.le_refl _) (.cells #[] 83)
  have RD := hid (show Rd _ 98 (some ad) n c xs from h.below mb0)
  have M0 := hid mb0
  have ONE := hid h1
  have HN := hid hn
  clear mb0 h h1
  go_enter Tryd.func61, Tryd.ntmps61
  go_wp2_with (at_builtin; refine wpList_cat rfl _ _ 55 rfl tyPath w.heap.size MD.out rfl rfl RD.out ONE.out (by have := HN.out; omega) (by have := HN.out; unfold maxLen; omega) (by simp) ?_; intro v5 w5 own5 b5 hs5 _; have O5 := hid own5; have B5 := hid b5; clear own5 b5 hs5)
  go_ret
  have o := O5.out
  simp only [List.nil_append, Nat.zero_add] at o
  obtain ⟨a5, c5, e5, _⟩ := Rd.of_owns o
  exact ⟨a5, c5, congrArg Ending.returned e5, by rw [← e5]; exact o, M0.out.trans B5.out⟩
set_option maxRecDepth 100000 in
theorem tyIn : SliceTy Tryd.prog 25 60 130 144 (.agg zIn) := .mk' Tryd.underlying25 (by kernel_rfl) (by decide) (by decide)
set_option maxRecDepth 100000 in
set_option maxHeartbeats 4000000 in
theorem cloIn_walk (a : Option Addr) (n c : Nat) (xs : List Value) (w : World) (h : Rd w 130 a n c xs) (h1 : ∀ u ∈ xs, u.oneCell' = true) (hn : n ≤ 4096) : Calls Tryd.prog 46 #[.slice a n c] w (CloC w 60 130 n xs) := by
 have H := hid h
 have hn0' : ∀ (a : Option Addr) (n c : Nat) (w : World), (binOp .eql 25 (.slice a n c) (.slice none 0 0)).run Tryd.prog w = .ok (.bool a.isNone) w := fun a n c w => Go.Lib.run_eql_slice_nil w _ _ a n c 0 0 Tryd.underlying25
 cases a with
 | none =>
  have hc : c = 0 := h.2.2.2.1 rfl
  have hn0 : n = 0 := by have := h.2.1; omega
  subst hc
  subst hn0
  have hx : xs = [] := List.eq_nil_of_length_eq_zero (by have := h.1; omega)
  subst hx
  clear h h1
  go_enter Tryd.func46, Tryd.ntmps46
  go_wp2
  go_ret
  exact ⟨none, 0, rfl, ⟨rfl, .inl ⟨rfl, rfl⟩⟩, Below.refl _ _⟩
 | some ad =>
  have MD := hid (World.ownsRow_made w #[] 0 (base := w.heap.size) (e := 60) (size := 130) (Nat.le_refl _) (by simp) (by simp))
  have mb0 := (Below.refl w.heap.size w).alloc (Nat.le_refl _) (.cells #[] 60)
  have RD := hid (show Rd _ 130 (some ad) n c xs from h.below mb0)
  have M0 := hid mb0
  have ONE := hid h1
  have HN := hid hn
  clear mb0 h h1
  go_enter Tryd.func46, Tryd.ntmps46
  go_wp2_with (at_builtin; refine wpList_cat rfl _ _ 25 rfl tyIn w.heap.size MD.out rfl rfl RD.out ONE.out (by have := HN.out; omega) (by have := HN.out; unfold maxLen; omega) (by simp) ?_; intro v5 w5 own5 b5 hs5 _; have O5 := hid own5; have B5 := hid b5; clear own5 b5 hs5)
  go_ret
  have o := O5.out
  simp only [List.nil_append, Nat.zero_add] at o
  obtain ⟨a5, c5, e5, _⟩ := Rd.of_owns o
  exact ⟨a5, c5, congrArg Ending.returned e5, by rw [← e5]; exact o, M0.out.trans B5.out⟩
set_option maxRecDepth 100000 in
theorem tyOut : SliceTy Tryd.prog 26 57 34 64 (.agg zOut) := .mk' Tryd.underlying26 (by kernel_rfl) (by decide) (by decide)
set_option maxRecDepth 100000 in
set_option maxHeartbeats 4000000 in
theorem cloOut_walk (a : Option Addr) (n c : Nat) (xs : List Value) (w : World) (h : Rd w 34 a n c xs) (h1 : ∀ u ∈ xs, u.oneCell' = true) (hn : n ≤ 4096) : Calls Tryd.prog 47 #[.slice a n c] w (CloC w 57 34 n xs) := by
 have H := hid h
 have hn0' : ∀ (a : Option Addr) (n c : Nat) (w : World), (binOp .eql 26 (.slice a n c) (.slice none 0 0)).run Tryd.prog w = .ok (.bool a.isNone) w := fun a n c w => Go.Lib.run_eql_slice_nil w _ _ a n c 0 0 Tryd.underlying26
 cases a with
 | none =>
  have hc : c = 0 := h.2.2.2.1 rfl
  have hn0 : n = 0 := by have := h.2.1; omega
  subst hc
  subst hn0
  have hx : xs = [] := List.eq_nil_of_length_eq_zero (by have := h.1; omega)
  subst hx
  clear h h1
  go_enter Tryd.func47, Tryd.ntmps47
  go_wp2
  go_ret
  exact ⟨none, 0, rfl, ⟨rfl, .inl ⟨rfl, rfl⟩⟩, Below.refl _ _⟩
 | some ad =>
  have MD := hid (World.ownsRow_made w #[] 0 (base := w.heap.size) (e := 57) (size := 34) (Nat.le_refl _) (by simp) (by simp))
  have mb0 := (Below.refl w.heap.size w).alloc (Nat.le_refl _) (.cells #[] 57)
  have RD := hid (show Rd _ 34 (some ad) n c xs from h.below mb0)
  have M0 := hid mb0
  have ONE := hid h1
  have HN := hid hn
  clear mb0 h h1
  go_enter Tryd.func47, Tryd.ntmps47
  go_wp2_with (at_builtin; refine wpList_cat rfl _ _ 26 rfl tyOut w.heap.size MD.out rfl rfl RD.out ONE.out (by have := HN.out; omega) (by have := HN.out; unfold maxLen; omega) (by simp) ?_; intro v5 w5 own5 b5 hs5 _; have O5 := hid own5; have B5 := hid b5; clear own5 b5 hs5)
  go_ret
  have o := O5.out
  simp only [List.nil_append, Nat.zero_add] at o
  obtain ⟨a5, c5, e5, _⟩ := Rd.of_owns o
  exact ⟨a5, c5, congrArg Ending.returned e5, by rw [← e5]; exact o, M0.out.trans B5.out⟩
end Go.Proofs.YtnbmpgballopeaaDoor

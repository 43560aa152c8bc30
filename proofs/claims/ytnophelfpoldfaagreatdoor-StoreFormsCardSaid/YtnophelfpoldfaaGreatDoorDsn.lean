/- A new disk. -/
import Derived.Test.YtnophelfpoldfaaGreatDoorGDsy
namespace Go.Proofs.YtnophelfpoldfaaGreatDoor
open Go.RowKit

theorem wp_mkB {P : Program} {w : World} {o : Oper} {a : Act} {K : Act → World → Prop} {Q : Exit → Act → World → Prop} (l c : Operand) (t : TypeId) (hop : o.op = Op.makeSlice t l c)
    {e : TypeId} {bytes : Nat} {z : Value} (ty : SliceTy P t e 1 bytes z) (hz1 : z.cells = #[z]) (B N : Nat) {kl kc : IntKind} (hl : a.eval l = .int kl (N : Int)) (hc : a.eval c = .int kc (N : Int))
    (hN : N < 4294967296) (hby : bytes ≤ 16384) (hB : B ≤ w.heap.size)
    (h : ∀ w', w'.ownsRow B e 1 (.slice (some ⟨w.heap.size, 0, none⟩) N N) N (List.replicate N z) → Below B w w' → K (a.put o.dst (.slice (some ⟨w.heap.size, 0, none⟩) N N)) w') : o.wp P a w K Q := by
  obtain ⟨i, ht, hi, hz, hsz, hb⟩ := ty.ex
  have b2 : i.bytes * N ≤ 281474976710656 := by
    rw [hb]
    have : bytes * N ≤ 16384 * 4294967296 := Nat.mul_le_mul hby (by omega)
    omega
  obtain ⟨w', hrun, r1, r2⟩ := run_make_full (P := P) w B t e i z 1 ht hi hz hsz kl kc N b2 (by unfold maxLen; omega) hB
  unfold Oper.wp
  simp [execOp, hop, hl, hc, hrun, Result.andThen]
  rw [madeCells_one z hz1] at r1
  exact h w' r1 ((Below.refl B w).grown r2 hB (fun k hk => by cases hk))
def z64 : List Nat := List.replicate 64 0
theorem tySs : SliceTy Tryz.prog 39 22 1 24 (.slice none 0 0) := .mk' Tryz.underlying39 (by kernel_rfl) (by decide) (by decide)
def clampD (n : Int) : Nat := (min n 4096).toNat
def NewR (w : World) (i : Nat) (wr : World) : Prop := ∃ sv, DiskAt wr w.heap.size (w.heap.size + 1) sv (.slice none 0 0) (List.replicate i z64) [] ∧ Below w.heap.size w wr
def zD : Array Value := #[.slice none 0 0, .slice none 0 0, .int .i64 0, .bool false]
set_option maxRecDepth 100000 in
set_option maxHeartbeats 8000000 in
theorem dnew_walk (n : Int) (hn : (Lit.int .i64 n).wf = true) (w : World) : Calls Tryz.prog 7 #[.int .i64 n] w fun e w' => e = .returned (.pointer (some ⟨w.heap.size, 0, none⟩)) ∧ NewR w (clampD n) w' := by
  have bD : Tryz.prog.built 57 [] = some zD := by kernel_rfl
  obtain ⟨m, hm⟩ : ∃ m, m = clampD n := ⟨_, rfl⟩
  rw [← hm]
  have m1 : max (0 : Int) (min n 4096) = (m : Int) := by rw [hm]; unfold clampD; omega
  have MD := hid (show m ≤ 4096 from by rw [hm]; unfold clampD; omega)
  have M1 := hid m1
  clear hm m1
  go_enter Tryz.func7, Tryz.ntmps7
  go_upto_region 3 with (with_reducible refine wpList_mk0 bD ?_)
  rotate_left 2
  · -- none
    have h0 : m = 0 := by have := M1.out; omega
    subst h0
    go_loopw [9] (fun x9 wr => x9 = .int .i64 0 ∧ wr = w.alloc (.cells zD 57)) (fun _ _ => 0)
    case atStart => exact ⟨rfl, rfl⟩
    case round =>
      obtain ⟨rfl, rfl⟩ := hrel
      go_wp2_with (fail)
      go_ret
      refine ⟨rfl, .slice none 0 0, ⟨heap_alloc_new w _, ⟨[], ⟨rfl, .inl ⟨rfl, rfl⟩⟩, ⟨rfl, fun i v bs h => by simp at h⟩⟩, ⟨rfl, .inl ⟨rfl, rfl⟩⟩, (fun e he => absurd he List.not_mem_nil), by simp, by omega, by simp⟩, (Below.refl w.heap.size w).alloc (Nat.le_refl _) _⟩
  · have e : (4096 : Int) = (m : Int) := by have := M1.out; omega
    rw [e]
    clear e
    go_loopw [9] (fun x9 wr => ∃ i : Nat, i ≤ m ∧ x9 = .int .i64 (i : Int) ∧ NewR w i wr) (fun x9 _ => m - (intOf x9).toNat)
    case atStart => exact ⟨0, by omega, rfl, .slice none 0 0, ⟨heap_alloc_new w _, ⟨[], ⟨rfl, .inl ⟨rfl, rfl⟩⟩, ⟨rfl, fun i v bs h => by simp at h⟩⟩, ⟨rfl, .inl ⟨rfl, rfl⟩⟩, (fun e he => absurd he List.not_mem_nil), by simp, by omega, by simp⟩, (Below.refl w.heap.size w).alloc (Nat.le_refl _) _⟩
    case round =>
      obtain ⟨i, hi, rfl, sv, hd, hb⟩ := hrel
      have HD := hid hd
      have BB := hid hb
      clear hd hb
      by_cases hlt : i < m
      case neg =>
        obtain rfl : i = m := by omega
        have t1 : decide (i < i) = false := decide_eq_false (by omega)
        clear hlt hi
        go_wp2_with (fail)
        go_ret
        exact ⟨rfl, sv, HD.out, BB.out⟩
      have t1 : decide (i < m) = true := decide_eq_true hlt
      obtain ⟨D, hD⟩ : ∃ D, D = w.heap.size := ⟨_, rfl⟩
      have ED := hid hD
      rw [← hD] at HD ⊢
      have d0 := HD.out.c0
      have LT := hid hlt
      have i32 : i < 4294967296 := by have := MD.out; omega
      clear hD hlt hi
      obtain ⟨vs, ho, hsec⟩ := HD.out.sure
      have HO := hid ho
      have HSEC := hid hsec
      clear ho hsec
      go_upto_region 4 with (fail)
      refine wp_region_held_drew (S := fun _ => True) (by kernel_rfl) (trivial) (fun hHeld => ?_)
      try simp only [List.size_toArray, List.length_cons, List.length_nil, Nat.reduceAdd, Array.replicate_succ, Array.replicate_zero, List.push_toArray, List.nil_append, List.cons_append]
      refine wpAnyH_take (i := 0) (oi := { dst := some 11, op := Op.move (Operand.tmp 3), type := 24, pos := "disk.go:31", after := #[], guard := none }) (v := ?v1001) rfl (by kernel_rfl) (by kernel_rfl) (by kernel_rfl) (fun _ _ _ h => h) (Or.inl ⟨by rfl, ?hy1001⟩) hHeld ?_
      case hy1001 => (intro w hSw; (try dsimp only at hSw); go_simp; (try with_reducible rfl))
      (try simp only [Act.put, List.setIfInBounds_toArray, List.set_cons_zero, List.set_cons_succ])
      refine wpAnyH_take (i := 1) (oi := { dst := some 12, op := Op.move (Operand.tmp 3), type := 24, pos := "disk.go:31", after := #[], guard := none }) (v := ?v1002) rfl (by kernel_rfl) (by kernel_rfl) (by kernel_rfl) (fun _ _ _ h => h) (Or.inl ⟨by rfl, ?hy1002⟩) hHeld ?_
      case hy1002 => (intro w hSw; (try dsimp only at hSw); go_simp; (try with_reducible rfl))
      (try simp only [Act.put, List.setIfInBounds_toArray, List.set_cons_zero, List.set_cons_succ])
      refine wpAnyH_take (i := 2) (oi := { dst := some 13, op := Op.nilCheck (Operand.tmp 12), type := 0, pos := "disk.go:31", after := #[{ on := 1, ground := Ground.data }], guard := none }) (v := ?v1003) rfl (by kernel_rfl) (by kernel_rfl) (by kernel_rfl) (fun _ _ _ h => h) (Or.inl ⟨by rfl, ?hy1003⟩) hHeld ?_
      case hy1003 => (intro w hSw; (try dsimp only at hSw); go_simp; (try with_reducible rfl))
      (try simp only [Act.put, List.setIfInBounds_toArray, List.set_cons_zero, List.set_cons_succ])
      refine wpAnyH_take (i := 3) (oi := { dst := some 14, op := Op.fieldAddr 57 (Operand.tmp 13) 0, type := 0, pos := "disk.go:31", after := #[{ on := 2, ground := Ground.data }], guard := none }) (v := ?v1004) rfl (by kernel_rfl) (by kernel_rfl) (by kernel_rfl) (fun _ _ _ h => h) (Or.inl ⟨by rfl, ?hy1004⟩) hHeld ?_
      case hy1004 => (intro w hSw; (try dsimp only at hSw); go_simp; (try with_reducible rfl))
      (try simp only [Act.put, List.setIfInBounds_toArray, List.set_cons_zero, List.set_cons_succ])
      refine wpAnyH_ready (rs := [4, 5]) (by kernel_rfl) (by simp) ?_
      refine AllReadyH.cons (o := { dst := some 15, op := Op.load 39 (Operand.tmp 14), type := 39, pos := "disk.go:31", after := #[{ on := 3, ground := Ground.data }], guard := none }) rfl (fun K hK => ?_) ?_
      have e0 : wr.drew.cell? ⟨D, 0, none⟩ = some sv := d0; first | (have c9 := cell_keep BL.out (cell_keep BM.out e0); go_simp) | (have c9 := cell_keep BM.out e0; go_simp) | go_simp
      refine hK.out _ _ (trivial) (fun hHeld => ?_)
      clear hK K
      (try simp only [List.setIfInBounds_toArray, List.set_cons_zero, List.set_cons_succ])
      refine wpAnyH_ready (rs := [5]) (by kernel_rfl) (by simp) ?_
      refine AllReadyH.cons (o := { dst := some 16, op := Op.makeSlice 22 (Operand.const (Value.int IntKind.i64 64)) (Operand.const (Value.int IntKind.i64 64)), type := 22, pos := "disk.go:31", after := #[], guard := none }) rfl (fun K hK => ?_) ?_
      rw [if_pos (by rfl)]; refine wp_mkB _ _ _ rfl tyBs rfl wr.heap.size 64 rfl rfl (by decide) (by decide) (by exact Nat.le_refl _) ?_; intro wm om bm; have OM := hid om; have BM := hid bm; clear om bm
      refine hK.out _ _ (trivial) (fun hHeld => ?_)
      clear hK K
      (try simp only [List.setIfInBounds_toArray, List.set_cons_zero, List.set_cons_succ])
      refine wpAnyH_ready (rs := [6]) (by kernel_rfl) (by simp) ?_
      refine AllReadyH.cons (o := { dst := some 17, op := Op.buildSlice 39 1 #[(0, Operand.tmp 16)], type := 39, pos := "disk.go:31", after := #[{ on := 5, ground := Ground.data }], guard := none }) rfl (fun K hK => ?_) ?_
      go_simp; (first | refine newZ ?_ | refine newZd ?_); intro wl hl bl; have HLt := hid hl; have BL := hid bl; clear hl bl
      refine hK.out _ _ (trivial) (fun hHeld => ?_)
      clear hK K
      (try simp only [List.setIfInBounds_toArray, List.set_cons_zero, List.set_cons_succ])
      refine wpAnyH_ready (rs := [7]) (by kernel_rfl) (by simp) ?_
      refine AllReadyH.cons (o := { dst := some 18, op := Op.call { callee := Callee.builtin Builtin.append, args := #[Operand.tmp 15, Operand.tmp 17], argTypes := #[39, 39] }, type := 39, pos := "disk.go:31", after := #[{ on := 4, ground := Ground.data }, { on := 6, ground := Ground.data }], guard := none }) rfl (fun K hK => ?_) ?_
      rw [if_pos (by rfl)]; refine wp_pushK _ _ _ rfl tySs (D + 1) (own_below HO.out ((Below.refl wr.heap.size wr).drew.trans (BM.out.trans (BL.out.out.mono BM.out.size)))) rfl rfl HLt.out.out rfl (by intro u hu; simp only [List.mem_cons, List.not_mem_nil, or_false] at hu; rcases hu with rfl; rfl) (by simp; omega) (by decide) (Nat.le_trans HD.out.lt.2 ((Below.refl wr.heap.size wr).drew.trans (BM.out.trans (BL.out.out.mono BM.out.size))).size) ?_; intro v6 w6 own6 k6 nb6; have O6 := hid own6; have K6 := hid k6; clear own6 k6 nb6
      refine hK.out _ _ (trivial) (fun hHeld => ?_)
      clear hK K
      (try simp only [List.setIfInBounds_toArray, List.set_cons_zero, List.set_cons_succ])
      refine wpAnyH_take (i := 8) (oi := { dst := some 19, op := Op.nilCheck (Operand.tmp 11), type := 0, pos := "disk.go:31", after := #[{ on := 0, ground := Ground.data }, { on := 0, ground := Ground.phase }, { on := 1, ground := Ground.phase }, { on := 2, ground := Ground.phase }, { on := 3, ground := Ground.phase }, { on := 4, ground := Ground.phase }, { on := 5, ground := Ground.phase }, { on := 6, ground := Ground.phase }, { on := 7, ground := Ground.phase }], guard := none }) (v := ?v1005) rfl (by kernel_rfl) (by kernel_rfl) (by kernel_rfl) (fun _ _ _ h => h) (Or.inl ⟨by rfl, ?hy1005⟩) hHeld ?_
      case hy1005 => (intro w hSw; (try dsimp only at hSw); go_simp; (try with_reducible rfl))
      (try simp only [Act.put, List.setIfInBounds_toArray, List.set_cons_zero, List.set_cons_succ])
      refine wpAnyH_take (i := 9) (oi := { dst := some 20, op := Op.fieldAddr 57 (Operand.tmp 19) 0, type := 0, pos := "disk.go:31", after := #[{ on := 8, ground := Ground.data }, { on := 0, ground := Ground.phase }, { on := 1, ground := Ground.phase }, { on := 2, ground := Ground.phase }, { on := 3, ground := Ground.phase }, { on := 4, ground := Ground.phase }, { on := 5, ground := Ground.phase }, { on := 6, ground := Ground.phase }, { on := 7, ground := Ground.phase }], guard := none }) (v := ?v1006) rfl (by kernel_rfl) (by kernel_rfl) (by kernel_rfl) (fun _ _ _ h => h) (Or.inl ⟨by rfl, ?hy1006⟩) hHeld ?_
      case hy1006 => (intro w hSw; (try dsimp only at hSw); go_simp; (try with_reducible rfl))
      (try simp only [Act.put, List.setIfInBounds_toArray, List.set_cons_zero, List.set_cons_succ])
      refine wpAnyH_ready (rs := [10]) (by kernel_rfl) (by simp) ?_
      refine AllReadyH.cons (o := { dst := none, op := Op.store 39 (Operand.tmp 20) (Operand.tmp 18), type := 0, pos := "disk.go:31", after := #[{ on := 9, ground := Ground.data }, { on := 7, ground := Ground.data }, { on := 7, ground := Ground.chain }, { on := 0, ground := Ground.phase }, { on := 1, ground := Ground.phase }, { on := 2, ground := Ground.phase }, { on := 3, ground := Ground.phase }, { on := 4, ground := Ground.phase }, { on := 5, ground := Ground.phase }, { on := 6, ground := Ground.phase }, { on := 7, ground := Ground.phase }], guard := none }) rfl (fun K hK => ?_) ?_
      have hC5 := K6.out.heap (heap_keep HD.out.cell ((Below.refl wr.heap.size wr).drew.trans (BM.out.trans (BL.out.out.mono BM.out.size)))) (fun e => by have := (HO.out.lt _ e).1; omega); have c9 : w6.cell? ⟨D, 0, none⟩ = some sv := gen_cell (j := 0) (row_range (L := [sv, .slice none 0 0, .int .i64 0, .bool false]) hC5) rfl; have z9 : w6.frozen? ⟨D, 0, none⟩ = false := frozen_of_row _ _ _ _ _ hC5; obtain ⟨a6, c6, rfl, _⟩ := Rd.of_owns O6.out; go_simp; (first | refine setW (L := [sv, .slice none 0 0, .int .i64 0, .bool false]) hC5 ?_ | refine setWd (L := [sv, .slice none 0 0, .int .i64 0, .bool false]) hC5 ?_); intro w7 h7 f7; have H7 := hid h7; have F7 := hid f7; clear h7 f7 hC5 c9 z9
      refine hK.out _ _ (trivial) (fun hHeld => ?_)
      clear hK K
      (try simp only [List.setIfInBounds_toArray, List.set_cons_zero, List.set_cons_succ])
      refine wpAnyH_done (by kernel_rfl) ?_ _
      rotate_left
      exact AllReadyH.nil
      exact AllReadyH.nil
      exact AllReadyH.nil
      exact AllReadyH.nil
      refine AllReadyH.cons (o := { dst := some 16, op := Op.makeSlice 22 (Operand.const (Value.int IntKind.i64 64)) (Operand.const (Value.int IntKind.i64 64)), type := 22, pos := "disk.go:31", after := #[], guard := none }) rfl (fun K hK => ?_) ?_
      rw [if_pos (by rfl)]; refine wp_mkB _ _ _ rfl tyBs rfl wr.heap.size 64 rfl rfl (by decide) (by decide) (by exact Nat.le_refl _) ?_; intro wm om bm; have OM := hid om; have BM := hid bm; clear om bm
      refine hK.out _ _ (trivial) (fun hHeld => ?_)
      clear hK K
      (try simp only [List.setIfInBounds_toArray, List.set_cons_zero, List.set_cons_succ])
      refine wpAnyH_ready (rs := [4, 6]) (by kernel_rfl) (by simp) ?_
      refine AllReadyH.cons (o := { dst := some 15, op := Op.load 39 (Operand.tmp 14), type := 39, pos := "disk.go:31", after := #[{ on := 3, ground := Ground.data }], guard := none }) rfl (fun K hK => ?_) ?_
      have e0 : wr.drew.cell? ⟨D, 0, none⟩ = some sv := d0; first | (have c9 := cell_keep BL.out (cell_keep BM.out e0); go_simp) | (have c9 := cell_keep BM.out e0; go_simp) | go_simp
      refine hK.out _ _ (trivial) (fun hHeld => ?_)
      clear hK K
      (try simp only [List.setIfInBounds_toArray, List.set_cons_zero, List.set_cons_succ])
      refine wpAnyH_ready (rs := [6]) (by kernel_rfl) (by simp) ?_
      refine AllReadyH.cons (o := { dst := some 17, op := Op.buildSlice 39 1 #[(0, Operand.tmp 16)], type := 39, pos := "disk.go:31", after := #[{ on := 5, ground := Ground.data }], guard := none }) rfl (fun K hK => ?_) ?_
      go_simp; (first | refine newZ ?_ | refine newZd ?_); intro wl hl bl; have HLt := hid hl; have BL := hid bl; clear hl bl
      refine hK.out _ _ (trivial) (fun hHeld => ?_)
      clear hK K
      (try simp only [List.setIfInBounds_toArray, List.set_cons_zero, List.set_cons_succ])
      refine wpAnyH_ready (rs := [7]) (by kernel_rfl) (by simp) ?_
      refine AllReadyH.cons (o := { dst := some 18, op := Op.call { callee := Callee.builtin Builtin.append, args := #[Operand.tmp 15, Operand.tmp 17], argTypes := #[39, 39] }, type := 39, pos := "disk.go:31", after := #[{ on := 4, ground := Ground.data }, { on := 6, ground := Ground.data }], guard := none }) rfl (fun K hK => ?_) ?_
      rw [if_pos (by rfl)]; refine wp_pushK _ _ _ rfl tySs (D + 1) (own_below HO.out ((Below.refl wr.heap.size wr).drew.trans (BM.out.trans (BL.out.out.mono BM.out.size)))) rfl rfl HLt.out.out rfl (by intro u hu; simp only [List.mem_cons, List.not_mem_nil, or_false] at hu; rcases hu with rfl; rfl) (by simp; omega) (by decide) (Nat.le_trans HD.out.lt.2 ((Below.refl wr.heap.size wr).drew.trans (BM.out.trans (BL.out.out.mono BM.out.size))).size) ?_; intro v6 w6 own6 k6 nb6; have O6 := hid own6; have K6 := hid k6; clear own6 k6 nb6
      refine hK.out _ _ (trivial) (fun hHeld => ?_)
      clear hK K
      (try simp only [List.setIfInBounds_toArray, List.set_cons_zero, List.set_cons_succ])
      refine wpAnyH_take (i := 8) (oi := { dst := some 19, op := Op.nilCheck (Operand.tmp 11), type := 0, pos := "disk.go:31", after := #[{ on := 0, ground := Ground.data }, { on := 0, ground := Ground.phase }, { on := 1, ground := Ground.phase }, { on := 2, ground := Ground.phase }, { on := 3, ground := Ground.phase }, { on := 4, ground := Ground.phase }, { on := 5, ground := Ground.phase }, { on := 6, ground := Ground.phase }, { on := 7, ground := Ground.phase }], guard := none }) (v := ?v1007) rfl (by kernel_rfl) (by kernel_rfl) (by kernel_rfl) (fun _ _ _ h => h) (Or.inl ⟨by rfl, ?hy1007⟩) hHeld ?_
      case hy1007 => (intro w hSw; (try dsimp only at hSw); go_simp; (try with_reducible rfl))
      (try simp only [Act.put, List.setIfInBounds_toArray, List.set_cons_zero, List.set_cons_succ])
      refine wpAnyH_take (i := 9) (oi := { dst := some 20, op := Op.fieldAddr 57 (Operand.tmp 19) 0, type := 0, pos := "disk.go:31", after := #[{ on := 8, ground := Ground.data }, { on := 0, ground := Ground.phase }, { on := 1, ground := Ground.phase }, { on := 2, ground := Ground.phase }, { on := 3, ground := Ground.phase }, { on := 4, ground := Ground.phase }, { on := 5, ground := Ground.phase }, { on := 6, ground := Ground.phase }, { on := 7, ground := Ground.phase }], guard := none }) (v := ?v1008) rfl (by kernel_rfl) (by kernel_rfl) (by kernel_rfl) (fun _ _ _ h => h) (Or.inl ⟨by rfl, ?hy1008⟩) hHeld ?_
      case hy1008 => (intro w hSw; (try dsimp only at hSw); go_simp; (try with_reducible rfl))
      (try simp only [Act.put, List.setIfInBounds_toArray, List.set_cons_zero, List.set_cons_succ])
      refine wpAnyH_ready (rs := [10]) (by kernel_rfl) (by simp) ?_
      refine AllReadyH.cons (o := { dst := none, op := Op.store 39 (Operand.tmp 20) (Operand.tmp 18), type := 0, pos := "disk.go:31", after := #[{ on := 9, ground := Ground.data }, { on := 7, ground := Ground.data }, { on := 7, ground := Ground.chain }, { on := 0, ground := Ground.phase }, { on := 1, ground := Ground.phase }, { on := 2, ground := Ground.phase }, { on := 3, ground := Ground.phase }, { on := 4, ground := Ground.phase }, { on := 5, ground := Ground.phase }, { on := 6, ground := Ground.phase }, { on := 7, ground := Ground.phase }], guard := none }) rfl (fun K hK => ?_) ?_
      have hC5 := K6.out.heap (heap_keep HD.out.cell ((Below.refl wr.heap.size wr).drew.trans (BM.out.trans (BL.out.out.mono BM.out.size)))) (fun e => by have := (HO.out.lt _ e).1; omega); have c9 : w6.cell? ⟨D, 0, none⟩ = some sv := gen_cell (j := 0) (row_range (L := [sv, .slice none 0 0, .int .i64 0, .bool false]) hC5) rfl; have z9 : w6.frozen? ⟨D, 0, none⟩ = false := frozen_of_row _ _ _ _ _ hC5; obtain ⟨a6, c6, rfl, _⟩ := Rd.of_owns O6.out; go_simp; (first | refine setW (L := [sv, .slice none 0 0, .int .i64 0, .bool false]) hC5 ?_ | refine setWd (L := [sv, .slice none 0 0, .int .i64 0, .bool false]) hC5 ?_); intro w7 h7 f7; have H7 := hid h7; have F7 := hid f7; clear h7 f7 hC5 c9 z9
      refine hK.out _ _ (trivial) (fun hHeld => ?_)
      clear hK K
      (try simp only [List.setIfInBounds_toArray, List.set_cons_zero, List.set_cons_succ])
      refine wpAnyH_done (by kernel_rfl) ?_ _
      rotate_left
      exact AllReadyH.nil
      exact AllReadyH.nil
      exact AllReadyH.nil
      refine AllReadyH.cons (o := { dst := some 17, op := Op.buildSlice 39 1 #[(0, Operand.tmp 16)], type := 39, pos := "disk.go:31", after := #[{ on := 5, ground := Ground.data }], guard := none }) rfl (fun K hK => ?_) ?_
      go_simp; (first | refine newZ ?_ | refine newZd ?_); intro wl hl bl; have HLt := hid hl; have BL := hid bl; clear hl bl
      refine hK.out _ _ (trivial) (fun hHeld => ?_)
      clear hK K
      (try simp only [List.setIfInBounds_toArray, List.set_cons_zero, List.set_cons_succ])
      refine wpAnyH_ready (rs := [4]) (by kernel_rfl) (by simp) ?_
      refine AllReadyH.cons (o := { dst := some 15, op := Op.load 39 (Operand.tmp 14), type := 39, pos := "disk.go:31", after := #[{ on := 3, ground := Ground.data }], guard := none }) rfl (fun K hK => ?_) ?_
      have e0 : wr.drew.cell? ⟨D, 0, none⟩ = some sv := d0; first | (have c9 := cell_keep BL.out (cell_keep BM.out e0); go_simp) | (have c9 := cell_keep BM.out e0; go_simp) | go_simp
      refine hK.out _ _ (trivial) (fun hHeld => ?_)
      clear hK K
      (try simp only [List.setIfInBounds_toArray, List.set_cons_zero, List.set_cons_succ])
      refine wpAnyH_ready (rs := [7]) (by kernel_rfl) (by simp) ?_
      refine AllReadyH.cons (o := { dst := some 18, op := Op.call { callee := Callee.builtin Builtin.append, args := #[Operand.tmp 15, Operand.tmp 17], argTypes := #[39, 39] }, type := 39, pos := "disk.go:31", after := #[{ on := 4, ground := Ground.data }, { on := 6, ground := Ground.data }], guard := none }) rfl (fun K hK => ?_) ?_
      rw [if_pos (by rfl)]; refine wp_pushK _ _ _ rfl tySs (D + 1) (own_below HO.out ((Below.refl wr.heap.size wr).drew.trans (BM.out.trans (BL.out.out.mono BM.out.size)))) rfl rfl HLt.out.out rfl (by intro u hu; simp only [List.mem_cons, List.not_mem_nil, or_false] at hu; rcases hu with rfl; rfl) (by simp; omega) (by decide) (Nat.le_trans HD.out.lt.2 ((Below.refl wr.heap.size wr).drew.trans (BM.out.trans (BL.out.out.mono BM.out.size))).size) ?_; intro v6 w6 own6 k6 nb6; have O6 := hid own6; have K6 := hid k6; clear own6 k6 nb6
      refine hK.out _ _ (trivial) (fun hHeld => ?_)
      clear hK K
      (try simp only [List.setIfInBounds_toArray, List.set_cons_zero, List.set_cons_succ])
      refine wpAnyH_take (i := 8) (oi := { dst := some 19, op := Op.nilCheck (Operand.tmp 11), type := 0, pos := "disk.go:31", after := #[{ on := 0, ground := Ground.data }, { on := 0, ground := Ground.phase }, { on := 1, ground := Ground.phase }, { on := 2, ground := Ground.phase }, { on := 3, ground := Ground.phase }, { on := 4, ground := Ground.phase }, { on := 5, ground := Ground.phase }, { on := 6, ground := Ground.phase }, { on := 7, ground := Ground.phase }], guard := none }) (v := ?v1009) rfl (by kernel_rfl) (by kernel_rfl) (by kernel_rfl) (fun _ _ _ h => h) (Or.inl ⟨by rfl, ?hy1009⟩) hHeld ?_
      case hy1009 => (intro w hSw; (try dsimp only at hSw); go_simp; (try with_reducible rfl))
      (try simp only [Act.put, List.setIfInBounds_toArray, List.set_cons_zero, List.set_cons_succ])
      refine wpAnyH_take (i := 9) (oi := { dst := some 20, op := Op.fieldAddr 57 (Operand.tmp 19) 0, type := 0, pos := "disk.go:31", after := #[{ on := 8, ground := Ground.data }, { on := 0, ground := Ground.phase }, { on := 1, ground := Ground.phase }, { on := 2, ground := Ground.phase }, { on := 3, ground := Ground.phase }, { on := 4, ground := Ground.phase }, { on := 5, ground := Ground.phase }, { on := 6, ground := Ground.phase }, { on := 7, ground := Ground.phase }], guard := none }) (v := ?v1010) rfl (by kernel_rfl) (by kernel_rfl) (by kernel_rfl) (fun _ _ _ h => h) (Or.inl ⟨by rfl, ?hy1010⟩) hHeld ?_
      case hy1010 => (intro w hSw; (try dsimp only at hSw); go_simp; (try with_reducible rfl))
      (try simp only [Act.put, List.setIfInBounds_toArray, List.set_cons_zero, List.set_cons_succ])
      refine wpAnyH_ready (rs := [10]) (by kernel_rfl) (by simp) ?_
      refine AllReadyH.cons (o := { dst := none, op := Op.store 39 (Operand.tmp 20) (Operand.tmp 18), type := 0, pos := "disk.go:31", after := #[{ on := 9, ground := Ground.data }, { on := 7, ground := Ground.data }, { on := 7, ground := Ground.chain }, { on := 0, ground := Ground.phase }, { on := 1, ground := Ground.phase }, { on := 2, ground := Ground.phase }, { on := 3, ground := Ground.phase }, { on := 4, ground := Ground.phase }, { on := 5, ground := Ground.phase }, { on := 6, ground := Ground.phase }, { on := 7, ground := Ground.phase }], guard := none }) rfl (fun K hK => ?_) ?_
      have hC5 := K6.out.heap (heap_keep HD.out.cell ((Below.refl wr.heap.size wr).drew.trans (BM.out.trans (BL.out.out.mono BM.out.size)))) (fun e => by have := (HO.out.lt _ e).1; omega); have c9 : w6.cell? ⟨D, 0, none⟩ = some sv := gen_cell (j := 0) (row_range (L := [sv, .slice none 0 0, .int .i64 0, .bool false]) hC5) rfl; have z9 : w6.frozen? ⟨D, 0, none⟩ = false := frozen_of_row _ _ _ _ _ hC5; obtain ⟨a6, c6, rfl, _⟩ := Rd.of_owns O6.out; go_simp; (first | refine setW (L := [sv, .slice none 0 0, .int .i64 0, .bool false]) hC5 ?_ | refine setWd (L := [sv, .slice none 0 0, .int .i64 0, .bool false]) hC5 ?_); intro w7 h7 f7; have H7 := hid h7; have F7 := hid f7; clear h7 f7 hC5 c9 z9
      refine hK.out _ _ (trivial) (fun hHeld => ?_)
      clear hK K
      (try simp only [List.setIfInBounds_toArray, List.set_cons_zero, List.set_cons_succ])
      refine wpAnyH_done (by kernel_rfl) ?_ _
      rotate_left
      exact AllReadyH.nil
      exact AllReadyH.nil
      exact AllReadyH.nil
      exact AllReadyH.nil
      exact AllReadyH.nil
      all_goals
        have bl := ((Below.refl wr.heap.size wr).drew.trans (BM.out.trans (BL.out.out.mono BM.out.size)))
        have KK := hid (show Keep (fun i => i = D ∨ sv.ownBlock = some i) wr w7 from ((Keep.of bl).trans (K6.out.mono (fun i hi => .inr hi))).trans (Keep.far F7.out.out (.inl rfl)))
        have nb : ∀ j, j < wr.heap.size → (j = D ∨ sv.ownBlock = some j) → NoBy wr j := fun j _ e => by
          rcases e with rfl | e
          · exact HD.out.noBy
          · exact HD.out.noByS e
        have hz : ByA wm (.slice (some ⟨wr.heap.size, 0, none⟩) 64 64) z64 := ByA.own (n := 64) (by have := OM.out; unfold z64; rw [nums_replicate]; exact this) (by intro d hd; rw [List.eq_of_mem_replicate hd]; decide)
        have hz7 : ByA w7 (.slice (some ⟨wr.heap.size, 0, none⟩) 64 64) z64 := by
          refine (hz.below BL.out.out).keep ((K6.out.mono (R := fun i => i = D ∨ sv.ownBlock = some i) (fun i hi => .inr hi)).trans (Keep.far F7.out.out (.inl rfl))) (fun j hj e => ?_)
          have hw : j < wr.heap.size := by
            rcases e with rfl | e
            · have := HD.out.lt; omega
            · exact (HO.out.lt j e).2
          exact (nb j hw e).below bl hw
        have D7 := hid (show NewR w (i + 1) w7 from by
          refine ⟨_, ⟨by rw [← ED.out]; exact H7.out.out, ⟨vs ++ [.slice (some ⟨wr.heap.size, 0, none⟩) 64 64], ?_, ?_⟩, ⟨rfl, .inl ⟨rfl, rfl⟩⟩, (fun e he => absurd he List.not_mem_nil), ?_, by omega, ?_⟩, ?_⟩
          · have o := Far.own O6.out F7.out.out (fun e => by have := (O6.out.lt _ e).1; omega)
            rw [List.length_replicate, ← ED.out]
            rw [List.length_replicate] at o
            exact o
          · refine ⟨by rw [List.length_append, HSEC.out.1]; simp, fun j v bs hv hb => ?_⟩
            have lv : vs.length = i := by rw [HSEC.out.1]; simp
            have hb' : bs = z64 := List.eq_of_mem_replicate (List.mem_of_getElem? hb)
            by_cases hj : j < i
            · rw [List.getElem?_append_left (by omega)] at hv
              exact ⟨((HSEC.out.2 j v bs hv (by rw [hb', List.getElem?_replicate]; simp [hj])).1).keep KK.out nb, by rw [hb']; rfl⟩
            · have hj2 := (List.getElem?_eq_some_iff.1 hv).1
              rw [List.length_append, lv] at hj2
              have : j = i := by simp at hj2; omega
              subst this
              rw [List.getElem?_append_right (by omega), lv, Nat.sub_self] at hv
              cases hv
              rw [hb']
              exact ⟨hz7, rfl⟩
          · have := LT.out; have := MD.out; simp; omega
          · rw [← ED.out]; exact Nat.le_trans HD.out.lt.2 KK.out.size
          · exact BB.out.trans (KK.out.below (fun j hj => by
              rcases hj with rfl | hj
              · rw [ED.out]; exact Nat.le_refl _
              · have := (HO.out.lt j hj).1; have := ED.out; omega) BB.out.size))
        clear HD HO HSEC KK nb hz hz7 d0 bl
        go_wp2_with (fail)
        go_roundw
        case rel => exact ⟨i + 1, by have := LT.out; omega, by go_num, D7.out⟩
        case measure => simp [intOf]; have := LT.out; omega
  · obtain rfl : n = (m : Int) := by have := M1.out; omega
    go_loopw [9] (fun x9 wr => ∃ i : Nat, i ≤ m ∧ x9 = .int .i64 (i : Int) ∧ NewR w i wr) (fun x9 _ => m - (intOf x9).toNat)
    case atStart => exact ⟨0, by omega, rfl, .slice none 0 0, ⟨heap_alloc_new w _, ⟨[], ⟨rfl, .inl ⟨rfl, rfl⟩⟩, ⟨rfl, fun i v bs h => by simp at h⟩⟩, ⟨rfl, .inl ⟨rfl, rfl⟩⟩, (fun e he => absurd he List.not_mem_nil), by simp, by omega, by simp⟩, (Below.refl w.heap.size w).alloc (Nat.le_refl _) _⟩
    case round =>
      obtain ⟨i, hi, rfl, sv, hd, hb⟩ := hrel
      have HD := hid hd
      have BB := hid hb
      clear hd hb
      by_cases hlt : i < m
      case neg =>
        obtain rfl : i = m := by omega
        have t1 : decide (i < i) = false := decide_eq_false (by omega)
        clear hlt hi
        go_wp2_with (fail)
        go_ret
        exact ⟨rfl, sv, HD.out, BB.out⟩
      have t1 : decide (i < m) = true := decide_eq_true hlt
      obtain ⟨D, hD⟩ : ∃ D, D = w.heap.size := ⟨_, rfl⟩
      have ED := hid hD
      rw [← hD] at HD ⊢
      have d0 := HD.out.c0
      have LT := hid hlt
      have i32 : i < 4294967296 := by have := MD.out; omega
      clear hD hlt hi
      obtain ⟨vs, ho, hsec⟩ := HD.out.sure
      have HO := hid ho
      have HSEC := hid hsec
      clear ho hsec
      go_upto_region 4 with (fail)
      refine wp_region_held_drew (S := fun _ => True) (by kernel_rfl) (trivial) (fun hHeld => ?_)
      try simp only [List.size_toArray, List.length_cons, List.length_nil, Nat.reduceAdd, Array.replicate_succ, Array.replicate_zero, List.push_toArray, List.nil_append, List.cons_append]
      refine wpAnyH_take (i := 0) (oi := { dst := some 11, op := Op.move (Operand.tmp 3), type := 24, pos := "disk.go:31", after := #[], guard := none }) (v := ?v2001) rfl (by kernel_rfl) (by kernel_rfl) (by kernel_rfl) (fun _ _ _ h => h) (Or.inl ⟨by rfl, ?hy2001⟩) hHeld ?_
      case hy2001 => (intro w hSw; (try dsimp only at hSw); go_simp; (try with_reducible rfl))
      (try simp only [Act.put, List.setIfInBounds_toArray, List.set_cons_zero, List.set_cons_succ])
      refine wpAnyH_take (i := 1) (oi := { dst := some 12, op := Op.move (Operand.tmp 3), type := 24, pos := "disk.go:31", after := #[], guard := none }) (v := ?v2002) rfl (by kernel_rfl) (by kernel_rfl) (by kernel_rfl) (fun _ _ _ h => h) (Or.inl ⟨by rfl, ?hy2002⟩) hHeld ?_
      case hy2002 => (intro w hSw; (try dsimp only at hSw); go_simp; (try with_reducible rfl))
      (try simp only [Act.put, List.setIfInBounds_toArray, List.set_cons_zero, List.set_cons_succ])
      refine wpAnyH_take (i := 2) (oi := { dst := some 13, op := Op.nilCheck (Operand.tmp 12), type := 0, pos := "disk.go:31", after := #[{ on := 1, ground := Ground.data }], guard := none }) (v := ?v2003) rfl (by kernel_rfl) (by kernel_rfl) (by kernel_rfl) (fun _ _ _ h => h) (Or.inl ⟨by rfl, ?hy2003⟩) hHeld ?_
      case hy2003 => (intro w hSw; (try dsimp only at hSw); go_simp; (try with_reducible rfl))
      (try simp only [Act.put, List.setIfInBounds_toArray, List.set_cons_zero, List.set_cons_succ])
      refine wpAnyH_take (i := 3) (oi := { dst := some 14, op := Op.fieldAddr 57 (Operand.tmp 13) 0, type := 0, pos := "disk.go:31", after := #[{ on := 2, ground := Ground.data }], guard := none }) (v := ?v2004) rfl (by kernel_rfl) (by kernel_rfl) (by kernel_rfl) (fun _ _ _ h => h) (Or.inl ⟨by rfl, ?hy2004⟩) hHeld ?_
      case hy2004 => (intro w hSw; (try dsimp only at hSw); go_simp; (try with_reducible rfl))
      (try simp only [Act.put, List.setIfInBounds_toArray, List.set_cons_zero, List.set_cons_succ])
      refine wpAnyH_ready (rs := [4, 5]) (by kernel_rfl) (by simp) ?_
      refine AllReadyH.cons (o := { dst := some 15, op := Op.load 39 (Operand.tmp 14), type := 39, pos := "disk.go:31", after := #[{ on := 3, ground := Ground.data }], guard := none }) rfl (fun K hK => ?_) ?_
      have e0 : wr.drew.cell? ⟨D, 0, none⟩ = some sv := d0; first | (have c9 := cell_keep BL.out (cell_keep BM.out e0); go_simp) | (have c9 := cell_keep BM.out e0; go_simp) | go_simp
      refine hK.out _ _ (trivial) (fun hHeld => ?_)
      clear hK K
      (try simp only [List.setIfInBounds_toArray, List.set_cons_zero, List.set_cons_succ])
      refine wpAnyH_ready (rs := [5]) (by kernel_rfl) (by simp) ?_
      refine AllReadyH.cons (o := { dst := some 16, op := Op.makeSlice 22 (Operand.const (Value.int IntKind.i64 64)) (Operand.const (Value.int IntKind.i64 64)), type := 22, pos := "disk.go:31", after := #[], guard := none }) rfl (fun K hK => ?_) ?_
      rw [if_pos (by rfl)]; refine wp_mkB _ _ _ rfl tyBs rfl wr.heap.size 64 rfl rfl (by decide) (by decide) (by exact Nat.le_refl _) ?_; intro wm om bm; have OM := hid om; have BM := hid bm; clear om bm
      refine hK.out _ _ (trivial) (fun hHeld => ?_)
      clear hK K
      (try simp only [List.setIfInBounds_toArray, List.set_cons_zero, List.set_cons_succ])
      refine wpAnyH_ready (rs := [6]) (by kernel_rfl) (by simp) ?_
      refine AllReadyH.cons (o := { dst := some 17, op := Op.buildSlice 39 1 #[(0, Operand.tmp 16)], type := 39, pos := "disk.go:31", after := #[{ on := 5, ground := Ground.data }], guard := none }) rfl (fun K hK => ?_) ?_
      go_simp; (first | refine newZ ?_ | refine newZd ?_); intro wl hl bl; have HLt := hid hl; have BL := hid bl; clear hl bl
      refine hK.out _ _ (trivial) (fun hHeld => ?_)
      clear hK K
      (try simp only [List.setIfInBounds_toArray, List.set_cons_zero, List.set_cons_succ])
      refine wpAnyH_ready (rs := [7]) (by kernel_rfl) (by simp) ?_
      refine AllReadyH.cons (o := { dst := some 18, op := Op.call { callee := Callee.builtin Builtin.append, args := #[Operand.tmp 15, Operand.tmp 17], argTypes := #[39, 39] }, type := 39, pos := "disk.go:31", after := #[{ on := 4, ground := Ground.data }, { on := 6, ground := Ground.data }], guard := none }) rfl (fun K hK => ?_) ?_
      rw [if_pos (by rfl)]; refine wp_pushK _ _ _ rfl tySs (D + 1) (own_below HO.out ((Below.refl wr.heap.size wr).drew.trans (BM.out.trans (BL.out.out.mono BM.out.size)))) rfl rfl HLt.out.out rfl (by intro u hu; simp only [List.mem_cons, List.not_mem_nil, or_false] at hu; rcases hu with rfl; rfl) (by simp; omega) (by decide) (Nat.le_trans HD.out.lt.2 ((Below.refl wr.heap.size wr).drew.trans (BM.out.trans (BL.out.out.mono BM.out.size))).size) ?_; intro v6 w6 own6 k6 nb6; have O6 := hid own6; have K6 := hid k6; clear own6 k6 nb6
      refine hK.out _ _ (trivial) (fun hHeld => ?_)
      clear hK K
      (try simp only [List.setIfInBounds_toArray, List.set_cons_zero, List.set_cons_succ])
      refine wpAnyH_take (i := 8) (oi := { dst := some 19, op := Op.nilCheck (Operand.tmp 11), type := 0, pos := "disk.go:31", after := #[{ on := 0, ground := Ground.data }, { on := 0, ground := Ground.phase }, { on := 1, ground := Ground.phase }, { on := 2, ground := Ground.phase }, { on := 3, ground := Ground.phase }, { on := 4, ground := Ground.phase }, { on := 5, ground := Ground.phase }, { on := 6, ground := Ground.phase }, { on := 7, ground := Ground.phase }], guard := none }) (v := ?v2005) rfl (by kernel_rfl) (by kernel_rfl) (by kernel_rfl) (fun _ _ _ h => h) (Or.inl ⟨by rfl, ?hy2005⟩) hHeld ?_
      case hy2005 => (intro w hSw; (try dsimp only at hSw); go_simp; (try with_reducible rfl))
      (try simp only [Act.put, List.setIfInBounds_toArray, List.set_cons_zero, List.set_cons_succ])
      refine wpAnyH_take (i := 9) (oi := { dst := some 20, op := Op.fieldAddr 57 (Operand.tmp 19) 0, type := 0, pos := "disk.go:31", after := #[{ on := 8, ground := Ground.data }, { on := 0, ground := Ground.phase }, { on := 1, ground := Ground.phase }, { on := 2, ground := Ground.phase }, { on := 3, ground := Ground.phase }, { on := 4, ground := Ground.phase }, { on := 5, ground := Ground.phase }, { on := 6, ground := Ground.phase }, { on := 7, ground := Ground.phase }], guard := none }) (v := ?v2006) rfl (by kernel_rfl) (by kernel_rfl) (by kernel_rfl) (fun _ _ _ h => h) (Or.inl ⟨by rfl, ?hy2006⟩) hHeld ?_
      case hy2006 => (intro w hSw; (try dsimp only at hSw); go_simp; (try with_reducible rfl))
      (try simp only [Act.put, List.setIfInBounds_toArray, List.set_cons_zero, List.set_cons_succ])
      refine wpAnyH_ready (rs := [10]) (by kernel_rfl) (by simp) ?_
      refine AllReadyH.cons (o := { dst := none, op := Op.store 39 (Operand.tmp 20) (Operand.tmp 18), type := 0, pos := "disk.go:31", after := #[{ on := 9, ground := Ground.data }, { on := 7, ground := Ground.data }, { on := 7, ground := Ground.chain }, { on := 0, ground := Ground.phase }, { on := 1, ground := Ground.phase }, { on := 2, ground := Ground.phase }, { on := 3, ground := Ground.phase }, { on := 4, ground := Ground.phase }, { on := 5, ground := Ground.phase }, { on := 6, ground := Ground.phase }, { on := 7, ground := Ground.phase }], guard := none }) rfl (fun K hK => ?_) ?_
      have hC5 := K6.out.heap (heap_keep HD.out.cell ((Below.refl wr.heap.size wr).drew.trans (BM.out.trans (BL.out.out.mono BM.out.size)))) (fun e => by have := (HO.out.lt _ e).1; omega); have c9 : w6.cell? ⟨D, 0, none⟩ = some sv := gen_cell (j := 0) (row_range (L := [sv, .slice none 0 0, .int .i64 0, .bool false]) hC5) rfl; have z9 : w6.frozen? ⟨D, 0, none⟩ = false := frozen_of_row _ _ _ _ _ hC5; obtain ⟨a6, c6, rfl, _⟩ := Rd.of_owns O6.out; go_simp; (first | refine setW (L := [sv, .slice none 0 0, .int .i64 0, .bool false]) hC5 ?_ | refine setWd (L := [sv, .slice none 0 0, .int .i64 0, .bool false]) hC5 ?_); intro w7 h7 f7; have H7 := hid h7; have F7 := hid f7; clear h7 f7 hC5 c9 z9
      refine hK.out _ _ (trivial) (fun hHeld => ?_)
      clear hK K
      (try simp only [List.setIfInBounds_toArray, List.set_cons_zero, List.set_cons_succ])
      refine wpAnyH_done (by kernel_rfl) ?_ _
      rotate_left
      exact AllReadyH.nil
      exact AllReadyH.nil
      exact AllReadyH.nil
      exact AllReadyH.nil
      refine AllReadyH.cons (o := { dst := some 16, op := Op.makeSlice 22 (Operand.const (Value.int IntKind.i64 64)) (Operand.const (Value.int IntKind.i64 64)), type := 22, pos := "disk.go:31", after := #[], guard := none }) rfl (fun K hK => ?_) ?_
      rw [if_pos (by rfl)]; refine wp_mkB _ _ _ rfl tyBs rfl wr.heap.size 64 rfl rfl (by decide) (by decide) (by exact Nat.le_refl _) ?_; intro wm om bm; have OM := hid om; have BM := hid bm; clear om bm
      refine hK.out _ _ (trivial) (fun hHeld => ?_)
      clear hK K
      (try simp only [List.setIfInBounds_toArray, List.set_cons_zero, List.set_cons_succ])
      refine wpAnyH_ready (rs := [4, 6]) (by kernel_rfl) (by simp) ?_
      refine AllReadyH.cons (o := { dst := some 15, op := Op.load 39 (Operand.tmp 14), type := 39, pos := "disk.go:31", after := #[{ on := 3, ground := Ground.data }], guard := none }) rfl (fun K hK => ?_) ?_
      have e0 : wr.drew.cell? ⟨D, 0, none⟩ = some sv := d0; first | (have c9 := cell_keep BL.out (cell_keep BM.out e0); go_simp) | (have c9 := cell_keep BM.out e0; go_simp) | go_simp
      refine hK.out _ _ (trivial) (fun hHeld => ?_)
      clear hK K
      (try simp only [List.setIfInBounds_toArray, List.set_cons_zero, List.set_cons_succ])
      refine wpAnyH_ready (rs := [6]) (by kernel_rfl) (by simp) ?_
      refine AllReadyH.cons (o := { dst := some 17, op := Op.buildSlice 39 1 #[(0, Operand.tmp 16)], type := 39, pos := "disk.go:31", after := #[{ on := 5, ground := Ground.data }], guard := none }) rfl (fun K hK => ?_) ?_
      go_simp; (first | refine newZ ?_ | refine newZd ?_); intro wl hl bl; have HLt := hid hl; have BL := hid bl; clear hl bl
      refine hK.out _ _ (trivial) (fun hHeld => ?_)
      clear hK K
      (try simp only [List.setIfInBounds_toArray, List.set_cons_zero, List.set_cons_succ])
      refine wpAnyH_ready (rs := [7]) (by kernel_rfl) (by simp) ?_
      refine AllReadyH.cons (o := { dst := some 18, op := Op.call { callee := Callee.builtin Builtin.append, args := #[Operand.tmp 15, Operand.tmp 17], argTypes := #[39, 39] }, type := 39, pos := "disk.go:31", after := #[{ on := 4, ground := Ground.data }, { on := 6, ground := Ground.data }], guard := none }) rfl (fun K hK => ?_) ?_
      rw [if_pos (by rfl)]; refine wp_pushK _ _ _ rfl tySs (D + 1) (own_below HO.out ((Below.refl wr.heap.size wr).drew.trans (BM.out.trans (BL.out.out.mono BM.out.size)))) rfl rfl HLt.out.out rfl (by intro u hu; simp only [List.mem_cons, List.not_mem_nil, or_false] at hu; rcases hu with rfl; rfl) (by simp; omega) (by decide) (Nat.le_trans HD.out.lt.2 ((Below.refl wr.heap.size wr).drew.trans (BM.out.trans (BL.out.out.mono BM.out.size))).size) ?_; intro v6 w6 own6 k6 nb6; have O6 := hid own6; have K6 := hid k6; clear own6 k6 nb6
      refine hK.out _ _ (trivial) (fun hHeld => ?_)
      clear hK K
      (try simp only [List.setIfInBounds_toArray, List.set_cons_zero, List.set_cons_succ])
      refine wpAnyH_take (i := 8) (oi := { dst := some 19, op := Op.nilCheck (Operand.tmp 11), type := 0, pos := "disk.go:31", after := #[{ on := 0, ground := Ground.data }, { on := 0, ground := Ground.phase }, { on := 1, ground := Ground.phase }, { on := 2, ground := Ground.phase }, { on := 3, ground := Ground.phase }, { on := 4, ground := Ground.phase }, { on := 5, ground := Ground.phase }, { on := 6, ground := Ground.phase }, { on := 7, ground := Ground.phase }], guard := none }) (v := ?v2007) rfl (by kernel_rfl) (by kernel_rfl) (by kernel_rfl) (fun _ _ _ h => h) (Or.inl ⟨by rfl, ?hy2007⟩) hHeld ?_
      case hy2007 => (intro w hSw; (try dsimp only at hSw); go_simp; (try with_reducible rfl))
      (try simp only [Act.put, List.setIfInBounds_toArray, List.set_cons_zero, List.set_cons_succ])
      refine wpAnyH_take (i := 9) (oi := { dst := some 20, op := Op.fieldAddr 57 (Operand.tmp 19) 0, type := 0, pos := "disk.go:31", after := #[{ on := 8, ground := Ground.data }, { on := 0, ground := Ground.phase }, { on := 1, ground := Ground.phase }, { on := 2, ground := Ground.phase }, { on := 3, ground := Ground.phase }, { on := 4, ground := Ground.phase }, { on := 5, ground := Ground.phase }, { on := 6, ground := Ground.phase }, { on := 7, ground := Ground.phase }], guard := none }) (v := ?v2008) rfl (by kernel_rfl) (by kernel_rfl) (by kernel_rfl) (fun _ _ _ h => h) (Or.inl ⟨by rfl, ?hy2008⟩) hHeld ?_
      case hy2008 => (intro w hSw; (try dsimp only at hSw); go_simp; (try with_reducible rfl))
      (try simp only [Act.put, List.setIfInBounds_toArray, List.set_cons_zero, List.set_cons_succ])
      refine wpAnyH_ready (rs := [10]) (by kernel_rfl) (by simp) ?_
      refine AllReadyH.cons (o := { dst := none, op := Op.store 39 (Operand.tmp 20) (Operand.tmp 18), type := 0, pos := "disk.go:31", after := #[{ on := 9, ground := Ground.data }, { on := 7, ground := Ground.data }, { on := 7, ground := Ground.chain }, { on := 0, ground := Ground.phase }, { on := 1, ground := Ground.phase }, { on := 2, ground := Ground.phase }, { on := 3, ground := Ground.phase }, { on := 4, ground := Ground.phase }, { on := 5, ground := Ground.phase }, { on := 6, ground := Ground.phase }, { on := 7, ground := Ground.phase }], guard := none }) rfl (fun K hK => ?_) ?_
      have hC5 := K6.out.heap (heap_keep HD.out.cell ((Below.refl wr.heap.size wr).drew.trans (BM.out.trans (BL.out.out.mono BM.out.size)))) (fun e => by have := (HO.out.lt _ e).1; omega); have c9 : w6.cell? ⟨D, 0, none⟩ = some sv := gen_cell (j := 0) (row_range (L := [sv, .slice none 0 0, .int .i64 0, .bool false]) hC5) rfl; have z9 : w6.frozen? ⟨D, 0, none⟩ = false := frozen_of_row _ _ _ _ _ hC5; obtain ⟨a6, c6, rfl, _⟩ := Rd.of_owns O6.out; go_simp; (first | refine setW (L := [sv, .slice none 0 0, .int .i64 0, .bool false]) hC5 ?_ | refine setWd (L := [sv, .slice none 0 0, .int .i64 0, .bool false]) hC5 ?_); intro w7 h7 f7; have H7 := hid h7; have F7 := hid f7; clear h7 f7 hC5 c9 z9
      refine hK.out _ _ (trivial) (fun hHeld => ?_)
      clear hK K
      (try simp only [List.setIfInBounds_toArray, List.set_cons_zero, List.set_cons_succ])
      refine wpAnyH_done (by kernel_rfl) ?_ _
      rotate_left
      exact AllReadyH.nil
      exact AllReadyH.nil
      exact AllReadyH.nil
      refine AllReadyH.cons (o := { dst := some 17, op := Op.buildSlice 39 1 #[(0, Operand.tmp 16)], type := 39, pos := "disk.go:31", after := #[{ on := 5, ground := Ground.data }], guard := none }) rfl (fun K hK => ?_) ?_
      go_simp; (first | refine newZ ?_ | refine newZd ?_); intro wl hl bl; have HLt := hid hl; have BL := hid bl; clear hl bl
      refine hK.out _ _ (trivial) (fun hHeld => ?_)
      clear hK K
      (try simp only [List.setIfInBounds_toArray, List.set_cons_zero, List.set_cons_succ])
      refine wpAnyH_ready (rs := [4]) (by kernel_rfl) (by simp) ?_
      refine AllReadyH.cons (o := { dst := some 15, op := Op.load 39 (Operand.tmp 14), type := 39, pos := "disk.go:31", after := #[{ on := 3, ground := Ground.data }], guard := none }) rfl (fun K hK => ?_) ?_
      have e0 : wr.drew.cell? ⟨D, 0, none⟩ = some sv := d0; first | (have c9 := cell_keep BL.out (cell_keep BM.out e0); go_simp) | (have c9 := cell_keep BM.out e0; go_simp) | go_simp
      refine hK.out _ _ (trivial) (fun hHeld => ?_)
      clear hK K
      (try simp only [List.setIfInBounds_toArray, List.set_cons_zero, List.set_cons_succ])
      refine wpAnyH_ready (rs := [7]) (by kernel_rfl) (by simp) ?_
      refine AllReadyH.cons (o := { dst := some 18, op := Op.call { callee := Callee.builtin Builtin.append, args := #[Operand.tmp 15, Operand.tmp 17], argTypes := #[39, 39] }, type := 39, pos := "disk.go:31", after := #[{ on := 4, ground := Ground.data }, { on := 6, ground := Ground.data }], guard := none }) rfl (fun K hK => ?_) ?_
      rw [if_pos (by rfl)]; refine wp_pushK _ _ _ rfl tySs (D + 1) (own_below HO.out ((Below.refl wr.heap.size wr).drew.trans (BM.out.trans (BL.out.out.mono BM.out.size)))) rfl rfl HLt.out.out rfl (by intro u hu; simp only [List.mem_cons, List.not_mem_nil, or_false] at hu; rcases hu with rfl; rfl) (by simp; omega) (by decide) (Nat.le_trans HD.out.lt.2 ((Below.refl wr.heap.size wr).drew.trans (BM.out.trans (BL.out.out.mono BM.out.size))).size) ?_; intro v6 w6 own6 k6 nb6; have O6 := hid own6; have K6 := hid k6; clear own6 k6 nb6
      refine hK.out _ _ (trivial) (fun hHeld => ?_)
      clear hK K
      (try simp only [List.setIfInBounds_toArray, List.set_cons_zero, List.set_cons_succ])
      refine wpAnyH_take (i := 8) (oi := { dst := some 19, op := Op.nilCheck (Operand.tmp 11), type := 0, pos := "disk.go:31", after := #[{ on := 0, ground := Ground.data }, { on := 0, ground := Ground.phase }, { on := 1, ground := Ground.phase }, { on := 2, ground := Ground.phase }, { on := 3, ground := Ground.phase }, { on := 4, ground := Ground.phase }, { on := 5, ground := Ground.phase }, { on := 6, ground := Ground.phase }, { on := 7, ground := Ground.phase }], guard := none }) (v := ?v2009) rfl (by kernel_rfl) (by kernel_rfl) (by kernel_rfl) (fun _ _ _ h => h) (Or.inl ⟨by rfl, ?hy2009⟩) hHeld ?_
      case hy2009 => (intro w hSw; (try dsimp only at hSw); go_simp; (try with_reducible rfl))
      (try simp only [Act.put, List.setIfInBounds_toArray, List.set_cons_zero, List.set_cons_succ])
      refine wpAnyH_take (i := 9) (oi := { dst := some 20, op := Op.fieldAddr 57 (Operand.tmp 19) 0, type := 0, pos := "disk.go:31", after := #[{ on := 8, ground := Ground.data }, { on := 0, ground := Ground.phase }, { on := 1, ground := Ground.phase }, { on := 2, ground := Ground.phase }, { on := 3, ground := Ground.phase }, { on := 4, ground := Ground.phase }, { on := 5, ground := Ground.phase }, { on := 6, ground := Ground.phase }, { on := 7, ground := Ground.phase }], guard := none }) (v := ?v2010) rfl (by kernel_rfl) (by kernel_rfl) (by kernel_rfl) (fun _ _ _ h => h) (Or.inl ⟨by rfl, ?hy2010⟩) hHeld ?_
      case hy2010 => (intro w hSw; (try dsimp only at hSw); go_simp; (try with_reducible rfl))
      (try simp only [Act.put, List.setIfInBounds_toArray, List.set_cons_zero, List.set_cons_succ])
      refine wpAnyH_ready (rs := [10]) (by kernel_rfl) (by simp) ?_
      refine AllReadyH.cons (o := { dst := none, op := Op.store 39 (Operand.tmp 20) (Operand.tmp 18), type := 0, pos := "disk.go:31", after := #[{ on := 9, ground := Ground.data }, { on := 7, ground := Ground.data }, { on := 7, ground := Ground.chain }, { on := 0, ground := Ground.phase }, { on := 1, ground := Ground.phase }, { on := 2, ground := Ground.phase }, { on := 3, ground := Ground.phase }, { on := 4, ground := Ground.phase }, { on := 5, ground := Ground.phase }, { on := 6, ground := Ground.phase }, { on := 7, ground := Ground.phase }], guard := none }) rfl (fun K hK => ?_) ?_
      have hC5 := K6.out.heap (heap_keep HD.out.cell ((Below.refl wr.heap.size wr).drew.trans (BM.out.trans (BL.out.out.mono BM.out.size)))) (fun e => by have := (HO.out.lt _ e).1; omega); have c9 : w6.cell? ⟨D, 0, none⟩ = some sv := gen_cell (j := 0) (row_range (L := [sv, .slice none 0 0, .int .i64 0, .bool false]) hC5) rfl; have z9 : w6.frozen? ⟨D, 0, none⟩ = false := frozen_of_row _ _ _ _ _ hC5; obtain ⟨a6, c6, rfl, _⟩ := Rd.of_owns O6.out; go_simp; (first | refine setW (L := [sv, .slice none 0 0, .int .i64 0, .bool false]) hC5 ?_ | refine setWd (L := [sv, .slice none 0 0, .int .i64 0, .bool false]) hC5 ?_); intro w7 h7 f7; have H7 := hid h7; have F7 := hid f7; clear h7 f7 hC5 c9 z9
      refine hK.out _ _ (trivial) (fun hHeld => ?_)
      clear hK K
      (try simp only [List.setIfInBounds_toArray, List.set_cons_zero, List.set_cons_succ])
      refine wpAnyH_done (by kernel_rfl) ?_ _
      rotate_left
      exact AllReadyH.nil
      exact AllReadyH.nil
      exact AllReadyH.nil
      exact AllReadyH.nil
      exact AllReadyH.nil
      all_goals
        have bl := ((Below.refl wr.heap.size wr).drew.trans (BM.out.trans (BL.out.out.mono BM.out.size)))
        have KK := hid (show Keep (fun i => i = D ∨ sv.ownBlock = some i) wr w7 from ((Keep.of bl).trans (K6.out.mono (fun i hi => .inr hi))).trans (Keep.far F7.out.out (.inl rfl)))
        have nb : ∀ j, j < wr.heap.size → (j = D ∨ sv.ownBlock = some j) → NoBy wr j := fun j _ e => by
          rcases e with rfl | e
          · exact HD.out.noBy
          · exact HD.out.noByS e
        have hz : ByA wm (.slice (some ⟨wr.heap.size, 0, none⟩) 64 64) z64 := ByA.own (n := 64) (by have := OM.out; unfold z64; rw [nums_replicate]; exact this) (by intro d hd; rw [List.eq_of_mem_replicate hd]; decide)
        have hz7 : ByA w7 (.slice (some ⟨wr.heap.size, 0, none⟩) 64 64) z64 := by
          refine (hz.below BL.out.out).keep ((K6.out.mono (R := fun i => i = D ∨ sv.ownBlock = some i) (fun i hi => .inr hi)).trans (Keep.far F7.out.out (.inl rfl))) (fun j hj e => ?_)
          have hw : j < wr.heap.size := by
            rcases e with rfl | e
            · have := HD.out.lt; omega
            · exact (HO.out.lt j e).2
          exact (nb j hw e).below bl hw
        have D7 := hid (show NewR w (i + 1) w7 from by
          refine ⟨_, ⟨by rw [← ED.out]; exact H7.out.out, ⟨vs ++ [.slice (some ⟨wr.heap.size, 0, none⟩) 64 64], ?_, ?_⟩, ⟨rfl, .inl ⟨rfl, rfl⟩⟩, (fun e he => absurd he List.not_mem_nil), ?_, by omega, ?_⟩, ?_⟩
          · have o := Far.own O6.out F7.out.out (fun e => by have := (O6.out.lt _ e).1; omega)
            rw [List.length_replicate, ← ED.out]
            rw [List.length_replicate] at o
            exact o
          · refine ⟨by rw [List.length_append, HSEC.out.1]; simp, fun j v bs hv hb => ?_⟩
            have lv : vs.length = i := by rw [HSEC.out.1]; simp
            have hb' : bs = z64 := List.eq_of_mem_replicate (List.mem_of_getElem? hb)
            by_cases hj : j < i
            · rw [List.getElem?_append_left (by omega)] at hv
              exact ⟨((HSEC.out.2 j v bs hv (by rw [hb', List.getElem?_replicate]; simp [hj])).1).keep KK.out nb, by rw [hb']; rfl⟩
            · have hj2 := (List.getElem?_eq_some_iff.1 hv).1
              rw [List.length_append, lv] at hj2
              have : j = i := by simp at hj2; omega
              subst this
              rw [List.getElem?_append_right (by omega), lv, Nat.sub_self] at hv
              cases hv
              rw [hb']
              exact ⟨hz7, rfl⟩
          · have := LT.out; have := MD.out; simp; omega
          · rw [← ED.out]; exact Nat.le_trans HD.out.lt.2 KK.out.size
          · exact BB.out.trans (KK.out.below (fun j hj => by
              rcases hj with rfl | hj
              · rw [ED.out]; exact Nat.le_refl _
              · have := (HO.out.lt j hj).1; have := ED.out; omega) BB.out.size))
        clear HD HO HSEC KK nb hz hz7 d0 bl
        go_wp2_with (fail)
        go_roundw
        case rel => exact ⟨i + 1, by have := LT.out; omega, by go_num, D7.out⟩
        case measure => simp [intOf]; have := LT.out; omega
end Go.Proofs.YtnophelfpoldfaaGreatDoor

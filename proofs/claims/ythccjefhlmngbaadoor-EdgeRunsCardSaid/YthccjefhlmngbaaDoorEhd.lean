/- The chapter's head. -/
import Derived.Test.YthccjefhlmngbaaDoorEg3
import Derived.Test.YthccjefhlmngbaaDoorEg2
import Derived.Test.YthccjefhlmngbaaDoorHn
namespace Go.Proofs.YthccjefhlmngbaaDoor
open Go.RowKit

theorem run_bld2 {P : Program} {w : World} {o : Oper} {ev : Operand → Value} {t : TypeId} {i0 i1 : Nat} {x0 x1 : Operand} {v0 v1 : Value} {cells : Array Value} (ho : o.op = .build t #[(i0, x0), (i1, x1)]) (h0 : ev x0 = v0) (h1 : ev x1 = v1) (hb : P.built t [(i0, v0), (i1, v1)] = some cells) : (execOp ev o).run P w = .ok (.value (.agg cells)) w :=
  run_buildN ho (by simpa [h0, h1] using hb)
theorem run_bld3 {P : Program} {w : World} {o : Oper} {ev : Operand → Value} {t : TypeId} {i0 i1 i2 : Nat} {x0 x1 x2 : Operand} {v0 v1 v2 : Value} {cells : Array Value} (ho : o.op = .build t #[(i0, x0), (i1, x1), (i2, x2)]) (h0 : ev x0 = v0) (h1 : ev x1 = v1) (h2 : ev x2 = v2) (hb : P.built t [(i0, v0), (i1, v1), (i2, v2)] = some cells) : (execOp ev o).run P w = .ok (.value (.agg cells)) w :=
  run_buildN ho (by simpa [h0, h1, h2] using hb)
theorem run_bld4 {P : Program} {w : World} {o : Oper} {ev : Operand → Value} {t : TypeId} {i0 i1 i2 i3 : Nat} {x0 x1 x2 x3 : Operand} {v0 v1 v2 v3 : Value} {cells : Array Value} (ho : o.op = .build t #[(i0, x0), (i1, x1), (i2, x2), (i3, x3)]) (h0 : ev x0 = v0) (h1 : ev x1 = v1) (h2 : ev x2 = v2) (h3 : ev x3 = v3) (hb : P.built t [(i0, v0), (i1, v1), (i2, v2), (i3, v3)] = some cells) : (execOp ev o).run P w = .ok (.value (.agg cells)) w :=
  run_buildN ho (by simpa [h0, h1, h2, h3] using hb)
theorem run_bld5 {P : Program} {w : World} {o : Oper} {ev : Operand → Value} {t : TypeId} {i0 i1 i2 i3 i4 : Nat} {x0 x1 x2 x3 x4 : Operand} {v0 v1 v2 v3 v4 : Value} {cells : Array Value} (ho : o.op = .build t #[(i0, x0), (i1, x1), (i2, x2), (i3, x3), (i4, x4)]) (h0 : ev x0 = v0) (h1 : ev x1 = v1) (h2 : ev x2 = v2) (h3 : ev x3 = v3) (h4 : ev x4 = v4) (hb : P.built t [(i0, v0), (i1, v1), (i2, v2), (i3, v3), (i4, v4)] = some cells) : (execOp ev o).run P w = .ok (.value (.agg cells)) w :=
  run_buildN ho (by simpa [h0, h1, h2, h3, h4] using hb)
theorem wpList_bld2 {P : Program} {ops : Array Oper} {rest : List Oper} {o : Oper} {a : Act} {w : World} {Q : Exit → Act → World → Prop} {t : TypeId} {i0 i1 : Nat} {x0 x1 : Operand} {v0 v1 : Value} {cells : Array Value} (hg : o.guard = none) (ho : o.op = .build t #[(i0, x0), (i1, x1)]) (h0 : a.eval x0 = v0) (h1 : a.eval x1 = v1) (hb : P.built t [(i0, v0), (i1, v1)] = some cells) (h : wpList P ops Q rest (a.put o.dst (.agg cells)) w) : wpList P ops Q (o :: rest) a w := by
  have hv : ((#[(i0, x0), (i1, x1)] : Array (Nat × Operand)).map fun (i, x) => (i, a.eval x)).toList = [(i0, v0), (i1, v1)] := by simp [h0, h1]
  exact wpList_build hg t _ ho (by rw [hv, hb]; rfl) (by rw [hv, hb]; exact h)
theorem wpList_bld3 {P : Program} {ops : Array Oper} {rest : List Oper} {o : Oper} {a : Act} {w : World} {Q : Exit → Act → World → Prop} {t : TypeId} {i0 i1 i2 : Nat} {x0 x1 x2 : Operand} {v0 v1 v2 : Value} {cells : Array Value} (hg : o.guard = none) (ho : o.op = .build t #[(i0, x0), (i1, x1), (i2, x2)]) (h0 : a.eval x0 = v0) (h1 : a.eval x1 = v1) (h2 : a.eval x2 = v2) (hb : P.built t [(i0, v0), (i1, v1), (i2, v2)] = some cells) (h : wpList P ops Q rest (a.put o.dst (.agg cells)) w) : wpList P ops Q (o :: rest) a w := by
  have hv : ((#[(i0, x0), (i1, x1), (i2, x2)] : Array (Nat × Operand)).map fun (i, x) => (i, a.eval x)).toList = [(i0, v0), (i1, v1), (i2, v2)] := by simp [h0, h1, h2]
  exact wpList_build hg t _ ho (by rw [hv, hb]; rfl) (by rw [hv, hb]; exact h)
theorem wpList_bld4 {P : Program} {ops : Array Oper} {rest : List Oper} {o : Oper} {a : Act} {w : World} {Q : Exit → Act → World → Prop} {t : TypeId} {i0 i1 i2 i3 : Nat} {x0 x1 x2 x3 : Operand} {v0 v1 v2 v3 : Value} {cells : Array Value} (hg : o.guard = none) (ho : o.op = .build t #[(i0, x0), (i1, x1), (i2, x2), (i3, x3)]) (h0 : a.eval x0 = v0) (h1 : a.eval x1 = v1) (h2 : a.eval x2 = v2) (h3 : a.eval x3 = v3) (hb : P.built t [(i0, v0), (i1, v1), (i2, v2), (i3, v3)] = some cells) (h : wpList P ops Q rest (a.put o.dst (.agg cells)) w) : wpList P ops Q (o :: rest) a w := by
  have hv : ((#[(i0, x0), (i1, x1), (i2, x2), (i3, x3)] : Array (Nat × Operand)).map fun (i, x) => (i, a.eval x)).toList = [(i0, v0), (i1, v1), (i2, v2), (i3, v3)] := by simp [h0, h1, h2, h3]
  exact wpList_build hg t _ ho (by rw [hv, hb]; rfl) (by rw [hv, hb]; exact h)
theorem wpList_bld5 {P : Program} {ops : Array Oper} {rest : List Oper} {o : Oper} {a : Act} {w : World} {Q : Exit → Act → World → Prop} {t : TypeId} {i0 i1 i2 i3 i4 : Nat} {x0 x1 x2 x3 x4 : Operand} {v0 v1 v2 v3 v4 : Value} {cells : Array Value} (hg : o.guard = none) (ho : o.op = .build t #[(i0, x0), (i1, x1), (i2, x2), (i3, x3), (i4, x4)]) (h0 : a.eval x0 = v0) (h1 : a.eval x1 = v1) (h2 : a.eval x2 = v2) (h3 : a.eval x3 = v3) (h4 : a.eval x4 = v4) (hb : P.built t [(i0, v0), (i1, v1), (i2, v2), (i3, v3), (i4, v4)] = some cells) (h : wpList P ops Q rest (a.put o.dst (.agg cells)) w) : wpList P ops Q (o :: rest) a w := by
  have hv : ((#[(i0, x0), (i1, x1), (i2, x2), (i3, x3), (i4, x4)] : Array (Nat × Operand)).map fun (i, x) => (i, a.eval x)).toList = [(i0, v0), (i1, v1), (i2, v2), (i3, v3), (i4, v4)] := by simp [h0, h1, h2, h3, h4]
  exact wpList_build hg t _ ho (by rw [hv, hb]; rfl) (by rw [hv, hb]; exact h)
theorem ex_til (am : Nat) (til t : Int) (lk : List Nat) (h : lk.length = 32) : (exOut am til lk).cells.toArray.setIfInBounds 68 (.int .i64 t) = (exOut am t lk).cells.toArray := by
  rw [List.setIfInBounds_toArray]
  congr 1
  simp [exOut, Lg.cells, Ofr.cells, h, show hz32.length = 32 from hz32_ok.1]
theorem ex_am (am m : Nat) (til : Int) (lk : List Nat) : (exOut am til lk).cells.toArray.setIfInBounds 35 (.int .u64 (m : Int)) = (exOut m til lk).cells.toArray := by
  rw [List.setIfInBounds_toArray]
  congr 1
theorem ex68 (am : Nat) (til : Int) (lk : List Nat) (h : lk.length = 32) : (exOut am til lk).cells[68]? = some (.int .i64 til) := by
  simp [exOut, Lg.cells, Ofr.cells, h, show hz32.length = 32 from hz32_ok.1]
theorem ex35 (am : Nat) (til : Int) (lk : List Nat) : (exOut am til lk).cells[35]? = some (.int .u64 (am : Int)) := by
  simp [exOut, Lg.cells, Ofr.cells, show hz32.length = 32 from hz32_ok.1]
theorem no_shop {eb mb i : Nat} {v : Value} (h1 : i ≠ eb) (h2 : i ≠ mb) (h3 : v.ownBlock ≠ some i) : ¬ ShopS eb mb v i := by
  rintro (h | h | h)
  · exact h1 h
  · exact h2 h
  · exact h3 h
theorem none_own (i n c : Nat) : (Value.slice none n c).ownBlock ≠ some i := by rintro ⟨⟩
theorem newer_none {w : World} {n c g : Nat} {v : Value} (h : Newer w (.slice none n c) v) (hg : v.ownBlock = some g) : w.heap.size ≤ g := by
  rcases h with h | h
  · rw [h] at hg
    cases hg
  · exact h g hg
theorem Fw.units_at {f : Fw} (h : f.ok) : f.cells[170]? = some (.int .u64 (f.units : Int)) := by
  have e : f.cells = (f.inn.cells ++ f.out.cells ++ nums .u8 f.qt) ++ (.int .u64 (f.units : Int) :: (nums .u8 f.sec ++ [.int .i64 f.st])) := by simp [Fw.cells, Fw.tail]
  have hl : (f.inn.cells ++ f.out.cells ++ nums .u8 f.qt).length = 170 := by simp [Lg.len h.i, Lg.len h.o, h.ql]
  rw [e, List.getElem?_append_right (by omega), hl]
  rfl
theorem shop_low {eb mb B : Nat} {v : Value} (h1 : B ≤ eb) (h2 : B ≤ mb) (h3 : ∀ g, v.ownBlock = some g → B ≤ g) : ∀ i, ShopS eb mb v i → B ≤ i := by
  rintro i (rfl | rfl | h)
  · exact h1
  · exact h2
  · exact h3 i h
theorem infoB (v : Nat) : (Tryd.prog.info? 27).map (·.size) = some (nums .u8 (hbx v)).toArray.size := by kernel_rfl
theorem infoBl (v : Nat) : (Tryd.prog.info? 27).map (·.size) = some (nums .u8 (hbx v)).length := by kernel_rfl
set_option maxRecDepth 100000 in
set_option maxHeartbeats 8000000 in
theorem ehead_walk (w : World) (ht : Tabs w) : Calls Tryd.prog 8 #[] w fun e w' => e = .returned (.bool true) ∧ Below w.heap.size w w' := by
  have HT := hid ht
  have un := Tryd.underlying27
  have ob1 := hid (all_oneCell_toArray (nums_oneCell .u8 (hbx 1)))
  have ob9 := hid (all_oneCell_toArray (nums_oneCell .u8 (hbx 9)))
  have hb1 := hid (infoB 1)
  have hb9 := hid (infoB 9)
  clear ht
  go_enter Tryd.func8, Tryd.ntmps8
  go_wp2_with (fail)
  refine (tnew_walk w).mono ?_
  rintro e w1 ⟨tb, mb, rfl, t1, l1, l2, b1⟩
  have T1 := hid t1
  have L1 := hid l1
  have L2 := hid l2
  have B1 := hid b1
  clear t1 l1 l2 b1
  have LA := fun z => laid w1 z (nums .u8 (hbx 1)).toArray 27
  go_upto_region 3 with (refine wpList_store_row rfl _ _ _ rfl w1.heap.size (nums .u8 (hbx 1)).toArray rfl rfl _ _ (heap_alloc_new w1 _) hb1.out rfl ob1.out ?_)
  generalize hW : World.setRow _ w1.heap.size _ = w2
  have LA2 : w2.heap[w1.heap.size]? = some (.cells (nums .u8 (hbx 1)).toArray 27 (0, 0)) ∧ Below w1.heap.size w1 w2 := by rw [← hW]; exact LA _
  have N2 := hid LA2.1
  have T2 := hid (T1.out.below LA2.2)
  have B2 := hid (bstep B1.out LA2.2)
  obtain ⟨K, hK⟩ : ∃ K, K = w1.heap.size := ⟨_, rfl⟩
  rw [← hK] at N2 ⊢
  have MK := hid (show mb < K from by rw [hK]; exact T1.out.map.lt)
  clear LA LA2 hW hK
  have LB := fun z => laid w2 z (nums .u8 (hbx 9)).toArray 27
  go_upto_region 4 with (refine wpList_store_row rfl _ _ _ rfl w2.heap.size (nums .u8 (hbx 9)).toArray rfl rfl _ _ (heap_alloc_new w2 _) hb9.out rfl ob9.out ?_)
  generalize hW : World.setRow _ w2.heap.size _ = w3
  have LB2 : w3.heap[w2.heap.size]? = some (.cells (nums .u8 (hbx 9)).toArray 27 (0, 0)) ∧ Below w2.heap.size w2 w3 := by rw [← hW]; exact LB _
  have I3 := hid LB2.1
  have N3 := hid (heap_keep N2.out LB2.2)
  have T3 := hid (T2.out.below LB2.2)
  have B3 := hid (bstep B2.out LB2.2)
  obtain ⟨J, hJ⟩ : ∃ J, J = w2.heap.size := ⟨_, rfl⟩
  rw [← hJ] at I3 ⊢
  have MJ := hid (show mb < J from by rw [hJ]; exact T2.out.map.lt)
  have KJ := hid (show K < J from by rw [hJ]; exact (Array.getElem?_eq_some_iff.1 N2.out).1)
  clear LB LB2 hW hJ T1 T2 N2 B1 B2
  have n3 := row_range N3.out
  have i3 := row_range I3.out
  have l1 := hid (infoBl 1)
  have l9 := hid (infoBl 9)
  go_wp2_with (first | with_reducible refine wpList_load_mid rfl _ _ rfl K 0 rfl (nums .u8 (hbx 1)) _ n3 un rfl l1.out ?_ | with_reducible refine wpList_load_mid rfl _ _ rfl J 0 rfl (nums .u8 (hbx 9)) _ i3 un rfl l9.out ?_)
  refine (ask_walk tb mb 0 _ (hbx 1) (hbx 9) (hbx_ok (by decide)) (hbx_ok (by decide)) false 100 (by decide) w3 T3.out).mono ?_
  rintro e w4 ⟨rfl, t4, f4⟩
  have ea : askC (fun _ => none) 0 (hbx 1) (hbx 9) 100 = 0 := by unfold askC; rw [if_neg (by rintro (h | h); exact absurd h (by decide); exact hz_ne9 h), if_neg (by simp), if_neg (by decide)]
  have eM : askM (fun _ => none) 0 (hbx 1) (hbx 9) false 100 = updM (fun _ => none) (hbx 1) (askQ (hbx 1) (hbx 9) false 100) := by unfold askM; rw [if_pos ea]
  have eN : askN (fun _ => none) 0 (hbx 1) (hbx 9) 100 = 1 := by unfold askN; rw [if_pos ea]
  rw [eM, eN] at t4
  have T4 := hid t4
  have B4 := hid (B3.out.trans (f4.below L2.out B3.out.size))
  have N4 := hid (heap_far N3.out f4 (by have := MK.out; omega))
  have I4 := hid (heap_far I3.out f4 (by have := MJ.out; omega))
  rw [ea]
  have n4 := row_range N4.out
  clear ea eM eN t4 f4 n3 i3 T3 N3 I3 B3
  have hmk : ∀ x : Nat, x = x := fun _ => rfl
  go_wp2_with (first | with_reducible refine wpList_load_midG rfl _ _ rfl K 0 rfl (nums .u8 (hbx 1)) _ n4 un rfl l1.out ?_ | with_reducible refine wpList_load_mid rfl _ _ rfl K 0 rfl (nums .u8 (hbx 1)) _ n4 un rfl l1.out ?_)
  refine (acc_walk tb mb 1 _ (hbx 1) (hbx_ok (by decide)) 3 2 (by decide) (by decide) 40 (by decide) w4 T4.out).mono ?_
  rintro e w5 ⟨rfl, t5, f5⟩
  have eU : updM (fun _ => none) (hbx 1) (askQ (hbx 1) (hbx 9) false 100) (hbx 1) = some (askQ (hbx 1) (hbx 9) false 100) := by unfold updM; rw [if_pos rfl]
  have eA : accS (some (askQ (hbx 1) (hbx 9) false 100)) 3 2 40 = (hq 0, 0) := by unfold accS; rw [if_neg (by decide), if_neg (by decide)]; rfl
  rw [eU, eA] at t5
  rw [eU, eA]
  have T5 := hid (show TabAt w5 tb mb (updM (updM (fun _ => none) (hbx 1) (askQ (hbx 1) (hbx 9) false 100)) (hbx 1) (hq 0)) 1 from t5)
  have B5 := hid (B4.out.trans (f5.below L2.out B4.out.size))
  have N5 := hid (heap_far N4.out f5 (by have := MK.out; omega))
  have I5 := hid (heap_far I4.out f5 (by have := MJ.out; omega))
  have HM := hid (show updM (updM (fun _ => none) (hbx 1) (askQ (hbx 1) (hbx 9) false 100)) (hbx 1) (hq 0) (hbx 1) = some (hq 0) from by unfold updM; rw [if_pos rfl])
  generalize updM (updM (fun _ => none) (hbx 1) (askQ (hbx 1) (hbx 9) false 100)) (hbx 1) (hq 0) = M at *
  clear t5 f5 eU eA n4 T4 N4 I4 B4 hmk
  go_wp2_with (fail)
  refine (enew_walk 5 (by decide) (by decide) tb mb 1 M w5 T5.out).mono ?_
  rintro e w6 ⟨rfl, s6, b6, z6⟩
  have S6 := hid s6
  have B6 := hid (bstep B5.out b6)
  have N6 := hid (heap_keep N5.out b6)
  have I6 := hid (heap_keep I5.out b6)
  have LE5 := hid (show w.heap.size ≤ w5.heap.size from B5.out.size)
  have KE := hid (show K < w5.heap.size from (Array.getElem?_eq_some_iff.1 N5.out).1)
  clear s6 b6 z6 T5 N5 I5 B5
  have T6 := hid (HT.out.below B6.out)
  have LKW := fun wx (hx : Tabs wx) => hid (lock_walk 1 (by decide) wx hx)
  have HLK := hid (lockOf_ok 1)
  generalize lockOf 1 = lk at *
  have i6 := row_range I6.out
  have bO := bofrA (hbx 9) rfl lk HLK.out.1 10 50
  have bL := bleg 1 (exIn lk).o rfl HLK.out.1
  have iok := hid (exIn_ok HLK.out)
  have hia := hid (infoLa iok.out)
  have hiz := hid (zL_as iok.out)
  have hio := hid (all_oneCell_toArray (Lg.one (exIn lk)))
  have ZL := zeroL
  have hneL := zL_ne
  go_upto_region 9 with (fail)
  refine wp_region_held_drew (S := fun w' => Below w6.heap.size w6 w') (by kernel_rfl) ((Below.refl _ _).drew) (fun hHeld => ?_)
  try simp only [List.size_toArray, List.length_cons, List.length_nil, Nat.reduceAdd, Array.replicate_succ, Array.replicate_zero, List.push_toArray, List.nil_append, List.cons_append]
  refine' wpAnyH_take (i := 0) (oi := { dst := some 34, op := Op.load 27 (Operand.tmp 3), type := 27, pos := "law.go:31", after := #[], guard := none }) (v := _) rfl (by kernel_rfl) (by kernel_rfl) (by kernel_rfl) (fun _ _ _ h => h) (yieldsIf_load_mid (by rfl) _ _ rfl J 0 rfl (nums .u8 (hbx 9)) _ (fun _ h => range_keep h i6) un rfl l9.out) hHeld ?_
  (try simp only [Act.put, List.setIfInBounds_toArray, List.set_cons_zero, List.set_cons_succ])
  refine wpAnyH_ready (rs := [1, 4]) (by kernel_rfl) (by simp) ?_
  refine AllReadyH.cons (o := { dst := some 35, op := Op.call { callee := Callee.value (Operand.func 11), args := #[Operand.const (Value.int IntKind.u8 1)], argTypes := #[5] }, type := 27, pos := "law.go:31", after := #[], guard := none }) rfl (fun K hK => ?_) ?_
  go_simp; refine (LKW _ (T6.out.below hHeld)).out.mono ?_; rintro e wl ⟨rfl, bl⟩; have BK := hid bl; clear bl
  refine hK.out _ _ (by first | exact hHeld.trans (BK.out.mono hHeld.size) | exact BK.out) (fun hHeld => ?_)
  clear hK K
  (try simp only [List.setIfInBounds_toArray, List.set_cons_zero, List.set_cons_succ])
  refine wpAnyH_take (i := 2) (oi := { dst := some 36, op := Op.build 40 #[(2, Operand.tmp 34), (3, Operand.const (Value.int IntKind.u64 10)), (5, Operand.const (Value.int IntKind.i64 50)), (4, Operand.tmp 35)], type := 40, pos := "law.go:31", after := #[{ on := 0, ground := Ground.data }, { on := 1, ground := Ground.data }], guard := none }) (v := (.agg (exIn lk).o.cells.toArray)) rfl (by kernel_rfl) (by kernel_rfl) (by kernel_rfl) (fun _ _ _ h => h) (Or.inl ⟨by rfl, fun w _ => run_bld4 rfl rfl rfl rfl rfl bO⟩) hHeld ?_
  (try simp only [Act.put, List.setIfInBounds_toArray, List.set_cons_zero, List.set_cons_succ])
  refine wpAnyH_take (i := 3) (oi := { dst := some 37, op := Op.build 42 #[(0, Operand.const (Value.int IntKind.i64 1)), (1, Operand.tmp 36)], type := 42, pos := "law.go:31", after := #[{ on := 2, ground := Ground.data }], guard := none }) (v := (.agg (exIn lk).cells.toArray)) rfl (by kernel_rfl) (by kernel_rfl) (by kernel_rfl) (fun _ _ _ h => h) (Or.inl ⟨by rfl, fun w _ => run_bld2 rfl rfl rfl bL⟩) hHeld ?_
  (try simp only [Act.put, List.setIfInBounds_toArray, List.set_cons_zero, List.set_cons_succ])
  refine wpAnyH_ready (rs := [4]) (by kernel_rfl) (by simp) ?_
  refine AllReadyH.cons (o := { dst := some 6, op := Op.alloc 42, type := 0, pos := "law.go:31", after := #[], guard := none }) rfl (fun K hK => ?_) ?_
  have hs4 := hHeld.size; go_simp; (first | refine newZ ?_ | refine newZd ?_); intro wa ha ba; have HA := hid ha; have BA := hid ba; have al := (Array.getElem?_eq_some_iff.1 ha).1; clear ha ba
  refine hK.out _ _ (by first | exact hHeld.trans (BA.out.mono hHeld.size) | exact BA.out) (fun hHeld => ?_)
  clear hK K
  (try simp only [List.setIfInBounds_toArray, List.set_cons_zero, List.set_cons_succ])
  refine wpAnyH_ready (rs := [5]) (by kernel_rfl) (by simp) ?_
  refine AllReadyH.cons (o := { dst := none, op := Op.store 42 (Operand.tmp 6) (Operand.tmp 37), type := 0, pos := "law.go:31", after := #[{ on := 4, ground := Ground.data }, { on := 3, ground := Ground.data }, { on := 1, ground := Ground.chain }, { on := 0, ground := Ground.phase }, { on := 1, ground := Ground.phase }, { on := 2, ground := Ground.phase }, { on := 3, ground := Ground.phase }, { on := 4, ground := Ground.phase }], guard := none }) rfl (fun K hK => ?_) ?_
  rw [if_pos (by rfl)]; refine wp_store_row _ _ _ rfl _ (exIn lk).cells.toArray rfl rfl _ _ (by first | exact HA.out | exact heap_keep HA.out BK.out) hia.out hiz.out hio.out ?_
  refine hK.out _ _ (below_setRow hHeld (by first | exact hs4 | omega) _) (fun hHeld => ?_)
  clear hK K
  (try simp only [List.setIfInBounds_toArray, List.set_cons_zero, List.set_cons_succ])
  refine wpAnyH_done (by kernel_rfl) ?_ _
  rotate_left
  exact AllReadyH.nil
  exact AllReadyH.nil
  refine AllReadyH.cons (o := { dst := some 6, op := Op.alloc 42, type := 0, pos := "law.go:31", after := #[], guard := none }) rfl (fun K hK => ?_) ?_
  have hs4 := hHeld.size; go_simp; (first | refine newZ ?_ | refine newZd ?_); intro wa ha ba; have HA := hid ha; have BA := hid ba; have al := (Array.getElem?_eq_some_iff.1 ha).1; clear ha ba
  refine hK.out _ _ (by first | exact hHeld.trans (BA.out.mono hHeld.size) | exact BA.out) (fun hHeld => ?_)
  clear hK K
  (try simp only [List.setIfInBounds_toArray, List.set_cons_zero, List.set_cons_succ])
  refine wpAnyH_ready (rs := [1]) (by kernel_rfl) (by simp) ?_
  refine AllReadyH.cons (o := { dst := some 35, op := Op.call { callee := Callee.value (Operand.func 11), args := #[Operand.const (Value.int IntKind.u8 1)], argTypes := #[5] }, type := 27, pos := "law.go:31", after := #[], guard := none }) rfl (fun K hK => ?_) ?_
  go_simp; refine (LKW _ (T6.out.below hHeld)).out.mono ?_; rintro e wl ⟨rfl, bl⟩; have BK := hid bl; clear bl
  refine hK.out _ _ (by first | exact hHeld.trans (BK.out.mono hHeld.size) | exact BK.out) (fun hHeld => ?_)
  clear hK K
  (try simp only [List.setIfInBounds_toArray, List.set_cons_zero, List.set_cons_succ])
  refine wpAnyH_take (i := 2) (oi := { dst := some 36, op := Op.build 40 #[(2, Operand.tmp 34), (3, Operand.const (Value.int IntKind.u64 10)), (5, Operand.const (Value.int IntKind.i64 50)), (4, Operand.tmp 35)], type := 40, pos := "law.go:31", after := #[{ on := 0, ground := Ground.data }, { on := 1, ground := Ground.data }], guard := none }) (v := (.agg (exIn lk).o.cells.toArray)) rfl (by kernel_rfl) (by kernel_rfl) (by kernel_rfl) (fun _ _ _ h => h) (Or.inl ⟨by rfl, fun w _ => run_bld4 rfl rfl rfl rfl rfl bO⟩) hHeld ?_
  (try simp only [Act.put, List.setIfInBounds_toArray, List.set_cons_zero, List.set_cons_succ])
  refine wpAnyH_take (i := 3) (oi := { dst := some 37, op := Op.build 42 #[(0, Operand.const (Value.int IntKind.i64 1)), (1, Operand.tmp 36)], type := 42, pos := "law.go:31", after := #[{ on := 2, ground := Ground.data }], guard := none }) (v := (.agg (exIn lk).cells.toArray)) rfl (by kernel_rfl) (by kernel_rfl) (by kernel_rfl) (fun _ _ _ h => h) (Or.inl ⟨by rfl, fun w _ => run_bld2 rfl rfl rfl bL⟩) hHeld ?_
  (try simp only [Act.put, List.setIfInBounds_toArray, List.set_cons_zero, List.set_cons_succ])
  refine wpAnyH_ready (rs := [5]) (by kernel_rfl) (by simp) ?_
  refine AllReadyH.cons (o := { dst := none, op := Op.store 42 (Operand.tmp 6) (Operand.tmp 37), type := 0, pos := "law.go:31", after := #[{ on := 4, ground := Ground.data }, { on := 3, ground := Ground.data }, { on := 1, ground := Ground.chain }, { on := 0, ground := Ground.phase }, { on := 1, ground := Ground.phase }, { on := 2, ground := Ground.phase }, { on := 3, ground := Ground.phase }, { on := 4, ground := Ground.phase }], guard := none }) rfl (fun K hK => ?_) ?_
  rw [if_pos (by rfl)]; refine wp_store_row _ _ _ rfl _ (exIn lk).cells.toArray rfl rfl _ _ (by first | exact HA.out | exact heap_keep HA.out BK.out) hia.out hiz.out hio.out ?_
  refine hK.out _ _ (below_setRow hHeld (by first | exact hs4 | omega) _) (fun hHeld => ?_)
  clear hK K
  (try simp only [List.setIfInBounds_toArray, List.set_cons_zero, List.set_cons_succ])
  refine wpAnyH_done (by kernel_rfl) ?_ _
  rotate_left
  exact AllReadyH.nil
  exact AllReadyH.nil
  exact AllReadyH.nil
  · obtain ⟨R, hR⟩ : ∃ R, R = wl.heap.size := ⟨_, rfl⟩
    generalize hW : World.setRow _ _ (exIn lk).cells.toArray = w7 at hHeld ⊢
    have hI7 : w7.heap[wl.heap.size]? = some (.cells (exIn lk).cells.toArray 42 (0, 0)) := by rw [← hW]; exact setRow_heap _ _ _ _ _ _ (by first | exact heap_keep HA.out BK.out | exact HA.out)
    have hRl : w6.heap.size ≤ R := by rw [hR]; first | exact hs4 | exact Nat.le_refl _
    rw [← hR] at hI7 ⊢
    clear hR hW
    have H7 := hid hI7
    have A7 := hid (show w6.heap.size ≤ R from hRl)
    have S7 := hid (S6.out.below hHeld)
    have B7 := hid (bstep B6.out hHeld)
    have N7 := hid (heap_keep N6.out hHeld)
    clear hI7 hHeld hRl i6 bO bL
    go_wp2_with (fail)
    refine (LKW _ (HT.out.below B7.out)).out.mono ?_
    rintro e w8 ⟨rfl, b8⟩
    have H8 := hid (heap_keep H7.out b8)
    have S8 := hid (S7.out.below b8)
    have B8 := hid (bstep B7.out b8)
    have N8 := hid (heap_keep N7.out b8)
    have rl8 := hid (show R < w8.heap.size from (Array.getElem?_eq_some_iff.1 H8.out).1)
    clear b8 H7 S7 B7 N7
    have bO2 := bofrB lk HLK.out.1 15 46
    have bL2 := bleg 2 (exOut 15 46 lk).o rfl HLK.out.1
    have ook := hid (exOut_ok (am := 15) (til := 46) HLK.out (by decide) (by decide))
    have oia := hid (infoLa ook.out)
    have oiz := hid (zL_as ook.out)
    have oio := hid (all_oneCell_toArray (Lg.one (exOut 15 46 lk)))
    have LO := laid w8 zL (exOut 15 46 lk).cells.toArray 42
    go_upto_region 11 with (first | refine wpList_bld3 rfl rfl rfl rfl rfl bO2 ?_ | refine wpList_bld2 rfl rfl rfl rfl bL2 ?_ | (with_reducible refine wpList_store_row rfl _ _ _ rfl w8.heap.size (exOut 15 46 lk).cells.toArray rfl rfl _ _ (heap_alloc_new w8 _) oia.out oiz.out oio.out ?_; generalize (w8.alloc (Obj.cells zL 42)).setRow w8.heap.size (exOut 15 46 lk).cells.toArray = w9 at *))
    obtain ⟨U, hU⟩ : ∃ U, U = w8.heap.size := ⟨_, rfl⟩
    have hRU := rl8.out
    have H9 := hid (heap_keep H8.out LO.2)
    have N9 := hid (heap_keep N8.out LO.2)
    have S9 := hid (S8.out.below LO.2)
    have B9 := hid (bstep B8.out LO.2)
    have u9 := LO.1
    rw [← hU] at u9 hRU ⊢
    have U9 := hid u9
    have RU := hid hRU
    clear LO hU u9 hRU S8 H8 N8 B8 rl8
    have U9s := hid (show U < w9.heap.size from (Array.getElem?_eq_some_iff.1 U9.out).1)
    have unL := Tryd.underlying42
    have ial := hid (infoLl iok.out)
    have oal := hid (infoLl ook.out)
    have r9 := row_range H9.out
    have q9 := row_range U9.out
    have n9 := row_range N9.out
    go_wp2_with (first | with_reducible refine wpList_load_mid rfl _ _ rfl R 0 rfl (exIn lk).cells _ r9 unL rfl ial.out ?_ | with_reducible refine wpList_load_mid rfl _ _ rfl U 0 rfl (exOut 15 46 lk).cells _ q9 unL rfl oal.out ?_ | with_reducible refine wpList_load_mid rfl _ _ rfl K 0 rfl (nums .u8 (hbx 1)) _ n9 un rfl l1.out ?_)
    refine (hand_walk _ tb mb 5 _ _ [] M 1 (exIn lk) (exOut 15 46 lk) iok.out ook.out (hbx 1) (hbx_ok (by decide)) 9 w9 S9.out).mono ?_
    rintro e w10 ⟨rfl, v1, s10, k10, y10⟩
    rw [show handC (exIn lk) (exOut 15 46 lk) (hbx 1) 9 5 [] M = 33 from (handC_ex HM.out (by decide) (by decide)).trans (if_pos (.inr (by decide)))] at s10 ⊢
    have S10 := hid (show Shop w10 w5.heap.size tb mb 5 w6.heap.size v1 [] M 1 from s10)
    have K10 := hid k10
    have Y10 := hid y10
    clear s10 k10 y10 r9 q9 n9
    have eB := S6.out.e.lt
    have mB := S6.out.lt.2.1
    have a7 := A7.out
    have ru := RU.out
    have ke := KE.out
    have mk := MK.out
    have us := U9s.out
    have n1 := hid (show R ≠ w5.heap.size by omega)
    have n2 := hid (show R ≠ mb by omega)
    have n3 := hid (show U ≠ w5.heap.size by omega)
    have n4 := hid (show U ≠ mb by omega)
    have n5 := hid (show K ≠ w5.heap.size by omega)
    have n6 := hid (show K ≠ mb by omega)
    have NV := hid (show ∀ g, v1.ownBlock = some g → U < g from fun g hg => by have := newer_none Y10.out hg; omega)
    have n7 := hid (show w6.heap.size ≤ U by omega)
    have n8 := hid (show R ≠ U by omega)
    have n9 := hid (show K ≠ U by have := S6.out.e.lt; omega)
    clear eB mB a7 ru ke mk us
    have H10 := hid (K10.out.heap H9.out (no_shop n1.out n2.out (none_own _ _ _)))
    have U10 := hid (K10.out.heap U9.out (no_shop n3.out n4.out (none_own _ _ _)))
    have N10 := hid (K10.out.heap N9.out (no_shop n5.out n6.out (none_own _ _ _)))
    clear H9 N9 U9
    have c68 : w10.cell? ⟨U, 68, none⟩ = some (.int .i64 46) := gen_cell (j := 68) (row_range U10.out) (ex68 15 46 lk HLK.out.1)
    have c35 : w10.cell? ⟨U, 35, none⟩ = some (.int .u64 15) := gen_cell (j := 35) (row_range U10.out) (ex35 15 46 lk)
    have z68 : w10.frozen? ⟨U, 68, none⟩ = false := frozen_of_row _ _ _ _ _ U10.out
    have z35 : w10.frozen? ⟨U, 35, none⟩ = false := frozen_of_row _ _ _ _ _ U10.out
    have u11 := heap_setCell_same (w10.setCell ⟨U, 68, none⟩ (.int .i64 45)) U 35 _ _ (.int .u64 16) (heap_setCell_same w10 U 68 _ _ (.int .i64 45) U10.out)
    have f11 : Far U w10 ((w10.setCell ⟨U, 68, none⟩ (.int .i64 45)).setCell ⟨U, 35, none⟩ (.int .u64 16)) := (Far.set (H := U) (j := 68) (w := w10) (.int .i64 45)).trans (Far.set (.int .u64 16))
    rw [ex_til _ _ _ _ HLK.out.1, show (exOut 15 45 lk).cells.toArray.setIfInBounds 35 (.int .u64 16) = (exOut 16 45 lk).cells.toArray from ex_am 15 16 45 lk] at u11
    go_upto_region 15 with (fail)
    generalize (w10.setCell ⟨U, 68, none⟩ (.int .i64 45)).setCell ⟨U, 35, none⟩ (.int .u64 16) = w11 at u11 f11 ⊢
    have U11 := hid u11
    have F11 := hid f11
    have H11 := hid (heap_far H10.out f11 n8.out)
    have N11 := hid (heap_far N10.out f11 n9.out)
    have S11 := hid (S10.out.fresh f11 n7.out (fun g hg e => by have := NV.out g hg; omega))
    clear u11 f11 c68 c35 z68 z35 U10 H10 N10 S10
    have ook2 := hid (exOut_ok (am := 16) (til := 45) HLK.out (by decide) (by decide))
    have oal2 := hid (infoLl ook2.out)
    have r11 := row_range H11.out
    have q11 := row_range U11.out
    have n11 := row_range N11.out
    go_wp2_with (first | with_reducible refine wpList_load_mid rfl _ _ rfl R 0 rfl (exIn lk).cells _ r11 unL rfl ial.out ?_ | with_reducible refine wpList_load_mid rfl _ _ rfl U 0 rfl (exOut 16 45 lk).cells _ q11 unL rfl oal2.out ?_ | with_reducible refine wpList_load_mid rfl _ _ rfl K 0 rfl (nums .u8 (hbx 1)) _ n11 un rfl l1.out ?_)
    refine (hand_walk _ tb mb 5 _ _ [] M 1 (exIn lk) (exOut 16 45 lk) iok.out ook2.out (hbx 1) (hbx_ok (by decide)) 9 w11 S11.out).mono ?_
    rintro e w12 ⟨rfl, v2, s12, k12, y12⟩
    rw [show handC (exIn lk) (exOut 16 45 lk) (hbx 1) 9 5 [] M = 60 from (handC_ex HM.out (by decide) (by decide)).trans ((if_neg (by decide)).trans (if_neg (by decide)))] at s12 ⊢
    have S12 := hid (show Shop w12 w5.heap.size tb mb 5 w6.heap.size v2 [] M 1 from s12)
    have K12 := hid k12
    have Y12 := hid y12
    clear s12 k12 y12 r11 q11 n11
    have H12 := hid (K12.out.heap H11.out (no_shop n1.out n2.out (fun h => by have := NV.out _ h; have := RU.out; omega)))
    have U12 := hid (K12.out.heap U11.out (no_shop n3.out n4.out (fun h => by have := NV.out _ h; omega)))
    have N12 := hid (K12.out.heap N11.out (no_shop n5.out n6.out (fun h => by have := NV.out _ h; have := KE.out; have := S6.out.e.lt; have := n7.out; omega)))
    have U11s := hid (show U < w11.heap.size from (Array.getElem?_eq_some_iff.1 U11.out).1)
    have NV2 := hid (show ∀ g, v2.ownBlock = some g → U < g from fun g hg => Or.elim Y12.out (fun h => NV.out g (h ▸ hg)) (fun h => Nat.lt_of_lt_of_le U11s.out (h g hg)))
    clear H11 N11 U11 U11s
    have c35 : w12.cell? ⟨U, 35, none⟩ = some (.int .u64 16) := gen_cell (j := 35) (row_range U12.out) (ex35 16 45 lk)
    have z35 : w12.frozen? ⟨U, 35, none⟩ = false := frozen_of_row _ _ _ _ _ U12.out
    have u13 := heap_setCell_same w12 U 35 _ _ (.int .u64 15) U12.out
    have f13 : Far U w12 (w12.setCell ⟨U, 35, none⟩ (.int .u64 15)) := Far.set (.int .u64 15)
    rw [show (exOut 16 45 lk).cells.toArray.setIfInBounds 35 (.int .u64 15) = (exOut 15 45 lk).cells.toArray from ex_am 16 15 45 lk] at u13
    go_upto_region 18 with (fail)
    generalize w12.setCell ⟨U, 35, none⟩ (.int .u64 15) = w13 at u13 f13 ⊢
    have U13 := hid u13
    have F13 := hid f13
    have H13 := hid (heap_far H12.out f13 n8.out)
    have N13 := hid (heap_far N12.out f13 n9.out)
    have S13 := hid (S12.out.fresh f13 n7.out (fun g hg e => by have := NV2.out g hg; omega))
    clear u13 f13 c35 z35 U12 H12 N12 S12
    have ook3 := hid (exOut_ok (am := 15) (til := 45) HLK.out (by decide) (by decide))
    have oal3 := hid (infoLl ook3.out)
    have r13 := row_range H13.out
    have q13 := row_range U13.out
    have n13 := row_range N13.out
    go_wp2_with (first | with_reducible refine wpList_load_mid rfl _ _ rfl R 0 rfl (exIn lk).cells _ r13 unL rfl ial.out ?_ | with_reducible refine wpList_load_mid rfl _ _ rfl U 0 rfl (exOut 15 45 lk).cells _ q13 unL rfl oal3.out ?_ | with_reducible refine wpList_load_mid rfl _ _ rfl K 0 rfl (nums .u8 (hbx 1)) _ n13 un rfl l1.out ?_)
    refine (hand_walk _ tb mb 5 _ _ [] M 1 (exIn lk) (exOut 15 45 lk) iok.out ook3.out (hbx 1) (hbx_ok (by decide)) 9 w13 S13.out).mono ?_
    rintro e w14 ⟨rfl, v3, s14, k14, y14⟩
    rw [show handC (exIn lk) (exOut 15 45 lk) (hbx 1) 9 5 [] M = 0 from (handC_ex HM.out (by decide) (by decide)).trans ((if_neg (by decide)).trans (if_pos (by decide)))] at s14 ⊢
    have S14 := hid (show Shop w14 w5.heap.size tb mb 5 w6.heap.size v3 [newF (exIn lk) (exOut 15 45 lk) (hbx 1)] _ 1 from s14)
    have K14 := hid k14
    clear s14 k14 y14 r13 q13 n13
    have unit := hid (show (newF (exIn lk) (exOut 15 45 lk) (hbx 1)).units = 10 from by show (pickA (exIn lk) (exOut 15 45 lk)).am = 10; rw [pick_ex.1]; rfl)
    generalize newF (exIn lk) (exOut 15 45 lk) (hbx 1) = F at *
    go_wp2_with (fail)
    refine (eall_walk _ _ _ _ _ _ w14 S14.out.e).mono ?_
    rintro e w15 ⟨a1, c1, rfl, -, b15⟩
    have B15 := hid b15
    have E15 := hid (S14.out.e.below b15)
    clear b15
    go_wp2_with (fail)
    refine (eall_walk _ _ _ _ _ _ w15 E15.out).mono ?_
    rintro e w16 ⟨a2, c2, rfl, ⟨f16, -⟩, b16⟩
    have B16 := hid b16
    obtain ⟨bb, oo, F', rfl, hF, rF, fok⟩ := f16.get (k := 0) Nat.zero_lt_one
    obtain rfl : F = F' := Option.some.inj hF
    have cU : w16.cell? ⟨bb, oo + 170, none⟩ = some (.int .u64 10) := by have := rF 170 (.int .u64 (F.units : Int)) (Fw.units_at fok); rw [unit.out] at this; simpa using this
    clear hF rF fok f16 b16
    go_wp2
    go_ret
    have LU := Nat.le_trans B6.out.size n7.out
    have q10 := B9.out.trans (K10.out.below (shop_low LE5.out L2.out (fun g hg => absurd hg (none_own _ _ _))) B9.out.size)
    have q11 := q10.trans (F11.out.below LU q10.size)
    have q12 := q11.trans (K12.out.below (shop_low LE5.out L2.out (fun g hg => by have := NV.out g hg; omega)) q11.size)
    have q13 := q12.trans (F13.out.below LU q12.size)
    have q14 := q13.trans (K14.out.below (shop_low LE5.out L2.out (fun g hg => by have := NV2.out g hg; omega)) q13.size)
    exact ⟨rfl, bstep (bstep q14 B15.out) B16.out⟩
  · obtain ⟨R, hR⟩ : ∃ R, R = w6.heap.size := ⟨_, rfl⟩
    generalize hW : World.setRow _ _ (exIn lk).cells.toArray = w7 at hHeld ⊢
    have hI7 : w7.heap[w6.heap.size]? = some (.cells (exIn lk).cells.toArray 42 (0, 0)) := by rw [← hW]; exact setRow_heap _ _ _ _ _ _ (by first | exact heap_keep HA.out BK.out | exact HA.out)
    have hRl : w6.heap.size ≤ R := by rw [hR]; first | exact hs4 | exact Nat.le_refl _
    rw [← hR] at hI7 ⊢
    clear hR hW
    have H7 := hid hI7
    have A7 := hid (show w6.heap.size ≤ R from hRl)
    have S7 := hid (S6.out.below hHeld)
    have B7 := hid (bstep B6.out hHeld)
    have N7 := hid (heap_keep N6.out hHeld)
    clear hI7 hHeld hRl i6 bO bL
    go_wp2_with (fail)
    refine (LKW _ (HT.out.below B7.out)).out.mono ?_
    rintro e w8 ⟨rfl, b8⟩
    have H8 := hid (heap_keep H7.out b8)
    have S8 := hid (S7.out.below b8)
    have B8 := hid (bstep B7.out b8)
    have N8 := hid (heap_keep N7.out b8)
    have rl8 := hid (show R < w8.heap.size from (Array.getElem?_eq_some_iff.1 H8.out).1)
    clear b8 H7 S7 B7 N7
    have bO2 := bofrB lk HLK.out.1 15 46
    have bL2 := bleg 2 (exOut 15 46 lk).o rfl HLK.out.1
    have ook := hid (exOut_ok (am := 15) (til := 46) HLK.out (by decide) (by decide))
    have oia := hid (infoLa ook.out)
    have oiz := hid (zL_as ook.out)
    have oio := hid (all_oneCell_toArray (Lg.one (exOut 15 46 lk)))
    have LO := laid w8 zL (exOut 15 46 lk).cells.toArray 42
    go_upto_region 11 with (first | refine wpList_bld3 rfl rfl rfl rfl rfl bO2 ?_ | refine wpList_bld2 rfl rfl rfl rfl bL2 ?_ | (with_reducible refine wpList_store_row rfl _ _ _ rfl w8.heap.size (exOut 15 46 lk).cells.toArray rfl rfl _ _ (heap_alloc_new w8 _) oia.out oiz.out oio.out ?_; generalize (w8.alloc (Obj.cells zL 42)).setRow w8.heap.size (exOut 15 46 lk).cells.toArray = w9 at *))
    obtain ⟨U, hU⟩ : ∃ U, U = w8.heap.size := ⟨_, rfl⟩
    have hRU := rl8.out
    have H9 := hid (heap_keep H8.out LO.2)
    have N9 := hid (heap_keep N8.out LO.2)
    have S9 := hid (S8.out.below LO.2)
    have B9 := hid (bstep B8.out LO.2)
    have u9 := LO.1
    rw [← hU] at u9 hRU ⊢
    have U9 := hid u9
    have RU := hid hRU
    clear LO hU u9 hRU S8 H8 N8 B8 rl8
    have U9s := hid (show U < w9.heap.size from (Array.getElem?_eq_some_iff.1 U9.out).1)
    have unL := Tryd.underlying42
    have ial := hid (infoLl iok.out)
    have oal := hid (infoLl ook.out)
    have r9 := row_range H9.out
    have q9 := row_range U9.out
    have n9 := row_range N9.out
    go_wp2_with (first | with_reducible refine wpList_load_mid rfl _ _ rfl R 0 rfl (exIn lk).cells _ r9 unL rfl ial.out ?_ | with_reducible refine wpList_load_mid rfl _ _ rfl U 0 rfl (exOut 15 46 lk).cells _ q9 unL rfl oal.out ?_ | with_reducible refine wpList_load_mid rfl _ _ rfl K 0 rfl (nums .u8 (hbx 1)) _ n9 un rfl l1.out ?_)
    refine (hand_walk _ tb mb 5 _ _ [] M 1 (exIn lk) (exOut 15 46 lk) iok.out ook.out (hbx 1) (hbx_ok (by decide)) 9 w9 S9.out).mono ?_
    rintro e w10 ⟨rfl, v1, s10, k10, y10⟩
    rw [show handC (exIn lk) (exOut 15 46 lk) (hbx 1) 9 5 [] M = 33 from (handC_ex HM.out (by decide) (by decide)).trans (if_pos (.inr (by decide)))] at s10 ⊢
    have S10 := hid (show Shop w10 w5.heap.size tb mb 5 w6.heap.size v1 [] M 1 from s10)
    have K10 := hid k10
    have Y10 := hid y10
    clear s10 k10 y10 r9 q9 n9
    have eB := S6.out.e.lt
    have mB := S6.out.lt.2.1
    have a7 := A7.out
    have ru := RU.out
    have ke := KE.out
    have mk := MK.out
    have us := U9s.out
    have n1 := hid (show R ≠ w5.heap.size by omega)
    have n2 := hid (show R ≠ mb by omega)
    have n3 := hid (show U ≠ w5.heap.size by omega)
    have n4 := hid (show U ≠ mb by omega)
    have n5 := hid (show K ≠ w5.heap.size by omega)
    have n6 := hid (show K ≠ mb by omega)
    have NV := hid (show ∀ g, v1.ownBlock = some g → U < g from fun g hg => by have := newer_none Y10.out hg; omega)
    have n7 := hid (show w6.heap.size ≤ U by omega)
    have n8 := hid (show R ≠ U by omega)
    have n9 := hid (show K ≠ U by have := S6.out.e.lt; omega)
    clear eB mB a7 ru ke mk us
    have H10 := hid (K10.out.heap H9.out (no_shop n1.out n2.out (none_own _ _ _)))
    have U10 := hid (K10.out.heap U9.out (no_shop n3.out n4.out (none_own _ _ _)))
    have N10 := hid (K10.out.heap N9.out (no_shop n5.out n6.out (none_own _ _ _)))
    clear H9 N9 U9
    have c68 : w10.cell? ⟨U, 68, none⟩ = some (.int .i64 46) := gen_cell (j := 68) (row_range U10.out) (ex68 15 46 lk HLK.out.1)
    have c35 : w10.cell? ⟨U, 35, none⟩ = some (.int .u64 15) := gen_cell (j := 35) (row_range U10.out) (ex35 15 46 lk)
    have z68 : w10.frozen? ⟨U, 68, none⟩ = false := frozen_of_row _ _ _ _ _ U10.out
    have z35 : w10.frozen? ⟨U, 35, none⟩ = false := frozen_of_row _ _ _ _ _ U10.out
    have u11 := heap_setCell_same (w10.setCell ⟨U, 68, none⟩ (.int .i64 45)) U 35 _ _ (.int .u64 16) (heap_setCell_same w10 U 68 _ _ (.int .i64 45) U10.out)
    have f11 : Far U w10 ((w10.setCell ⟨U, 68, none⟩ (.int .i64 45)).setCell ⟨U, 35, none⟩ (.int .u64 16)) := (Far.set (H := U) (j := 68) (w := w10) (.int .i64 45)).trans (Far.set (.int .u64 16))
    rw [ex_til _ _ _ _ HLK.out.1, show (exOut 15 45 lk).cells.toArray.setIfInBounds 35 (.int .u64 16) = (exOut 16 45 lk).cells.toArray from ex_am 15 16 45 lk] at u11
    go_upto_region 15 with (fail)
    generalize (w10.setCell ⟨U, 68, none⟩ (.int .i64 45)).setCell ⟨U, 35, none⟩ (.int .u64 16) = w11 at u11 f11 ⊢
    have U11 := hid u11
    have F11 := hid f11
    have H11 := hid (heap_far H10.out f11 n8.out)
    have N11 := hid (heap_far N10.out f11 n9.out)
    have S11 := hid (S10.out.fresh f11 n7.out (fun g hg e => by have := NV.out g hg; omega))
    clear u11 f11 c68 c35 z68 z35 U10 H10 N10 S10
    have ook2 := hid (exOut_ok (am := 16) (til := 45) HLK.out (by decide) (by decide))
    have oal2 := hid (infoLl ook2.out)
    have r11 := row_range H11.out
    have q11 := row_range U11.out
    have n11 := row_range N11.out
    go_wp2_with (first | with_reducible refine wpList_load_mid rfl _ _ rfl R 0 rfl (exIn lk).cells _ r11 unL rfl ial.out ?_ | with_reducible refine wpList_load_mid rfl _ _ rfl U 0 rfl (exOut 16 45 lk).cells _ q11 unL rfl oal2.out ?_ | with_reducible refine wpList_load_mid rfl _ _ rfl K 0 rfl (nums .u8 (hbx 1)) _ n11 un rfl l1.out ?_)
    refine (hand_walk _ tb mb 5 _ _ [] M 1 (exIn lk) (exOut 16 45 lk) iok.out ook2.out (hbx 1) (hbx_ok (by decide)) 9 w11 S11.out).mono ?_
    rintro e w12 ⟨rfl, v2, s12, k12, y12⟩
    rw [show handC (exIn lk) (exOut 16 45 lk) (hbx 1) 9 5 [] M = 60 from (handC_ex HM.out (by decide) (by decide)).trans ((if_neg (by decide)).trans (if_neg (by decide)))] at s12 ⊢
    have S12 := hid (show Shop w12 w5.heap.size tb mb 5 w6.heap.size v2 [] M 1 from s12)
    have K12 := hid k12
    have Y12 := hid y12
    clear s12 k12 y12 r11 q11 n11
    have H12 := hid (K12.out.heap H11.out (no_shop n1.out n2.out (fun h => by have := NV.out _ h; have := RU.out; omega)))
    have U12 := hid (K12.out.heap U11.out (no_shop n3.out n4.out (fun h => by have := NV.out _ h; omega)))
    have N12 := hid (K12.out.heap N11.out (no_shop n5.out n6.out (fun h => by have := NV.out _ h; have := KE.out; have := S6.out.e.lt; have := n7.out; omega)))
    have U11s := hid (show U < w11.heap.size from (Array.getElem?_eq_some_iff.1 U11.out).1)
    have NV2 := hid (show ∀ g, v2.ownBlock = some g → U < g from fun g hg => Or.elim Y12.out (fun h => NV.out g (h ▸ hg)) (fun h => Nat.lt_of_lt_of_le U11s.out (h g hg)))
    clear H11 N11 U11 U11s
    have c35 : w12.cell? ⟨U, 35, none⟩ = some (.int .u64 16) := gen_cell (j := 35) (row_range U12.out) (ex35 16 45 lk)
    have z35 : w12.frozen? ⟨U, 35, none⟩ = false := frozen_of_row _ _ _ _ _ U12.out
    have u13 := heap_setCell_same w12 U 35 _ _ (.int .u64 15) U12.out
    have f13 : Far U w12 (w12.setCell ⟨U, 35, none⟩ (.int .u64 15)) := Far.set (.int .u64 15)
    rw [show (exOut 16 45 lk).cells.toArray.setIfInBounds 35 (.int .u64 15) = (exOut 15 45 lk).cells.toArray from ex_am 16 15 45 lk] at u13
    go_upto_region 18 with (fail)
    generalize w12.setCell ⟨U, 35, none⟩ (.int .u64 15) = w13 at u13 f13 ⊢
    have U13 := hid u13
    have F13 := hid f13
    have H13 := hid (heap_far H12.out f13 n8.out)
    have N13 := hid (heap_far N12.out f13 n9.out)
    have S13 := hid (S12.out.fresh f13 n7.out (fun g hg e => by have := NV2.out g hg; omega))
    clear u13 f13 c35 z35 U12 H12 N12 S12
    have ook3 := hid (exOut_ok (am := 15) (til := 45) HLK.out (by decide) (by decide))
    have oal3 := hid (infoLl ook3.out)
    have r13 := row_range H13.out
    have q13 := row_range U13.out
    have n13 := row_range N13.out
    go_wp2_with (first | with_reducible refine wpList_load_mid rfl _ _ rfl R 0 rfl (exIn lk).cells _ r13 unL rfl ial.out ?_ | with_reducible refine wpList_load_mid rfl _ _ rfl U 0 rfl (exOut 15 45 lk).cells _ q13 unL rfl oal3.out ?_ | with_reducible refine wpList_load_mid rfl _ _ rfl K 0 rfl (nums .u8 (hbx 1)) _ n13 un rfl l1.out ?_)
    refine (hand_walk _ tb mb 5 _ _ [] M 1 (exIn lk) (exOut 15 45 lk) iok.out ook3.out (hbx 1) (hbx_ok (by decide)) 9 w13 S13.out).mono ?_
    rintro e w14 ⟨rfl, v3, s14, k14, y14⟩
    rw [show handC (exIn lk) (exOut 15 45 lk) (hbx 1) 9 5 [] M = 0 from (handC_ex HM.out (by decide) (by decide)).trans ((if_neg (by decide)).trans (if_pos (by decide)))] at s14 ⊢
    have S14 := hid (show Shop w14 w5.heap.size tb mb 5 w6.heap.size v3 [newF (exIn lk) (exOut 15 45 lk) (hbx 1)] _ 1 from s14)
    have K14 := hid k14
    clear s14 k14 y14 r13 q13 n13
    have unit := hid (show (newF (exIn lk) (exOut 15 45 lk) (hbx 1)).units = 10 from by show (pickA (exIn lk) (exOut 15 45 lk)).am = 10; rw [pick_ex.1]; rfl)
    generalize newF (exIn lk) (exOut 15 45 lk) (hbx 1) = F at *
    go_wp2_with (fail)
    refine (eall_walk _ _ _ _ _ _ w14 S14.out.e).mono ?_
    rintro e w15 ⟨a1, c1, rfl, -, b15⟩
    have B15 := hid b15
    have E15 := hid (S14.out.e.below b15)
    clear b15
    go_wp2_with (fail)
    refine (eall_walk _ _ _ _ _ _ w15 E15.out).mono ?_
    rintro e w16 ⟨a2, c2, rfl, ⟨f16, -⟩, b16⟩
    have B16 := hid b16
    obtain ⟨bb, oo, F', rfl, hF, rF, fok⟩ := f16.get (k := 0) Nat.zero_lt_one
    obtain rfl : F = F' := Option.some.inj hF
    have cU : w16.cell? ⟨bb, oo + 170, none⟩ = some (.int .u64 10) := by have := rF 170 (.int .u64 (F.units : Int)) (Fw.units_at fok); rw [unit.out] at this; simpa using this
    clear hF rF fok f16 b16
    go_wp2
    go_ret
    have LU := Nat.le_trans B6.out.size n7.out
    have q10 := B9.out.trans (K10.out.below (shop_low LE5.out L2.out (fun g hg => absurd hg (none_own _ _ _))) B9.out.size)
    have q11 := q10.trans (F11.out.below LU q10.size)
    have q12 := q11.trans (K12.out.below (shop_low LE5.out L2.out (fun g hg => by have := NV.out g hg; omega)) q11.size)
    have q13 := q12.trans (F13.out.below LU q12.size)
    have q14 := q13.trans (K14.out.below (shop_low LE5.out L2.out (fun g hg => by have := NV2.out g hg; omega)) q13.size)
    exact ⟨rfl, bstep (bstep q14 B15.out) B16.out⟩
end Go.Proofs.YthccjefhlmngbaaDoor

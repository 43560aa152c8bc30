/- EdgeKeeps: regions 22, 24, 28. Printed by wip/kep.py. -/
import Derived.Test.YthccjefhlmngbaaDoorKpA
import Derived.Test.YthccjefhlmngbaaDoorPrd21
namespace Go.Proofs.YthccjefhlmngbaaDoor
open Go.RowKit

theorem run_bld0 {P : Program} {w : World} {o : Oper} {ev : Operand → Value} {t : TypeId} {cells : Array Value} (ho : o.op = .build t #[]) (hb : P.built t [] = some cells) : (execOp ev o).run P w = .ok (.value (.agg cells)) w :=
  run_buildN ho (by simpa using hb)
theorem bhz : Tryd.prog.built 27 [] = some (nums .u8 hz32).toArray := by kernel_rfl
def Kep22 (dl : Int) (qv sv : Value) (tb eb k R : Nat) (w : World) : Exit → Act → World → Prop
  | .normal, A, w' => A.defers = [] ∧ KSl dl qv sv tb eb k R A.tmps ∧ tm A.tmps 144 = .bool false ∧ Below w.heap.size w w'
  | _, _, _ => False
set_option maxRecDepth 1000000 in
set_option maxHeartbeats 16000000 in
theorem kep22 (dl : Int) (qv sv : Value) (tb eb k R : Nat) (T : Array Value) (w : World) (KA KB KQ : Nat) (a b : Ofr) (q : Quo) (s : KSl dl qv sv tb eb k R T) (e12 : tm T 12 = .pointer (some ⟨KQ, 0, none⟩)) (e14 : tm T 14 = .pointer (some ⟨KA, 0, none⟩)) (e15 : tm T 15 = .pointer (some ⟨KB, 0, none⟩)) (ha : a.ok) (hb : b.ok) (hq : q.ok)
    (h14 : w.heap[KA]? = some (.cells a.cells.toArray 40 (0, 0))) (h15 : w.heap[KB]? = some (.cells b.cells.toArray 40 (0, 0))) (h12 : w.heap[KQ]? = some (.cells q.cells.toArray 48 (0, 0)))
    (hz : a.id = hz32) (hi : b.id = q.id) (hp : b.am * q.rc ≤ a.am * q.ru) : (kepC 22).wp Tryd.prog (Kep22 dl qv sv tb eb k R w) ⟨T, []⟩ w := by
  have e0 := s.t0
  have e1 := s.t1
  have e2 := s.t2
  have e7 := s.t7
  have e8 := s.t8
  have e10 := s.t10
  have e11 := s.t11
  rw [frameK s.size, e0, e1, e2, e7, e8, e10, e11, e12, e14, e15]
  have rx : w.rangeAt KA 2 (nums .u8 hz32) := by have := a.hasId.rng (row_range h14); rw [hz] at this; simpa using this
  have ry : w.rangeAt KB 2 (nums .u8 q.id) := by have := b.hasId.rng (row_range h15); rw [hi] at this; simpa using this
  have rq : w.rangeAt KQ 32 (nums .u8 q.id) := by have := gen_range (row_range h12) 32 32; rwa [Quo.id_at hq] at this
  have am1 : w.cell? ⟨KB, 34, none⟩ = some (.int .u64 (b.am : Int)) := by have := (Ofr.hasAm hb).one (row_range h15); simpa using this
  have am2 : w.cell? ⟨KA, 34, none⟩ = some (.int .u64 (a.am : Int)) := by have := (Ofr.hasAm ha).one (row_range h14); simpa using this
  have ra1 : w.cell? ⟨KQ, 67, none⟩ = some (.int .u64 (q.rc : Int)) := gen_cell (row_range h12) (Quo.get hq 3)
  have ra2 : w.cell? ⟨KQ, 68, none⟩ = some (.int .u64 (q.ru : Int)) := gen_cell (row_range h12) (Quo.get hq 4)
  have un := Tryd.underlying27
  have hiz := hid (show (Tryd.prog.info? 27).map (·.size) = some (nums .u8 hz32).length by kernel_rfl)
  have hiq := hid (show (Tryd.prog.info? 27).map (·.size) = some (nums .u8 q.id).length by rw [nums_length, hq.il]; exact infoH)
  have n1 := neq_hv (xs := hz32) (ys := hz32) hz32_ok.1 hz32_ok.1 hz32_ok.2 hz32_ok.2
  have g1 := guard_hv hz32 hz32
  have n2 := neq_hv (xs := q.id) (ys := q.id) hq.il hq.il hq.ib hq.ib
  have g2 := guard_hv q.id q.id
  rw [decide_eq_true rfl] at n1 n2
  unfold hv at n1 g1 n2 g2
  simp only [Bool.not_true] at n1 n2
  have bz := bhz
  have P1 := fun wx => hid (product21 b.am q.rc hb.ab hq.cb wx)
  have P2 := fun wx => hid (product21 a.am q.ru ha.ab hq.ub wx)
  have tc : decide (cmpI (b.am * q.rc) (a.am * q.ru) > 0) = false := by rw [cmp_pos21]; exact decide_eq_false (by omega)
  have CW := fun (a1 a2 : Option Addr) (c1 c2 : Nat) (y1 y2 : List Nat) (u v wx : World) s1 d1 b1 s2 d2 b2 => hid (cmp_two21 (a := a1) (a' := a2) (c := c1) (c' := c2) (xs := y1) (ys := y2) (u := u) (u' := v) (v := wx) (Nat.mul_lt_mul'' hb.ab hq.cb) (Nat.mul_lt_mul'' ha.ab hq.ub) s1 d1 b1 s2 d2 b2)
  clear ha hb hq h12 h14 h15 hz hi hp e12 e14 e15
  clear s e0 e1 e2 e7 e8 e10 e11
  conv => arg 2; whnf
  refine wp_region_held_drew (S := fun w' => Below w.heap.size w w') (by kernel_rfl) ((Below.refl _ _).drew) (fun hHeld => ?_)
  try simp only [List.size_toArray, List.length_cons, List.length_nil, Nat.reduceAdd, Array.replicate_succ, Array.replicate_zero, List.push_toArray, List.nil_append, List.cons_append]
  refine wpAnyH_take (i := 0) (oi := { dst := some 118, op := Op.fieldAddr 40 (Operand.tmp 14) 2, type := 0, pos := "law.go:241", after := #[], guard := none }) (v := ?v2001) rfl (by kernel_rfl) (by kernel_rfl) (by kernel_rfl) (fun _ _ _ h => h) (Or.inl ⟨by rfl, ?hy2001⟩) hHeld ?_
  case hy2001 => (intro w hSw; (try dsimp only at hSw); go_simp; (try with_reducible rfl))
  (try simp only [Act.put, List.setIfInBounds_toArray, List.set_cons_zero, List.set_cons_succ])
  refine' wpAnyH_take (i := 1) (oi := { dst := some 119, op := Op.load 27 (Operand.tmp 118), type := 27, pos := "law.go:241", after := #[{ on := 0, ground := Ground.data }], guard := none }) (v := _) rfl (by kernel_rfl) (by kernel_rfl) (by kernel_rfl) (fun _ _ _ h => h) (yieldsIf_load_mid (by rfl) _ _ rfl KA 2 rfl (nums .u8 hz32) _ (fun _ h => range_keep h rx) un rfl hiz.out) hHeld ?_
  (try simp only [Act.put, List.setIfInBounds_toArray, List.set_cons_zero, List.set_cons_succ])
  refine wpAnyH_take (i := 2) (oi := { dst := some 120, op := Op.build 27 #[], type := 27, pos := "law.go:241", after := #[], guard := none }) (v := (.agg (nums .u8 hz32).toArray)) rfl (by kernel_rfl) (by kernel_rfl) (by kernel_rfl) (fun _ _ _ h => h) (Or.inl ⟨by rfl, fun w _ => run_bld0 rfl bz⟩) hHeld ?_
  (try simp only [Act.put, List.setIfInBounds_toArray, List.set_cons_zero, List.set_cons_succ])
  refine wpAnyH_take (i := 3) (oi := { dst := some 121, op := Op.binOp BinOp.neq 27 (Operand.tmp 119) (Operand.tmp 120) 27, type := 4, pos := "law.go:241", after := #[{ on := 1, ground := Ground.data }, { on := 2, ground := Ground.data }], guard := none }) (v := ?v2002) rfl (by kernel_rfl) (by kernel_rfl) (by kernel_rfl) (fun _ _ _ h => h) (Or.inl ⟨by rfl, ?hy2002⟩) hHeld ?_
  case hy2002 => (intro w hSw; (try dsimp only at hSw); go_simp; (try with_reducible rfl))
  (try simp only [Act.put, List.setIfInBounds_toArray, List.set_cons_zero, List.set_cons_succ])
  refine wpAnyH_take (i := 4) (oi := { dst := some 122, op := Op.move (Operand.tmp 121), type := 4, pos := "law.go:241", after := #[{ on := 3, ground := Ground.data }], guard := none }) (v := ?v2003) rfl (by kernel_rfl) (by kernel_rfl) (by kernel_rfl) (fun _ _ _ h => h) (Or.inl ⟨by rfl, ?hy2003⟩) hHeld ?_
  case hy2003 => (intro w hSw; (try dsimp only at hSw); go_simp; (try with_reducible rfl))
  (try simp only [Act.put, List.setIfInBounds_toArray, List.set_cons_zero, List.set_cons_succ])
  refine wpAnyH_take (i := 5) (oi := { dst := some 123, op := Op.fieldAddr 40 (Operand.tmp 15) 2, type := 0, pos := "law.go:241", after := #[{ on := 4, ground := Ground.guard }], guard := some (4, false) }) (v := ?v2004) rfl (by kernel_rfl) (by kernel_rfl) (by kernel_rfl) (fun _ _ _ h => h) (Or.inl ⟨by rfl, ?hy2004⟩) hHeld ?_
  case hy2004 => (intro w hSw; (try dsimp only at hSw); go_simp; (try with_reducible rfl))
  (try simp only [Act.put, List.setIfInBounds_toArray, List.set_cons_zero, List.set_cons_succ])
  refine' wpAnyH_take (i := 6) (oi := { dst := some 124, op := Op.load 27 (Operand.tmp 123), type := 27, pos := "law.go:241", after := #[{ on := 5, ground := Ground.data }, { on := 4, ground := Ground.guard }], guard := some (4, false) }) (v := _) rfl (by kernel_rfl) (by kernel_rfl) (by kernel_rfl) (fun _ _ _ h => h) (yieldsIf_load_mid (by rfl) _ _ rfl KB 2 rfl (nums .u8 q.id) _ (fun _ h => range_keep h ry) un rfl hiq.out) hHeld ?_
  (try simp only [Act.put, List.setIfInBounds_toArray, List.set_cons_zero, List.set_cons_succ])
  refine wpAnyH_take (i := 7) (oi := { dst := some 125, op := Op.fieldAddr 48 (Operand.tmp 12) 1, type := 0, pos := "law.go:241", after := #[{ on := 4, ground := Ground.guard }], guard := some (4, false) }) (v := ?v2005) rfl (by kernel_rfl) (by kernel_rfl) (by kernel_rfl) (fun _ _ _ h => h) (Or.inl ⟨by rfl, ?hy2005⟩) hHeld ?_
  case hy2005 => (intro w hSw; (try dsimp only at hSw); go_simp; (try with_reducible rfl))
  (try simp only [Act.put, List.setIfInBounds_toArray, List.set_cons_zero, List.set_cons_succ])
  refine' wpAnyH_take (i := 8) (oi := { dst := some 126, op := Op.load 27 (Operand.tmp 125), type := 27, pos := "law.go:241", after := #[{ on := 7, ground := Ground.data }, { on := 4, ground := Ground.guard }], guard := some (4, false) }) (v := _) rfl (by kernel_rfl) (by kernel_rfl) (by kernel_rfl) (fun _ _ _ h => h) (yieldsIf_load_mid (by rfl) _ _ rfl KQ 32 rfl (nums .u8 q.id) _ (fun _ h => range_keep h rq) un rfl hiq.out) hHeld ?_
  (try simp only [Act.put, List.setIfInBounds_toArray, List.set_cons_zero, List.set_cons_succ])
  refine wpAnyH_take (i := 9) (oi := { dst := some 127, op := Op.binOp BinOp.neq 27 (Operand.tmp 124) (Operand.tmp 126) 27, type := 4, pos := "law.go:241", after := #[{ on := 6, ground := Ground.data }, { on := 8, ground := Ground.data }, { on := 4, ground := Ground.guard }], guard := some (4, false) }) (v := ?v2006) rfl (by kernel_rfl) (by kernel_rfl) (by kernel_rfl) (fun _ _ _ h => h) (Or.inl ⟨by rfl, ?hy2006⟩) hHeld ?_
  case hy2006 => (intro w hSw; (try dsimp only at hSw); go_simp; (try with_reducible rfl))
  (try simp only [Act.put, List.setIfInBounds_toArray, List.set_cons_zero, List.set_cons_succ])
  refine wpAnyH_take (i := 10) (oi := { dst := some 128, op := Op.pick (Operand.tmp 122) (Operand.const (Value.bool true)) (Operand.tmp 127), type := 4, pos := "law.go:241", after := #[{ on := 4, ground := Ground.data }, { on := 9, ground := Ground.data }], guard := none }) (v := ?v2007) rfl (by kernel_rfl) (by kernel_rfl) (by kernel_rfl) (fun _ _ _ h => h) (Or.inl ⟨by rfl, ?hy2007⟩) hHeld ?_
  case hy2007 => (intro w hSw; (try dsimp only at hSw); go_simp; (try with_reducible rfl))
  (try simp only [Act.put, List.setIfInBounds_toArray, List.set_cons_zero, List.set_cons_succ])
  refine wpAnyH_take (i := 11) (oi := { dst := some 129, op := Op.move (Operand.tmp 128), type := 4, pos := "law.go:241", after := #[{ on := 10, ground := Ground.data }, { on := 4, ground := Ground.chain }], guard := none }) (v := ?v2008) rfl (by kernel_rfl) (by kernel_rfl) (by kernel_rfl) (fun _ _ _ h => h) (Or.inl ⟨by rfl, ?hy2008⟩) hHeld ?_
  case hy2008 => (intro w hSw; (try dsimp only at hSw); go_simp; (try with_reducible rfl))
  (try simp only [Act.put, List.setIfInBounds_toArray, List.set_cons_zero, List.set_cons_succ])
  refine wpAnyH_take (i := 12) (oi := { dst := some 130, op := Op.fieldAddr 40 (Operand.tmp 15) 3, type := 0, pos := "law.go:241", after := #[{ on := 11, ground := Ground.guard }], guard := some (11, false) }) (v := ?v2009) rfl (by kernel_rfl) (by kernel_rfl) (by kernel_rfl) (fun _ _ _ h => h) (Or.inl ⟨by rfl, ?hy2009⟩) hHeld ?_
  case hy2009 => (intro w hSw; (try dsimp only at hSw); go_simp; (try with_reducible rfl))
  (try simp only [Act.put, List.setIfInBounds_toArray, List.set_cons_zero, List.set_cons_succ])
  refine wpAnyH_take (i := 13) (oi := { dst := some 131, op := Op.load 28 (Operand.tmp 130), type := 28, pos := "law.go:241", after := #[{ on := 12, ground := Ground.data }, { on := 11, ground := Ground.guard }], guard := some (11, false) }) (v := (.int .u64 (b.am : Int))) rfl (by kernel_rfl) (by kernel_rfl) (by kernel_rfl) (fun _ _ _ h => h) (Or.inl ⟨by rfl, fun w h => by have c9 := cell_keep h am1; go_simp⟩) hHeld ?_
  (try simp only [Act.put, List.setIfInBounds_toArray, List.set_cons_zero, List.set_cons_succ])
  refine wpAnyH_take (i := 14) (oi := { dst := some 132, op := Op.fieldAddr 48 (Operand.tmp 12) 5, type := 0, pos := "law.go:241", after := #[{ on := 11, ground := Ground.guard }], guard := some (11, false) }) (v := ?v2010) rfl (by kernel_rfl) (by kernel_rfl) (by kernel_rfl) (fun _ _ _ h => h) (Or.inl ⟨by rfl, ?hy2010⟩) hHeld ?_
  case hy2010 => (intro w hSw; (try dsimp only at hSw); go_simp; (try with_reducible rfl))
  (try simp only [Act.put, List.setIfInBounds_toArray, List.set_cons_zero, List.set_cons_succ])
  refine wpAnyH_take (i := 15) (oi := { dst := some 133, op := Op.fieldAddr 30 (Operand.tmp 132) 0, type := 0, pos := "law.go:241", after := #[{ on := 14, ground := Ground.data }, { on := 11, ground := Ground.guard }], guard := some (11, false) }) (v := ?v2011) rfl (by kernel_rfl) (by kernel_rfl) (by kernel_rfl) (fun _ _ _ h => h) (Or.inl ⟨by rfl, ?hy2011⟩) hHeld ?_
  case hy2011 => (intro w hSw; (try dsimp only at hSw); go_simp; (try with_reducible rfl))
  (try simp only [Act.put, List.setIfInBounds_toArray, List.set_cons_zero, List.set_cons_succ])
  refine wpAnyH_take (i := 16) (oi := { dst := some 134, op := Op.load 28 (Operand.tmp 133), type := 28, pos := "law.go:241", after := #[{ on := 15, ground := Ground.data }, { on := 11, ground := Ground.guard }], guard := some (11, false) }) (v := (.int .u64 (q.rc : Int))) rfl (by kernel_rfl) (by kernel_rfl) (by kernel_rfl) (fun _ _ _ h => h) (Or.inl ⟨by rfl, fun w h => by have c9 := cell_keep h ra1; go_simp⟩) hHeld ?_
  (try simp only [Act.put, List.setIfInBounds_toArray, List.set_cons_zero, List.set_cons_succ])
  refine wpAnyH_take (i := 18) (oi := { dst := some 136, op := Op.fieldAddr 40 (Operand.tmp 14) 3, type := 0, pos := "law.go:241", after := #[{ on := 11, ground := Ground.guard }], guard := some (11, false) }) (v := ?v2012) rfl (by kernel_rfl) (by kernel_rfl) (by kernel_rfl) (fun _ _ _ h => h) (Or.inl ⟨by rfl, ?hy2012⟩) hHeld ?_
  case hy2012 => (intro w hSw; (try dsimp only at hSw); go_simp; (try with_reducible rfl))
  (try simp only [Act.put, List.setIfInBounds_toArray, List.set_cons_zero, List.set_cons_succ])
  refine wpAnyH_take (i := 19) (oi := { dst := some 137, op := Op.load 28 (Operand.tmp 136), type := 28, pos := "law.go:241", after := #[{ on := 18, ground := Ground.data }, { on := 11, ground := Ground.guard }], guard := some (11, false) }) (v := (.int .u64 (a.am : Int))) rfl (by kernel_rfl) (by kernel_rfl) (by kernel_rfl) (fun _ _ _ h => h) (Or.inl ⟨by rfl, fun w h => by have c9 := cell_keep h am2; go_simp⟩) hHeld ?_
  (try simp only [Act.put, List.setIfInBounds_toArray, List.set_cons_zero, List.set_cons_succ])
  refine wpAnyH_take (i := 20) (oi := { dst := some 138, op := Op.fieldAddr 48 (Operand.tmp 12) 5, type := 0, pos := "law.go:241", after := #[{ on := 11, ground := Ground.guard }], guard := some (11, false) }) (v := ?v2013) rfl (by kernel_rfl) (by kernel_rfl) (by kernel_rfl) (fun _ _ _ h => h) (Or.inl ⟨by rfl, ?hy2013⟩) hHeld ?_
  case hy2013 => (intro w hSw; (try dsimp only at hSw); go_simp; (try with_reducible rfl))
  (try simp only [Act.put, List.setIfInBounds_toArray, List.set_cons_zero, List.set_cons_succ])
  refine wpAnyH_take (i := 21) (oi := { dst := some 139, op := Op.fieldAddr 30 (Operand.tmp 138) 1, type := 0, pos := "law.go:241", after := #[{ on := 20, ground := Ground.data }, { on := 11, ground := Ground.guard }], guard := some (11, false) }) (v := ?v2014) rfl (by kernel_rfl) (by kernel_rfl) (by kernel_rfl) (fun _ _ _ h => h) (Or.inl ⟨by rfl, ?hy2014⟩) hHeld ?_
  case hy2014 => (intro w hSw; (try dsimp only at hSw); go_simp; (try with_reducible rfl))
  (try simp only [Act.put, List.setIfInBounds_toArray, List.set_cons_zero, List.set_cons_succ])
  refine wpAnyH_take (i := 22) (oi := { dst := some 140, op := Op.load 28 (Operand.tmp 139), type := 28, pos := "law.go:241", after := #[{ on := 21, ground := Ground.data }, { on := 11, ground := Ground.guard }], guard := some (11, false) }) (v := (.int .u64 (q.ru : Int))) rfl (by kernel_rfl) (by kernel_rfl) (by kernel_rfl) (fun _ _ _ h => h) (Or.inl ⟨by rfl, fun w h => by have c9 := cell_keep h ra2; go_simp⟩) hHeld ?_
  (try simp only [Act.put, List.setIfInBounds_toArray, List.set_cons_zero, List.set_cons_succ])
  refine wpAnyH_ready (rs := [17]) (by kernel_rfl) (by simp) ?_
  refine AllReadyH.cons (o := { dst := some 135, op := Op.call { callee := Callee.value (Operand.func 24), args := #[Operand.tmp 131, Operand.tmp 134], argTypes := #[28, 28] }, type := 70, pos := "law.go:241", after := #[{ on := 13, ground := Ground.data }, { on := 16, ground := Ground.data }, { on := 11, ground := Ground.chain }, { on := 11, ground := Ground.guard }], guard := some (11, false) }) rfl (fun K hK => ?_) ?_
  go_simp; refine (P1 _).out.mono ?_; rintro e w17 ⟨p1, y1, rfl, d1, ⟨a1, c1, rfl, s1⟩, b1⟩; have D1 := hid d1; have S1 := hid s1; have B1 := hid b1; clear d1 s1 b1
  refine hK.out _ _ (by first | exact hHeld.trans (B1.out.mono hHeld.size) | exact B1.out) (fun hHeld => ?_)
  clear hK K
  (try simp only [List.setIfInBounds_toArray, List.set_cons_zero, List.set_cons_succ])
  refine wpAnyH_ready (rs := [23]) (by kernel_rfl) (by simp) ?_
  refine AllReadyH.cons (o := { dst := some 141, op := Op.call { callee := Callee.value (Operand.func 24), args := #[Operand.tmp 137, Operand.tmp 140], argTypes := #[28, 28] }, type := 70, pos := "law.go:241", after := #[{ on := 19, ground := Ground.data }, { on := 22, ground := Ground.data }, { on := 17, ground := Ground.chain }, { on := 11, ground := Ground.guard }], guard := some (11, false) }) rfl (fun K hK => ?_) ?_
  go_simp; refine (P2 _).out.mono ?_; rintro e w23 ⟨p2, y2, rfl, d2, ⟨a2, c2, rfl, s2⟩, b2⟩; have D2 := hid d2; have S2 := hid s2; have B2 := hid b2; clear d2 s2 b2
  refine hK.out _ _ (by first | exact hHeld.trans (B2.out.mono hHeld.size) | exact B2.out) (fun hHeld => ?_)
  clear hK K
  (try simp only [List.setIfInBounds_toArray, List.set_cons_zero, List.set_cons_succ])
  refine wpAnyH_ready (rs := [24]) (by kernel_rfl) (by simp) ?_
  refine AllReadyH.cons (o := { dst := some 142, op := Op.call { callee := Callee.value (Operand.func 23), args := #[Operand.tmp 135, Operand.tmp 141], argTypes := #[70, 70] }, type := 3, pos := "law.go:241", after := #[{ on := 17, ground := Ground.data }, { on := 23, ground := Ground.data }, { on := 23, ground := Ground.chain }, { on := 11, ground := Ground.guard }], guard := some (11, false) }) rfl (fun K hK => ?_) ?_
  go_simp; (first | refine (CW _ _ _ _ _ _ _ _ _ S1.out D1.out B2.out S2.out D2.out (Below.refl _ _)).out.mono ?_ | refine (CW _ _ _ _ _ _ _ _ _ S1.out D1.out (Below.refl _ _) S2.out D2.out B1.out).out.mono ?_); rintro e w24 ⟨rfl, b3⟩; have B3 := hid b3; clear b3
  refine hK.out _ _ (by first | exact hHeld.trans (B3.out.mono hHeld.size) | exact B3.out) (fun hHeld => ?_)
  clear hK K
  (try simp only [List.setIfInBounds_toArray, List.set_cons_zero, List.set_cons_succ])
  refine wpAnyH_take (i := 25) (oi := { dst := some 143, op := Op.binOp BinOp.gtr 3 (Operand.tmp 142) (Operand.const (Value.int IntKind.i64 0)) 3, type := 4, pos := "law.go:241", after := #[{ on := 24, ground := Ground.data }, { on := 11, ground := Ground.guard }], guard := some (11, false) }) (v := ?v2015) rfl (by kernel_rfl) (by kernel_rfl) (by kernel_rfl) (fun _ _ _ h => h) (Or.inl ⟨by rfl, ?hy2015⟩) hHeld ?_
  case hy2015 => (intro w hSw; (try dsimp only at hSw); go_simp; (try with_reducible rfl))
  (try simp only [Act.put, List.setIfInBounds_toArray, List.set_cons_zero, List.set_cons_succ])
  refine wpAnyH_take (i := 26) (oi := { dst := some 144, op := Op.pick (Operand.tmp 129) (Operand.const (Value.bool true)) (Operand.tmp 143), type := 4, pos := "law.go:241", after := #[{ on := 11, ground := Ground.data }, { on := 25, ground := Ground.data }], guard := none }) (v := ?v2016) rfl (by kernel_rfl) (by kernel_rfl) (by kernel_rfl) (fun _ _ _ h => h) (Or.inl ⟨by rfl, ?hy2016⟩) hHeld ?_
  case hy2016 => (intro w hSw; (try dsimp only at hSw); go_simp; (try with_reducible rfl))
  (try simp only [Act.put, List.setIfInBounds_toArray, List.set_cons_zero, List.set_cons_succ])
  refine wpAnyH_done (by kernel_rfl) ?_ _
  rotate_left
  exact AllReadyH.nil
  exact AllReadyH.nil
  exact AllReadyH.nil
  all_goals exact ⟨rfl, ⟨rfl, rfl, rfl, rfl, rfl, rfl, rfl, rfl⟩, rfl, hHeld⟩
def Kep24 (dl : Int) (qv sv : Value) (tb eb k R : Nat) (w : World) : Exit → Act → World → Prop
  | .normal, A, w' => A.defers = [] ∧ KSl dl qv sv tb eb k R A.tmps ∧ tm A.tmps 171 = .bool false ∧ Below w.heap.size w w'
  | _, _, _ => False
set_option maxRecDepth 1000000 in
set_option maxHeartbeats 16000000 in
theorem kep24 (dl : Int) (qv sv : Value) (tb eb k R : Nat) (T : Array Value) (w : World) (KA KB KQ : Nat) (a b : Ofr) (q : Quo) (s : KSl dl qv sv tb eb k R T) (e12 : tm T 12 = .pointer (some ⟨KQ, 0, none⟩)) (e14 : tm T 14 = .pointer (some ⟨KA, 0, none⟩)) (e15 : tm T 15 = .pointer (some ⟨KB, 0, none⟩)) (ha : a.ok) (hb : b.ok) (hq : q.ok)
    (h14 : w.heap[KA]? = some (.cells a.cells.toArray 40 (0, 0))) (h15 : w.heap[KB]? = some (.cells b.cells.toArray 40 (0, 0))) (h12 : w.heap[KQ]? = some (.cells q.cells.toArray 48 (0, 0)))
    (hz : b.id = hz32) (hi : a.id = q.id) (hp : b.am * q.ru ≤ a.am * q.rc) : (kepC 24).wp Tryd.prog (Kep24 dl qv sv tb eb k R w) ⟨T, []⟩ w := by
  have e0 := s.t0
  have e1 := s.t1
  have e2 := s.t2
  have e7 := s.t7
  have e8 := s.t8
  have e10 := s.t10
  have e11 := s.t11
  rw [frameK s.size, e0, e1, e2, e7, e8, e10, e11, e12, e14, e15]
  have rx : w.rangeAt KB 2 (nums .u8 hz32) := by have := b.hasId.rng (row_range h15); rw [hz] at this; simpa using this
  have ry : w.rangeAt KA 2 (nums .u8 q.id) := by have := a.hasId.rng (row_range h14); rw [hi] at this; simpa using this
  have rq : w.rangeAt KQ 32 (nums .u8 q.id) := by have := gen_range (row_range h12) 32 32; rwa [Quo.id_at hq] at this
  have am1 : w.cell? ⟨KB, 34, none⟩ = some (.int .u64 (b.am : Int)) := by have := (Ofr.hasAm hb).one (row_range h15); simpa using this
  have am2 : w.cell? ⟨KA, 34, none⟩ = some (.int .u64 (a.am : Int)) := by have := (Ofr.hasAm ha).one (row_range h14); simpa using this
  have ra1 : w.cell? ⟨KQ, 68, none⟩ = some (.int .u64 (q.ru : Int)) := gen_cell (row_range h12) (Quo.get hq 4)
  have ra2 : w.cell? ⟨KQ, 67, none⟩ = some (.int .u64 (q.rc : Int)) := gen_cell (row_range h12) (Quo.get hq 3)
  have un := Tryd.underlying27
  have hiz := hid (show (Tryd.prog.info? 27).map (·.size) = some (nums .u8 hz32).length by kernel_rfl)
  have hiq := hid (show (Tryd.prog.info? 27).map (·.size) = some (nums .u8 q.id).length by rw [nums_length, hq.il]; exact infoH)
  have n1 := neq_hv (xs := hz32) (ys := hz32) hz32_ok.1 hz32_ok.1 hz32_ok.2 hz32_ok.2
  have g1 := guard_hv hz32 hz32
  have n2 := neq_hv (xs := q.id) (ys := q.id) hq.il hq.il hq.ib hq.ib
  have g2 := guard_hv q.id q.id
  rw [decide_eq_true rfl] at n1 n2
  unfold hv at n1 g1 n2 g2
  simp only [Bool.not_true] at n1 n2
  have bz := bhz
  have P1 := fun wx => hid (product21 b.am q.ru hb.ab hq.ub wx)
  have P2 := fun wx => hid (product21 a.am q.rc ha.ab hq.cb wx)
  have tc : decide (cmpI (b.am * q.ru) (a.am * q.rc) > 0) = false := by rw [cmp_pos21]; exact decide_eq_false (by omega)
  have CW := fun (a1 a2 : Option Addr) (c1 c2 : Nat) (y1 y2 : List Nat) (u v wx : World) s1 d1 b1 s2 d2 b2 => hid (cmp_two21 (a := a1) (a' := a2) (c := c1) (c' := c2) (xs := y1) (ys := y2) (u := u) (u' := v) (v := wx) (Nat.mul_lt_mul'' hb.ab hq.ub) (Nat.mul_lt_mul'' ha.ab hq.cb) s1 d1 b1 s2 d2 b2)
  clear ha hb hq h12 h14 h15 hz hi hp e12 e14 e15
  clear s e0 e1 e2 e7 e8 e10 e11
  conv => arg 2; whnf
  refine wp_region_held_drew (S := fun w' => Below w.heap.size w w') (by kernel_rfl) ((Below.refl _ _).drew) (fun hHeld => ?_)
  try simp only [List.size_toArray, List.length_cons, List.length_nil, Nat.reduceAdd, Array.replicate_succ, Array.replicate_zero, List.push_toArray, List.nil_append, List.cons_append]
  refine wpAnyH_take (i := 0) (oi := { dst := some 145, op := Op.fieldAddr 40 (Operand.tmp 15) 2, type := 0, pos := "law.go:244", after := #[], guard := none }) (v := ?v3001) rfl (by kernel_rfl) (by kernel_rfl) (by kernel_rfl) (fun _ _ _ h => h) (Or.inl ⟨by rfl, ?hy3001⟩) hHeld ?_
  case hy3001 => (intro w hSw; (try dsimp only at hSw); go_simp; (try with_reducible rfl))
  (try simp only [Act.put, List.setIfInBounds_toArray, List.set_cons_zero, List.set_cons_succ])
  refine' wpAnyH_take (i := 1) (oi := { dst := some 146, op := Op.load 27 (Operand.tmp 145), type := 27, pos := "law.go:244", after := #[{ on := 0, ground := Ground.data }], guard := none }) (v := _) rfl (by kernel_rfl) (by kernel_rfl) (by kernel_rfl) (fun _ _ _ h => h) (yieldsIf_load_mid (by rfl) _ _ rfl KB 2 rfl (nums .u8 hz32) _ (fun _ h => range_keep h rx) un rfl hiz.out) hHeld ?_
  (try simp only [Act.put, List.setIfInBounds_toArray, List.set_cons_zero, List.set_cons_succ])
  refine wpAnyH_take (i := 2) (oi := { dst := some 147, op := Op.build 27 #[], type := 27, pos := "law.go:244", after := #[], guard := none }) (v := (.agg (nums .u8 hz32).toArray)) rfl (by kernel_rfl) (by kernel_rfl) (by kernel_rfl) (fun _ _ _ h => h) (Or.inl ⟨by rfl, fun w _ => run_bld0 rfl bz⟩) hHeld ?_
  (try simp only [Act.put, List.setIfInBounds_toArray, List.set_cons_zero, List.set_cons_succ])
  refine wpAnyH_take (i := 3) (oi := { dst := some 148, op := Op.binOp BinOp.neq 27 (Operand.tmp 146) (Operand.tmp 147) 27, type := 4, pos := "law.go:244", after := #[{ on := 1, ground := Ground.data }, { on := 2, ground := Ground.data }], guard := none }) (v := ?v3002) rfl (by kernel_rfl) (by kernel_rfl) (by kernel_rfl) (fun _ _ _ h => h) (Or.inl ⟨by rfl, ?hy3002⟩) hHeld ?_
  case hy3002 => (intro w hSw; (try dsimp only at hSw); go_simp; (try with_reducible rfl))
  (try simp only [Act.put, List.setIfInBounds_toArray, List.set_cons_zero, List.set_cons_succ])
  refine wpAnyH_take (i := 4) (oi := { dst := some 149, op := Op.move (Operand.tmp 148), type := 4, pos := "law.go:244", after := #[{ on := 3, ground := Ground.data }], guard := none }) (v := ?v3003) rfl (by kernel_rfl) (by kernel_rfl) (by kernel_rfl) (fun _ _ _ h => h) (Or.inl ⟨by rfl, ?hy3003⟩) hHeld ?_
  case hy3003 => (intro w hSw; (try dsimp only at hSw); go_simp; (try with_reducible rfl))
  (try simp only [Act.put, List.setIfInBounds_toArray, List.set_cons_zero, List.set_cons_succ])
  refine wpAnyH_take (i := 5) (oi := { dst := some 150, op := Op.fieldAddr 40 (Operand.tmp 14) 2, type := 0, pos := "law.go:244", after := #[{ on := 4, ground := Ground.guard }], guard := some (4, false) }) (v := ?v3004) rfl (by kernel_rfl) (by kernel_rfl) (by kernel_rfl) (fun _ _ _ h => h) (Or.inl ⟨by rfl, ?hy3004⟩) hHeld ?_
  case hy3004 => (intro w hSw; (try dsimp only at hSw); go_simp; (try with_reducible rfl))
  (try simp only [Act.put, List.setIfInBounds_toArray, List.set_cons_zero, List.set_cons_succ])
  refine' wpAnyH_take (i := 6) (oi := { dst := some 151, op := Op.load 27 (Operand.tmp 150), type := 27, pos := "law.go:244", after := #[{ on := 5, ground := Ground.data }, { on := 4, ground := Ground.guard }], guard := some (4, false) }) (v := _) rfl (by kernel_rfl) (by kernel_rfl) (by kernel_rfl) (fun _ _ _ h => h) (yieldsIf_load_mid (by rfl) _ _ rfl KA 2 rfl (nums .u8 q.id) _ (fun _ h => range_keep h ry) un rfl hiq.out) hHeld ?_
  (try simp only [Act.put, List.setIfInBounds_toArray, List.set_cons_zero, List.set_cons_succ])
  refine wpAnyH_take (i := 7) (oi := { dst := some 152, op := Op.fieldAddr 48 (Operand.tmp 12) 1, type := 0, pos := "law.go:244", after := #[{ on := 4, ground := Ground.guard }], guard := some (4, false) }) (v := ?v3005) rfl (by kernel_rfl) (by kernel_rfl) (by kernel_rfl) (fun _ _ _ h => h) (Or.inl ⟨by rfl, ?hy3005⟩) hHeld ?_
  case hy3005 => (intro w hSw; (try dsimp only at hSw); go_simp; (try with_reducible rfl))
  (try simp only [Act.put, List.setIfInBounds_toArray, List.set_cons_zero, List.set_cons_succ])
  refine' wpAnyH_take (i := 8) (oi := { dst := some 153, op := Op.load 27 (Operand.tmp 152), type := 27, pos := "law.go:244", after := #[{ on := 7, ground := Ground.data }, { on := 4, ground := Ground.guard }], guard := some (4, false) }) (v := _) rfl (by kernel_rfl) (by kernel_rfl) (by kernel_rfl) (fun _ _ _ h => h) (yieldsIf_load_mid (by rfl) _ _ rfl KQ 32 rfl (nums .u8 q.id) _ (fun _ h => range_keep h rq) un rfl hiq.out) hHeld ?_
  (try simp only [Act.put, List.setIfInBounds_toArray, List.set_cons_zero, List.set_cons_succ])
  refine wpAnyH_take (i := 9) (oi := { dst := some 154, op := Op.binOp BinOp.neq 27 (Operand.tmp 151) (Operand.tmp 153) 27, type := 4, pos := "law.go:244", after := #[{ on := 6, ground := Ground.data }, { on := 8, ground := Ground.data }, { on := 4, ground := Ground.guard }], guard := some (4, false) }) (v := ?v3006) rfl (by kernel_rfl) (by kernel_rfl) (by kernel_rfl) (fun _ _ _ h => h) (Or.inl ⟨by rfl, ?hy3006⟩) hHeld ?_
  case hy3006 => (intro w hSw; (try dsimp only at hSw); go_simp; (try with_reducible rfl))
  (try simp only [Act.put, List.setIfInBounds_toArray, List.set_cons_zero, List.set_cons_succ])
  refine wpAnyH_take (i := 10) (oi := { dst := some 155, op := Op.pick (Operand.tmp 149) (Operand.const (Value.bool true)) (Operand.tmp 154), type := 4, pos := "law.go:244", after := #[{ on := 4, ground := Ground.data }, { on := 9, ground := Ground.data }], guard := none }) (v := ?v3007) rfl (by kernel_rfl) (by kernel_rfl) (by kernel_rfl) (fun _ _ _ h => h) (Or.inl ⟨by rfl, ?hy3007⟩) hHeld ?_
  case hy3007 => (intro w hSw; (try dsimp only at hSw); go_simp; (try with_reducible rfl))
  (try simp only [Act.put, List.setIfInBounds_toArray, List.set_cons_zero, List.set_cons_succ])
  refine wpAnyH_take (i := 11) (oi := { dst := some 156, op := Op.move (Operand.tmp 155), type := 4, pos := "law.go:244", after := #[{ on := 10, ground := Ground.data }, { on := 4, ground := Ground.chain }], guard := none }) (v := ?v3008) rfl (by kernel_rfl) (by kernel_rfl) (by kernel_rfl) (fun _ _ _ h => h) (Or.inl ⟨by rfl, ?hy3008⟩) hHeld ?_
  case hy3008 => (intro w hSw; (try dsimp only at hSw); go_simp; (try with_reducible rfl))
  (try simp only [Act.put, List.setIfInBounds_toArray, List.set_cons_zero, List.set_cons_succ])
  refine wpAnyH_take (i := 12) (oi := { dst := some 157, op := Op.fieldAddr 40 (Operand.tmp 15) 3, type := 0, pos := "law.go:244", after := #[{ on := 11, ground := Ground.guard }], guard := some (11, false) }) (v := ?v3009) rfl (by kernel_rfl) (by kernel_rfl) (by kernel_rfl) (fun _ _ _ h => h) (Or.inl ⟨by rfl, ?hy3009⟩) hHeld ?_
  case hy3009 => (intro w hSw; (try dsimp only at hSw); go_simp; (try with_reducible rfl))
  (try simp only [Act.put, List.setIfInBounds_toArray, List.set_cons_zero, List.set_cons_succ])
  refine wpAnyH_take (i := 13) (oi := { dst := some 158, op := Op.load 28 (Operand.tmp 157), type := 28, pos := "law.go:244", after := #[{ on := 12, ground := Ground.data }, { on := 11, ground := Ground.guard }], guard := some (11, false) }) (v := (.int .u64 (b.am : Int))) rfl (by kernel_rfl) (by kernel_rfl) (by kernel_rfl) (fun _ _ _ h => h) (Or.inl ⟨by rfl, fun w h => by have c9 := cell_keep h am1; go_simp⟩) hHeld ?_
  (try simp only [Act.put, List.setIfInBounds_toArray, List.set_cons_zero, List.set_cons_succ])
  refine wpAnyH_take (i := 14) (oi := { dst := some 159, op := Op.fieldAddr 48 (Operand.tmp 12) 5, type := 0, pos := "law.go:244", after := #[{ on := 11, ground := Ground.guard }], guard := some (11, false) }) (v := ?v3010) rfl (by kernel_rfl) (by kernel_rfl) (by kernel_rfl) (fun _ _ _ h => h) (Or.inl ⟨by rfl, ?hy3010⟩) hHeld ?_
  case hy3010 => (intro w hSw; (try dsimp only at hSw); go_simp; (try with_reducible rfl))
  (try simp only [Act.put, List.setIfInBounds_toArray, List.set_cons_zero, List.set_cons_succ])
  refine wpAnyH_take (i := 15) (oi := { dst := some 160, op := Op.fieldAddr 30 (Operand.tmp 159) 1, type := 0, pos := "law.go:244", after := #[{ on := 14, ground := Ground.data }, { on := 11, ground := Ground.guard }], guard := some (11, false) }) (v := ?v3011) rfl (by kernel_rfl) (by kernel_rfl) (by kernel_rfl) (fun _ _ _ h => h) (Or.inl ⟨by rfl, ?hy3011⟩) hHeld ?_
  case hy3011 => (intro w hSw; (try dsimp only at hSw); go_simp; (try with_reducible rfl))
  (try simp only [Act.put, List.setIfInBounds_toArray, List.set_cons_zero, List.set_cons_succ])
  refine wpAnyH_take (i := 16) (oi := { dst := some 161, op := Op.load 28 (Operand.tmp 160), type := 28, pos := "law.go:244", after := #[{ on := 15, ground := Ground.data }, { on := 11, ground := Ground.guard }], guard := some (11, false) }) (v := (.int .u64 (q.ru : Int))) rfl (by kernel_rfl) (by kernel_rfl) (by kernel_rfl) (fun _ _ _ h => h) (Or.inl ⟨by rfl, fun w h => by have c9 := cell_keep h ra1; go_simp⟩) hHeld ?_
  (try simp only [Act.put, List.setIfInBounds_toArray, List.set_cons_zero, List.set_cons_succ])
  refine wpAnyH_take (i := 18) (oi := { dst := some 163, op := Op.fieldAddr 40 (Operand.tmp 14) 3, type := 0, pos := "law.go:244", after := #[{ on := 11, ground := Ground.guard }], guard := some (11, false) }) (v := ?v3012) rfl (by kernel_rfl) (by kernel_rfl) (by kernel_rfl) (fun _ _ _ h => h) (Or.inl ⟨by rfl, ?hy3012⟩) hHeld ?_
  case hy3012 => (intro w hSw; (try dsimp only at hSw); go_simp; (try with_reducible rfl))
  (try simp only [Act.put, List.setIfInBounds_toArray, List.set_cons_zero, List.set_cons_succ])
  refine wpAnyH_take (i := 19) (oi := { dst := some 164, op := Op.load 28 (Operand.tmp 163), type := 28, pos := "law.go:244", after := #[{ on := 18, ground := Ground.data }, { on := 11, ground := Ground.guard }], guard := some (11, false) }) (v := (.int .u64 (a.am : Int))) rfl (by kernel_rfl) (by kernel_rfl) (by kernel_rfl) (fun _ _ _ h => h) (Or.inl ⟨by rfl, fun w h => by have c9 := cell_keep h am2; go_simp⟩) hHeld ?_
  (try simp only [Act.put, List.setIfInBounds_toArray, List.set_cons_zero, List.set_cons_succ])
  refine wpAnyH_take (i := 20) (oi := { dst := some 165, op := Op.fieldAddr 48 (Operand.tmp 12) 5, type := 0, pos := "law.go:244", after := #[{ on := 11, ground := Ground.guard }], guard := some (11, false) }) (v := ?v3013) rfl (by kernel_rfl) (by kernel_rfl) (by kernel_rfl) (fun _ _ _ h => h) (Or.inl ⟨by rfl, ?hy3013⟩) hHeld ?_
  case hy3013 => (intro w hSw; (try dsimp only at hSw); go_simp; (try with_reducible rfl))
  (try simp only [Act.put, List.setIfInBounds_toArray, List.set_cons_zero, List.set_cons_succ])
  refine wpAnyH_take (i := 21) (oi := { dst := some 166, op := Op.fieldAddr 30 (Operand.tmp 165) 0, type := 0, pos := "law.go:244", after := #[{ on := 20, ground := Ground.data }, { on := 11, ground := Ground.guard }], guard := some (11, false) }) (v := ?v3014) rfl (by kernel_rfl) (by kernel_rfl) (by kernel_rfl) (fun _ _ _ h => h) (Or.inl ⟨by rfl, ?hy3014⟩) hHeld ?_
  case hy3014 => (intro w hSw; (try dsimp only at hSw); go_simp; (try with_reducible rfl))
  (try simp only [Act.put, List.setIfInBounds_toArray, List.set_cons_zero, List.set_cons_succ])
  refine wpAnyH_take (i := 22) (oi := { dst := some 167, op := Op.load 28 (Operand.tmp 166), type := 28, pos := "law.go:244", after := #[{ on := 21, ground := Ground.data }, { on := 11, ground := Ground.guard }], guard := some (11, false) }) (v := (.int .u64 (q.rc : Int))) rfl (by kernel_rfl) (by kernel_rfl) (by kernel_rfl) (fun _ _ _ h => h) (Or.inl ⟨by rfl, fun w h => by have c9 := cell_keep h ra2; go_simp⟩) hHeld ?_
  (try simp only [Act.put, List.setIfInBounds_toArray, List.set_cons_zero, List.set_cons_succ])
  refine wpAnyH_ready (rs := [17]) (by kernel_rfl) (by simp) ?_
  refine AllReadyH.cons (o := { dst := some 162, op := Op.call { callee := Callee.value (Operand.func 24), args := #[Operand.tmp 158, Operand.tmp 161], argTypes := #[28, 28] }, type := 70, pos := "law.go:244", after := #[{ on := 13, ground := Ground.data }, { on := 16, ground := Ground.data }, { on := 11, ground := Ground.chain }, { on := 11, ground := Ground.guard }], guard := some (11, false) }) rfl (fun K hK => ?_) ?_
  go_simp; refine (P1 _).out.mono ?_; rintro e w17 ⟨p1, y1, rfl, d1, ⟨a1, c1, rfl, s1⟩, b1⟩; have D1 := hid d1; have S1 := hid s1; have B1 := hid b1; clear d1 s1 b1
  refine hK.out _ _ (by first | exact hHeld.trans (B1.out.mono hHeld.size) | exact B1.out) (fun hHeld => ?_)
  clear hK K
  (try simp only [List.setIfInBounds_toArray, List.set_cons_zero, List.set_cons_succ])
  refine wpAnyH_ready (rs := [23]) (by kernel_rfl) (by simp) ?_
  refine AllReadyH.cons (o := { dst := some 168, op := Op.call { callee := Callee.value (Operand.func 24), args := #[Operand.tmp 164, Operand.tmp 167], argTypes := #[28, 28] }, type := 70, pos := "law.go:244", after := #[{ on := 19, ground := Ground.data }, { on := 22, ground := Ground.data }, { on := 17, ground := Ground.chain }, { on := 11, ground := Ground.guard }], guard := some (11, false) }) rfl (fun K hK => ?_) ?_
  go_simp; refine (P2 _).out.mono ?_; rintro e w23 ⟨p2, y2, rfl, d2, ⟨a2, c2, rfl, s2⟩, b2⟩; have D2 := hid d2; have S2 := hid s2; have B2 := hid b2; clear d2 s2 b2
  refine hK.out _ _ (by first | exact hHeld.trans (B2.out.mono hHeld.size) | exact B2.out) (fun hHeld => ?_)
  clear hK K
  (try simp only [List.setIfInBounds_toArray, List.set_cons_zero, List.set_cons_succ])
  refine wpAnyH_ready (rs := [24]) (by kernel_rfl) (by simp) ?_
  refine AllReadyH.cons (o := { dst := some 169, op := Op.call { callee := Callee.value (Operand.func 23), args := #[Operand.tmp 162, Operand.tmp 168], argTypes := #[70, 70] }, type := 3, pos := "law.go:244", after := #[{ on := 17, ground := Ground.data }, { on := 23, ground := Ground.data }, { on := 23, ground := Ground.chain }, { on := 11, ground := Ground.guard }], guard := some (11, false) }) rfl (fun K hK => ?_) ?_
  go_simp; (first | refine (CW _ _ _ _ _ _ _ _ _ S1.out D1.out B2.out S2.out D2.out (Below.refl _ _)).out.mono ?_ | refine (CW _ _ _ _ _ _ _ _ _ S1.out D1.out (Below.refl _ _) S2.out D2.out B1.out).out.mono ?_); rintro e w24 ⟨rfl, b3⟩; have B3 := hid b3; clear b3
  refine hK.out _ _ (by first | exact hHeld.trans (B3.out.mono hHeld.size) | exact B3.out) (fun hHeld => ?_)
  clear hK K
  (try simp only [List.setIfInBounds_toArray, List.set_cons_zero, List.set_cons_succ])
  refine wpAnyH_take (i := 25) (oi := { dst := some 170, op := Op.binOp BinOp.gtr 3 (Operand.tmp 169) (Operand.const (Value.int IntKind.i64 0)) 3, type := 4, pos := "law.go:244", after := #[{ on := 24, ground := Ground.data }, { on := 11, ground := Ground.guard }], guard := some (11, false) }) (v := ?v3015) rfl (by kernel_rfl) (by kernel_rfl) (by kernel_rfl) (fun _ _ _ h => h) (Or.inl ⟨by rfl, ?hy3015⟩) hHeld ?_
  case hy3015 => (intro w hSw; (try dsimp only at hSw); go_simp; (try with_reducible rfl))
  (try simp only [Act.put, List.setIfInBounds_toArray, List.set_cons_zero, List.set_cons_succ])
  refine wpAnyH_take (i := 26) (oi := { dst := some 171, op := Op.pick (Operand.tmp 156) (Operand.const (Value.bool true)) (Operand.tmp 170), type := 4, pos := "law.go:244", after := #[{ on := 11, ground := Ground.data }, { on := 25, ground := Ground.data }], guard := none }) (v := ?v3016) rfl (by kernel_rfl) (by kernel_rfl) (by kernel_rfl) (fun _ _ _ h => h) (Or.inl ⟨by rfl, ?hy3016⟩) hHeld ?_
  case hy3016 => (intro w hSw; (try dsimp only at hSw); go_simp; (try with_reducible rfl))
  (try simp only [Act.put, List.setIfInBounds_toArray, List.set_cons_zero, List.set_cons_succ])
  refine wpAnyH_done (by kernel_rfl) ?_ _
  rotate_left
  exact AllReadyH.nil
  exact AllReadyH.nil
  exact AllReadyH.nil
  all_goals exact ⟨rfl, ⟨rfl, rfl, rfl, rfl, rfl, rfl, rfl, rfl⟩, rfl, hHeld⟩
def Kep28 (dl : Int) (qv sv : Value) (tb eb k R : Nat) (w : World) : Exit → Act → World → Prop
  | .normal, A, w' => A.defers = [] ∧ KSl dl qv sv tb eb k R A.tmps ∧ tm A.tmps 196 = .bool false ∧ Below w.heap.size w w'
  | _, _, _ => False
theorem sl_mid {w : World} {g o : Nat} {xs : List Nat} (h : w.rangeAt g o (nums .u8 xs)) (hl : xs.length = 32) : Sl .u8 w (some ⟨g, o, none⟩) 32 32 xs :=
  ⟨by simp [hl], Nat.le_refl _, by unfold maxLen; omega, (fun e => nomatch e), g, o, fun _ => rfl, fun j u hu => h j u hu⟩
set_option maxRecDepth 1000000 in
set_option maxHeartbeats 16000000 in
theorem kep28 (dl : Int) (qv sv : Value) (tb eb k R : Nat) (T : Array Value) (w : World) (kc KV : Nat) (x : Ed) (lg : Lg) (s : KSl dl qv sv tb eb k R T) (e16 : tm T 16 = .pointer (some ⟨KV, 0, none⟩)) (e17 : tm T 17 = .int .i64 (kc : Int)) (hx : x.ok) (hl : lg.ok) (ht : Tabs w)
    (hr : w.heap[R]? = some (.cells x.cells.toArray 60 (0, 0))) (hv' : w.heap[KV]? = some (.cells lg.cells.toArray 42 (0, 0))) (hk : kc = 0 → sha x.sec = lg.o.lock) : (kepC 28).wp Tryd.prog (Kep28 dl qv sv tb eb k R w) ⟨T, []⟩ w := by
  have e0 := s.t0
  have e1 := s.t1
  have e2 := s.t2
  have e7 := s.t7
  have e8 := s.t8
  have e10 := s.t10
  have e11 := s.t11
  rw [frameK s.size, e0, e1, e2, e7, e8, e10, e11, e16, e17]
  have rs : w.rangeAt R 174 (nums .u8 x.sec) := by have := (Ed.hasSec hx).rng (row_range hr); simpa using this
  have rk : w.rangeAt KV 36 (nums .u8 lg.o.lock) := by have := (lg.hasO.trans (Ofr.hasLock hl.o)).rng (row_range hv'); simpa using this
  have SLs := hid (sl_mid rs hx.sec.1)
  have HT := hid ht
  have un := Tryd.underlying27
  have hil := hid (show (Tryd.prog.info? 27).map (·.size) = some (nums .u8 lg.o.lock).length by rw [nums_length, hl.o.ll]; exact infoH)
  have SW := fun (G : Nat) (wx : World) (hc : wx.cell? ⟨G, 0, none⟩ = some (.slice (some ⟨R, 174, none⟩) 32 32)) (hx' : Sl .u8 wx (some ⟨R, 174, none⟩) 32 32 x.sec) (htx : Tabs wx) => hid (sum1_walk G (some ⟨R, 174, none⟩) 32 32 x.sec wx hc hx' hx.sec.2 (by decide) htx)
  unfold SumRes at SW
  unfold Go.Proofs.YthccjefhlmngbaaDoor.hv at SW
  have HK := hid hk
  by_cases h0 : kc = 0
  · have t0 : ((kc : Int) == 0) = true := by simp [h0]
    rw [HK.out h0] at SW
    have n1 := neq_hv (xs := lg.o.lock) (ys := lg.o.lock) hl.o.ll hl.o.ll hl.o.lb hl.o.lb
    have g1 := guard_hv lg.o.lock lg.o.lock
    rw [decide_eq_true rfl] at n1
    unfold Go.Proofs.YthccjefhlmngbaaDoor.hv at n1 g1
    simp only [Bool.not_true] at n1
    clear hx hl ht hr hv' hk h0 rs e16 e17
    clear s e0 e1 e2 e7 e8 e10 e11
    conv => arg 2; whnf
    refine wp_region_held_drew (S := fun w' => Below w.heap.size w w') (by kernel_rfl) ((Below.refl _ _).drew) (fun hHeld => ?_)
    try simp only [List.size_toArray, List.length_cons, List.length_nil, Nat.reduceAdd, Array.replicate_succ, Array.replicate_zero, List.push_toArray, List.nil_append, List.cons_append]
    refine wpAnyH_take (i := 0) (oi := { dst := some 185, op := Op.move (Operand.tmp 17), type := 35, pos := "law.go:249", after := #[], guard := none }) (v := ?v4001) rfl (by kernel_rfl) (by kernel_rfl) (by kernel_rfl) (fun _ _ _ h => h) (Or.inl ⟨by rfl, ?hy4001⟩) hHeld ?_
    case hy4001 => (intro w hSw; (try dsimp only at hSw); go_simp; (try with_reducible rfl))
    (try simp only [Act.put, List.setIfInBounds_toArray, List.set_cons_zero, List.set_cons_succ])
    refine wpAnyH_take (i := 1) (oi := { dst := some 186, op := Op.binOp BinOp.eql 35 (Operand.tmp 185) (Operand.const (Value.int IntKind.i64 0)) 35, type := 4, pos := "law.go:249", after := #[{ on := 0, ground := Ground.data }], guard := none }) (v := ?v4002) rfl (by kernel_rfl) (by kernel_rfl) (by kernel_rfl) (fun _ _ _ h => h) (Or.inl ⟨by rfl, ?hy4002⟩) hHeld ?_
    case hy4002 => (intro w hSw; (try dsimp only at hSw); go_simp; (try with_reducible rfl))
    (try simp only [Act.put, List.setIfInBounds_toArray, List.set_cons_zero, List.set_cons_succ])
    refine wpAnyH_take (i := 2) (oi := { dst := some 187, op := Op.move (Operand.tmp 186), type := 4, pos := "law.go:249", after := #[{ on := 1, ground := Ground.data }], guard := none }) (v := ?v4003) rfl (by kernel_rfl) (by kernel_rfl) (by kernel_rfl) (fun _ _ _ h => h) (Or.inl ⟨by rfl, ?hy4003⟩) hHeld ?_
    case hy4003 => (intro w hSw; (try dsimp only at hSw); go_simp; (try with_reducible rfl))
    (try simp only [Act.put, List.setIfInBounds_toArray, List.set_cons_zero, List.set_cons_succ])
    refine wpAnyH_take (i := 3) (oi := { dst := some 188, op := Op.fieldAddr 60 (Operand.tmp 11) 7, type := 0, pos := "law.go:249", after := #[{ on := 2, ground := Ground.guard }], guard := some (2, true) }) (v := ?v4004) rfl (by kernel_rfl) (by kernel_rfl) (by kernel_rfl) (fun _ _ _ h => h) (Or.inl ⟨by rfl, ?hy4004⟩) hHeld ?_
    case hy4004 => (intro w hSw; (try dsimp only at hSw); go_simp; (try with_reducible rfl))
    (try simp only [Act.put, List.setIfInBounds_toArray, List.set_cons_zero, List.set_cons_succ])
    refine wpAnyH_take (i := 4) (oi := { dst := some 189, op := Op.slice 27 (Operand.tmp 188) none none none, type := 65, pos := "law.go:249", after := #[{ on := 3, ground := Ground.data }, { on := 2, ground := Ground.guard }], guard := some (2, true) }) (v := ?v4005) rfl (by kernel_rfl) (by kernel_rfl) (by kernel_rfl) (fun _ _ _ h => h) (Or.inl ⟨by rfl, ?hy4005⟩) hHeld ?_
    case hy4005 => (intro w hSw; (try dsimp only at hSw); go_simp; (try with_reducible rfl))
    (try simp only [Act.put, List.setIfInBounds_toArray, List.set_cons_zero, List.set_cons_succ])
    refine wpAnyH_take (i := 7) (oi := { dst := some 192, op := Op.fieldAddr 42 (Operand.tmp 16) 1, type := 0, pos := "law.go:249", after := #[{ on := 2, ground := Ground.guard }], guard := some (2, true) }) (v := ?v4006) rfl (by kernel_rfl) (by kernel_rfl) (by kernel_rfl) (fun _ _ _ h => h) (Or.inl ⟨by rfl, ?hy4006⟩) hHeld ?_
    case hy4006 => (intro w hSw; (try dsimp only at hSw); go_simp; (try with_reducible rfl))
    (try simp only [Act.put, List.setIfInBounds_toArray, List.set_cons_zero, List.set_cons_succ])
    refine wpAnyH_take (i := 8) (oi := { dst := some 193, op := Op.fieldAddr 40 (Operand.tmp 192) 4, type := 0, pos := "law.go:249", after := #[{ on := 7, ground := Ground.data }, { on := 2, ground := Ground.guard }], guard := some (2, true) }) (v := ?v4007) rfl (by kernel_rfl) (by kernel_rfl) (by kernel_rfl) (fun _ _ _ h => h) (Or.inl ⟨by rfl, ?hy4007⟩) hHeld ?_
    case hy4007 => (intro w hSw; (try dsimp only at hSw); go_simp; (try with_reducible rfl))
    (try simp only [Act.put, List.setIfInBounds_toArray, List.set_cons_zero, List.set_cons_succ])
    refine' wpAnyH_take (i := 9) (oi := { dst := some 194, op := Op.load 27 (Operand.tmp 193), type := 27, pos := "law.go:249", after := #[{ on := 8, ground := Ground.data }, { on := 2, ground := Ground.guard }], guard := some (2, true) }) (v := _) rfl (by kernel_rfl) (by kernel_rfl) (by kernel_rfl) (fun _ _ _ h => h) (yieldsIf_load_mid (by rfl) _ _ rfl KV 36 rfl (nums .u8 lg.o.lock) _ (fun _ h => range_keep h rk) un rfl hil.out) hHeld ?_
    (try simp only [Act.put, List.setIfInBounds_toArray, List.set_cons_zero, List.set_cons_succ])
    refine wpAnyH_ready (rs := [5]) (by kernel_rfl) (by simp) ?_
    refine AllReadyH.cons (o := { dst := some 190, op := Op.buildSlice 88 1 #[(0, Operand.tmp 189)], type := 88, pos := "law.go:249", after := #[{ on := 4, ground := Ground.data }, { on := 2, ground := Ground.guard }], guard := some (2, true) }) rfl (fun K hK => ?_) ?_
    go_simp; (first | refine newZ ?_ | refine newZd ?_); intro wp hp bp; have HP := hid hp; have BP := hid bp; clear hp bp
    refine hK.out _ _ (by first | exact hHeld.trans (BP.out.mono hHeld.size) | exact BP.out) (fun hHeld => ?_)
    clear hK K
    (try simp only [List.setIfInBounds_toArray, List.set_cons_zero, List.set_cons_succ])
    refine wpAnyH_ready (rs := [6]) (by kernel_rfl) (by simp) ?_
    refine AllReadyH.cons (o := { dst := some 191, op := Op.call { callee := Callee.value (Operand.func 21), args := #[Operand.tmp 190], argTypes := #[88] }, type := 27, pos := "law.go:249", after := #[{ on := 5, ground := Ground.data }, { on := 2, ground := Ground.chain }, { on := 2, ground := Ground.guard }], guard := some (2, true) }) rfl (fun K hK => ?_) ?_
    go_simp; refine (SW _ _ (gen_cell (j := 0) (row_range (L := [.slice (some ⟨R, 174, none⟩) 32 32]) HP.out) rfl) (SLs.out.below hHeld) (HT.out.below hHeld)).out.mono ?_; rintro e wt ⟨rfl, bt⟩; have BT := hid bt; clear bt
    refine hK.out _ _ (by first | exact hHeld.trans (BT.out.mono hHeld.size) | exact BT.out) (fun hHeld => ?_)
    clear hK K
    (try simp only [List.setIfInBounds_toArray, List.set_cons_zero, List.set_cons_succ])
    refine wpAnyH_take (i := 10) (oi := { dst := some 195, op := Op.binOp BinOp.neq 27 (Operand.tmp 191) (Operand.tmp 194) 27, type := 4, pos := "law.go:249", after := #[{ on := 6, ground := Ground.data }, { on := 9, ground := Ground.data }, { on := 2, ground := Ground.guard }], guard := some (2, true) }) (v := ?v4008) rfl (by kernel_rfl) (by kernel_rfl) (by kernel_rfl) (fun _ _ _ h => h) (Or.inl ⟨by rfl, ?hy4008⟩) hHeld ?_
    case hy4008 => (intro w hSw; (try dsimp only at hSw); go_simp; (try with_reducible rfl))
    (try simp only [Act.put, List.setIfInBounds_toArray, List.set_cons_zero, List.set_cons_succ])
    refine wpAnyH_take (i := 11) (oi := { dst := some 196, op := Op.pick (Operand.tmp 187) (Operand.tmp 195) (Operand.const (Value.bool false)), type := 4, pos := "law.go:249", after := #[{ on := 2, ground := Ground.data }, { on := 10, ground := Ground.data }], guard := none }) (v := ?v4009) rfl (by kernel_rfl) (by kernel_rfl) (by kernel_rfl) (fun _ _ _ h => h) (Or.inl ⟨by rfl, ?hy4009⟩) hHeld ?_
    case hy4009 => (intro w hSw; (try dsimp only at hSw); go_simp; (try with_reducible rfl))
    (try simp only [Act.put, List.setIfInBounds_toArray, List.set_cons_zero, List.set_cons_succ])
    refine wpAnyH_done (by kernel_rfl) ?_ _
    rotate_left
    exact AllReadyH.nil
    exact AllReadyH.nil
    all_goals exact ⟨rfl, ⟨rfl, rfl, rfl, rfl, rfl, rfl, rfl, rfl⟩, rfl, hHeld⟩
  · have t0 : ((kc : Int) == 0) = false := by simp [h0]
    clear hx hl ht hr hv' hk h0 rs e16 e17
    clear s e0 e1 e2 e7 e8 e10 e11
    conv => arg 2; whnf
    refine wp_region_held_drew (S := fun w' => Below w.heap.size w w') (by kernel_rfl) ((Below.refl _ _).drew) (fun hHeld => ?_)
    try simp only [List.size_toArray, List.length_cons, List.length_nil, Nat.reduceAdd, Array.replicate_succ, Array.replicate_zero, List.push_toArray, List.nil_append, List.cons_append]
    refine wpAnyH_take (i := 0) (oi := { dst := some 185, op := Op.move (Operand.tmp 17), type := 35, pos := "law.go:249", after := #[], guard := none }) (v := ?v5001) rfl (by kernel_rfl) (by kernel_rfl) (by kernel_rfl) (fun _ _ _ h => h) (Or.inl ⟨by rfl, ?hy5001⟩) hHeld ?_
    case hy5001 => (intro w hSw; (try dsimp only at hSw); go_simp; (try with_reducible rfl))
    (try simp only [Act.put, List.setIfInBounds_toArray, List.set_cons_zero, List.set_cons_succ])
    refine wpAnyH_take (i := 1) (oi := { dst := some 186, op := Op.binOp BinOp.eql 35 (Operand.tmp 185) (Operand.const (Value.int IntKind.i64 0)) 35, type := 4, pos := "law.go:249", after := #[{ on := 0, ground := Ground.data }], guard := none }) (v := ?v5002) rfl (by kernel_rfl) (by kernel_rfl) (by kernel_rfl) (fun _ _ _ h => h) (Or.inl ⟨by rfl, ?hy5002⟩) hHeld ?_
    case hy5002 => (intro w hSw; (try dsimp only at hSw); go_simp; (try with_reducible rfl))
    (try simp only [Act.put, List.setIfInBounds_toArray, List.set_cons_zero, List.set_cons_succ])
    refine wpAnyH_take (i := 2) (oi := { dst := some 187, op := Op.move (Operand.tmp 186), type := 4, pos := "law.go:249", after := #[{ on := 1, ground := Ground.data }], guard := none }) (v := ?v5003) rfl (by kernel_rfl) (by kernel_rfl) (by kernel_rfl) (fun _ _ _ h => h) (Or.inl ⟨by rfl, ?hy5003⟩) hHeld ?_
    case hy5003 => (intro w hSw; (try dsimp only at hSw); go_simp; (try with_reducible rfl))
    (try simp only [Act.put, List.setIfInBounds_toArray, List.set_cons_zero, List.set_cons_succ])
    refine wpAnyH_take (i := 3) (oi := { dst := some 188, op := Op.fieldAddr 60 (Operand.tmp 11) 7, type := 0, pos := "law.go:249", after := #[{ on := 2, ground := Ground.guard }], guard := some (2, true) }) (v := undef) rfl (by kernel_rfl) (by kernel_rfl) (by kernel_rfl) (fun _ _ _ h => h) (Or.inr ⟨by rfl, rfl⟩) hHeld ?_
    (try simp only [Act.put, List.setIfInBounds_toArray, List.set_cons_zero, List.set_cons_succ])
    refine wpAnyH_take (i := 4) (oi := { dst := some 189, op := Op.slice 27 (Operand.tmp 188) none none none, type := 65, pos := "law.go:249", after := #[{ on := 3, ground := Ground.data }, { on := 2, ground := Ground.guard }], guard := some (2, true) }) (v := undef) rfl (by kernel_rfl) (by kernel_rfl) (by kernel_rfl) (fun _ _ _ h => h) (Or.inr ⟨by rfl, rfl⟩) hHeld ?_
    (try simp only [Act.put, List.setIfInBounds_toArray, List.set_cons_zero, List.set_cons_succ])
    refine wpAnyH_take (i := 5) (oi := { dst := some 190, op := Op.buildSlice 88 1 #[(0, Operand.tmp 189)], type := 88, pos := "law.go:249", after := #[{ on := 4, ground := Ground.data }, { on := 2, ground := Ground.guard }], guard := some (2, true) }) (v := undef) rfl (by kernel_rfl) (by kernel_rfl) (by kernel_rfl) (fun _ _ _ h => h) (Or.inr ⟨by rfl, rfl⟩) hHeld ?_
    (try simp only [Act.put, List.setIfInBounds_toArray, List.set_cons_zero, List.set_cons_succ])
    refine wpAnyH_take (i := 6) (oi := { dst := some 191, op := Op.call { callee := Callee.value (Operand.func 21), args := #[Operand.tmp 190], argTypes := #[88] }, type := 27, pos := "law.go:249", after := #[{ on := 5, ground := Ground.data }, { on := 2, ground := Ground.chain }, { on := 2, ground := Ground.guard }], guard := some (2, true) }) (v := undef) rfl (by kernel_rfl) (by kernel_rfl) (by kernel_rfl) (fun _ _ _ h => h) (Or.inr ⟨by rfl, rfl⟩) hHeld ?_
    (try simp only [Act.put, List.setIfInBounds_toArray, List.set_cons_zero, List.set_cons_succ])
    refine wpAnyH_take (i := 7) (oi := { dst := some 192, op := Op.fieldAddr 42 (Operand.tmp 16) 1, type := 0, pos := "law.go:249", after := #[{ on := 2, ground := Ground.guard }], guard := some (2, true) }) (v := undef) rfl (by kernel_rfl) (by kernel_rfl) (by kernel_rfl) (fun _ _ _ h => h) (Or.inr ⟨by rfl, rfl⟩) hHeld ?_
    (try simp only [Act.put, List.setIfInBounds_toArray, List.set_cons_zero, List.set_cons_succ])
    refine wpAnyH_take (i := 8) (oi := { dst := some 193, op := Op.fieldAddr 40 (Operand.tmp 192) 4, type := 0, pos := "law.go:249", after := #[{ on := 7, ground := Ground.data }, { on := 2, ground := Ground.guard }], guard := some (2, true) }) (v := undef) rfl (by kernel_rfl) (by kernel_rfl) (by kernel_rfl) (fun _ _ _ h => h) (Or.inr ⟨by rfl, rfl⟩) hHeld ?_
    (try simp only [Act.put, List.setIfInBounds_toArray, List.set_cons_zero, List.set_cons_succ])
    refine wpAnyH_take (i := 9) (oi := { dst := some 194, op := Op.load 27 (Operand.tmp 193), type := 27, pos := "law.go:249", after := #[{ on := 8, ground := Ground.data }, { on := 2, ground := Ground.guard }], guard := some (2, true) }) (v := undef) rfl (by kernel_rfl) (by kernel_rfl) (by kernel_rfl) (fun _ _ _ h => h) (Or.inr ⟨by rfl, rfl⟩) hHeld ?_
    (try simp only [Act.put, List.setIfInBounds_toArray, List.set_cons_zero, List.set_cons_succ])
    refine wpAnyH_take (i := 10) (oi := { dst := some 195, op := Op.binOp BinOp.neq 27 (Operand.tmp 191) (Operand.tmp 194) 27, type := 4, pos := "law.go:249", after := #[{ on := 6, ground := Ground.data }, { on := 9, ground := Ground.data }, { on := 2, ground := Ground.guard }], guard := some (2, true) }) (v := undef) rfl (by kernel_rfl) (by kernel_rfl) (by kernel_rfl) (fun _ _ _ h => h) (Or.inr ⟨by rfl, rfl⟩) hHeld ?_
    (try simp only [Act.put, List.setIfInBounds_toArray, List.set_cons_zero, List.set_cons_succ])
    refine wpAnyH_take (i := 11) (oi := { dst := some 196, op := Op.pick (Operand.tmp 187) (Operand.tmp 195) (Operand.const (Value.bool false)), type := 4, pos := "law.go:249", after := #[{ on := 2, ground := Ground.data }, { on := 10, ground := Ground.data }], guard := none }) (v := ?v5004) rfl (by kernel_rfl) (by kernel_rfl) (by kernel_rfl) (fun _ _ _ h => h) (Or.inl ⟨by rfl, ?hy5004⟩) hHeld ?_
    case hy5004 => (intro w hSw; (try dsimp only at hSw); go_simp; (try with_reducible rfl))
    (try simp only [Act.put, List.setIfInBounds_toArray, List.set_cons_zero, List.set_cons_succ])
    refine wpAnyH_done (by kernel_rfl) ?_ _
    rotate_left
    all_goals exact ⟨rfl, ⟨rfl, rfl, rfl, rfl, rfl, rfl, rfl, rfl⟩, rfl, hHeld⟩
end Go.Proofs.YthccjefhlmngbaaDoor

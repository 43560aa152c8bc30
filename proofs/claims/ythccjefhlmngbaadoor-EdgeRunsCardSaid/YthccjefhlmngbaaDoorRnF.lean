/- EdgeRuns: regions 42 and 48. Printed by wip/rnf.py. -/
import Derived.Test.YthccjefhlmngbaaDoorRn1
import Derived.Test.YthccjefhlmngbaaDoorKq
namespace Go.Proofs.YthccjefhlmngbaaDoor
open Go.RowKit

noncomputable def rnR (n : Nat) : Code := (Tryd.f5.body.bind (findR n)).getD .skip
structure ASl (dl : Int) (qv sv : Value) (tb t2 eb : Nat) (va : Value) (k R X Y : Nat) (i o c : Int) (T : Array Value) : Prop where
  s : RSl dl qv sv tb t2 eb va k T
  t19 : tm T 19 = .pointer (some ⟨R, 0, none⟩)
  t20 : tm T 20 = .int .i64 i
  t21 : tm T 21 = .int .i64 o
  t28 : tm T 28 = .int .i64 0
  t29 : tm T 29 = .int .i64 c
  t30 : tm T 30 = .pointer (some ⟨X, 0, none⟩)
  t31 : tm T 31 = .pointer (some ⟨Y, 0, none⟩)
structure BSl (dl : Int) (qv sv : Value) (tb t2 eb : Nat) (va : Value) (k R X Y P Q G : Nat) (i o c : Int) (se kn : Bool) (T : Array Value) : Prop where
  a : ASl dl qv sv tb t2 eb va k R X Y i o c T
  t32 : tm T 32 = .pointer (some ⟨P, 0, none⟩)
  t33 : tm T 33 = .pointer (some ⟨Q, 0, none⟩)
  t34 : tm T 34 = .bool se
  t35 : tm T 35 = .pointer (some ⟨G, 0, none⟩)
  t36 : tm T 36 = .bool kn
def Run42 (dl : Int) (qv sv : Value) (tb t2 eb : Nat) (va : Value) (k R X Y : Nat) (i o c : Int) (x : Ed) (w : World) : Exit → Act → World → Prop
  | .normal, A, w' => A.defers = [] ∧ ASl dl qv sv tb t2 eb va k R X Y i o c A.tmps ∧ Below w.heap.size w w' ∧ ∃ P Q, tm A.tmps 32 = .pointer (some ⟨P, 0, none⟩) ∧ tm A.tmps 33 = .pointer (some ⟨Q, 0, none⟩) ∧
      w'.heap[P]? = some (.cells x.inn.o.cells.toArray 40 (0, 0)) ∧ w'.heap[Q]? = some (.cells x.out.o.cells.toArray 40 (0, 0)) ∧ w.heap.size ≤ P ∧ w.heap.size ≤ Q ∧ P ≠ Q
  | _, _, _ => False
set_option maxRecDepth 1000000 in
set_option maxHeartbeats 16000000 in
theorem run42 (dl : Int) (qv sv : Value) (tb t2 eb : Nat) (va : Value) (k R X Y : Nat) (i o c : Int) (x : Ed) (T : Array Value) (w : World) (h : ASl dl qv sv tb t2 eb va k R X Y i o c T) (hx : x.ok) (hr : w.heap[R]? = some (.cells x.cells.toArray 60 (0, 0))) :
    (rnR 42).wp Tryd.prog (Run42 dl qv sv tb t2 eb va k R X Y i o c x w) ⟨T, []⟩ w := by
  rw [frameR h.s.size, h.s.t0, h.s.t1, h.s.t02, h.s.t7, h.s.t8, h.s.t9, h.s.t17, h.s.t18, h.t19, h.t20, h.t21, h.t28, h.t29, h.t30, h.t31]
  have ra : w.rangeAt R 2 x.inn.o.cells := by have := (x.hasIn.trans x.inn.hasO).rng (row_range hr); exact this
  have rb : w.rangeAt R 71 x.out.o.cells := by have := ((Ed.hasOut hx).trans x.out.hasO).rng (row_range hr); exact this
  have un := Tryd.underlying40
  have hia := hid (infoOl hx.i.o)
  have hib := hid (infoOl hx.o.o)
  have aia := hid (infoOa hx.i.o)
  have aib := hid (infoOa hx.o.o)
  have zia := hid (zO_as hx.i.o)
  have zib := hid (zO_as hx.o.o)
  have oia := hid (all_oneCell_toArray (Ofr.one x.inn.o))
  have oib := hid (all_oneCell_toArray (Ofr.one x.out.o))
  have ZO := zeroO
  have hneO := zO_ne
  clear hx hr h
  conv => arg 2; whnf
  refine wp_region_held_drew (S := fun w' => Below w.heap.size w w') (by kernel_rfl) ((Below.refl _ _).drew) (fun hHeld => ?_)
  try simp only [List.size_toArray, List.length_cons, List.length_nil, Nat.reduceAdd, Array.replicate_succ, Array.replicate_zero, List.push_toArray, List.nil_append, List.cons_append]
  refine wpAnyH_take (i := 0) (oi := { dst := some 219, op := Op.fieldAddr 60 (Operand.tmp 19) 1, type := 0, pos := "law.go:124", after := #[], guard := none }) (v := ?v1001) rfl (by kernel_rfl) (by kernel_rfl) (by kernel_rfl) (fun _ _ _ h => h) (Or.inl ⟨by rfl, ?hy1001⟩) hHeld ?_
  case hy1001 => (intro w hSw; (try dsimp only at hSw); go_simp; (try with_reducible rfl))
  (try simp only [Act.put, List.setIfInBounds_toArray, List.set_cons_zero, List.set_cons_succ])
  refine wpAnyH_take (i := 1) (oi := { dst := some 220, op := Op.fieldAddr 42 (Operand.tmp 219) 1, type := 0, pos := "law.go:124", after := #[{ on := 0, ground := Ground.data }], guard := none }) (v := ?v1002) rfl (by kernel_rfl) (by kernel_rfl) (by kernel_rfl) (fun _ _ _ h => h) (Or.inl ⟨by rfl, ?hy1002⟩) hHeld ?_
  case hy1002 => (intro w hSw; (try dsimp only at hSw); go_simp; (try with_reducible rfl))
  (try simp only [Act.put, List.setIfInBounds_toArray, List.set_cons_zero, List.set_cons_succ])
  refine' wpAnyH_take (i := 2) (oi := { dst := some 221, op := Op.load 40 (Operand.tmp 220), type := 40, pos := "law.go:124", after := #[{ on := 1, ground := Ground.data }], guard := none }) (v := _) rfl (by kernel_rfl) (by kernel_rfl) (by kernel_rfl) (fun _ _ _ h => h) (yieldsIf_load_mid (by rfl) _ _ rfl R 2 rfl x.inn.o.cells _ (fun _ h => range_keep h ra) un rfl hia.out) hHeld ?_
  (try simp only [Act.put, List.setIfInBounds_toArray, List.set_cons_zero, List.set_cons_succ])
  refine wpAnyH_take (i := 3) (oi := { dst := some 222, op := Op.fieldAddr 60 (Operand.tmp 19) 2, type := 0, pos := "law.go:124", after := #[{ on := 8, ground := Ground.gcOnly Departure.lateStores }], guard := none }) (v := ?v1003) rfl (by kernel_rfl) (by kernel_rfl) (by kernel_rfl) (fun _ _ _ h => h) (Or.inl ⟨by rfl, ?hy1003⟩) hHeld ?_
  case hy1003 => (intro w hSw; (try dsimp only at hSw); go_simp; (try with_reducible rfl))
  (try simp only [Act.put, List.setIfInBounds_toArray, List.set_cons_zero, List.set_cons_succ])
  refine wpAnyH_take (i := 4) (oi := { dst := some 223, op := Op.fieldAddr 42 (Operand.tmp 222) 1, type := 0, pos := "law.go:124", after := #[{ on := 3, ground := Ground.data }, { on := 8, ground := Ground.gcOnly Departure.lateStores }], guard := none }) (v := ?v1004) rfl (by kernel_rfl) (by kernel_rfl) (by kernel_rfl) (fun _ _ _ h => h) (Or.inl ⟨by rfl, ?hy1004⟩) hHeld ?_
  case hy1004 => (intro w hSw; (try dsimp only at hSw); go_simp; (try with_reducible rfl))
  (try simp only [Act.put, List.setIfInBounds_toArray, List.set_cons_zero, List.set_cons_succ])
  refine' wpAnyH_take (i := 5) (oi := { dst := some 224, op := Op.load 40 (Operand.tmp 223), type := 40, pos := "law.go:124", after := #[{ on := 4, ground := Ground.data }, { on := 8, ground := Ground.gcOnly Departure.lateStores }], guard := none }) (v := _) rfl (by kernel_rfl) (by kernel_rfl) (by kernel_rfl) (fun _ _ _ h => h) (yieldsIf_load_mid (by rfl) _ _ rfl R 71 rfl x.out.o.cells _ (fun _ h => range_keep h rb) un rfl hib.out) hHeld ?_
  (try simp only [Act.put, List.setIfInBounds_toArray, List.set_cons_zero, List.set_cons_succ])
  refine wpAnyH_ready (rs := [6, 7]) (by kernel_rfl) (by simp) ?_
  refine AllReadyH.cons (o := { dst := some 32, op := Op.alloc 40, type := 0, pos := "law.go:124", after := #[], guard := none }) rfl (fun K hK => ?_) ?_
  have hs4 := hHeld.size; go_simp; (first | refine newZ ?_ | refine newZd ?_); intro wa1 ha1 ba1; have Ha1 := hid ha1; have Ba1 := hid ba1; have la1 := (Array.getElem?_eq_some_iff.1 ha1).1; clear ha1 ba1
  refine hK.out _ _ (by first | exact hHeld.trans (Ba1.out.mono hHeld.size) | exact Ba1.out) (fun hHeld => ?_)
  clear hK K
  (try simp only [List.setIfInBounds_toArray, List.set_cons_zero, List.set_cons_succ])
  refine wpAnyH_ready (rs := [7]) (by kernel_rfl) (by simp) ?_
  refine AllReadyH.cons (o := { dst := some 33, op := Op.alloc 40, type := 0, pos := "law.go:124", after := #[], guard := none }) rfl (fun K hK => ?_) ?_
  have hs5 := hHeld.size; go_simp; (first | refine newZ ?_ | refine newZd ?_); intro wb1 hb1 bb1; have Hb1 := hid hb1; have Bb1 := hid bb1; have lb1 := (Array.getElem?_eq_some_iff.1 hb1).1; clear hb1 bb1
  refine hK.out _ _ (by first | exact hHeld.trans (Bb1.out.mono hHeld.size) | exact Bb1.out) (fun hHeld => ?_)
  clear hK K
  (try simp only [List.setIfInBounds_toArray, List.set_cons_zero, List.set_cons_succ])
  refine wpAnyH_ready (rs := [8]) (by kernel_rfl) (by simp) ?_
  refine AllReadyH.cons (o := { dst := none, op := Op.store 40 (Operand.tmp 32) (Operand.tmp 221), type := 0, pos := "law.go:124", after := #[{ on := 6, ground := Ground.data }, { on := 2, ground := Ground.data }, { on := 0, ground := Ground.phase }, { on := 1, ground := Ground.phase }, { on := 2, ground := Ground.phase }, { on := 3, ground := Ground.textOnly Departure.lateStores }, { on := 4, ground := Ground.textOnly Departure.lateStores }, { on := 5, ground := Ground.textOnly Departure.lateStores }, { on := 6, ground := Ground.phase }, { on := 7, ground := Ground.phase }], guard := none }) rfl (fun K hK => ?_) ?_
  rw [if_pos (by rfl)]; refine wp_store_row _ _ _ rfl _ x.inn.o.cells.toArray rfl rfl _ _ (by first | exact Ha1.out | exact heap_keep Ha1.out Bb1.out) aia.out zia.out oia.out ?_
  refine hK.out _ _ (below_setRow hHeld (by omega) _) (fun hHeld => ?_)
  clear hK K
  (try simp only [List.setIfInBounds_toArray, List.set_cons_zero, List.set_cons_succ])
  refine wpAnyH_ready (rs := [9]) (by kernel_rfl) (by simp) ?_
  refine AllReadyH.cons (o := { dst := none, op := Op.store 40 (Operand.tmp 33) (Operand.tmp 224), type := 0, pos := "law.go:124", after := #[{ on := 7, ground := Ground.data }, { on := 5, ground := Ground.data }, { on := 8, ground := Ground.chain }, { on := 0, ground := Ground.phase }, { on := 1, ground := Ground.phase }, { on := 2, ground := Ground.phase }, { on := 3, ground := Ground.phase }, { on := 4, ground := Ground.phase }, { on := 5, ground := Ground.phase }, { on := 6, ground := Ground.phase }, { on := 7, ground := Ground.phase }, { on := 8, ground := Ground.phase }], guard := none }) rfl (fun K hK => ?_) ?_
  rw [if_pos (by rfl)]; refine wp_store_row _ _ _ rfl _ x.out.o.cells.toArray rfl rfl _ _ (by rw [setRow_other _ _ _ _ (by omega)]; first | exact Hb1.out | exact heap_keep Hb1.out Ba1.out) aib.out zib.out oib.out ?_
  refine hK.out _ _ (below_setRow hHeld (by omega) _) (fun hHeld => ?_)
  clear hK K
  (try simp only [List.setIfInBounds_toArray, List.set_cons_zero, List.set_cons_succ])
  refine wpAnyH_done (by kernel_rfl) ?_ _
  rotate_left
  exact AllReadyH.nil
  exact AllReadyH.nil
  exact AllReadyH.nil
  refine AllReadyH.cons (o := { dst := some 33, op := Op.alloc 40, type := 0, pos := "law.go:124", after := #[], guard := none }) rfl (fun K hK => ?_) ?_
  have hs5 := hHeld.size; go_simp; (first | refine newZ ?_ | refine newZd ?_); intro wb1 hb1 bb1; have Hb1 := hid hb1; have Bb1 := hid bb1; have lb1 := (Array.getElem?_eq_some_iff.1 hb1).1; clear hb1 bb1
  refine hK.out _ _ (by first | exact hHeld.trans (Bb1.out.mono hHeld.size) | exact Bb1.out) (fun hHeld => ?_)
  clear hK K
  (try simp only [List.setIfInBounds_toArray, List.set_cons_zero, List.set_cons_succ])
  refine wpAnyH_ready (rs := [6]) (by kernel_rfl) (by simp) ?_
  refine AllReadyH.cons (o := { dst := some 32, op := Op.alloc 40, type := 0, pos := "law.go:124", after := #[], guard := none }) rfl (fun K hK => ?_) ?_
  have hs4 := hHeld.size; go_simp; (first | refine newZ ?_ | refine newZd ?_); intro wa1 ha1 ba1; have Ha1 := hid ha1; have Ba1 := hid ba1; have la1 := (Array.getElem?_eq_some_iff.1 ha1).1; clear ha1 ba1
  refine hK.out _ _ (by first | exact hHeld.trans (Ba1.out.mono hHeld.size) | exact Ba1.out) (fun hHeld => ?_)
  clear hK K
  (try simp only [List.setIfInBounds_toArray, List.set_cons_zero, List.set_cons_succ])
  refine wpAnyH_ready (rs := [8]) (by kernel_rfl) (by simp) ?_
  refine AllReadyH.cons (o := { dst := none, op := Op.store 40 (Operand.tmp 32) (Operand.tmp 221), type := 0, pos := "law.go:124", after := #[{ on := 6, ground := Ground.data }, { on := 2, ground := Ground.data }, { on := 0, ground := Ground.phase }, { on := 1, ground := Ground.phase }, { on := 2, ground := Ground.phase }, { on := 3, ground := Ground.textOnly Departure.lateStores }, { on := 4, ground := Ground.textOnly Departure.lateStores }, { on := 5, ground := Ground.textOnly Departure.lateStores }, { on := 6, ground := Ground.phase }, { on := 7, ground := Ground.phase }], guard := none }) rfl (fun K hK => ?_) ?_
  rw [if_pos (by rfl)]; refine wp_store_row _ _ _ rfl _ x.inn.o.cells.toArray rfl rfl _ _ (by first | exact Ha1.out | exact heap_keep Ha1.out Bb1.out) aia.out zia.out oia.out ?_
  refine hK.out _ _ (below_setRow hHeld (by omega) _) (fun hHeld => ?_)
  clear hK K
  (try simp only [List.setIfInBounds_toArray, List.set_cons_zero, List.set_cons_succ])
  refine wpAnyH_ready (rs := [9]) (by kernel_rfl) (by simp) ?_
  refine AllReadyH.cons (o := { dst := none, op := Op.store 40 (Operand.tmp 33) (Operand.tmp 224), type := 0, pos := "law.go:124", after := #[{ on := 7, ground := Ground.data }, { on := 5, ground := Ground.data }, { on := 8, ground := Ground.chain }, { on := 0, ground := Ground.phase }, { on := 1, ground := Ground.phase }, { on := 2, ground := Ground.phase }, { on := 3, ground := Ground.phase }, { on := 4, ground := Ground.phase }, { on := 5, ground := Ground.phase }, { on := 6, ground := Ground.phase }, { on := 7, ground := Ground.phase }, { on := 8, ground := Ground.phase }], guard := none }) rfl (fun K hK => ?_) ?_
  rw [if_pos (by rfl)]; refine wp_store_row _ _ _ rfl _ x.out.o.cells.toArray rfl rfl _ _ (by rw [setRow_other _ _ _ _ (by omega)]; first | exact Hb1.out | exact heap_keep Hb1.out Ba1.out) aib.out zib.out oib.out ?_
  refine hK.out _ _ (below_setRow hHeld (by omega) _) (fun hHeld => ?_)
  clear hK K
  (try simp only [List.setIfInBounds_toArray, List.set_cons_zero, List.set_cons_succ])
  refine wpAnyH_done (by kernel_rfl) ?_ _
  rotate_left
  exact AllReadyH.nil
  exact AllReadyH.nil
  exact AllReadyH.nil
  exact AllReadyH.nil
  all_goals
    refine ⟨rfl, ⟨⟨rfl, rfl, rfl, rfl, rfl, rfl, rfl, rfl, rfl⟩, rfl, rfl, rfl, rfl, rfl, rfl, rfl⟩, hHeld, _, _, rfl, rfl, ?_, ?_, ?_, ?_, ?_⟩
    · rw [setRow_other _ _ _ _ (by omega)]; exact setRow_heap _ _ _ _ _ _ (by first | exact Ha1.out | exact heap_keep Ha1.out Bb1.out)
    · exact setRow_heap _ _ _ _ _ _ (by rw [setRow_other _ _ _ _ (by omega)]; first | exact Hb1.out | exact heap_keep Hb1.out Ba1.out)
    · omega
    · omega
    · omega
def Run48 (dl : Int) (qv sv : Value) (tb t2 eb : Nat) (va : Value) (k R X Y P Q G : Nat) (i o c : Int) (se kn : Bool) (x : Ed) (w : World) : Exit → Act → World → Prop
  | .normal, A, w' => A.defers = [] ∧ BSl dl qv sv tb t2 eb va k R X Y P Q G i o c se kn A.tmps ∧ tm A.tmps 252 = .bool (argB x.inn x.out) ∧ Below w.heap.size w w'
  | _, _, _ => False
theorem isH_low {n : Int} (h : n < 0) : isH n = false := by unfold isH; simp; omega
theorem isH_high {n : Int} (h : 1073741824 < n) : isH n = false := by unfold isH; simp; omega
theorem isH_mid {n : Int} (h : ¬ n < 0) (k : ¬ 1073741824 < n) : isH n = true := by unfold isH; simp; omega
set_option maxRecDepth 1000000 in
set_option maxHeartbeats 16000000 in
theorem run48 (dl : Int) (qv sv : Value) (tb t2 eb : Nat) (va : Value) (k R X Y P Q G : Nat) (i o c : Int) (se kn : Bool) (x : Ed) (T : Array Value) (w : World) (h' : BSl dl qv sv tb t2 eb va k R X Y P Q G i o c se kn T) (hx : x.ok) (hr : w.heap[R]? = some (.cells x.cells.toArray 60 (0, 0))) :
    (rnR 48).wp Tryd.prog (Run48 dl qv sv tb t2 eb va k R X Y P Q G i o c se kn x w) ⟨T, []⟩ w := by
  have h := h'.a
  rw [frameR h.s.size, h.s.t0, h.s.t1, h.s.t02, h.s.t7, h.s.t8, h.s.t9, h.s.t17, h.s.t18, h.t19, h.t20, h.t21, h.t28, h.t29, h.t30, h.t31, h'.t32, h'.t33, h'.t34, h'.t35, h'.t36]
  have r6 := row_range hr
  have l1 : w.cell? ⟨R, 1, none⟩ = some (.int .i64 x.inn.line) := (x.hasIn.trans x.inn.hasLine).one r6
  have l2 : w.cell? ⟨R, 70, none⟩ = some (.int .i64 x.out.line) := ((Ed.hasOut hx).trans x.out.hasLine).one r6
  have u1 : w.cell? ⟨R, 69, none⟩ = some (.int .i64 x.inn.o.til) := (x.hasIn.trans (x.inn.hasO.trans (Ofr.hasTil hx.i.o))).one r6
  have u2 : w.cell? ⟨R, 138, none⟩ = some (.int .i64 x.out.o.til) := ((Ed.hasOut hx).trans (x.out.hasO.trans (Ofr.hasTil hx.o.o))).one r6
  have k1 : w.rangeAt R 37 (nums .u8 x.inn.o.lock) := by have := (x.hasIn.trans (x.inn.hasO.trans (Ofr.hasLock hx.i.o))).rng r6; exact this
  have k2 : w.rangeAt R 106 (nums .u8 x.out.o.lock) := by have := ((Ed.hasOut hx).trans (x.out.hasO.trans (Ofr.hasLock hx.o.o))).rng r6; exact this
  have i1 : w.rangeAt R 4 (nums .u8 x.inn.o.id) := by have := (x.hasIn.trans (x.inn.hasO.trans x.inn.o.hasId)).rng r6; exact this
  have i2 : w.rangeAt R 73 (nums .u8 x.out.o.id) := by have := ((Ed.hasOut hx).trans (x.out.hasO.trans x.out.o.hasId)).rng r6; exact this
  have un := Tryd.underlying27
  have hk1 := hid (show (Tryd.prog.info? 27).map (·.size) = some (nums .u8 x.inn.o.lock).length by rw [nums_length, hx.i.o.ll]; exact infoH)
  have hk2 := hid (show (Tryd.prog.info? 27).map (·.size) = some (nums .u8 x.out.o.lock).length by rw [nums_length, hx.o.o.ll]; exact infoH)
  have hi1 := hid (show (Tryd.prog.info? 27).map (·.size) = some (nums .u8 x.inn.o.id).length by rw [nums_length, hx.i.o.il]; exact infoH)
  have hi2 := hid (show (Tryd.prog.info? 27).map (·.size) = some (nums .u8 x.out.o.id).length by rw [nums_length, hx.o.o.il]; exact infoH)
  have nq := neq_hv (xs := x.inn.o.lock) (ys := x.out.o.lock) hx.i.o.ll hx.o.o.ll hx.i.o.lb hx.o.o.lb
  have ng := guard_hv x.inn.o.lock x.out.o.lock
  have q1 := eql_hv (xs := x.inn.o.id) (ys := hz32) hx.i.o.il hz32_ok.1 hx.i.o.ib hz32_ok.2
  have g1 := guard_hv x.inn.o.id hz32
  have q2 := eql_hv (xs := x.out.o.id) (ys := hz32) hx.o.o.il hz32_ok.1 hx.o.o.ib hz32_ok.2
  have g2 := guard_hv x.out.o.id hz32
  unfold Go.Proofs.YthccjefhlmngbaaDoor.hv at nq ng q1 g1 q2 g2
  have bz := bhz
  have RES : argB x.inn x.out = (decide (x.inn.line = x.out.line) || (!decide (x.inn.o.lock = x.out.o.lock) || ((decide (x.inn.o.id = hz32) == decide (x.out.o.id = hz32)) || (!isH x.inn.o.til || !isH x.out.o.til)))) := rfl
  obtain ⟨bl, hbl⟩ : ∃ bl, decide (x.inn.line = x.out.line) = bl := ⟨_, rfl⟩
  obtain ⟨bk, hbk⟩ : ∃ bk, decide (x.inn.o.lock = x.out.o.lock) = bk := ⟨_, rfl⟩
  obtain ⟨b1, hb1⟩ : ∃ b1, decide (x.inn.o.id = hz32) = b1 := ⟨_, rfl⟩
  obtain ⟨b2, hb2⟩ : ∃ b2, decide (x.out.o.id = hz32) = b2 := ⟨_, rfl⟩
  have tl : (x.inn.line == x.out.line) = bl := by rw [← hbl]; rfl
  rw [hbk] at nq
  rw [hb1] at q1
  rw [hb2] at q2
  rw [hbl, hbk, hb1, hb2] at RES
  have HR := hid RES
  obtain ⟨ta, hta⟩ : ∃ ta, x.inn.o.til = ta := ⟨_, rfl⟩
  obtain ⟨tc, htc⟩ : ∃ tc, x.out.o.til = tc := ⟨_, rfl⟩
  rw [hta, htc] at HR
  rw [hta] at u1
  rw [htc] at u2
  clear h h' hx hr r6 RES hbl hbk hb1 hb2 hta htc
  conv => arg 2; whnf
  refine wp_region_held_drew (S := fun w' => Below w.heap.size w w') (by kernel_rfl) ((Below.refl _ _).drew) (fun hHeld => ?_)
  try simp only [List.size_toArray, List.length_cons, List.length_nil, Nat.reduceAdd, Array.replicate_succ, Array.replicate_zero, List.push_toArray, List.nil_append, List.cons_append]
  refine wpAnyH_take (i := 0) (oi := { dst := some 253, op := Op.fieldAddr 60 (Operand.tmp 19) 1, type := 0, pos := "law.go:131", after := #[], guard := none }) (v := ?v17001) rfl (by kernel_rfl) (by kernel_rfl) (by kernel_rfl) (fun _ _ _ h => h) (Or.inl ⟨by rfl, ?hy17001⟩) hHeld ?_
  case hy17001 => (intro w hSw; (try dsimp only at hSw); go_simp; (try with_reducible rfl))
  (try simp only [Act.put, List.setIfInBounds_toArray, List.set_cons_zero, List.set_cons_succ])
  refine wpAnyH_take (i := 1) (oi := { dst := some 254, op := Op.fieldAddr 42 (Operand.tmp 253) 0, type := 0, pos := "law.go:131", after := #[{ on := 0, ground := Ground.data }], guard := none }) (v := ?v17002) rfl (by kernel_rfl) (by kernel_rfl) (by kernel_rfl) (fun _ _ _ h => h) (Or.inl ⟨by rfl, ?hy17002⟩) hHeld ?_
  case hy17002 => (intro w hSw; (try dsimp only at hSw); go_simp; (try with_reducible rfl))
  (try simp only [Act.put, List.setIfInBounds_toArray, List.set_cons_zero, List.set_cons_succ])
  refine wpAnyH_take (i := 2) (oi := { dst := some 255, op := Op.load 3 (Operand.tmp 254), type := 3, pos := "law.go:131", after := #[{ on := 1, ground := Ground.data }], guard := none }) (v := (.int .i64 x.inn.line)) rfl (by kernel_rfl) (by kernel_rfl) (by kernel_rfl) (fun _ _ _ h => h) (Or.inl ⟨by rfl, fun w h => by have c1 := cell_keep h l1; go_simp⟩) hHeld ?_
  (try simp only [Act.put, List.setIfInBounds_toArray, List.set_cons_zero, List.set_cons_succ])
  refine wpAnyH_take (i := 3) (oi := { dst := some 256, op := Op.fieldAddr 60 (Operand.tmp 19) 2, type := 0, pos := "law.go:131", after := #[], guard := none }) (v := ?v17003) rfl (by kernel_rfl) (by kernel_rfl) (by kernel_rfl) (fun _ _ _ h => h) (Or.inl ⟨by rfl, ?hy17003⟩) hHeld ?_
  case hy17003 => (intro w hSw; (try dsimp only at hSw); go_simp; (try with_reducible rfl))
  (try simp only [Act.put, List.setIfInBounds_toArray, List.set_cons_zero, List.set_cons_succ])
  refine wpAnyH_take (i := 4) (oi := { dst := some 257, op := Op.fieldAddr 42 (Operand.tmp 256) 0, type := 0, pos := "law.go:131", after := #[{ on := 3, ground := Ground.data }], guard := none }) (v := ?v17004) rfl (by kernel_rfl) (by kernel_rfl) (by kernel_rfl) (fun _ _ _ h => h) (Or.inl ⟨by rfl, ?hy17004⟩) hHeld ?_
  case hy17004 => (intro w hSw; (try dsimp only at hSw); go_simp; (try with_reducible rfl))
  (try simp only [Act.put, List.setIfInBounds_toArray, List.set_cons_zero, List.set_cons_succ])
  refine wpAnyH_take (i := 5) (oi := { dst := some 258, op := Op.load 3 (Operand.tmp 257), type := 3, pos := "law.go:131", after := #[{ on := 4, ground := Ground.data }], guard := none }) (v := (.int .i64 x.out.line)) rfl (by kernel_rfl) (by kernel_rfl) (by kernel_rfl) (fun _ _ _ h => h) (Or.inl ⟨by rfl, fun w h => by have c1 := cell_keep h l2; go_simp⟩) hHeld ?_
  (try simp only [Act.put, List.setIfInBounds_toArray, List.set_cons_zero, List.set_cons_succ])
  cases bl with
  | true =>
    refine wpAnyH_take (i := 6) (oi := { dst := some 259, op := Op.binOp BinOp.eql 3 (Operand.tmp 255) (Operand.tmp 258) 3, type := 4, pos := "law.go:131", after := #[{ on := 2, ground := Ground.data }, { on := 5, ground := Ground.data }], guard := none }) (v := ?v11005) rfl (by kernel_rfl) (by kernel_rfl) (by kernel_rfl) (fun _ _ _ h => h) (Or.inl ⟨by rfl, ?hy11005⟩) hHeld ?_
    case hy11005 => (intro w hSw; (try dsimp only at hSw); go_simp; (try with_reducible rfl))
    (try simp only [Act.put, List.setIfInBounds_toArray, List.set_cons_zero, List.set_cons_succ])
    refine wpAnyH_take (i := 7) (oi := { dst := some 260, op := Op.move (Operand.tmp 259), type := 4, pos := "law.go:131", after := #[{ on := 6, ground := Ground.data }], guard := none }) (v := ?v11006) rfl (by kernel_rfl) (by kernel_rfl) (by kernel_rfl) (fun _ _ _ h => h) (Or.inl ⟨by rfl, ?hy11006⟩) hHeld ?_
    case hy11006 => (intro w hSw; (try dsimp only at hSw); go_simp; (try with_reducible rfl))
    (try simp only [Act.put, List.setIfInBounds_toArray, List.set_cons_zero, List.set_cons_succ])
    refine wpAnyH_take (i := 8) (oi := { dst := some 261, op := Op.fieldAddr 60 (Operand.tmp 19) 1, type := 0, pos := "law.go:131", after := #[{ on := 7, ground := Ground.guard }], guard := some (7, false) }) (v := undef) rfl (by kernel_rfl) (by kernel_rfl) (by kernel_rfl) (fun _ _ _ h => h) (Or.inr ⟨by rfl, rfl⟩) hHeld ?_
    (try simp only [Act.put, List.setIfInBounds_toArray, List.set_cons_zero, List.set_cons_succ])
    refine wpAnyH_take (i := 9) (oi := { dst := some 262, op := Op.fieldAddr 42 (Operand.tmp 261) 1, type := 0, pos := "law.go:131", after := #[{ on := 8, ground := Ground.data }, { on := 7, ground := Ground.guard }], guard := some (7, false) }) (v := undef) rfl (by kernel_rfl) (by kernel_rfl) (by kernel_rfl) (fun _ _ _ h => h) (Or.inr ⟨by rfl, rfl⟩) hHeld ?_
    (try simp only [Act.put, List.setIfInBounds_toArray, List.set_cons_zero, List.set_cons_succ])
    refine wpAnyH_take (i := 10) (oi := { dst := some 263, op := Op.fieldAddr 40 (Operand.tmp 262) 4, type := 0, pos := "law.go:131", after := #[{ on := 9, ground := Ground.data }, { on := 7, ground := Ground.guard }], guard := some (7, false) }) (v := undef) rfl (by kernel_rfl) (by kernel_rfl) (by kernel_rfl) (fun _ _ _ h => h) (Or.inr ⟨by rfl, rfl⟩) hHeld ?_
    (try simp only [Act.put, List.setIfInBounds_toArray, List.set_cons_zero, List.set_cons_succ])
    refine wpAnyH_take (i := 11) (oi := { dst := some 264, op := Op.load 27 (Operand.tmp 263), type := 27, pos := "law.go:131", after := #[{ on := 10, ground := Ground.data }, { on := 7, ground := Ground.guard }], guard := some (7, false) }) (v := undef) rfl (by kernel_rfl) (by kernel_rfl) (by kernel_rfl) (fun _ _ _ h => h) (Or.inr ⟨by rfl, rfl⟩) hHeld ?_
    (try simp only [Act.put, List.setIfInBounds_toArray, List.set_cons_zero, List.set_cons_succ])
    refine wpAnyH_take (i := 12) (oi := { dst := some 265, op := Op.fieldAddr 60 (Operand.tmp 19) 2, type := 0, pos := "law.go:131", after := #[{ on := 7, ground := Ground.guard }], guard := some (7, false) }) (v := undef) rfl (by kernel_rfl) (by kernel_rfl) (by kernel_rfl) (fun _ _ _ h => h) (Or.inr ⟨by rfl, rfl⟩) hHeld ?_
    (try simp only [Act.put, List.setIfInBounds_toArray, List.set_cons_zero, List.set_cons_succ])
    refine wpAnyH_take (i := 13) (oi := { dst := some 266, op := Op.fieldAddr 42 (Operand.tmp 265) 1, type := 0, pos := "law.go:131", after := #[{ on := 12, ground := Ground.data }, { on := 7, ground := Ground.guard }], guard := some (7, false) }) (v := undef) rfl (by kernel_rfl) (by kernel_rfl) (by kernel_rfl) (fun _ _ _ h => h) (Or.inr ⟨by rfl, rfl⟩) hHeld ?_
    (try simp only [Act.put, List.setIfInBounds_toArray, List.set_cons_zero, List.set_cons_succ])
    refine wpAnyH_take (i := 14) (oi := { dst := some 267, op := Op.fieldAddr 40 (Operand.tmp 266) 4, type := 0, pos := "law.go:131", after := #[{ on := 13, ground := Ground.data }, { on := 7, ground := Ground.guard }], guard := some (7, false) }) (v := undef) rfl (by kernel_rfl) (by kernel_rfl) (by kernel_rfl) (fun _ _ _ h => h) (Or.inr ⟨by rfl, rfl⟩) hHeld ?_
    (try simp only [Act.put, List.setIfInBounds_toArray, List.set_cons_zero, List.set_cons_succ])
    refine wpAnyH_take (i := 15) (oi := { dst := some 268, op := Op.load 27 (Operand.tmp 267), type := 27, pos := "law.go:131", after := #[{ on := 14, ground := Ground.data }, { on := 7, ground := Ground.guard }], guard := some (7, false) }) (v := undef) rfl (by kernel_rfl) (by kernel_rfl) (by kernel_rfl) (fun _ _ _ h => h) (Or.inr ⟨by rfl, rfl⟩) hHeld ?_
    (try simp only [Act.put, List.setIfInBounds_toArray, List.set_cons_zero, List.set_cons_succ])
    refine wpAnyH_take (i := 16) (oi := { dst := some 269, op := Op.binOp BinOp.neq 27 (Operand.tmp 264) (Operand.tmp 268) 27, type := 4, pos := "law.go:131", after := #[{ on := 11, ground := Ground.data }, { on := 15, ground := Ground.data }, { on := 7, ground := Ground.guard }], guard := some (7, false) }) (v := undef) rfl (by kernel_rfl) (by kernel_rfl) (by kernel_rfl) (fun _ _ _ h => h) (Or.inr ⟨by rfl, rfl⟩) hHeld ?_
    (try simp only [Act.put, List.setIfInBounds_toArray, List.set_cons_zero, List.set_cons_succ])
    refine wpAnyH_take (i := 17) (oi := { dst := some 270, op := Op.pick (Operand.tmp 260) (Operand.const (Value.bool true)) (Operand.tmp 269), type := 4, pos := "law.go:131", after := #[{ on := 7, ground := Ground.data }, { on := 16, ground := Ground.data }], guard := none }) (v := ?v11007) rfl (by kernel_rfl) (by kernel_rfl) (by kernel_rfl) (fun _ _ _ h => h) (Or.inl ⟨by rfl, ?hy11007⟩) hHeld ?_
    case hy11007 => (intro w hSw; (try dsimp only at hSw); go_simp; (try with_reducible rfl))
    (try simp only [Act.put, List.setIfInBounds_toArray, List.set_cons_zero, List.set_cons_succ])
    refine wpAnyH_take (i := 18) (oi := { dst := some 271, op := Op.move (Operand.tmp 270), type := 4, pos := "law.go:131", after := #[{ on := 17, ground := Ground.data }, { on := 7, ground := Ground.chain }], guard := none }) (v := ?v11008) rfl (by kernel_rfl) (by kernel_rfl) (by kernel_rfl) (fun _ _ _ h => h) (Or.inl ⟨by rfl, ?hy11008⟩) hHeld ?_
    case hy11008 => (intro w hSw; (try dsimp only at hSw); go_simp; (try with_reducible rfl))
    (try simp only [Act.put, List.setIfInBounds_toArray, List.set_cons_zero, List.set_cons_succ])
    refine wpAnyH_take (i := 19) (oi := { dst := some 272, op := Op.fieldAddr 60 (Operand.tmp 19) 1, type := 0, pos := "law.go:131", after := #[{ on := 18, ground := Ground.guard }], guard := some (18, false) }) (v := undef) rfl (by kernel_rfl) (by kernel_rfl) (by kernel_rfl) (fun _ _ _ h => h) (Or.inr ⟨by rfl, rfl⟩) hHeld ?_
    (try simp only [Act.put, List.setIfInBounds_toArray, List.set_cons_zero, List.set_cons_succ])
    refine wpAnyH_take (i := 20) (oi := { dst := some 273, op := Op.fieldAddr 42 (Operand.tmp 272) 1, type := 0, pos := "law.go:131", after := #[{ on := 19, ground := Ground.data }, { on := 18, ground := Ground.guard }], guard := some (18, false) }) (v := undef) rfl (by kernel_rfl) (by kernel_rfl) (by kernel_rfl) (fun _ _ _ h => h) (Or.inr ⟨by rfl, rfl⟩) hHeld ?_
    (try simp only [Act.put, List.setIfInBounds_toArray, List.set_cons_zero, List.set_cons_succ])
    refine wpAnyH_take (i := 21) (oi := { dst := some 274, op := Op.fieldAddr 40 (Operand.tmp 273) 2, type := 0, pos := "law.go:131", after := #[{ on := 20, ground := Ground.data }, { on := 18, ground := Ground.guard }], guard := some (18, false) }) (v := undef) rfl (by kernel_rfl) (by kernel_rfl) (by kernel_rfl) (fun _ _ _ h => h) (Or.inr ⟨by rfl, rfl⟩) hHeld ?_
    (try simp only [Act.put, List.setIfInBounds_toArray, List.set_cons_zero, List.set_cons_succ])
    refine wpAnyH_take (i := 22) (oi := { dst := some 275, op := Op.load 27 (Operand.tmp 274), type := 27, pos := "law.go:131", after := #[{ on := 21, ground := Ground.data }, { on := 18, ground := Ground.guard }], guard := some (18, false) }) (v := undef) rfl (by kernel_rfl) (by kernel_rfl) (by kernel_rfl) (fun _ _ _ h => h) (Or.inr ⟨by rfl, rfl⟩) hHeld ?_
    (try simp only [Act.put, List.setIfInBounds_toArray, List.set_cons_zero, List.set_cons_succ])
    refine wpAnyH_take (i := 23) (oi := { dst := some 276, op := Op.build 27 #[], type := 27, pos := "law.go:131", after := #[{ on := 18, ground := Ground.guard }], guard := some (18, false) }) (v := undef) rfl (by kernel_rfl) (by kernel_rfl) (by kernel_rfl) (fun _ _ _ h => h) (Or.inr ⟨by rfl, rfl⟩) hHeld ?_
    (try simp only [Act.put, List.setIfInBounds_toArray, List.set_cons_zero, List.set_cons_succ])
    refine wpAnyH_take (i := 24) (oi := { dst := some 277, op := Op.binOp BinOp.eql 27 (Operand.tmp 275) (Operand.tmp 276) 27, type := 4, pos := "law.go:131", after := #[{ on := 22, ground := Ground.data }, { on := 23, ground := Ground.data }, { on := 18, ground := Ground.guard }], guard := some (18, false) }) (v := undef) rfl (by kernel_rfl) (by kernel_rfl) (by kernel_rfl) (fun _ _ _ h => h) (Or.inr ⟨by rfl, rfl⟩) hHeld ?_
    (try simp only [Act.put, List.setIfInBounds_toArray, List.set_cons_zero, List.set_cons_succ])
    refine wpAnyH_take (i := 25) (oi := { dst := some 278, op := Op.fieldAddr 60 (Operand.tmp 19) 2, type := 0, pos := "law.go:131", after := #[{ on := 18, ground := Ground.guard }], guard := some (18, false) }) (v := undef) rfl (by kernel_rfl) (by kernel_rfl) (by kernel_rfl) (fun _ _ _ h => h) (Or.inr ⟨by rfl, rfl⟩) hHeld ?_
    (try simp only [Act.put, List.setIfInBounds_toArray, List.set_cons_zero, List.set_cons_succ])
    refine wpAnyH_take (i := 26) (oi := { dst := some 279, op := Op.fieldAddr 42 (Operand.tmp 278) 1, type := 0, pos := "law.go:131", after := #[{ on := 25, ground := Ground.data }, { on := 18, ground := Ground.guard }], guard := some (18, false) }) (v := undef) rfl (by kernel_rfl) (by kernel_rfl) (by kernel_rfl) (fun _ _ _ h => h) (Or.inr ⟨by rfl, rfl⟩) hHeld ?_
    (try simp only [Act.put, List.setIfInBounds_toArray, List.set_cons_zero, List.set_cons_succ])
    refine wpAnyH_take (i := 27) (oi := { dst := some 280, op := Op.fieldAddr 40 (Operand.tmp 279) 2, type := 0, pos := "law.go:131", after := #[{ on := 26, ground := Ground.data }, { on := 18, ground := Ground.guard }], guard := some (18, false) }) (v := undef) rfl (by kernel_rfl) (by kernel_rfl) (by kernel_rfl) (fun _ _ _ h => h) (Or.inr ⟨by rfl, rfl⟩) hHeld ?_
    (try simp only [Act.put, List.setIfInBounds_toArray, List.set_cons_zero, List.set_cons_succ])
    refine wpAnyH_take (i := 28) (oi := { dst := some 281, op := Op.load 27 (Operand.tmp 280), type := 27, pos := "law.go:131", after := #[{ on := 27, ground := Ground.data }, { on := 18, ground := Ground.guard }], guard := some (18, false) }) (v := undef) rfl (by kernel_rfl) (by kernel_rfl) (by kernel_rfl) (fun _ _ _ h => h) (Or.inr ⟨by rfl, rfl⟩) hHeld ?_
    (try simp only [Act.put, List.setIfInBounds_toArray, List.set_cons_zero, List.set_cons_succ])
    refine wpAnyH_take (i := 29) (oi := { dst := some 282, op := Op.build 27 #[], type := 27, pos := "law.go:131", after := #[{ on := 18, ground := Ground.guard }], guard := some (18, false) }) (v := undef) rfl (by kernel_rfl) (by kernel_rfl) (by kernel_rfl) (fun _ _ _ h => h) (Or.inr ⟨by rfl, rfl⟩) hHeld ?_
    (try simp only [Act.put, List.setIfInBounds_toArray, List.set_cons_zero, List.set_cons_succ])
    refine wpAnyH_take (i := 30) (oi := { dst := some 283, op := Op.binOp BinOp.eql 27 (Operand.tmp 281) (Operand.tmp 282) 27, type := 4, pos := "law.go:131", after := #[{ on := 28, ground := Ground.data }, { on := 29, ground := Ground.data }, { on := 18, ground := Ground.guard }], guard := some (18, false) }) (v := undef) rfl (by kernel_rfl) (by kernel_rfl) (by kernel_rfl) (fun _ _ _ h => h) (Or.inr ⟨by rfl, rfl⟩) hHeld ?_
    (try simp only [Act.put, List.setIfInBounds_toArray, List.set_cons_zero, List.set_cons_succ])
    refine wpAnyH_take (i := 31) (oi := { dst := some 284, op := Op.binOp BinOp.eql 4 (Operand.tmp 277) (Operand.tmp 283) 4, type := 4, pos := "law.go:131", after := #[{ on := 24, ground := Ground.data }, { on := 30, ground := Ground.data }, { on := 18, ground := Ground.guard }], guard := some (18, false) }) (v := undef) rfl (by kernel_rfl) (by kernel_rfl) (by kernel_rfl) (fun _ _ _ h => h) (Or.inr ⟨by rfl, rfl⟩) hHeld ?_
    (try simp only [Act.put, List.setIfInBounds_toArray, List.set_cons_zero, List.set_cons_succ])
    refine wpAnyH_take (i := 32) (oi := { dst := some 285, op := Op.pick (Operand.tmp 271) (Operand.const (Value.bool true)) (Operand.tmp 284), type := 4, pos := "law.go:131", after := #[{ on := 18, ground := Ground.data }, { on := 31, ground := Ground.data }], guard := none }) (v := ?v11009) rfl (by kernel_rfl) (by kernel_rfl) (by kernel_rfl) (fun _ _ _ h => h) (Or.inl ⟨by rfl, ?hy11009⟩) hHeld ?_
    case hy11009 => (intro w hSw; (try dsimp only at hSw); go_simp; (try with_reducible rfl))
    (try simp only [Act.put, List.setIfInBounds_toArray, List.set_cons_zero, List.set_cons_succ])
    refine wpAnyH_take (i := 33) (oi := { dst := some 286, op := Op.move (Operand.tmp 285), type := 4, pos := "law.go:131", after := #[{ on := 32, ground := Ground.data }, { on := 18, ground := Ground.chain }], guard := none }) (v := ?v11010) rfl (by kernel_rfl) (by kernel_rfl) (by kernel_rfl) (fun _ _ _ h => h) (Or.inl ⟨by rfl, ?hy11010⟩) hHeld ?_
    case hy11010 => (intro w hSw; (try dsimp only at hSw); go_simp; (try with_reducible rfl))
    (try simp only [Act.put, List.setIfInBounds_toArray, List.set_cons_zero, List.set_cons_succ])
    refine wpAnyH_take (i := 34) (oi := { dst := some 287, op := Op.fieldAddr 60 (Operand.tmp 19) 1, type := 0, pos := "law.go:131", after := #[{ on := 33, ground := Ground.guard }], guard := some (33, false) }) (v := undef) rfl (by kernel_rfl) (by kernel_rfl) (by kernel_rfl) (fun _ _ _ h => h) (Or.inr ⟨by rfl, rfl⟩) hHeld ?_
    (try simp only [Act.put, List.setIfInBounds_toArray, List.set_cons_zero, List.set_cons_succ])
    refine wpAnyH_take (i := 35) (oi := { dst := some 288, op := Op.fieldAddr 42 (Operand.tmp 287) 1, type := 0, pos := "law.go:131", after := #[{ on := 34, ground := Ground.data }, { on := 33, ground := Ground.guard }], guard := some (33, false) }) (v := undef) rfl (by kernel_rfl) (by kernel_rfl) (by kernel_rfl) (fun _ _ _ h => h) (Or.inr ⟨by rfl, rfl⟩) hHeld ?_
    (try simp only [Act.put, List.setIfInBounds_toArray, List.set_cons_zero, List.set_cons_succ])
    refine wpAnyH_take (i := 36) (oi := { dst := some 289, op := Op.fieldAddr 40 (Operand.tmp 288) 5, type := 0, pos := "law.go:131", after := #[{ on := 35, ground := Ground.data }, { on := 33, ground := Ground.guard }], guard := some (33, false) }) (v := undef) rfl (by kernel_rfl) (by kernel_rfl) (by kernel_rfl) (fun _ _ _ h => h) (Or.inr ⟨by rfl, rfl⟩) hHeld ?_
    (try simp only [Act.put, List.setIfInBounds_toArray, List.set_cons_zero, List.set_cons_succ])
    refine wpAnyH_take (i := 37) (oi := { dst := some 290, op := Op.load 3 (Operand.tmp 289), type := 3, pos := "law.go:131", after := #[{ on := 36, ground := Ground.data }, { on := 33, ground := Ground.guard }], guard := some (33, false) }) (v := undef) rfl (by kernel_rfl) (by kernel_rfl) (by kernel_rfl) (fun _ _ _ h => h) (Or.inr ⟨by rfl, rfl⟩) hHeld ?_
    (try simp only [Act.put, List.setIfInBounds_toArray, List.set_cons_zero, List.set_cons_succ])
    refine wpAnyH_take (i := 38) (oi := { dst := some 291, op := Op.binOp BinOp.lss 3 (Operand.tmp 290) (Operand.const (Value.int IntKind.i64 0)) 3, type := 4, pos := "law.go:131", after := #[{ on := 37, ground := Ground.data }, { on := 33, ground := Ground.guard }], guard := some (33, false) }) (v := undef) rfl (by kernel_rfl) (by kernel_rfl) (by kernel_rfl) (fun _ _ _ h => h) (Or.inr ⟨by rfl, rfl⟩) hHeld ?_
    (try simp only [Act.put, List.setIfInBounds_toArray, List.set_cons_zero, List.set_cons_succ])
    refine wpAnyH_take (i := 39) (oi := { dst := some 292, op := Op.pick (Operand.tmp 286) (Operand.const (Value.bool true)) (Operand.tmp 291), type := 4, pos := "law.go:131", after := #[{ on := 33, ground := Ground.data }, { on := 38, ground := Ground.data }], guard := none }) (v := ?v11011) rfl (by kernel_rfl) (by kernel_rfl) (by kernel_rfl) (fun _ _ _ h => h) (Or.inl ⟨by rfl, ?hy11011⟩) hHeld ?_
    case hy11011 => (intro w hSw; (try dsimp only at hSw); go_simp; (try with_reducible rfl))
    (try simp only [Act.put, List.setIfInBounds_toArray, List.set_cons_zero, List.set_cons_succ])
    refine wpAnyH_take (i := 40) (oi := { dst := some 293, op := Op.move (Operand.tmp 292), type := 4, pos := "law.go:131", after := #[{ on := 39, ground := Ground.data }, { on := 33, ground := Ground.chain }], guard := none }) (v := ?v11012) rfl (by kernel_rfl) (by kernel_rfl) (by kernel_rfl) (fun _ _ _ h => h) (Or.inl ⟨by rfl, ?hy11012⟩) hHeld ?_
    case hy11012 => (intro w hSw; (try dsimp only at hSw); go_simp; (try with_reducible rfl))
    (try simp only [Act.put, List.setIfInBounds_toArray, List.set_cons_zero, List.set_cons_succ])
    refine wpAnyH_take (i := 41) (oi := { dst := some 294, op := Op.fieldAddr 60 (Operand.tmp 19) 1, type := 0, pos := "law.go:131", after := #[{ on := 40, ground := Ground.guard }], guard := some (40, false) }) (v := undef) rfl (by kernel_rfl) (by kernel_rfl) (by kernel_rfl) (fun _ _ _ h => h) (Or.inr ⟨by rfl, rfl⟩) hHeld ?_
    (try simp only [Act.put, List.setIfInBounds_toArray, List.set_cons_zero, List.set_cons_succ])
    refine wpAnyH_take (i := 42) (oi := { dst := some 295, op := Op.fieldAddr 42 (Operand.tmp 294) 1, type := 0, pos := "law.go:131", after := #[{ on := 41, ground := Ground.data }, { on := 40, ground := Ground.guard }], guard := some (40, false) }) (v := undef) rfl (by kernel_rfl) (by kernel_rfl) (by kernel_rfl) (fun _ _ _ h => h) (Or.inr ⟨by rfl, rfl⟩) hHeld ?_
    (try simp only [Act.put, List.setIfInBounds_toArray, List.set_cons_zero, List.set_cons_succ])
    refine wpAnyH_take (i := 43) (oi := { dst := some 296, op := Op.fieldAddr 40 (Operand.tmp 295) 5, type := 0, pos := "law.go:131", after := #[{ on := 42, ground := Ground.data }, { on := 40, ground := Ground.guard }], guard := some (40, false) }) (v := undef) rfl (by kernel_rfl) (by kernel_rfl) (by kernel_rfl) (fun _ _ _ h => h) (Or.inr ⟨by rfl, rfl⟩) hHeld ?_
    (try simp only [Act.put, List.setIfInBounds_toArray, List.set_cons_zero, List.set_cons_succ])
    refine wpAnyH_take (i := 44) (oi := { dst := some 297, op := Op.load 3 (Operand.tmp 296), type := 3, pos := "law.go:131", after := #[{ on := 43, ground := Ground.data }, { on := 40, ground := Ground.guard }], guard := some (40, false) }) (v := undef) rfl (by kernel_rfl) (by kernel_rfl) (by kernel_rfl) (fun _ _ _ h => h) (Or.inr ⟨by rfl, rfl⟩) hHeld ?_
    (try simp only [Act.put, List.setIfInBounds_toArray, List.set_cons_zero, List.set_cons_succ])
    refine wpAnyH_take (i := 45) (oi := { dst := some 298, op := Op.binOp BinOp.gtr 3 (Operand.tmp 297) (Operand.const (Value.int IntKind.i64 1073741824)) 3, type := 4, pos := "law.go:131", after := #[{ on := 44, ground := Ground.data }, { on := 40, ground := Ground.guard }], guard := some (40, false) }) (v := undef) rfl (by kernel_rfl) (by kernel_rfl) (by kernel_rfl) (fun _ _ _ h => h) (Or.inr ⟨by rfl, rfl⟩) hHeld ?_
    (try simp only [Act.put, List.setIfInBounds_toArray, List.set_cons_zero, List.set_cons_succ])
    refine wpAnyH_take (i := 46) (oi := { dst := some 299, op := Op.pick (Operand.tmp 293) (Operand.const (Value.bool true)) (Operand.tmp 298), type := 4, pos := "law.go:131", after := #[{ on := 40, ground := Ground.data }, { on := 45, ground := Ground.data }], guard := none }) (v := ?v11013) rfl (by kernel_rfl) (by kernel_rfl) (by kernel_rfl) (fun _ _ _ h => h) (Or.inl ⟨by rfl, ?hy11013⟩) hHeld ?_
    case hy11013 => (intro w hSw; (try dsimp only at hSw); go_simp; (try with_reducible rfl))
    (try simp only [Act.put, List.setIfInBounds_toArray, List.set_cons_zero, List.set_cons_succ])
    refine wpAnyH_take (i := 47) (oi := { dst := some 300, op := Op.move (Operand.tmp 299), type := 4, pos := "law.go:131", after := #[{ on := 46, ground := Ground.data }, { on := 40, ground := Ground.chain }], guard := none }) (v := ?v11014) rfl (by kernel_rfl) (by kernel_rfl) (by kernel_rfl) (fun _ _ _ h => h) (Or.inl ⟨by rfl, ?hy11014⟩) hHeld ?_
    case hy11014 => (intro w hSw; (try dsimp only at hSw); go_simp; (try with_reducible rfl))
    (try simp only [Act.put, List.setIfInBounds_toArray, List.set_cons_zero, List.set_cons_succ])
    refine wpAnyH_take (i := 48) (oi := { dst := some 301, op := Op.fieldAddr 60 (Operand.tmp 19) 2, type := 0, pos := "law.go:131", after := #[{ on := 47, ground := Ground.guard }], guard := some (47, false) }) (v := undef) rfl (by kernel_rfl) (by kernel_rfl) (by kernel_rfl) (fun _ _ _ h => h) (Or.inr ⟨by rfl, rfl⟩) hHeld ?_
    (try simp only [Act.put, List.setIfInBounds_toArray, List.set_cons_zero, List.set_cons_succ])
    refine wpAnyH_take (i := 49) (oi := { dst := some 302, op := Op.fieldAddr 42 (Operand.tmp 301) 1, type := 0, pos := "law.go:131", after := #[{ on := 48, ground := Ground.data }, { on := 47, ground := Ground.guard }], guard := some (47, false) }) (v := undef) rfl (by kernel_rfl) (by kernel_rfl) (by kernel_rfl) (fun _ _ _ h => h) (Or.inr ⟨by rfl, rfl⟩) hHeld ?_
    (try simp only [Act.put, List.setIfInBounds_toArray, List.set_cons_zero, List.set_cons_succ])
    refine wpAnyH_take (i := 50) (oi := { dst := some 303, op := Op.fieldAddr 40 (Operand.tmp 302) 5, type := 0, pos := "law.go:131", after := #[{ on := 49, ground := Ground.data }, { on := 47, ground := Ground.guard }], guard := some (47, false) }) (v := undef) rfl (by kernel_rfl) (by kernel_rfl) (by kernel_rfl) (fun _ _ _ h => h) (Or.inr ⟨by rfl, rfl⟩) hHeld ?_
    (try simp only [Act.put, List.setIfInBounds_toArray, List.set_cons_zero, List.set_cons_succ])
    refine wpAnyH_take (i := 51) (oi := { dst := some 304, op := Op.load 3 (Operand.tmp 303), type := 3, pos := "law.go:131", after := #[{ on := 50, ground := Ground.data }, { on := 47, ground := Ground.guard }], guard := some (47, false) }) (v := undef) rfl (by kernel_rfl) (by kernel_rfl) (by kernel_rfl) (fun _ _ _ h => h) (Or.inr ⟨by rfl, rfl⟩) hHeld ?_
    (try simp only [Act.put, List.setIfInBounds_toArray, List.set_cons_zero, List.set_cons_succ])
    refine wpAnyH_take (i := 52) (oi := { dst := some 305, op := Op.binOp BinOp.lss 3 (Operand.tmp 304) (Operand.const (Value.int IntKind.i64 0)) 3, type := 4, pos := "law.go:131", after := #[{ on := 51, ground := Ground.data }, { on := 47, ground := Ground.guard }], guard := some (47, false) }) (v := undef) rfl (by kernel_rfl) (by kernel_rfl) (by kernel_rfl) (fun _ _ _ h => h) (Or.inr ⟨by rfl, rfl⟩) hHeld ?_
    (try simp only [Act.put, List.setIfInBounds_toArray, List.set_cons_zero, List.set_cons_succ])
    refine wpAnyH_take (i := 53) (oi := { dst := some 306, op := Op.pick (Operand.tmp 300) (Operand.const (Value.bool true)) (Operand.tmp 305), type := 4, pos := "law.go:131", after := #[{ on := 47, ground := Ground.data }, { on := 52, ground := Ground.data }], guard := none }) (v := ?v11015) rfl (by kernel_rfl) (by kernel_rfl) (by kernel_rfl) (fun _ _ _ h => h) (Or.inl ⟨by rfl, ?hy11015⟩) hHeld ?_
    case hy11015 => (intro w hSw; (try dsimp only at hSw); go_simp; (try with_reducible rfl))
    (try simp only [Act.put, List.setIfInBounds_toArray, List.set_cons_zero, List.set_cons_succ])
    refine wpAnyH_take (i := 54) (oi := { dst := some 307, op := Op.move (Operand.tmp 306), type := 4, pos := "law.go:131", after := #[{ on := 53, ground := Ground.data }, { on := 47, ground := Ground.chain }], guard := none }) (v := ?v11016) rfl (by kernel_rfl) (by kernel_rfl) (by kernel_rfl) (fun _ _ _ h => h) (Or.inl ⟨by rfl, ?hy11016⟩) hHeld ?_
    case hy11016 => (intro w hSw; (try dsimp only at hSw); go_simp; (try with_reducible rfl))
    (try simp only [Act.put, List.setIfInBounds_toArray, List.set_cons_zero, List.set_cons_succ])
    refine wpAnyH_take (i := 55) (oi := { dst := some 308, op := Op.fieldAddr 60 (Operand.tmp 19) 2, type := 0, pos := "law.go:131", after := #[{ on := 54, ground := Ground.guard }], guard := some (54, false) }) (v := undef) rfl (by kernel_rfl) (by kernel_rfl) (by kernel_rfl) (fun _ _ _ h => h) (Or.inr ⟨by rfl, rfl⟩) hHeld ?_
    (try simp only [Act.put, List.setIfInBounds_toArray, List.set_cons_zero, List.set_cons_succ])
    refine wpAnyH_take (i := 56) (oi := { dst := some 309, op := Op.fieldAddr 42 (Operand.tmp 308) 1, type := 0, pos := "law.go:131", after := #[{ on := 55, ground := Ground.data }, { on := 54, ground := Ground.guard }], guard := some (54, false) }) (v := undef) rfl (by kernel_rfl) (by kernel_rfl) (by kernel_rfl) (fun _ _ _ h => h) (Or.inr ⟨by rfl, rfl⟩) hHeld ?_
    (try simp only [Act.put, List.setIfInBounds_toArray, List.set_cons_zero, List.set_cons_succ])
    refine wpAnyH_take (i := 57) (oi := { dst := some 310, op := Op.fieldAddr 40 (Operand.tmp 309) 5, type := 0, pos := "law.go:131", after := #[{ on := 56, ground := Ground.data }, { on := 54, ground := Ground.guard }], guard := some (54, false) }) (v := undef) rfl (by kernel_rfl) (by kernel_rfl) (by kernel_rfl) (fun _ _ _ h => h) (Or.inr ⟨by rfl, rfl⟩) hHeld ?_
    (try simp only [Act.put, List.setIfInBounds_toArray, List.set_cons_zero, List.set_cons_succ])
    refine wpAnyH_take (i := 58) (oi := { dst := some 311, op := Op.load 3 (Operand.tmp 310), type := 3, pos := "law.go:131", after := #[{ on := 57, ground := Ground.data }, { on := 54, ground := Ground.guard }], guard := some (54, false) }) (v := undef) rfl (by kernel_rfl) (by kernel_rfl) (by kernel_rfl) (fun _ _ _ h => h) (Or.inr ⟨by rfl, rfl⟩) hHeld ?_
    (try simp only [Act.put, List.setIfInBounds_toArray, List.set_cons_zero, List.set_cons_succ])
    refine wpAnyH_take (i := 59) (oi := { dst := some 312, op := Op.binOp BinOp.gtr 3 (Operand.tmp 311) (Operand.const (Value.int IntKind.i64 1073741824)) 3, type := 4, pos := "law.go:131", after := #[{ on := 58, ground := Ground.data }, { on := 54, ground := Ground.guard }], guard := some (54, false) }) (v := undef) rfl (by kernel_rfl) (by kernel_rfl) (by kernel_rfl) (fun _ _ _ h => h) (Or.inr ⟨by rfl, rfl⟩) hHeld ?_
    (try simp only [Act.put, List.setIfInBounds_toArray, List.set_cons_zero, List.set_cons_succ])
    refine wpAnyH_take (i := 60) (oi := { dst := some 313, op := Op.pick (Operand.tmp 307) (Operand.const (Value.bool true)) (Operand.tmp 312), type := 4, pos := "law.go:131", after := #[{ on := 54, ground := Ground.data }, { on := 59, ground := Ground.data }], guard := none }) (v := ?v11017) rfl (by kernel_rfl) (by kernel_rfl) (by kernel_rfl) (fun _ _ _ h => h) (Or.inl ⟨by rfl, ?hy11017⟩) hHeld ?_
    case hy11017 => (intro w hSw; (try dsimp only at hSw); go_simp; (try with_reducible rfl))
    (try simp only [Act.put, List.setIfInBounds_toArray, List.set_cons_zero, List.set_cons_succ])
    refine wpAnyH_take (i := 61) (oi := { dst := some 252, op := Op.assign (Operand.tmp 313), type := 4, pos := "law.go:131", after := #[{ on := 60, ground := Ground.data }, { on := 54, ground := Ground.chain }], guard := none }) (v := ?v11018) rfl (by kernel_rfl) (by kernel_rfl) (by kernel_rfl) (fun _ _ _ h => h) (Or.inl ⟨by rfl, ?hy11018⟩) hHeld ?_
    case hy11018 => (intro w hSw; (try dsimp only at hSw); go_simp; (try with_reducible rfl))
    (try simp only [Act.put, List.setIfInBounds_toArray, List.set_cons_zero, List.set_cons_succ])
    refine wpAnyH_done (by kernel_rfl) ?_ _
    rotate_left
    all_goals exact ⟨rfl, ⟨⟨⟨rfl, rfl, rfl, rfl, rfl, rfl, rfl, rfl, rfl⟩, rfl, rfl, rfl, rfl, rfl, rfl, rfl⟩, rfl, rfl, rfl, rfl, rfl⟩, by rw [HR.out]; rfl, by assumption⟩
  | false =>
  refine wpAnyH_take (i := 6) (oi := { dst := some 259, op := Op.binOp BinOp.eql 3 (Operand.tmp 255) (Operand.tmp 258) 3, type := 4, pos := "law.go:131", after := #[{ on := 2, ground := Ground.data }, { on := 5, ground := Ground.data }], guard := none }) (v := ?v17005) rfl (by kernel_rfl) (by kernel_rfl) (by kernel_rfl) (fun _ _ _ h => h) (Or.inl ⟨by rfl, ?hy17005⟩) hHeld ?_
  case hy17005 => (intro w hSw; (try dsimp only at hSw); go_simp; (try with_reducible rfl))
  (try simp only [Act.put, List.setIfInBounds_toArray, List.set_cons_zero, List.set_cons_succ])
  refine wpAnyH_take (i := 7) (oi := { dst := some 260, op := Op.move (Operand.tmp 259), type := 4, pos := "law.go:131", after := #[{ on := 6, ground := Ground.data }], guard := none }) (v := ?v17006) rfl (by kernel_rfl) (by kernel_rfl) (by kernel_rfl) (fun _ _ _ h => h) (Or.inl ⟨by rfl, ?hy17006⟩) hHeld ?_
  case hy17006 => (intro w hSw; (try dsimp only at hSw); go_simp; (try with_reducible rfl))
  (try simp only [Act.put, List.setIfInBounds_toArray, List.set_cons_zero, List.set_cons_succ])
  refine wpAnyH_take (i := 8) (oi := { dst := some 261, op := Op.fieldAddr 60 (Operand.tmp 19) 1, type := 0, pos := "law.go:131", after := #[{ on := 7, ground := Ground.guard }], guard := some (7, false) }) (v := ?v17007) rfl (by kernel_rfl) (by kernel_rfl) (by kernel_rfl) (fun _ _ _ h => h) (Or.inl ⟨by rfl, ?hy17007⟩) hHeld ?_
  case hy17007 => (intro w hSw; (try dsimp only at hSw); go_simp; (try with_reducible rfl))
  (try simp only [Act.put, List.setIfInBounds_toArray, List.set_cons_zero, List.set_cons_succ])
  refine wpAnyH_take (i := 9) (oi := { dst := some 262, op := Op.fieldAddr 42 (Operand.tmp 261) 1, type := 0, pos := "law.go:131", after := #[{ on := 8, ground := Ground.data }, { on := 7, ground := Ground.guard }], guard := some (7, false) }) (v := ?v17008) rfl (by kernel_rfl) (by kernel_rfl) (by kernel_rfl) (fun _ _ _ h => h) (Or.inl ⟨by rfl, ?hy17008⟩) hHeld ?_
  case hy17008 => (intro w hSw; (try dsimp only at hSw); go_simp; (try with_reducible rfl))
  (try simp only [Act.put, List.setIfInBounds_toArray, List.set_cons_zero, List.set_cons_succ])
  refine wpAnyH_take (i := 10) (oi := { dst := some 263, op := Op.fieldAddr 40 (Operand.tmp 262) 4, type := 0, pos := "law.go:131", after := #[{ on := 9, ground := Ground.data }, { on := 7, ground := Ground.guard }], guard := some (7, false) }) (v := ?v17009) rfl (by kernel_rfl) (by kernel_rfl) (by kernel_rfl) (fun _ _ _ h => h) (Or.inl ⟨by rfl, ?hy17009⟩) hHeld ?_
  case hy17009 => (intro w hSw; (try dsimp only at hSw); go_simp; (try with_reducible rfl))
  (try simp only [Act.put, List.setIfInBounds_toArray, List.set_cons_zero, List.set_cons_succ])
  refine' wpAnyH_take (i := 11) (oi := { dst := some 264, op := Op.load 27 (Operand.tmp 263), type := 27, pos := "law.go:131", after := #[{ on := 10, ground := Ground.data }, { on := 7, ground := Ground.guard }], guard := some (7, false) }) (v := _) rfl (by kernel_rfl) (by kernel_rfl) (by kernel_rfl) (fun _ _ _ h => h) (yieldsIf_load_mid (by rfl) _ _ rfl R 37 rfl (nums .u8 x.inn.o.lock) _ (fun _ h => range_keep h k1) un rfl hk1.out) hHeld ?_
  (try simp only [Act.put, List.setIfInBounds_toArray, List.set_cons_zero, List.set_cons_succ])
  refine wpAnyH_take (i := 12) (oi := { dst := some 265, op := Op.fieldAddr 60 (Operand.tmp 19) 2, type := 0, pos := "law.go:131", after := #[{ on := 7, ground := Ground.guard }], guard := some (7, false) }) (v := ?v17010) rfl (by kernel_rfl) (by kernel_rfl) (by kernel_rfl) (fun _ _ _ h => h) (Or.inl ⟨by rfl, ?hy17010⟩) hHeld ?_
  case hy17010 => (intro w hSw; (try dsimp only at hSw); go_simp; (try with_reducible rfl))
  (try simp only [Act.put, List.setIfInBounds_toArray, List.set_cons_zero, List.set_cons_succ])
  refine wpAnyH_take (i := 13) (oi := { dst := some 266, op := Op.fieldAddr 42 (Operand.tmp 265) 1, type := 0, pos := "law.go:131", after := #[{ on := 12, ground := Ground.data }, { on := 7, ground := Ground.guard }], guard := some (7, false) }) (v := ?v17011) rfl (by kernel_rfl) (by kernel_rfl) (by kernel_rfl) (fun _ _ _ h => h) (Or.inl ⟨by rfl, ?hy17011⟩) hHeld ?_
  case hy17011 => (intro w hSw; (try dsimp only at hSw); go_simp; (try with_reducible rfl))
  (try simp only [Act.put, List.setIfInBounds_toArray, List.set_cons_zero, List.set_cons_succ])
  refine wpAnyH_take (i := 14) (oi := { dst := some 267, op := Op.fieldAddr 40 (Operand.tmp 266) 4, type := 0, pos := "law.go:131", after := #[{ on := 13, ground := Ground.data }, { on := 7, ground := Ground.guard }], guard := some (7, false) }) (v := ?v17012) rfl (by kernel_rfl) (by kernel_rfl) (by kernel_rfl) (fun _ _ _ h => h) (Or.inl ⟨by rfl, ?hy17012⟩) hHeld ?_
  case hy17012 => (intro w hSw; (try dsimp only at hSw); go_simp; (try with_reducible rfl))
  (try simp only [Act.put, List.setIfInBounds_toArray, List.set_cons_zero, List.set_cons_succ])
  refine' wpAnyH_take (i := 15) (oi := { dst := some 268, op := Op.load 27 (Operand.tmp 267), type := 27, pos := "law.go:131", after := #[{ on := 14, ground := Ground.data }, { on := 7, ground := Ground.guard }], guard := some (7, false) }) (v := _) rfl (by kernel_rfl) (by kernel_rfl) (by kernel_rfl) (fun _ _ _ h => h) (yieldsIf_load_mid (by rfl) _ _ rfl R 106 rfl (nums .u8 x.out.o.lock) _ (fun _ h => range_keep h k2) un rfl hk2.out) hHeld ?_
  (try simp only [Act.put, List.setIfInBounds_toArray, List.set_cons_zero, List.set_cons_succ])
  cases bk with
  | false =>
    refine wpAnyH_take (i := 16) (oi := { dst := some 269, op := Op.binOp BinOp.neq 27 (Operand.tmp 264) (Operand.tmp 268) 27, type := 4, pos := "law.go:131", after := #[{ on := 11, ground := Ground.data }, { on := 15, ground := Ground.data }, { on := 7, ground := Ground.guard }], guard := some (7, false) }) (v := ?v12013) rfl (by kernel_rfl) (by kernel_rfl) (by kernel_rfl) (fun _ _ _ h => h) (Or.inl ⟨by rfl, ?hy12013⟩) hHeld ?_
    case hy12013 => (intro w hSw; (try dsimp only at hSw); go_simp; (try with_reducible rfl))
    (try simp only [Act.put, List.setIfInBounds_toArray, List.set_cons_zero, List.set_cons_succ])
    refine wpAnyH_take (i := 17) (oi := { dst := some 270, op := Op.pick (Operand.tmp 260) (Operand.const (Value.bool true)) (Operand.tmp 269), type := 4, pos := "law.go:131", after := #[{ on := 7, ground := Ground.data }, { on := 16, ground := Ground.data }], guard := none }) (v := ?v12014) rfl (by kernel_rfl) (by kernel_rfl) (by kernel_rfl) (fun _ _ _ h => h) (Or.inl ⟨by rfl, ?hy12014⟩) hHeld ?_
    case hy12014 => (intro w hSw; (try dsimp only at hSw); go_simp; (try with_reducible rfl))
    (try simp only [Act.put, List.setIfInBounds_toArray, List.set_cons_zero, List.set_cons_succ])
    refine wpAnyH_take (i := 18) (oi := { dst := some 271, op := Op.move (Operand.tmp 270), type := 4, pos := "law.go:131", after := #[{ on := 17, ground := Ground.data }, { on := 7, ground := Ground.chain }], guard := none }) (v := ?v12015) rfl (by kernel_rfl) (by kernel_rfl) (by kernel_rfl) (fun _ _ _ h => h) (Or.inl ⟨by rfl, ?hy12015⟩) hHeld ?_
    case hy12015 => (intro w hSw; (try dsimp only at hSw); go_simp; (try with_reducible rfl))
    (try simp only [Act.put, List.setIfInBounds_toArray, List.set_cons_zero, List.set_cons_succ])
    refine wpAnyH_take (i := 19) (oi := { dst := some 272, op := Op.fieldAddr 60 (Operand.tmp 19) 1, type := 0, pos := "law.go:131", after := #[{ on := 18, ground := Ground.guard }], guard := some (18, false) }) (v := undef) rfl (by kernel_rfl) (by kernel_rfl) (by kernel_rfl) (fun _ _ _ h => h) (Or.inr ⟨by rfl, rfl⟩) hHeld ?_
    (try simp only [Act.put, List.setIfInBounds_toArray, List.set_cons_zero, List.set_cons_succ])
    refine wpAnyH_take (i := 20) (oi := { dst := some 273, op := Op.fieldAddr 42 (Operand.tmp 272) 1, type := 0, pos := "law.go:131", after := #[{ on := 19, ground := Ground.data }, { on := 18, ground := Ground.guard }], guard := some (18, false) }) (v := undef) rfl (by kernel_rfl) (by kernel_rfl) (by kernel_rfl) (fun _ _ _ h => h) (Or.inr ⟨by rfl, rfl⟩) hHeld ?_
    (try simp only [Act.put, List.setIfInBounds_toArray, List.set_cons_zero, List.set_cons_succ])
    refine wpAnyH_take (i := 21) (oi := { dst := some 274, op := Op.fieldAddr 40 (Operand.tmp 273) 2, type := 0, pos := "law.go:131", after := #[{ on := 20, ground := Ground.data }, { on := 18, ground := Ground.guard }], guard := some (18, false) }) (v := undef) rfl (by kernel_rfl) (by kernel_rfl) (by kernel_rfl) (fun _ _ _ h => h) (Or.inr ⟨by rfl, rfl⟩) hHeld ?_
    (try simp only [Act.put, List.setIfInBounds_toArray, List.set_cons_zero, List.set_cons_succ])
    refine wpAnyH_take (i := 22) (oi := { dst := some 275, op := Op.load 27 (Operand.tmp 274), type := 27, pos := "law.go:131", after := #[{ on := 21, ground := Ground.data }, { on := 18, ground := Ground.guard }], guard := some (18, false) }) (v := undef) rfl (by kernel_rfl) (by kernel_rfl) (by kernel_rfl) (fun _ _ _ h => h) (Or.inr ⟨by rfl, rfl⟩) hHeld ?_
    (try simp only [Act.put, List.setIfInBounds_toArray, List.set_cons_zero, List.set_cons_succ])
    refine wpAnyH_take (i := 23) (oi := { dst := some 276, op := Op.build 27 #[], type := 27, pos := "law.go:131", after := #[{ on := 18, ground := Ground.guard }], guard := some (18, false) }) (v := undef) rfl (by kernel_rfl) (by kernel_rfl) (by kernel_rfl) (fun _ _ _ h => h) (Or.inr ⟨by rfl, rfl⟩) hHeld ?_
    (try simp only [Act.put, List.setIfInBounds_toArray, List.set_cons_zero, List.set_cons_succ])
    refine wpAnyH_take (i := 24) (oi := { dst := some 277, op := Op.binOp BinOp.eql 27 (Operand.tmp 275) (Operand.tmp 276) 27, type := 4, pos := "law.go:131", after := #[{ on := 22, ground := Ground.data }, { on := 23, ground := Ground.data }, { on := 18, ground := Ground.guard }], guard := some (18, false) }) (v := undef) rfl (by kernel_rfl) (by kernel_rfl) (by kernel_rfl) (fun _ _ _ h => h) (Or.inr ⟨by rfl, rfl⟩) hHeld ?_
    (try simp only [Act.put, List.setIfInBounds_toArray, List.set_cons_zero, List.set_cons_succ])
    refine wpAnyH_take (i := 25) (oi := { dst := some 278, op := Op.fieldAddr 60 (Operand.tmp 19) 2, type := 0, pos := "law.go:131", after := #[{ on := 18, ground := Ground.guard }], guard := some (18, false) }) (v := undef) rfl (by kernel_rfl) (by kernel_rfl) (by kernel_rfl) (fun _ _ _ h => h) (Or.inr ⟨by rfl, rfl⟩) hHeld ?_
    (try simp only [Act.put, List.setIfInBounds_toArray, List.set_cons_zero, List.set_cons_succ])
    refine wpAnyH_take (i := 26) (oi := { dst := some 279, op := Op.fieldAddr 42 (Operand.tmp 278) 1, type := 0, pos := "law.go:131", after := #[{ on := 25, ground := Ground.data }, { on := 18, ground := Ground.guard }], guard := some (18, false) }) (v := undef) rfl (by kernel_rfl) (by kernel_rfl) (by kernel_rfl) (fun _ _ _ h => h) (Or.inr ⟨by rfl, rfl⟩) hHeld ?_
    (try simp only [Act.put, List.setIfInBounds_toArray, List.set_cons_zero, List.set_cons_succ])
    refine wpAnyH_take (i := 27) (oi := { dst := some 280, op := Op.fieldAddr 40 (Operand.tmp 279) 2, type := 0, pos := "law.go:131", after := #[{ on := 26, ground := Ground.data }, { on := 18, ground := Ground.guard }], guard := some (18, false) }) (v := undef) rfl (by kernel_rfl) (by kernel_rfl) (by kernel_rfl) (fun _ _ _ h => h) (Or.inr ⟨by rfl, rfl⟩) hHeld ?_
    (try simp only [Act.put, List.setIfInBounds_toArray, List.set_cons_zero, List.set_cons_succ])
    refine wpAnyH_take (i := 28) (oi := { dst := some 281, op := Op.load 27 (Operand.tmp 280), type := 27, pos := "law.go:131", after := #[{ on := 27, ground := Ground.data }, { on := 18, ground := Ground.guard }], guard := some (18, false) }) (v := undef) rfl (by kernel_rfl) (by kernel_rfl) (by kernel_rfl) (fun _ _ _ h => h) (Or.inr ⟨by rfl, rfl⟩) hHeld ?_
    (try simp only [Act.put, List.setIfInBounds_toArray, List.set_cons_zero, List.set_cons_succ])
    refine wpAnyH_take (i := 29) (oi := { dst := some 282, op := Op.build 27 #[], type := 27, pos := "law.go:131", after := #[{ on := 18, ground := Ground.guard }], guard := some (18, false) }) (v := undef) rfl (by kernel_rfl) (by kernel_rfl) (by kernel_rfl) (fun _ _ _ h => h) (Or.inr ⟨by rfl, rfl⟩) hHeld ?_
    (try simp only [Act.put, List.setIfInBounds_toArray, List.set_cons_zero, List.set_cons_succ])
    refine wpAnyH_take (i := 30) (oi := { dst := some 283, op := Op.binOp BinOp.eql 27 (Operand.tmp 281) (Operand.tmp 282) 27, type := 4, pos := "law.go:131", after := #[{ on := 28, ground := Ground.data }, { on := 29, ground := Ground.data }, { on := 18, ground := Ground.guard }], guard := some (18, false) }) (v := undef) rfl (by kernel_rfl) (by kernel_rfl) (by kernel_rfl) (fun _ _ _ h => h) (Or.inr ⟨by rfl, rfl⟩) hHeld ?_
    (try simp only [Act.put, List.setIfInBounds_toArray, List.set_cons_zero, List.set_cons_succ])
    refine wpAnyH_take (i := 31) (oi := { dst := some 284, op := Op.binOp BinOp.eql 4 (Operand.tmp 277) (Operand.tmp 283) 4, type := 4, pos := "law.go:131", after := #[{ on := 24, ground := Ground.data }, { on := 30, ground := Ground.data }, { on := 18, ground := Ground.guard }], guard := some (18, false) }) (v := undef) rfl (by kernel_rfl) (by kernel_rfl) (by kernel_rfl) (fun _ _ _ h => h) (Or.inr ⟨by rfl, rfl⟩) hHeld ?_
    (try simp only [Act.put, List.setIfInBounds_toArray, List.set_cons_zero, List.set_cons_succ])
    refine wpAnyH_take (i := 32) (oi := { dst := some 285, op := Op.pick (Operand.tmp 271) (Operand.const (Value.bool true)) (Operand.tmp 284), type := 4, pos := "law.go:131", after := #[{ on := 18, ground := Ground.data }, { on := 31, ground := Ground.data }], guard := none }) (v := ?v12016) rfl (by kernel_rfl) (by kernel_rfl) (by kernel_rfl) (fun _ _ _ h => h) (Or.inl ⟨by rfl, ?hy12016⟩) hHeld ?_
    case hy12016 => (intro w hSw; (try dsimp only at hSw); go_simp; (try with_reducible rfl))
    (try simp only [Act.put, List.setIfInBounds_toArray, List.set_cons_zero, List.set_cons_succ])
    refine wpAnyH_take (i := 33) (oi := { dst := some 286, op := Op.move (Operand.tmp 285), type := 4, pos := "law.go:131", after := #[{ on := 32, ground := Ground.data }, { on := 18, ground := Ground.chain }], guard := none }) (v := ?v12017) rfl (by kernel_rfl) (by kernel_rfl) (by kernel_rfl) (fun _ _ _ h => h) (Or.inl ⟨by rfl, ?hy12017⟩) hHeld ?_
    case hy12017 => (intro w hSw; (try dsimp only at hSw); go_simp; (try with_reducible rfl))
    (try simp only [Act.put, List.setIfInBounds_toArray, List.set_cons_zero, List.set_cons_succ])
    refine wpAnyH_take (i := 34) (oi := { dst := some 287, op := Op.fieldAddr 60 (Operand.tmp 19) 1, type := 0, pos := "law.go:131", after := #[{ on := 33, ground := Ground.guard }], guard := some (33, false) }) (v := undef) rfl (by kernel_rfl) (by kernel_rfl) (by kernel_rfl) (fun _ _ _ h => h) (Or.inr ⟨by rfl, rfl⟩) hHeld ?_
    (try simp only [Act.put, List.setIfInBounds_toArray, List.set_cons_zero, List.set_cons_succ])
    refine wpAnyH_take (i := 35) (oi := { dst := some 288, op := Op.fieldAddr 42 (Operand.tmp 287) 1, type := 0, pos := "law.go:131", after := #[{ on := 34, ground := Ground.data }, { on := 33, ground := Ground.guard }], guard := some (33, false) }) (v := undef) rfl (by kernel_rfl) (by kernel_rfl) (by kernel_rfl) (fun _ _ _ h => h) (Or.inr ⟨by rfl, rfl⟩) hHeld ?_
    (try simp only [Act.put, List.setIfInBounds_toArray, List.set_cons_zero, List.set_cons_succ])
    refine wpAnyH_take (i := 36) (oi := { dst := some 289, op := Op.fieldAddr 40 (Operand.tmp 288) 5, type := 0, pos := "law.go:131", after := #[{ on := 35, ground := Ground.data }, { on := 33, ground := Ground.guard }], guard := some (33, false) }) (v := undef) rfl (by kernel_rfl) (by kernel_rfl) (by kernel_rfl) (fun _ _ _ h => h) (Or.inr ⟨by rfl, rfl⟩) hHeld ?_
    (try simp only [Act.put, List.setIfInBounds_toArray, List.set_cons_zero, List.set_cons_succ])
    refine wpAnyH_take (i := 37) (oi := { dst := some 290, op := Op.load 3 (Operand.tmp 289), type := 3, pos := "law.go:131", after := #[{ on := 36, ground := Ground.data }, { on := 33, ground := Ground.guard }], guard := some (33, false) }) (v := undef) rfl (by kernel_rfl) (by kernel_rfl) (by kernel_rfl) (fun _ _ _ h => h) (Or.inr ⟨by rfl, rfl⟩) hHeld ?_
    (try simp only [Act.put, List.setIfInBounds_toArray, List.set_cons_zero, List.set_cons_succ])
    refine wpAnyH_take (i := 38) (oi := { dst := some 291, op := Op.binOp BinOp.lss 3 (Operand.tmp 290) (Operand.const (Value.int IntKind.i64 0)) 3, type := 4, pos := "law.go:131", after := #[{ on := 37, ground := Ground.data }, { on := 33, ground := Ground.guard }], guard := some (33, false) }) (v := undef) rfl (by kernel_rfl) (by kernel_rfl) (by kernel_rfl) (fun _ _ _ h => h) (Or.inr ⟨by rfl, rfl⟩) hHeld ?_
    (try simp only [Act.put, List.setIfInBounds_toArray, List.set_cons_zero, List.set_cons_succ])
    refine wpAnyH_take (i := 39) (oi := { dst := some 292, op := Op.pick (Operand.tmp 286) (Operand.const (Value.bool true)) (Operand.tmp 291), type := 4, pos := "law.go:131", after := #[{ on := 33, ground := Ground.data }, { on := 38, ground := Ground.data }], guard := none }) (v := ?v12018) rfl (by kernel_rfl) (by kernel_rfl) (by kernel_rfl) (fun _ _ _ h => h) (Or.inl ⟨by rfl, ?hy12018⟩) hHeld ?_
    case hy12018 => (intro w hSw; (try dsimp only at hSw); go_simp; (try with_reducible rfl))
    (try simp only [Act.put, List.setIfInBounds_toArray, List.set_cons_zero, List.set_cons_succ])
    refine wpAnyH_take (i := 40) (oi := { dst := some 293, op := Op.move (Operand.tmp 292), type := 4, pos := "law.go:131", after := #[{ on := 39, ground := Ground.data }, { on := 33, ground := Ground.chain }], guard := none }) (v := ?v12019) rfl (by kernel_rfl) (by kernel_rfl) (by kernel_rfl) (fun _ _ _ h => h) (Or.inl ⟨by rfl, ?hy12019⟩) hHeld ?_
    case hy12019 => (intro w hSw; (try dsimp only at hSw); go_simp; (try with_reducible rfl))
    (try simp only [Act.put, List.setIfInBounds_toArray, List.set_cons_zero, List.set_cons_succ])
    refine wpAnyH_take (i := 41) (oi := { dst := some 294, op := Op.fieldAddr 60 (Operand.tmp 19) 1, type := 0, pos := "law.go:131", after := #[{ on := 40, ground := Ground.guard }], guard := some (40, false) }) (v := undef) rfl (by kernel_rfl) (by kernel_rfl) (by kernel_rfl) (fun _ _ _ h => h) (Or.inr ⟨by rfl, rfl⟩) hHeld ?_
    (try simp only [Act.put, List.setIfInBounds_toArray, List.set_cons_zero, List.set_cons_succ])
    refine wpAnyH_take (i := 42) (oi := { dst := some 295, op := Op.fieldAddr 42 (Operand.tmp 294) 1, type := 0, pos := "law.go:131", after := #[{ on := 41, ground := Ground.data }, { on := 40, ground := Ground.guard }], guard := some (40, false) }) (v := undef) rfl (by kernel_rfl) (by kernel_rfl) (by kernel_rfl) (fun _ _ _ h => h) (Or.inr ⟨by rfl, rfl⟩) hHeld ?_
    (try simp only [Act.put, List.setIfInBounds_toArray, List.set_cons_zero, List.set_cons_succ])
    refine wpAnyH_take (i := 43) (oi := { dst := some 296, op := Op.fieldAddr 40 (Operand.tmp 295) 5, type := 0, pos := "law.go:131", after := #[{ on := 42, ground := Ground.data }, { on := 40, ground := Ground.guard }], guard := some (40, false) }) (v := undef) rfl (by kernel_rfl) (by kernel_rfl) (by kernel_rfl) (fun _ _ _ h => h) (Or.inr ⟨by rfl, rfl⟩) hHeld ?_
    (try simp only [Act.put, List.setIfInBounds_toArray, List.set_cons_zero, List.set_cons_succ])
    refine wpAnyH_take (i := 44) (oi := { dst := some 297, op := Op.load 3 (Operand.tmp 296), type := 3, pos := "law.go:131", after := #[{ on := 43, ground := Ground.data }, { on := 40, ground := Ground.guard }], guard := some (40, false) }) (v := undef) rfl (by kernel_rfl) (by kernel_rfl) (by kernel_rfl) (fun _ _ _ h => h) (Or.inr ⟨by rfl, rfl⟩) hHeld ?_
    (try simp only [Act.put, List.setIfInBounds_toArray, List.set_cons_zero, List.set_cons_succ])
    refine wpAnyH_take (i := 45) (oi := { dst := some 298, op := Op.binOp BinOp.gtr 3 (Operand.tmp 297) (Operand.const (Value.int IntKind.i64 1073741824)) 3, type := 4, pos := "law.go:131", after := #[{ on := 44, ground := Ground.data }, { on := 40, ground := Ground.guard }], guard := some (40, false) }) (v := undef) rfl (by kernel_rfl) (by kernel_rfl) (by kernel_rfl) (fun _ _ _ h => h) (Or.inr ⟨by rfl, rfl⟩) hHeld ?_
    (try simp only [Act.put, List.setIfInBounds_toArray, List.set_cons_zero, List.set_cons_succ])
    refine wpAnyH_take (i := 46) (oi := { dst := some 299, op := Op.pick (Operand.tmp 293) (Operand.const (Value.bool true)) (Operand.tmp 298), type := 4, pos := "law.go:131", after := #[{ on := 40, ground := Ground.data }, { on := 45, ground := Ground.data }], guard := none }) (v := ?v12020) rfl (by kernel_rfl) (by kernel_rfl) (by kernel_rfl) (fun _ _ _ h => h) (Or.inl ⟨by rfl, ?hy12020⟩) hHeld ?_
    case hy12020 => (intro w hSw; (try dsimp only at hSw); go_simp; (try with_reducible rfl))
    (try simp only [Act.put, List.setIfInBounds_toArray, List.set_cons_zero, List.set_cons_succ])
    refine wpAnyH_take (i := 47) (oi := { dst := some 300, op := Op.move (Operand.tmp 299), type := 4, pos := "law.go:131", after := #[{ on := 46, ground := Ground.data }, { on := 40, ground := Ground.chain }], guard := none }) (v := ?v12021) rfl (by kernel_rfl) (by kernel_rfl) (by kernel_rfl) (fun _ _ _ h => h) (Or.inl ⟨by rfl, ?hy12021⟩) hHeld ?_
    case hy12021 => (intro w hSw; (try dsimp only at hSw); go_simp; (try with_reducible rfl))
    (try simp only [Act.put, List.setIfInBounds_toArray, List.set_cons_zero, List.set_cons_succ])
    refine wpAnyH_take (i := 48) (oi := { dst := some 301, op := Op.fieldAddr 60 (Operand.tmp 19) 2, type := 0, pos := "law.go:131", after := #[{ on := 47, ground := Ground.guard }], guard := some (47, false) }) (v := undef) rfl (by kernel_rfl) (by kernel_rfl) (by kernel_rfl) (fun _ _ _ h => h) (Or.inr ⟨by rfl, rfl⟩) hHeld ?_
    (try simp only [Act.put, List.setIfInBounds_toArray, List.set_cons_zero, List.set_cons_succ])
    refine wpAnyH_take (i := 49) (oi := { dst := some 302, op := Op.fieldAddr 42 (Operand.tmp 301) 1, type := 0, pos := "law.go:131", after := #[{ on := 48, ground := Ground.data }, { on := 47, ground := Ground.guard }], guard := some (47, false) }) (v := undef) rfl (by kernel_rfl) (by kernel_rfl) (by kernel_rfl) (fun _ _ _ h => h) (Or.inr ⟨by rfl, rfl⟩) hHeld ?_
    (try simp only [Act.put, List.setIfInBounds_toArray, List.set_cons_zero, List.set_cons_succ])
    refine wpAnyH_take (i := 50) (oi := { dst := some 303, op := Op.fieldAddr 40 (Operand.tmp 302) 5, type := 0, pos := "law.go:131", after := #[{ on := 49, ground := Ground.data }, { on := 47, ground := Ground.guard }], guard := some (47, false) }) (v := undef) rfl (by kernel_rfl) (by kernel_rfl) (by kernel_rfl) (fun _ _ _ h => h) (Or.inr ⟨by rfl, rfl⟩) hHeld ?_
    (try simp only [Act.put, List.setIfInBounds_toArray, List.set_cons_zero, List.set_cons_succ])
    refine wpAnyH_take (i := 51) (oi := { dst := some 304, op := Op.load 3 (Operand.tmp 303), type := 3, pos := "law.go:131", after := #[{ on := 50, ground := Ground.data }, { on := 47, ground := Ground.guard }], guard := some (47, false) }) (v := undef) rfl (by kernel_rfl) (by kernel_rfl) (by kernel_rfl) (fun _ _ _ h => h) (Or.inr ⟨by rfl, rfl⟩) hHeld ?_
    (try simp only [Act.put, List.setIfInBounds_toArray, List.set_cons_zero, List.set_cons_succ])
    refine wpAnyH_take (i := 52) (oi := { dst := some 305, op := Op.binOp BinOp.lss 3 (Operand.tmp 304) (Operand.const (Value.int IntKind.i64 0)) 3, type := 4, pos := "law.go:131", after := #[{ on := 51, ground := Ground.data }, { on := 47, ground := Ground.guard }], guard := some (47, false) }) (v := undef) rfl (by kernel_rfl) (by kernel_rfl) (by kernel_rfl) (fun _ _ _ h => h) (Or.inr ⟨by rfl, rfl⟩) hHeld ?_
    (try simp only [Act.put, List.setIfInBounds_toArray, List.set_cons_zero, List.set_cons_succ])
    refine wpAnyH_take (i := 53) (oi := { dst := some 306, op := Op.pick (Operand.tmp 300) (Operand.const (Value.bool true)) (Operand.tmp 305), type := 4, pos := "law.go:131", after := #[{ on := 47, ground := Ground.data }, { on := 52, ground := Ground.data }], guard := none }) (v := ?v12022) rfl (by kernel_rfl) (by kernel_rfl) (by kernel_rfl) (fun _ _ _ h => h) (Or.inl ⟨by rfl, ?hy12022⟩) hHeld ?_
    case hy12022 => (intro w hSw; (try dsimp only at hSw); go_simp; (try with_reducible rfl))
    (try simp only [Act.put, List.setIfInBounds_toArray, List.set_cons_zero, List.set_cons_succ])
    refine wpAnyH_take (i := 54) (oi := { dst := some 307, op := Op.move (Operand.tmp 306), type := 4, pos := "law.go:131", after := #[{ on := 53, ground := Ground.data }, { on := 47, ground := Ground.chain }], guard := none }) (v := ?v12023) rfl (by kernel_rfl) (by kernel_rfl) (by kernel_rfl) (fun _ _ _ h => h) (Or.inl ⟨by rfl, ?hy12023⟩) hHeld ?_
    case hy12023 => (intro w hSw; (try dsimp only at hSw); go_simp; (try with_reducible rfl))
    (try simp only [Act.put, List.setIfInBounds_toArray, List.set_cons_zero, List.set_cons_succ])
    refine wpAnyH_take (i := 55) (oi := { dst := some 308, op := Op.fieldAddr 60 (Operand.tmp 19) 2, type := 0, pos := "law.go:131", after := #[{ on := 54, ground := Ground.guard }], guard := some (54, false) }) (v := undef) rfl (by kernel_rfl) (by kernel_rfl) (by kernel_rfl) (fun _ _ _ h => h) (Or.inr ⟨by rfl, rfl⟩) hHeld ?_
    (try simp only [Act.put, List.setIfInBounds_toArray, List.set_cons_zero, List.set_cons_succ])
    refine wpAnyH_take (i := 56) (oi := { dst := some 309, op := Op.fieldAddr 42 (Operand.tmp 308) 1, type := 0, pos := "law.go:131", after := #[{ on := 55, ground := Ground.data }, { on := 54, ground := Ground.guard }], guard := some (54, false) }) (v := undef) rfl (by kernel_rfl) (by kernel_rfl) (by kernel_rfl) (fun _ _ _ h => h) (Or.inr ⟨by rfl, rfl⟩) hHeld ?_
    (try simp only [Act.put, List.setIfInBounds_toArray, List.set_cons_zero, List.set_cons_succ])
    refine wpAnyH_take (i := 57) (oi := { dst := some 310, op := Op.fieldAddr 40 (Operand.tmp 309) 5, type := 0, pos := "law.go:131", after := #[{ on := 56, ground := Ground.data }, { on := 54, ground := Ground.guard }], guard := some (54, false) }) (v := undef) rfl (by kernel_rfl) (by kernel_rfl) (by kernel_rfl) (fun _ _ _ h => h) (Or.inr ⟨by rfl, rfl⟩) hHeld ?_
    (try simp only [Act.put, List.setIfInBounds_toArray, List.set_cons_zero, List.set_cons_succ])
    refine wpAnyH_take (i := 58) (oi := { dst := some 311, op := Op.load 3 (Operand.tmp 310), type := 3, pos := "law.go:131", after := #[{ on := 57, ground := Ground.data }, { on := 54, ground := Ground.guard }], guard := some (54, false) }) (v := undef) rfl (by kernel_rfl) (by kernel_rfl) (by kernel_rfl) (fun _ _ _ h => h) (Or.inr ⟨by rfl, rfl⟩) hHeld ?_
    (try simp only [Act.put, List.setIfInBounds_toArray, List.set_cons_zero, List.set_cons_succ])
    refine wpAnyH_take (i := 59) (oi := { dst := some 312, op := Op.binOp BinOp.gtr 3 (Operand.tmp 311) (Operand.const (Value.int IntKind.i64 1073741824)) 3, type := 4, pos := "law.go:131", after := #[{ on := 58, ground := Ground.data }, { on := 54, ground := Ground.guard }], guard := some (54, false) }) (v := undef) rfl (by kernel_rfl) (by kernel_rfl) (by kernel_rfl) (fun _ _ _ h => h) (Or.inr ⟨by rfl, rfl⟩) hHeld ?_
    (try simp only [Act.put, List.setIfInBounds_toArray, List.set_cons_zero, List.set_cons_succ])
    refine wpAnyH_take (i := 60) (oi := { dst := some 313, op := Op.pick (Operand.tmp 307) (Operand.const (Value.bool true)) (Operand.tmp 312), type := 4, pos := "law.go:131", after := #[{ on := 54, ground := Ground.data }, { on := 59, ground := Ground.data }], guard := none }) (v := ?v12024) rfl (by kernel_rfl) (by kernel_rfl) (by kernel_rfl) (fun _ _ _ h => h) (Or.inl ⟨by rfl, ?hy12024⟩) hHeld ?_
    case hy12024 => (intro w hSw; (try dsimp only at hSw); go_simp; (try with_reducible rfl))
    (try simp only [Act.put, List.setIfInBounds_toArray, List.set_cons_zero, List.set_cons_succ])
    refine wpAnyH_take (i := 61) (oi := { dst := some 252, op := Op.assign (Operand.tmp 313), type := 4, pos := "law.go:131", after := #[{ on := 60, ground := Ground.data }, { on := 54, ground := Ground.chain }], guard := none }) (v := ?v12025) rfl (by kernel_rfl) (by kernel_rfl) (by kernel_rfl) (fun _ _ _ h => h) (Or.inl ⟨by rfl, ?hy12025⟩) hHeld ?_
    case hy12025 => (intro w hSw; (try dsimp only at hSw); go_simp; (try with_reducible rfl))
    (try simp only [Act.put, List.setIfInBounds_toArray, List.set_cons_zero, List.set_cons_succ])
    refine wpAnyH_done (by kernel_rfl) ?_ _
    rotate_left
    all_goals exact ⟨rfl, ⟨⟨⟨rfl, rfl, rfl, rfl, rfl, rfl, rfl, rfl, rfl⟩, rfl, rfl, rfl, rfl, rfl, rfl, rfl⟩, rfl, rfl, rfl, rfl, rfl⟩, by rw [HR.out]; rfl, by assumption⟩
  | true =>
  refine wpAnyH_take (i := 16) (oi := { dst := some 269, op := Op.binOp BinOp.neq 27 (Operand.tmp 264) (Operand.tmp 268) 27, type := 4, pos := "law.go:131", after := #[{ on := 11, ground := Ground.data }, { on := 15, ground := Ground.data }, { on := 7, ground := Ground.guard }], guard := some (7, false) }) (v := ?v17013) rfl (by kernel_rfl) (by kernel_rfl) (by kernel_rfl) (fun _ _ _ h => h) (Or.inl ⟨by rfl, ?hy17013⟩) hHeld ?_
  case hy17013 => (intro w hSw; (try dsimp only at hSw); go_simp; (try with_reducible rfl))
  (try simp only [Act.put, List.setIfInBounds_toArray, List.set_cons_zero, List.set_cons_succ])
  refine wpAnyH_take (i := 17) (oi := { dst := some 270, op := Op.pick (Operand.tmp 260) (Operand.const (Value.bool true)) (Operand.tmp 269), type := 4, pos := "law.go:131", after := #[{ on := 7, ground := Ground.data }, { on := 16, ground := Ground.data }], guard := none }) (v := ?v17014) rfl (by kernel_rfl) (by kernel_rfl) (by kernel_rfl) (fun _ _ _ h => h) (Or.inl ⟨by rfl, ?hy17014⟩) hHeld ?_
  case hy17014 => (intro w hSw; (try dsimp only at hSw); go_simp; (try with_reducible rfl))
  (try simp only [Act.put, List.setIfInBounds_toArray, List.set_cons_zero, List.set_cons_succ])
  refine wpAnyH_take (i := 18) (oi := { dst := some 271, op := Op.move (Operand.tmp 270), type := 4, pos := "law.go:131", after := #[{ on := 17, ground := Ground.data }, { on := 7, ground := Ground.chain }], guard := none }) (v := ?v17015) rfl (by kernel_rfl) (by kernel_rfl) (by kernel_rfl) (fun _ _ _ h => h) (Or.inl ⟨by rfl, ?hy17015⟩) hHeld ?_
  case hy17015 => (intro w hSw; (try dsimp only at hSw); go_simp; (try with_reducible rfl))
  (try simp only [Act.put, List.setIfInBounds_toArray, List.set_cons_zero, List.set_cons_succ])
  refine wpAnyH_take (i := 19) (oi := { dst := some 272, op := Op.fieldAddr 60 (Operand.tmp 19) 1, type := 0, pos := "law.go:131", after := #[{ on := 18, ground := Ground.guard }], guard := some (18, false) }) (v := ?v17016) rfl (by kernel_rfl) (by kernel_rfl) (by kernel_rfl) (fun _ _ _ h => h) (Or.inl ⟨by rfl, ?hy17016⟩) hHeld ?_
  case hy17016 => (intro w hSw; (try dsimp only at hSw); go_simp; (try with_reducible rfl))
  (try simp only [Act.put, List.setIfInBounds_toArray, List.set_cons_zero, List.set_cons_succ])
  refine wpAnyH_take (i := 20) (oi := { dst := some 273, op := Op.fieldAddr 42 (Operand.tmp 272) 1, type := 0, pos := "law.go:131", after := #[{ on := 19, ground := Ground.data }, { on := 18, ground := Ground.guard }], guard := some (18, false) }) (v := ?v17017) rfl (by kernel_rfl) (by kernel_rfl) (by kernel_rfl) (fun _ _ _ h => h) (Or.inl ⟨by rfl, ?hy17017⟩) hHeld ?_
  case hy17017 => (intro w hSw; (try dsimp only at hSw); go_simp; (try with_reducible rfl))
  (try simp only [Act.put, List.setIfInBounds_toArray, List.set_cons_zero, List.set_cons_succ])
  refine wpAnyH_take (i := 21) (oi := { dst := some 274, op := Op.fieldAddr 40 (Operand.tmp 273) 2, type := 0, pos := "law.go:131", after := #[{ on := 20, ground := Ground.data }, { on := 18, ground := Ground.guard }], guard := some (18, false) }) (v := ?v17018) rfl (by kernel_rfl) (by kernel_rfl) (by kernel_rfl) (fun _ _ _ h => h) (Or.inl ⟨by rfl, ?hy17018⟩) hHeld ?_
  case hy17018 => (intro w hSw; (try dsimp only at hSw); go_simp; (try with_reducible rfl))
  (try simp only [Act.put, List.setIfInBounds_toArray, List.set_cons_zero, List.set_cons_succ])
  refine' wpAnyH_take (i := 22) (oi := { dst := some 275, op := Op.load 27 (Operand.tmp 274), type := 27, pos := "law.go:131", after := #[{ on := 21, ground := Ground.data }, { on := 18, ground := Ground.guard }], guard := some (18, false) }) (v := _) rfl (by kernel_rfl) (by kernel_rfl) (by kernel_rfl) (fun _ _ _ h => h) (yieldsIf_load_mid (by rfl) _ _ rfl R 4 rfl (nums .u8 x.inn.o.id) _ (fun _ h => range_keep h i1) un rfl hi1.out) hHeld ?_
  (try simp only [Act.put, List.setIfInBounds_toArray, List.set_cons_zero, List.set_cons_succ])
  refine wpAnyH_take (i := 23) (oi := { dst := some 276, op := Op.build 27 #[], type := 27, pos := "law.go:131", after := #[{ on := 18, ground := Ground.guard }], guard := some (18, false) }) (v := (.agg (nums .u8 hz32).toArray)) rfl (by kernel_rfl) (by kernel_rfl) (by kernel_rfl) (fun _ _ _ h => h) (Or.inl ⟨by rfl, fun w _ => run_bld0 rfl bz⟩) hHeld ?_
  (try simp only [Act.put, List.setIfInBounds_toArray, List.set_cons_zero, List.set_cons_succ])
  refine wpAnyH_take (i := 24) (oi := { dst := some 277, op := Op.binOp BinOp.eql 27 (Operand.tmp 275) (Operand.tmp 276) 27, type := 4, pos := "law.go:131", after := #[{ on := 22, ground := Ground.data }, { on := 23, ground := Ground.data }, { on := 18, ground := Ground.guard }], guard := some (18, false) }) (v := ?v17019) rfl (by kernel_rfl) (by kernel_rfl) (by kernel_rfl) (fun _ _ _ h => h) (Or.inl ⟨by rfl, ?hy17019⟩) hHeld ?_
  case hy17019 => (intro w hSw; (try dsimp only at hSw); go_simp; (try with_reducible rfl))
  (try simp only [Act.put, List.setIfInBounds_toArray, List.set_cons_zero, List.set_cons_succ])
  refine wpAnyH_take (i := 25) (oi := { dst := some 278, op := Op.fieldAddr 60 (Operand.tmp 19) 2, type := 0, pos := "law.go:131", after := #[{ on := 18, ground := Ground.guard }], guard := some (18, false) }) (v := ?v17020) rfl (by kernel_rfl) (by kernel_rfl) (by kernel_rfl) (fun _ _ _ h => h) (Or.inl ⟨by rfl, ?hy17020⟩) hHeld ?_
  case hy17020 => (intro w hSw; (try dsimp only at hSw); go_simp; (try with_reducible rfl))
  (try simp only [Act.put, List.setIfInBounds_toArray, List.set_cons_zero, List.set_cons_succ])
  refine wpAnyH_take (i := 26) (oi := { dst := some 279, op := Op.fieldAddr 42 (Operand.tmp 278) 1, type := 0, pos := "law.go:131", after := #[{ on := 25, ground := Ground.data }, { on := 18, ground := Ground.guard }], guard := some (18, false) }) (v := ?v17021) rfl (by kernel_rfl) (by kernel_rfl) (by kernel_rfl) (fun _ _ _ h => h) (Or.inl ⟨by rfl, ?hy17021⟩) hHeld ?_
  case hy17021 => (intro w hSw; (try dsimp only at hSw); go_simp; (try with_reducible rfl))
  (try simp only [Act.put, List.setIfInBounds_toArray, List.set_cons_zero, List.set_cons_succ])
  refine wpAnyH_take (i := 27) (oi := { dst := some 280, op := Op.fieldAddr 40 (Operand.tmp 279) 2, type := 0, pos := "law.go:131", after := #[{ on := 26, ground := Ground.data }, { on := 18, ground := Ground.guard }], guard := some (18, false) }) (v := ?v17022) rfl (by kernel_rfl) (by kernel_rfl) (by kernel_rfl) (fun _ _ _ h => h) (Or.inl ⟨by rfl, ?hy17022⟩) hHeld ?_
  case hy17022 => (intro w hSw; (try dsimp only at hSw); go_simp; (try with_reducible rfl))
  (try simp only [Act.put, List.setIfInBounds_toArray, List.set_cons_zero, List.set_cons_succ])
  refine' wpAnyH_take (i := 28) (oi := { dst := some 281, op := Op.load 27 (Operand.tmp 280), type := 27, pos := "law.go:131", after := #[{ on := 27, ground := Ground.data }, { on := 18, ground := Ground.guard }], guard := some (18, false) }) (v := _) rfl (by kernel_rfl) (by kernel_rfl) (by kernel_rfl) (fun _ _ _ h => h) (yieldsIf_load_mid (by rfl) _ _ rfl R 73 rfl (nums .u8 x.out.o.id) _ (fun _ h => range_keep h i2) un rfl hi2.out) hHeld ?_
  (try simp only [Act.put, List.setIfInBounds_toArray, List.set_cons_zero, List.set_cons_succ])
  refine wpAnyH_take (i := 29) (oi := { dst := some 282, op := Op.build 27 #[], type := 27, pos := "law.go:131", after := #[{ on := 18, ground := Ground.guard }], guard := some (18, false) }) (v := (.agg (nums .u8 hz32).toArray)) rfl (by kernel_rfl) (by kernel_rfl) (by kernel_rfl) (fun _ _ _ h => h) (Or.inl ⟨by rfl, fun w _ => run_bld0 rfl bz⟩) hHeld ?_
  (try simp only [Act.put, List.setIfInBounds_toArray, List.set_cons_zero, List.set_cons_succ])
  refine wpAnyH_take (i := 30) (oi := { dst := some 283, op := Op.binOp BinOp.eql 27 (Operand.tmp 281) (Operand.tmp 282) 27, type := 4, pos := "law.go:131", after := #[{ on := 28, ground := Ground.data }, { on := 29, ground := Ground.data }, { on := 18, ground := Ground.guard }], guard := some (18, false) }) (v := ?v17023) rfl (by kernel_rfl) (by kernel_rfl) (by kernel_rfl) (fun _ _ _ h => h) (Or.inl ⟨by rfl, ?hy17023⟩) hHeld ?_
  case hy17023 => (intro w hSw; (try dsimp only at hSw); go_simp; (try with_reducible rfl))
  (try simp only [Act.put, List.setIfInBounds_toArray, List.set_cons_zero, List.set_cons_succ])
  obtain ⟨be, hbe⟩ : ∃ be, (b1 == b2) = be := ⟨_, rfl⟩
  rw [hbe] at HR
  cases be with
  | true =>
    refine wpAnyH_take (i := 31) (oi := { dst := some 284, op := Op.binOp BinOp.eql 4 (Operand.tmp 277) (Operand.tmp 283) 4, type := 4, pos := "law.go:131", after := #[{ on := 24, ground := Ground.data }, { on := 30, ground := Ground.data }, { on := 18, ground := Ground.guard }], guard := some (18, false) }) (v := ?v13024) rfl (by kernel_rfl) (by kernel_rfl) (by kernel_rfl) (fun _ _ _ h => h) (Or.inl ⟨by rfl, ?hy13024⟩) hHeld ?_
    case hy13024 => (intro w hSw; (try dsimp only at hSw); go_simp; (try with_reducible rfl))
    (try simp only [Act.put, List.setIfInBounds_toArray, List.set_cons_zero, List.set_cons_succ])
    refine wpAnyH_take (i := 32) (oi := { dst := some 285, op := Op.pick (Operand.tmp 271) (Operand.const (Value.bool true)) (Operand.tmp 284), type := 4, pos := "law.go:131", after := #[{ on := 18, ground := Ground.data }, { on := 31, ground := Ground.data }], guard := none }) (v := ?v13025) rfl (by kernel_rfl) (by kernel_rfl) (by kernel_rfl) (fun _ _ _ h => h) (Or.inl ⟨by rfl, ?hy13025⟩) hHeld ?_
    case hy13025 => (intro w hSw; (try dsimp only at hSw); go_simp; (try with_reducible rfl))
    (try simp only [Act.put, List.setIfInBounds_toArray, List.set_cons_zero, List.set_cons_succ])
    refine wpAnyH_take (i := 33) (oi := { dst := some 286, op := Op.move (Operand.tmp 285), type := 4, pos := "law.go:131", after := #[{ on := 32, ground := Ground.data }, { on := 18, ground := Ground.chain }], guard := none }) (v := ?v13026) rfl (by kernel_rfl) (by kernel_rfl) (by kernel_rfl) (fun _ _ _ h => h) (Or.inl ⟨by rfl, ?hy13026⟩) hHeld ?_
    case hy13026 => (intro w hSw; (try dsimp only at hSw); go_simp; (try with_reducible rfl))
    (try simp only [Act.put, List.setIfInBounds_toArray, List.set_cons_zero, List.set_cons_succ])
    refine wpAnyH_take (i := 34) (oi := { dst := some 287, op := Op.fieldAddr 60 (Operand.tmp 19) 1, type := 0, pos := "law.go:131", after := #[{ on := 33, ground := Ground.guard }], guard := some (33, false) }) (v := undef) rfl (by kernel_rfl) (by kernel_rfl) (by kernel_rfl) (fun _ _ _ h => h) (Or.inr ⟨by rfl, rfl⟩) hHeld ?_
    (try simp only [Act.put, List.setIfInBounds_toArray, List.set_cons_zero, List.set_cons_succ])
    refine wpAnyH_take (i := 35) (oi := { dst := some 288, op := Op.fieldAddr 42 (Operand.tmp 287) 1, type := 0, pos := "law.go:131", after := #[{ on := 34, ground := Ground.data }, { on := 33, ground := Ground.guard }], guard := some (33, false) }) (v := undef) rfl (by kernel_rfl) (by kernel_rfl) (by kernel_rfl) (fun _ _ _ h => h) (Or.inr ⟨by rfl, rfl⟩) hHeld ?_
    (try simp only [Act.put, List.setIfInBounds_toArray, List.set_cons_zero, List.set_cons_succ])
    refine wpAnyH_take (i := 36) (oi := { dst := some 289, op := Op.fieldAddr 40 (Operand.tmp 288) 5, type := 0, pos := "law.go:131", after := #[{ on := 35, ground := Ground.data }, { on := 33, ground := Ground.guard }], guard := some (33, false) }) (v := undef) rfl (by kernel_rfl) (by kernel_rfl) (by kernel_rfl) (fun _ _ _ h => h) (Or.inr ⟨by rfl, rfl⟩) hHeld ?_
    (try simp only [Act.put, List.setIfInBounds_toArray, List.set_cons_zero, List.set_cons_succ])
    refine wpAnyH_take (i := 37) (oi := { dst := some 290, op := Op.load 3 (Operand.tmp 289), type := 3, pos := "law.go:131", after := #[{ on := 36, ground := Ground.data }, { on := 33, ground := Ground.guard }], guard := some (33, false) }) (v := undef) rfl (by kernel_rfl) (by kernel_rfl) (by kernel_rfl) (fun _ _ _ h => h) (Or.inr ⟨by rfl, rfl⟩) hHeld ?_
    (try simp only [Act.put, List.setIfInBounds_toArray, List.set_cons_zero, List.set_cons_succ])
    refine wpAnyH_take (i := 38) (oi := { dst := some 291, op := Op.binOp BinOp.lss 3 (Operand.tmp 290) (Operand.const (Value.int IntKind.i64 0)) 3, type := 4, pos := "law.go:131", after := #[{ on := 37, ground := Ground.data }, { on := 33, ground := Ground.guard }], guard := some (33, false) }) (v := undef) rfl (by kernel_rfl) (by kernel_rfl) (by kernel_rfl) (fun _ _ _ h => h) (Or.inr ⟨by rfl, rfl⟩) hHeld ?_
    (try simp only [Act.put, List.setIfInBounds_toArray, List.set_cons_zero, List.set_cons_succ])
    refine wpAnyH_take (i := 39) (oi := { dst := some 292, op := Op.pick (Operand.tmp 286) (Operand.const (Value.bool true)) (Operand.tmp 291), type := 4, pos := "law.go:131", after := #[{ on := 33, ground := Ground.data }, { on := 38, ground := Ground.data }], guard := none }) (v := ?v13027) rfl (by kernel_rfl) (by kernel_rfl) (by kernel_rfl) (fun _ _ _ h => h) (Or.inl ⟨by rfl, ?hy13027⟩) hHeld ?_
    case hy13027 => (intro w hSw; (try dsimp only at hSw); go_simp; (try with_reducible rfl))
    (try simp only [Act.put, List.setIfInBounds_toArray, List.set_cons_zero, List.set_cons_succ])
    refine wpAnyH_take (i := 40) (oi := { dst := some 293, op := Op.move (Operand.tmp 292), type := 4, pos := "law.go:131", after := #[{ on := 39, ground := Ground.data }, { on := 33, ground := Ground.chain }], guard := none }) (v := ?v13028) rfl (by kernel_rfl) (by kernel_rfl) (by kernel_rfl) (fun _ _ _ h => h) (Or.inl ⟨by rfl, ?hy13028⟩) hHeld ?_
    case hy13028 => (intro w hSw; (try dsimp only at hSw); go_simp; (try with_reducible rfl))
    (try simp only [Act.put, List.setIfInBounds_toArray, List.set_cons_zero, List.set_cons_succ])
    refine wpAnyH_take (i := 41) (oi := { dst := some 294, op := Op.fieldAddr 60 (Operand.tmp 19) 1, type := 0, pos := "law.go:131", after := #[{ on := 40, ground := Ground.guard }], guard := some (40, false) }) (v := undef) rfl (by kernel_rfl) (by kernel_rfl) (by kernel_rfl) (fun _ _ _ h => h) (Or.inr ⟨by rfl, rfl⟩) hHeld ?_
    (try simp only [Act.put, List.setIfInBounds_toArray, List.set_cons_zero, List.set_cons_succ])
    refine wpAnyH_take (i := 42) (oi := { dst := some 295, op := Op.fieldAddr 42 (Operand.tmp 294) 1, type := 0, pos := "law.go:131", after := #[{ on := 41, ground := Ground.data }, { on := 40, ground := Ground.guard }], guard := some (40, false) }) (v := undef) rfl (by kernel_rfl) (by kernel_rfl) (by kernel_rfl) (fun _ _ _ h => h) (Or.inr ⟨by rfl, rfl⟩) hHeld ?_
    (try simp only [Act.put, List.setIfInBounds_toArray, List.set_cons_zero, List.set_cons_succ])
    refine wpAnyH_take (i := 43) (oi := { dst := some 296, op := Op.fieldAddr 40 (Operand.tmp 295) 5, type := 0, pos := "law.go:131", after := #[{ on := 42, ground := Ground.data }, { on := 40, ground := Ground.guard }], guard := some (40, false) }) (v := undef) rfl (by kernel_rfl) (by kernel_rfl) (by kernel_rfl) (fun _ _ _ h => h) (Or.inr ⟨by rfl, rfl⟩) hHeld ?_
    (try simp only [Act.put, List.setIfInBounds_toArray, List.set_cons_zero, List.set_cons_succ])
    refine wpAnyH_take (i := 44) (oi := { dst := some 297, op := Op.load 3 (Operand.tmp 296), type := 3, pos := "law.go:131", after := #[{ on := 43, ground := Ground.data }, { on := 40, ground := Ground.guard }], guard := some (40, false) }) (v := undef) rfl (by kernel_rfl) (by kernel_rfl) (by kernel_rfl) (fun _ _ _ h => h) (Or.inr ⟨by rfl, rfl⟩) hHeld ?_
    (try simp only [Act.put, List.setIfInBounds_toArray, List.set_cons_zero, List.set_cons_succ])
    refine wpAnyH_take (i := 45) (oi := { dst := some 298, op := Op.binOp BinOp.gtr 3 (Operand.tmp 297) (Operand.const (Value.int IntKind.i64 1073741824)) 3, type := 4, pos := "law.go:131", after := #[{ on := 44, ground := Ground.data }, { on := 40, ground := Ground.guard }], guard := some (40, false) }) (v := undef) rfl (by kernel_rfl) (by kernel_rfl) (by kernel_rfl) (fun _ _ _ h => h) (Or.inr ⟨by rfl, rfl⟩) hHeld ?_
    (try simp only [Act.put, List.setIfInBounds_toArray, List.set_cons_zero, List.set_cons_succ])
    refine wpAnyH_take (i := 46) (oi := { dst := some 299, op := Op.pick (Operand.tmp 293) (Operand.const (Value.bool true)) (Operand.tmp 298), type := 4, pos := "law.go:131", after := #[{ on := 40, ground := Ground.data }, { on := 45, ground := Ground.data }], guard := none }) (v := ?v13029) rfl (by kernel_rfl) (by kernel_rfl) (by kernel_rfl) (fun _ _ _ h => h) (Or.inl ⟨by rfl, ?hy13029⟩) hHeld ?_
    case hy13029 => (intro w hSw; (try dsimp only at hSw); go_simp; (try with_reducible rfl))
    (try simp only [Act.put, List.setIfInBounds_toArray, List.set_cons_zero, List.set_cons_succ])
    refine wpAnyH_take (i := 47) (oi := { dst := some 300, op := Op.move (Operand.tmp 299), type := 4, pos := "law.go:131", after := #[{ on := 46, ground := Ground.data }, { on := 40, ground := Ground.chain }], guard := none }) (v := ?v13030) rfl (by kernel_rfl) (by kernel_rfl) (by kernel_rfl) (fun _ _ _ h => h) (Or.inl ⟨by rfl, ?hy13030⟩) hHeld ?_
    case hy13030 => (intro w hSw; (try dsimp only at hSw); go_simp; (try with_reducible rfl))
    (try simp only [Act.put, List.setIfInBounds_toArray, List.set_cons_zero, List.set_cons_succ])
    refine wpAnyH_take (i := 48) (oi := { dst := some 301, op := Op.fieldAddr 60 (Operand.tmp 19) 2, type := 0, pos := "law.go:131", after := #[{ on := 47, ground := Ground.guard }], guard := some (47, false) }) (v := undef) rfl (by kernel_rfl) (by kernel_rfl) (by kernel_rfl) (fun _ _ _ h => h) (Or.inr ⟨by rfl, rfl⟩) hHeld ?_
    (try simp only [Act.put, List.setIfInBounds_toArray, List.set_cons_zero, List.set_cons_succ])
    refine wpAnyH_take (i := 49) (oi := { dst := some 302, op := Op.fieldAddr 42 (Operand.tmp 301) 1, type := 0, pos := "law.go:131", after := #[{ on := 48, ground := Ground.data }, { on := 47, ground := Ground.guard }], guard := some (47, false) }) (v := undef) rfl (by kernel_rfl) (by kernel_rfl) (by kernel_rfl) (fun _ _ _ h => h) (Or.inr ⟨by rfl, rfl⟩) hHeld ?_
    (try simp only [Act.put, List.setIfInBounds_toArray, List.set_cons_zero, List.set_cons_succ])
    refine wpAnyH_take (i := 50) (oi := { dst := some 303, op := Op.fieldAddr 40 (Operand.tmp 302) 5, type := 0, pos := "law.go:131", after := #[{ on := 49, ground := Ground.data }, { on := 47, ground := Ground.guard }], guard := some (47, false) }) (v := undef) rfl (by kernel_rfl) (by kernel_rfl) (by kernel_rfl) (fun _ _ _ h => h) (Or.inr ⟨by rfl, rfl⟩) hHeld ?_
    (try simp only [Act.put, List.setIfInBounds_toArray, List.set_cons_zero, List.set_cons_succ])
    refine wpAnyH_take (i := 51) (oi := { dst := some 304, op := Op.load 3 (Operand.tmp 303), type := 3, pos := "law.go:131", after := #[{ on := 50, ground := Ground.data }, { on := 47, ground := Ground.guard }], guard := some (47, false) }) (v := undef) rfl (by kernel_rfl) (by kernel_rfl) (by kernel_rfl) (fun _ _ _ h => h) (Or.inr ⟨by rfl, rfl⟩) hHeld ?_
    (try simp only [Act.put, List.setIfInBounds_toArray, List.set_cons_zero, List.set_cons_succ])
    refine wpAnyH_take (i := 52) (oi := { dst := some 305, op := Op.binOp BinOp.lss 3 (Operand.tmp 304) (Operand.const (Value.int IntKind.i64 0)) 3, type := 4, pos := "law.go:131", after := #[{ on := 51, ground := Ground.data }, { on := 47, ground := Ground.guard }], guard := some (47, false) }) (v := undef) rfl (by kernel_rfl) (by kernel_rfl) (by kernel_rfl) (fun _ _ _ h => h) (Or.inr ⟨by rfl, rfl⟩) hHeld ?_
    (try simp only [Act.put, List.setIfInBounds_toArray, List.set_cons_zero, List.set_cons_succ])
    refine wpAnyH_take (i := 53) (oi := { dst := some 306, op := Op.pick (Operand.tmp 300) (Operand.const (Value.bool true)) (Operand.tmp 305), type := 4, pos := "law.go:131", after := #[{ on := 47, ground := Ground.data }, { on := 52, ground := Ground.data }], guard := none }) (v := ?v13031) rfl (by kernel_rfl) (by kernel_rfl) (by kernel_rfl) (fun _ _ _ h => h) (Or.inl ⟨by rfl, ?hy13031⟩) hHeld ?_
    case hy13031 => (intro w hSw; (try dsimp only at hSw); go_simp; (try with_reducible rfl))
    (try simp only [Act.put, List.setIfInBounds_toArray, List.set_cons_zero, List.set_cons_succ])
    refine wpAnyH_take (i := 54) (oi := { dst := some 307, op := Op.move (Operand.tmp 306), type := 4, pos := "law.go:131", after := #[{ on := 53, ground := Ground.data }, { on := 47, ground := Ground.chain }], guard := none }) (v := ?v13032) rfl (by kernel_rfl) (by kernel_rfl) (by kernel_rfl) (fun _ _ _ h => h) (Or.inl ⟨by rfl, ?hy13032⟩) hHeld ?_
    case hy13032 => (intro w hSw; (try dsimp only at hSw); go_simp; (try with_reducible rfl))
    (try simp only [Act.put, List.setIfInBounds_toArray, List.set_cons_zero, List.set_cons_succ])
    refine wpAnyH_take (i := 55) (oi := { dst := some 308, op := Op.fieldAddr 60 (Operand.tmp 19) 2, type := 0, pos := "law.go:131", after := #[{ on := 54, ground := Ground.guard }], guard := some (54, false) }) (v := undef) rfl (by kernel_rfl) (by kernel_rfl) (by kernel_rfl) (fun _ _ _ h => h) (Or.inr ⟨by rfl, rfl⟩) hHeld ?_
    (try simp only [Act.put, List.setIfInBounds_toArray, List.set_cons_zero, List.set_cons_succ])
    refine wpAnyH_take (i := 56) (oi := { dst := some 309, op := Op.fieldAddr 42 (Operand.tmp 308) 1, type := 0, pos := "law.go:131", after := #[{ on := 55, ground := Ground.data }, { on := 54, ground := Ground.guard }], guard := some (54, false) }) (v := undef) rfl (by kernel_rfl) (by kernel_rfl) (by kernel_rfl) (fun _ _ _ h => h) (Or.inr ⟨by rfl, rfl⟩) hHeld ?_
    (try simp only [Act.put, List.setIfInBounds_toArray, List.set_cons_zero, List.set_cons_succ])
    refine wpAnyH_take (i := 57) (oi := { dst := some 310, op := Op.fieldAddr 40 (Operand.tmp 309) 5, type := 0, pos := "law.go:131", after := #[{ on := 56, ground := Ground.data }, { on := 54, ground := Ground.guard }], guard := some (54, false) }) (v := undef) rfl (by kernel_rfl) (by kernel_rfl) (by kernel_rfl) (fun _ _ _ h => h) (Or.inr ⟨by rfl, rfl⟩) hHeld ?_
    (try simp only [Act.put, List.setIfInBounds_toArray, List.set_cons_zero, List.set_cons_succ])
    refine wpAnyH_take (i := 58) (oi := { dst := some 311, op := Op.load 3 (Operand.tmp 310), type := 3, pos := "law.go:131", after := #[{ on := 57, ground := Ground.data }, { on := 54, ground := Ground.guard }], guard := some (54, false) }) (v := undef) rfl (by kernel_rfl) (by kernel_rfl) (by kernel_rfl) (fun _ _ _ h => h) (Or.inr ⟨by rfl, rfl⟩) hHeld ?_
    (try simp only [Act.put, List.setIfInBounds_toArray, List.set_cons_zero, List.set_cons_succ])
    refine wpAnyH_take (i := 59) (oi := { dst := some 312, op := Op.binOp BinOp.gtr 3 (Operand.tmp 311) (Operand.const (Value.int IntKind.i64 1073741824)) 3, type := 4, pos := "law.go:131", after := #[{ on := 58, ground := Ground.data }, { on := 54, ground := Ground.guard }], guard := some (54, false) }) (v := undef) rfl (by kernel_rfl) (by kernel_rfl) (by kernel_rfl) (fun _ _ _ h => h) (Or.inr ⟨by rfl, rfl⟩) hHeld ?_
    (try simp only [Act.put, List.setIfInBounds_toArray, List.set_cons_zero, List.set_cons_succ])
    refine wpAnyH_take (i := 60) (oi := { dst := some 313, op := Op.pick (Operand.tmp 307) (Operand.const (Value.bool true)) (Operand.tmp 312), type := 4, pos := "law.go:131", after := #[{ on := 54, ground := Ground.data }, { on := 59, ground := Ground.data }], guard := none }) (v := ?v13033) rfl (by kernel_rfl) (by kernel_rfl) (by kernel_rfl) (fun _ _ _ h => h) (Or.inl ⟨by rfl, ?hy13033⟩) hHeld ?_
    case hy13033 => (intro w hSw; (try dsimp only at hSw); go_simp; (try with_reducible rfl))
    (try simp only [Act.put, List.setIfInBounds_toArray, List.set_cons_zero, List.set_cons_succ])
    refine wpAnyH_take (i := 61) (oi := { dst := some 252, op := Op.assign (Operand.tmp 313), type := 4, pos := "law.go:131", after := #[{ on := 60, ground := Ground.data }, { on := 54, ground := Ground.chain }], guard := none }) (v := ?v13034) rfl (by kernel_rfl) (by kernel_rfl) (by kernel_rfl) (fun _ _ _ h => h) (Or.inl ⟨by rfl, ?hy13034⟩) hHeld ?_
    case hy13034 => (intro w hSw; (try dsimp only at hSw); go_simp; (try with_reducible rfl))
    (try simp only [Act.put, List.setIfInBounds_toArray, List.set_cons_zero, List.set_cons_succ])
    refine wpAnyH_done (by kernel_rfl) ?_ _
    rotate_left
    all_goals exact ⟨rfl, ⟨⟨⟨rfl, rfl, rfl, rfl, rfl, rfl, rfl, rfl, rfl⟩, rfl, rfl, rfl, rfl, rfl, rfl, rfl⟩, rfl, rfl, rfl, rfl, rfl⟩, by rw [HR.out]; rfl, by assumption⟩
  | false =>
  refine wpAnyH_take (i := 31) (oi := { dst := some 284, op := Op.binOp BinOp.eql 4 (Operand.tmp 277) (Operand.tmp 283) 4, type := 4, pos := "law.go:131", after := #[{ on := 24, ground := Ground.data }, { on := 30, ground := Ground.data }, { on := 18, ground := Ground.guard }], guard := some (18, false) }) (v := ?v17024) rfl (by kernel_rfl) (by kernel_rfl) (by kernel_rfl) (fun _ _ _ h => h) (Or.inl ⟨by rfl, ?hy17024⟩) hHeld ?_
  case hy17024 => (intro w hSw; (try dsimp only at hSw); go_simp; (try with_reducible rfl))
  (try simp only [Act.put, List.setIfInBounds_toArray, List.set_cons_zero, List.set_cons_succ])
  refine wpAnyH_take (i := 32) (oi := { dst := some 285, op := Op.pick (Operand.tmp 271) (Operand.const (Value.bool true)) (Operand.tmp 284), type := 4, pos := "law.go:131", after := #[{ on := 18, ground := Ground.data }, { on := 31, ground := Ground.data }], guard := none }) (v := ?v17025) rfl (by kernel_rfl) (by kernel_rfl) (by kernel_rfl) (fun _ _ _ h => h) (Or.inl ⟨by rfl, ?hy17025⟩) hHeld ?_
  case hy17025 => (intro w hSw; (try dsimp only at hSw); go_simp; (try with_reducible rfl))
  (try simp only [Act.put, List.setIfInBounds_toArray, List.set_cons_zero, List.set_cons_succ])
  refine wpAnyH_take (i := 33) (oi := { dst := some 286, op := Op.move (Operand.tmp 285), type := 4, pos := "law.go:131", after := #[{ on := 32, ground := Ground.data }, { on := 18, ground := Ground.chain }], guard := none }) (v := ?v17026) rfl (by kernel_rfl) (by kernel_rfl) (by kernel_rfl) (fun _ _ _ h => h) (Or.inl ⟨by rfl, ?hy17026⟩) hHeld ?_
  case hy17026 => (intro w hSw; (try dsimp only at hSw); go_simp; (try with_reducible rfl))
  (try simp only [Act.put, List.setIfInBounds_toArray, List.set_cons_zero, List.set_cons_succ])
  refine wpAnyH_take (i := 34) (oi := { dst := some 287, op := Op.fieldAddr 60 (Operand.tmp 19) 1, type := 0, pos := "law.go:131", after := #[{ on := 33, ground := Ground.guard }], guard := some (33, false) }) (v := ?v17027) rfl (by kernel_rfl) (by kernel_rfl) (by kernel_rfl) (fun _ _ _ h => h) (Or.inl ⟨by rfl, ?hy17027⟩) hHeld ?_
  case hy17027 => (intro w hSw; (try dsimp only at hSw); go_simp; (try with_reducible rfl))
  (try simp only [Act.put, List.setIfInBounds_toArray, List.set_cons_zero, List.set_cons_succ])
  refine wpAnyH_take (i := 35) (oi := { dst := some 288, op := Op.fieldAddr 42 (Operand.tmp 287) 1, type := 0, pos := "law.go:131", after := #[{ on := 34, ground := Ground.data }, { on := 33, ground := Ground.guard }], guard := some (33, false) }) (v := ?v17028) rfl (by kernel_rfl) (by kernel_rfl) (by kernel_rfl) (fun _ _ _ h => h) (Or.inl ⟨by rfl, ?hy17028⟩) hHeld ?_
  case hy17028 => (intro w hSw; (try dsimp only at hSw); go_simp; (try with_reducible rfl))
  (try simp only [Act.put, List.setIfInBounds_toArray, List.set_cons_zero, List.set_cons_succ])
  refine wpAnyH_take (i := 36) (oi := { dst := some 289, op := Op.fieldAddr 40 (Operand.tmp 288) 5, type := 0, pos := "law.go:131", after := #[{ on := 35, ground := Ground.data }, { on := 33, ground := Ground.guard }], guard := some (33, false) }) (v := ?v17029) rfl (by kernel_rfl) (by kernel_rfl) (by kernel_rfl) (fun _ _ _ h => h) (Or.inl ⟨by rfl, ?hy17029⟩) hHeld ?_
  case hy17029 => (intro w hSw; (try dsimp only at hSw); go_simp; (try with_reducible rfl))
  (try simp only [Act.put, List.setIfInBounds_toArray, List.set_cons_zero, List.set_cons_succ])
  refine wpAnyH_take (i := 37) (oi := { dst := some 290, op := Op.load 3 (Operand.tmp 289), type := 3, pos := "law.go:131", after := #[{ on := 36, ground := Ground.data }, { on := 33, ground := Ground.guard }], guard := some (33, false) }) (v := (.int .i64 ta)) rfl (by kernel_rfl) (by kernel_rfl) (by kernel_rfl) (fun _ _ _ h => h) (Or.inl ⟨by rfl, fun w h => by have c1 := cell_keep h u1; go_simp⟩) hHeld ?_
  (try simp only [Act.put, List.setIfInBounds_toArray, List.set_cons_zero, List.set_cons_succ])
  by_cases pa : ta < 0
  case pos =>
    have q := pa
    have d0_0 : decide (ta < 0) = true := decide_eq_true q
    have e : isH ta = false := isH_low q
    rw [e] at HR
    clear q pa
    refine wpAnyH_take (i := 38) (oi := { dst := some 291, op := Op.binOp BinOp.lss 3 (Operand.tmp 290) (Operand.const (Value.int IntKind.i64 0)) 3, type := 4, pos := "law.go:131", after := #[{ on := 37, ground := Ground.data }, { on := 33, ground := Ground.guard }], guard := some (33, false) }) (v := ?v14030) rfl (by kernel_rfl) (by kernel_rfl) (by kernel_rfl) (fun _ _ _ h => h) (Or.inl ⟨by rfl, ?hy14030⟩) hHeld ?_
    case hy14030 => (intro w hSw; (try dsimp only at hSw); go_simp; (try with_reducible rfl))
    (try simp only [Act.put, List.setIfInBounds_toArray, List.set_cons_zero, List.set_cons_succ])
    refine wpAnyH_take (i := 39) (oi := { dst := some 292, op := Op.pick (Operand.tmp 286) (Operand.const (Value.bool true)) (Operand.tmp 291), type := 4, pos := "law.go:131", after := #[{ on := 33, ground := Ground.data }, { on := 38, ground := Ground.data }], guard := none }) (v := ?v14031) rfl (by kernel_rfl) (by kernel_rfl) (by kernel_rfl) (fun _ _ _ h => h) (Or.inl ⟨by rfl, ?hy14031⟩) hHeld ?_
    case hy14031 => (intro w hSw; (try dsimp only at hSw); go_simp; (try with_reducible rfl))
    (try simp only [Act.put, List.setIfInBounds_toArray, List.set_cons_zero, List.set_cons_succ])
    refine wpAnyH_take (i := 40) (oi := { dst := some 293, op := Op.move (Operand.tmp 292), type := 4, pos := "law.go:131", after := #[{ on := 39, ground := Ground.data }, { on := 33, ground := Ground.chain }], guard := none }) (v := ?v14032) rfl (by kernel_rfl) (by kernel_rfl) (by kernel_rfl) (fun _ _ _ h => h) (Or.inl ⟨by rfl, ?hy14032⟩) hHeld ?_
    case hy14032 => (intro w hSw; (try dsimp only at hSw); go_simp; (try with_reducible rfl))
    (try simp only [Act.put, List.setIfInBounds_toArray, List.set_cons_zero, List.set_cons_succ])
    refine wpAnyH_take (i := 41) (oi := { dst := some 294, op := Op.fieldAddr 60 (Operand.tmp 19) 1, type := 0, pos := "law.go:131", after := #[{ on := 40, ground := Ground.guard }], guard := some (40, false) }) (v := undef) rfl (by kernel_rfl) (by kernel_rfl) (by kernel_rfl) (fun _ _ _ h => h) (Or.inr ⟨by rfl, rfl⟩) hHeld ?_
    (try simp only [Act.put, List.setIfInBounds_toArray, List.set_cons_zero, List.set_cons_succ])
    refine wpAnyH_take (i := 42) (oi := { dst := some 295, op := Op.fieldAddr 42 (Operand.tmp 294) 1, type := 0, pos := "law.go:131", after := #[{ on := 41, ground := Ground.data }, { on := 40, ground := Ground.guard }], guard := some (40, false) }) (v := undef) rfl (by kernel_rfl) (by kernel_rfl) (by kernel_rfl) (fun _ _ _ h => h) (Or.inr ⟨by rfl, rfl⟩) hHeld ?_
    (try simp only [Act.put, List.setIfInBounds_toArray, List.set_cons_zero, List.set_cons_succ])
    refine wpAnyH_take (i := 43) (oi := { dst := some 296, op := Op.fieldAddr 40 (Operand.tmp 295) 5, type := 0, pos := "law.go:131", after := #[{ on := 42, ground := Ground.data }, { on := 40, ground := Ground.guard }], guard := some (40, false) }) (v := undef) rfl (by kernel_rfl) (by kernel_rfl) (by kernel_rfl) (fun _ _ _ h => h) (Or.inr ⟨by rfl, rfl⟩) hHeld ?_
    (try simp only [Act.put, List.setIfInBounds_toArray, List.set_cons_zero, List.set_cons_succ])
    refine wpAnyH_take (i := 44) (oi := { dst := some 297, op := Op.load 3 (Operand.tmp 296), type := 3, pos := "law.go:131", after := #[{ on := 43, ground := Ground.data }, { on := 40, ground := Ground.guard }], guard := some (40, false) }) (v := undef) rfl (by kernel_rfl) (by kernel_rfl) (by kernel_rfl) (fun _ _ _ h => h) (Or.inr ⟨by rfl, rfl⟩) hHeld ?_
    (try simp only [Act.put, List.setIfInBounds_toArray, List.set_cons_zero, List.set_cons_succ])
    refine wpAnyH_take (i := 45) (oi := { dst := some 298, op := Op.binOp BinOp.gtr 3 (Operand.tmp 297) (Operand.const (Value.int IntKind.i64 1073741824)) 3, type := 4, pos := "law.go:131", after := #[{ on := 44, ground := Ground.data }, { on := 40, ground := Ground.guard }], guard := some (40, false) }) (v := undef) rfl (by kernel_rfl) (by kernel_rfl) (by kernel_rfl) (fun _ _ _ h => h) (Or.inr ⟨by rfl, rfl⟩) hHeld ?_
    (try simp only [Act.put, List.setIfInBounds_toArray, List.set_cons_zero, List.set_cons_succ])
    refine wpAnyH_take (i := 46) (oi := { dst := some 299, op := Op.pick (Operand.tmp 293) (Operand.const (Value.bool true)) (Operand.tmp 298), type := 4, pos := "law.go:131", after := #[{ on := 40, ground := Ground.data }, { on := 45, ground := Ground.data }], guard := none }) (v := ?v14033) rfl (by kernel_rfl) (by kernel_rfl) (by kernel_rfl) (fun _ _ _ h => h) (Or.inl ⟨by rfl, ?hy14033⟩) hHeld ?_
    case hy14033 => (intro w hSw; (try dsimp only at hSw); go_simp; (try with_reducible rfl))
    (try simp only [Act.put, List.setIfInBounds_toArray, List.set_cons_zero, List.set_cons_succ])
    refine wpAnyH_take (i := 47) (oi := { dst := some 300, op := Op.move (Operand.tmp 299), type := 4, pos := "law.go:131", after := #[{ on := 46, ground := Ground.data }, { on := 40, ground := Ground.chain }], guard := none }) (v := ?v14034) rfl (by kernel_rfl) (by kernel_rfl) (by kernel_rfl) (fun _ _ _ h => h) (Or.inl ⟨by rfl, ?hy14034⟩) hHeld ?_
    case hy14034 => (intro w hSw; (try dsimp only at hSw); go_simp; (try with_reducible rfl))
    (try simp only [Act.put, List.setIfInBounds_toArray, List.set_cons_zero, List.set_cons_succ])
    refine wpAnyH_take (i := 48) (oi := { dst := some 301, op := Op.fieldAddr 60 (Operand.tmp 19) 2, type := 0, pos := "law.go:131", after := #[{ on := 47, ground := Ground.guard }], guard := some (47, false) }) (v := undef) rfl (by kernel_rfl) (by kernel_rfl) (by kernel_rfl) (fun _ _ _ h => h) (Or.inr ⟨by rfl, rfl⟩) hHeld ?_
    (try simp only [Act.put, List.setIfInBounds_toArray, List.set_cons_zero, List.set_cons_succ])
    refine wpAnyH_take (i := 49) (oi := { dst := some 302, op := Op.fieldAddr 42 (Operand.tmp 301) 1, type := 0, pos := "law.go:131", after := #[{ on := 48, ground := Ground.data }, { on := 47, ground := Ground.guard }], guard := some (47, false) }) (v := undef) rfl (by kernel_rfl) (by kernel_rfl) (by kernel_rfl) (fun _ _ _ h => h) (Or.inr ⟨by rfl, rfl⟩) hHeld ?_
    (try simp only [Act.put, List.setIfInBounds_toArray, List.set_cons_zero, List.set_cons_succ])
    refine wpAnyH_take (i := 50) (oi := { dst := some 303, op := Op.fieldAddr 40 (Operand.tmp 302) 5, type := 0, pos := "law.go:131", after := #[{ on := 49, ground := Ground.data }, { on := 47, ground := Ground.guard }], guard := some (47, false) }) (v := undef) rfl (by kernel_rfl) (by kernel_rfl) (by kernel_rfl) (fun _ _ _ h => h) (Or.inr ⟨by rfl, rfl⟩) hHeld ?_
    (try simp only [Act.put, List.setIfInBounds_toArray, List.set_cons_zero, List.set_cons_succ])
    refine wpAnyH_take (i := 51) (oi := { dst := some 304, op := Op.load 3 (Operand.tmp 303), type := 3, pos := "law.go:131", after := #[{ on := 50, ground := Ground.data }, { on := 47, ground := Ground.guard }], guard := some (47, false) }) (v := undef) rfl (by kernel_rfl) (by kernel_rfl) (by kernel_rfl) (fun _ _ _ h => h) (Or.inr ⟨by rfl, rfl⟩) hHeld ?_
    (try simp only [Act.put, List.setIfInBounds_toArray, List.set_cons_zero, List.set_cons_succ])
    refine wpAnyH_take (i := 52) (oi := { dst := some 305, op := Op.binOp BinOp.lss 3 (Operand.tmp 304) (Operand.const (Value.int IntKind.i64 0)) 3, type := 4, pos := "law.go:131", after := #[{ on := 51, ground := Ground.data }, { on := 47, ground := Ground.guard }], guard := some (47, false) }) (v := undef) rfl (by kernel_rfl) (by kernel_rfl) (by kernel_rfl) (fun _ _ _ h => h) (Or.inr ⟨by rfl, rfl⟩) hHeld ?_
    (try simp only [Act.put, List.setIfInBounds_toArray, List.set_cons_zero, List.set_cons_succ])
    refine wpAnyH_take (i := 53) (oi := { dst := some 306, op := Op.pick (Operand.tmp 300) (Operand.const (Value.bool true)) (Operand.tmp 305), type := 4, pos := "law.go:131", after := #[{ on := 47, ground := Ground.data }, { on := 52, ground := Ground.data }], guard := none }) (v := ?v14035) rfl (by kernel_rfl) (by kernel_rfl) (by kernel_rfl) (fun _ _ _ h => h) (Or.inl ⟨by rfl, ?hy14035⟩) hHeld ?_
    case hy14035 => (intro w hSw; (try dsimp only at hSw); go_simp; (try with_reducible rfl))
    (try simp only [Act.put, List.setIfInBounds_toArray, List.set_cons_zero, List.set_cons_succ])
    refine wpAnyH_take (i := 54) (oi := { dst := some 307, op := Op.move (Operand.tmp 306), type := 4, pos := "law.go:131", after := #[{ on := 53, ground := Ground.data }, { on := 47, ground := Ground.chain }], guard := none }) (v := ?v14036) rfl (by kernel_rfl) (by kernel_rfl) (by kernel_rfl) (fun _ _ _ h => h) (Or.inl ⟨by rfl, ?hy14036⟩) hHeld ?_
    case hy14036 => (intro w hSw; (try dsimp only at hSw); go_simp; (try with_reducible rfl))
    (try simp only [Act.put, List.setIfInBounds_toArray, List.set_cons_zero, List.set_cons_succ])
    refine wpAnyH_take (i := 55) (oi := { dst := some 308, op := Op.fieldAddr 60 (Operand.tmp 19) 2, type := 0, pos := "law.go:131", after := #[{ on := 54, ground := Ground.guard }], guard := some (54, false) }) (v := undef) rfl (by kernel_rfl) (by kernel_rfl) (by kernel_rfl) (fun _ _ _ h => h) (Or.inr ⟨by rfl, rfl⟩) hHeld ?_
    (try simp only [Act.put, List.setIfInBounds_toArray, List.set_cons_zero, List.set_cons_succ])
    refine wpAnyH_take (i := 56) (oi := { dst := some 309, op := Op.fieldAddr 42 (Operand.tmp 308) 1, type := 0, pos := "law.go:131", after := #[{ on := 55, ground := Ground.data }, { on := 54, ground := Ground.guard }], guard := some (54, false) }) (v := undef) rfl (by kernel_rfl) (by kernel_rfl) (by kernel_rfl) (fun _ _ _ h => h) (Or.inr ⟨by rfl, rfl⟩) hHeld ?_
    (try simp only [Act.put, List.setIfInBounds_toArray, List.set_cons_zero, List.set_cons_succ])
    refine wpAnyH_take (i := 57) (oi := { dst := some 310, op := Op.fieldAddr 40 (Operand.tmp 309) 5, type := 0, pos := "law.go:131", after := #[{ on := 56, ground := Ground.data }, { on := 54, ground := Ground.guard }], guard := some (54, false) }) (v := undef) rfl (by kernel_rfl) (by kernel_rfl) (by kernel_rfl) (fun _ _ _ h => h) (Or.inr ⟨by rfl, rfl⟩) hHeld ?_
    (try simp only [Act.put, List.setIfInBounds_toArray, List.set_cons_zero, List.set_cons_succ])
    refine wpAnyH_take (i := 58) (oi := { dst := some 311, op := Op.load 3 (Operand.tmp 310), type := 3, pos := "law.go:131", after := #[{ on := 57, ground := Ground.data }, { on := 54, ground := Ground.guard }], guard := some (54, false) }) (v := undef) rfl (by kernel_rfl) (by kernel_rfl) (by kernel_rfl) (fun _ _ _ h => h) (Or.inr ⟨by rfl, rfl⟩) hHeld ?_
    (try simp only [Act.put, List.setIfInBounds_toArray, List.set_cons_zero, List.set_cons_succ])
    refine wpAnyH_take (i := 59) (oi := { dst := some 312, op := Op.binOp BinOp.gtr 3 (Operand.tmp 311) (Operand.const (Value.int IntKind.i64 1073741824)) 3, type := 4, pos := "law.go:131", after := #[{ on := 58, ground := Ground.data }, { on := 54, ground := Ground.guard }], guard := some (54, false) }) (v := undef) rfl (by kernel_rfl) (by kernel_rfl) (by kernel_rfl) (fun _ _ _ h => h) (Or.inr ⟨by rfl, rfl⟩) hHeld ?_
    (try simp only [Act.put, List.setIfInBounds_toArray, List.set_cons_zero, List.set_cons_succ])
    refine wpAnyH_take (i := 60) (oi := { dst := some 313, op := Op.pick (Operand.tmp 307) (Operand.const (Value.bool true)) (Operand.tmp 312), type := 4, pos := "law.go:131", after := #[{ on := 54, ground := Ground.data }, { on := 59, ground := Ground.data }], guard := none }) (v := ?v14037) rfl (by kernel_rfl) (by kernel_rfl) (by kernel_rfl) (fun _ _ _ h => h) (Or.inl ⟨by rfl, ?hy14037⟩) hHeld ?_
    case hy14037 => (intro w hSw; (try dsimp only at hSw); go_simp; (try with_reducible rfl))
    (try simp only [Act.put, List.setIfInBounds_toArray, List.set_cons_zero, List.set_cons_succ])
    refine wpAnyH_take (i := 61) (oi := { dst := some 252, op := Op.assign (Operand.tmp 313), type := 4, pos := "law.go:131", after := #[{ on := 60, ground := Ground.data }, { on := 54, ground := Ground.chain }], guard := none }) (v := ?v14038) rfl (by kernel_rfl) (by kernel_rfl) (by kernel_rfl) (fun _ _ _ h => h) (Or.inl ⟨by rfl, ?hy14038⟩) hHeld ?_
    case hy14038 => (intro w hSw; (try dsimp only at hSw); go_simp; (try with_reducible rfl))
    (try simp only [Act.put, List.setIfInBounds_toArray, List.set_cons_zero, List.set_cons_succ])
    refine wpAnyH_done (by kernel_rfl) ?_ _
    rotate_left
    all_goals exact ⟨rfl, ⟨⟨⟨rfl, rfl, rfl, rfl, rfl, rfl, rfl, rfl, rfl⟩, rfl, rfl, rfl, rfl, rfl, rfl, rfl⟩, rfl, rfl, rfl, rfl, rfl⟩, by rw [HR.out]; rfl, by assumption⟩
  have PA := hid pa
  have d0_0 : decide (ta < 0) = false := decide_eq_false pa
  clear pa
  refine wpAnyH_take (i := 38) (oi := { dst := some 291, op := Op.binOp BinOp.lss 3 (Operand.tmp 290) (Operand.const (Value.int IntKind.i64 0)) 3, type := 4, pos := "law.go:131", after := #[{ on := 37, ground := Ground.data }, { on := 33, ground := Ground.guard }], guard := some (33, false) }) (v := ?v17030) rfl (by kernel_rfl) (by kernel_rfl) (by kernel_rfl) (fun _ _ _ h => h) (Or.inl ⟨by rfl, ?hy17030⟩) hHeld ?_
  case hy17030 => (intro w hSw; (try dsimp only at hSw); go_simp; (try with_reducible rfl))
  (try simp only [Act.put, List.setIfInBounds_toArray, List.set_cons_zero, List.set_cons_succ])
  refine wpAnyH_take (i := 39) (oi := { dst := some 292, op := Op.pick (Operand.tmp 286) (Operand.const (Value.bool true)) (Operand.tmp 291), type := 4, pos := "law.go:131", after := #[{ on := 33, ground := Ground.data }, { on := 38, ground := Ground.data }], guard := none }) (v := ?v17031) rfl (by kernel_rfl) (by kernel_rfl) (by kernel_rfl) (fun _ _ _ h => h) (Or.inl ⟨by rfl, ?hy17031⟩) hHeld ?_
  case hy17031 => (intro w hSw; (try dsimp only at hSw); go_simp; (try with_reducible rfl))
  (try simp only [Act.put, List.setIfInBounds_toArray, List.set_cons_zero, List.set_cons_succ])
  refine wpAnyH_take (i := 40) (oi := { dst := some 293, op := Op.move (Operand.tmp 292), type := 4, pos := "law.go:131", after := #[{ on := 39, ground := Ground.data }, { on := 33, ground := Ground.chain }], guard := none }) (v := ?v17032) rfl (by kernel_rfl) (by kernel_rfl) (by kernel_rfl) (fun _ _ _ h => h) (Or.inl ⟨by rfl, ?hy17032⟩) hHeld ?_
  case hy17032 => (intro w hSw; (try dsimp only at hSw); go_simp; (try with_reducible rfl))
  (try simp only [Act.put, List.setIfInBounds_toArray, List.set_cons_zero, List.set_cons_succ])
  refine wpAnyH_take (i := 41) (oi := { dst := some 294, op := Op.fieldAddr 60 (Operand.tmp 19) 1, type := 0, pos := "law.go:131", after := #[{ on := 40, ground := Ground.guard }], guard := some (40, false) }) (v := ?v17033) rfl (by kernel_rfl) (by kernel_rfl) (by kernel_rfl) (fun _ _ _ h => h) (Or.inl ⟨by rfl, ?hy17033⟩) hHeld ?_
  case hy17033 => (intro w hSw; (try dsimp only at hSw); go_simp; (try with_reducible rfl))
  (try simp only [Act.put, List.setIfInBounds_toArray, List.set_cons_zero, List.set_cons_succ])
  refine wpAnyH_take (i := 42) (oi := { dst := some 295, op := Op.fieldAddr 42 (Operand.tmp 294) 1, type := 0, pos := "law.go:131", after := #[{ on := 41, ground := Ground.data }, { on := 40, ground := Ground.guard }], guard := some (40, false) }) (v := ?v17034) rfl (by kernel_rfl) (by kernel_rfl) (by kernel_rfl) (fun _ _ _ h => h) (Or.inl ⟨by rfl, ?hy17034⟩) hHeld ?_
  case hy17034 => (intro w hSw; (try dsimp only at hSw); go_simp; (try with_reducible rfl))
  (try simp only [Act.put, List.setIfInBounds_toArray, List.set_cons_zero, List.set_cons_succ])
  refine wpAnyH_take (i := 43) (oi := { dst := some 296, op := Op.fieldAddr 40 (Operand.tmp 295) 5, type := 0, pos := "law.go:131", after := #[{ on := 42, ground := Ground.data }, { on := 40, ground := Ground.guard }], guard := some (40, false) }) (v := ?v17035) rfl (by kernel_rfl) (by kernel_rfl) (by kernel_rfl) (fun _ _ _ h => h) (Or.inl ⟨by rfl, ?hy17035⟩) hHeld ?_
  case hy17035 => (intro w hSw; (try dsimp only at hSw); go_simp; (try with_reducible rfl))
  (try simp only [Act.put, List.setIfInBounds_toArray, List.set_cons_zero, List.set_cons_succ])
  refine wpAnyH_take (i := 44) (oi := { dst := some 297, op := Op.load 3 (Operand.tmp 296), type := 3, pos := "law.go:131", after := #[{ on := 43, ground := Ground.data }, { on := 40, ground := Ground.guard }], guard := some (40, false) }) (v := (.int .i64 ta)) rfl (by kernel_rfl) (by kernel_rfl) (by kernel_rfl) (fun _ _ _ h => h) (Or.inl ⟨by rfl, fun w h => by have c1 := cell_keep h u1; go_simp⟩) hHeld ?_
  (try simp only [Act.put, List.setIfInBounds_toArray, List.set_cons_zero, List.set_cons_succ])
  by_cases qa : 1073741824 < ta
  case pos =>
    have q := qa
    have d1_0 : decide (1073741824 < ta) = true := decide_eq_true q
    have d1_1 : decide (ta > 1073741824) = true := decide_eq_true q
    have e : isH ta = false := isH_high q
    rw [e] at HR
    clear q qa
    refine wpAnyH_take (i := 45) (oi := { dst := some 298, op := Op.binOp BinOp.gtr 3 (Operand.tmp 297) (Operand.const (Value.int IntKind.i64 1073741824)) 3, type := 4, pos := "law.go:131", after := #[{ on := 44, ground := Ground.data }, { on := 40, ground := Ground.guard }], guard := some (40, false) }) (v := ?v15036) rfl (by kernel_rfl) (by kernel_rfl) (by kernel_rfl) (fun _ _ _ h => h) (Or.inl ⟨by rfl, ?hy15036⟩) hHeld ?_
    case hy15036 => (intro w hSw; (try dsimp only at hSw); go_simp; (try with_reducible rfl))
    (try simp only [Act.put, List.setIfInBounds_toArray, List.set_cons_zero, List.set_cons_succ])
    refine wpAnyH_take (i := 46) (oi := { dst := some 299, op := Op.pick (Operand.tmp 293) (Operand.const (Value.bool true)) (Operand.tmp 298), type := 4, pos := "law.go:131", after := #[{ on := 40, ground := Ground.data }, { on := 45, ground := Ground.data }], guard := none }) (v := ?v15037) rfl (by kernel_rfl) (by kernel_rfl) (by kernel_rfl) (fun _ _ _ h => h) (Or.inl ⟨by rfl, ?hy15037⟩) hHeld ?_
    case hy15037 => (intro w hSw; (try dsimp only at hSw); go_simp; (try with_reducible rfl))
    (try simp only [Act.put, List.setIfInBounds_toArray, List.set_cons_zero, List.set_cons_succ])
    refine wpAnyH_take (i := 47) (oi := { dst := some 300, op := Op.move (Operand.tmp 299), type := 4, pos := "law.go:131", after := #[{ on := 46, ground := Ground.data }, { on := 40, ground := Ground.chain }], guard := none }) (v := ?v15038) rfl (by kernel_rfl) (by kernel_rfl) (by kernel_rfl) (fun _ _ _ h => h) (Or.inl ⟨by rfl, ?hy15038⟩) hHeld ?_
    case hy15038 => (intro w hSw; (try dsimp only at hSw); go_simp; (try with_reducible rfl))
    (try simp only [Act.put, List.setIfInBounds_toArray, List.set_cons_zero, List.set_cons_succ])
    refine wpAnyH_take (i := 48) (oi := { dst := some 301, op := Op.fieldAddr 60 (Operand.tmp 19) 2, type := 0, pos := "law.go:131", after := #[{ on := 47, ground := Ground.guard }], guard := some (47, false) }) (v := undef) rfl (by kernel_rfl) (by kernel_rfl) (by kernel_rfl) (fun _ _ _ h => h) (Or.inr ⟨by rfl, rfl⟩) hHeld ?_
    (try simp only [Act.put, List.setIfInBounds_toArray, List.set_cons_zero, List.set_cons_succ])
    refine wpAnyH_take (i := 49) (oi := { dst := some 302, op := Op.fieldAddr 42 (Operand.tmp 301) 1, type := 0, pos := "law.go:131", after := #[{ on := 48, ground := Ground.data }, { on := 47, ground := Ground.guard }], guard := some (47, false) }) (v := undef) rfl (by kernel_rfl) (by kernel_rfl) (by kernel_rfl) (fun _ _ _ h => h) (Or.inr ⟨by rfl, rfl⟩) hHeld ?_
    (try simp only [Act.put, List.setIfInBounds_toArray, List.set_cons_zero, List.set_cons_succ])
    refine wpAnyH_take (i := 50) (oi := { dst := some 303, op := Op.fieldAddr 40 (Operand.tmp 302) 5, type := 0, pos := "law.go:131", after := #[{ on := 49, ground := Ground.data }, { on := 47, ground := Ground.guard }], guard := some (47, false) }) (v := undef) rfl (by kernel_rfl) (by kernel_rfl) (by kernel_rfl) (fun _ _ _ h => h) (Or.inr ⟨by rfl, rfl⟩) hHeld ?_
    (try simp only [Act.put, List.setIfInBounds_toArray, List.set_cons_zero, List.set_cons_succ])
    refine wpAnyH_take (i := 51) (oi := { dst := some 304, op := Op.load 3 (Operand.tmp 303), type := 3, pos := "law.go:131", after := #[{ on := 50, ground := Ground.data }, { on := 47, ground := Ground.guard }], guard := some (47, false) }) (v := undef) rfl (by kernel_rfl) (by kernel_rfl) (by kernel_rfl) (fun _ _ _ h => h) (Or.inr ⟨by rfl, rfl⟩) hHeld ?_
    (try simp only [Act.put, List.setIfInBounds_toArray, List.set_cons_zero, List.set_cons_succ])
    refine wpAnyH_take (i := 52) (oi := { dst := some 305, op := Op.binOp BinOp.lss 3 (Operand.tmp 304) (Operand.const (Value.int IntKind.i64 0)) 3, type := 4, pos := "law.go:131", after := #[{ on := 51, ground := Ground.data }, { on := 47, ground := Ground.guard }], guard := some (47, false) }) (v := undef) rfl (by kernel_rfl) (by kernel_rfl) (by kernel_rfl) (fun _ _ _ h => h) (Or.inr ⟨by rfl, rfl⟩) hHeld ?_
    (try simp only [Act.put, List.setIfInBounds_toArray, List.set_cons_zero, List.set_cons_succ])
    refine wpAnyH_take (i := 53) (oi := { dst := some 306, op := Op.pick (Operand.tmp 300) (Operand.const (Value.bool true)) (Operand.tmp 305), type := 4, pos := "law.go:131", after := #[{ on := 47, ground := Ground.data }, { on := 52, ground := Ground.data }], guard := none }) (v := ?v15039) rfl (by kernel_rfl) (by kernel_rfl) (by kernel_rfl) (fun _ _ _ h => h) (Or.inl ⟨by rfl, ?hy15039⟩) hHeld ?_
    case hy15039 => (intro w hSw; (try dsimp only at hSw); go_simp; (try with_reducible rfl))
    (try simp only [Act.put, List.setIfInBounds_toArray, List.set_cons_zero, List.set_cons_succ])
    refine wpAnyH_take (i := 54) (oi := { dst := some 307, op := Op.move (Operand.tmp 306), type := 4, pos := "law.go:131", after := #[{ on := 53, ground := Ground.data }, { on := 47, ground := Ground.chain }], guard := none }) (v := ?v15040) rfl (by kernel_rfl) (by kernel_rfl) (by kernel_rfl) (fun _ _ _ h => h) (Or.inl ⟨by rfl, ?hy15040⟩) hHeld ?_
    case hy15040 => (intro w hSw; (try dsimp only at hSw); go_simp; (try with_reducible rfl))
    (try simp only [Act.put, List.setIfInBounds_toArray, List.set_cons_zero, List.set_cons_succ])
    refine wpAnyH_take (i := 55) (oi := { dst := some 308, op := Op.fieldAddr 60 (Operand.tmp 19) 2, type := 0, pos := "law.go:131", after := #[{ on := 54, ground := Ground.guard }], guard := some (54, false) }) (v := undef) rfl (by kernel_rfl) (by kernel_rfl) (by kernel_rfl) (fun _ _ _ h => h) (Or.inr ⟨by rfl, rfl⟩) hHeld ?_
    (try simp only [Act.put, List.setIfInBounds_toArray, List.set_cons_zero, List.set_cons_succ])
    refine wpAnyH_take (i := 56) (oi := { dst := some 309, op := Op.fieldAddr 42 (Operand.tmp 308) 1, type := 0, pos := "law.go:131", after := #[{ on := 55, ground := Ground.data }, { on := 54, ground := Ground.guard }], guard := some (54, false) }) (v := undef) rfl (by kernel_rfl) (by kernel_rfl) (by kernel_rfl) (fun _ _ _ h => h) (Or.inr ⟨by rfl, rfl⟩) hHeld ?_
    (try simp only [Act.put, List.setIfInBounds_toArray, List.set_cons_zero, List.set_cons_succ])
    refine wpAnyH_take (i := 57) (oi := { dst := some 310, op := Op.fieldAddr 40 (Operand.tmp 309) 5, type := 0, pos := "law.go:131", after := #[{ on := 56, ground := Ground.data }, { on := 54, ground := Ground.guard }], guard := some (54, false) }) (v := undef) rfl (by kernel_rfl) (by kernel_rfl) (by kernel_rfl) (fun _ _ _ h => h) (Or.inr ⟨by rfl, rfl⟩) hHeld ?_
    (try simp only [Act.put, List.setIfInBounds_toArray, List.set_cons_zero, List.set_cons_succ])
    refine wpAnyH_take (i := 58) (oi := { dst := some 311, op := Op.load 3 (Operand.tmp 310), type := 3, pos := "law.go:131", after := #[{ on := 57, ground := Ground.data }, { on := 54, ground := Ground.guard }], guard := some (54, false) }) (v := undef) rfl (by kernel_rfl) (by kernel_rfl) (by kernel_rfl) (fun _ _ _ h => h) (Or.inr ⟨by rfl, rfl⟩) hHeld ?_
    (try simp only [Act.put, List.setIfInBounds_toArray, List.set_cons_zero, List.set_cons_succ])
    refine wpAnyH_take (i := 59) (oi := { dst := some 312, op := Op.binOp BinOp.gtr 3 (Operand.tmp 311) (Operand.const (Value.int IntKind.i64 1073741824)) 3, type := 4, pos := "law.go:131", after := #[{ on := 58, ground := Ground.data }, { on := 54, ground := Ground.guard }], guard := some (54, false) }) (v := undef) rfl (by kernel_rfl) (by kernel_rfl) (by kernel_rfl) (fun _ _ _ h => h) (Or.inr ⟨by rfl, rfl⟩) hHeld ?_
    (try simp only [Act.put, List.setIfInBounds_toArray, List.set_cons_zero, List.set_cons_succ])
    refine wpAnyH_take (i := 60) (oi := { dst := some 313, op := Op.pick (Operand.tmp 307) (Operand.const (Value.bool true)) (Operand.tmp 312), type := 4, pos := "law.go:131", after := #[{ on := 54, ground := Ground.data }, { on := 59, ground := Ground.data }], guard := none }) (v := ?v15041) rfl (by kernel_rfl) (by kernel_rfl) (by kernel_rfl) (fun _ _ _ h => h) (Or.inl ⟨by rfl, ?hy15041⟩) hHeld ?_
    case hy15041 => (intro w hSw; (try dsimp only at hSw); go_simp; (try with_reducible rfl))
    (try simp only [Act.put, List.setIfInBounds_toArray, List.set_cons_zero, List.set_cons_succ])
    refine wpAnyH_take (i := 61) (oi := { dst := some 252, op := Op.assign (Operand.tmp 313), type := 4, pos := "law.go:131", after := #[{ on := 60, ground := Ground.data }, { on := 54, ground := Ground.chain }], guard := none }) (v := ?v15042) rfl (by kernel_rfl) (by kernel_rfl) (by kernel_rfl) (fun _ _ _ h => h) (Or.inl ⟨by rfl, ?hy15042⟩) hHeld ?_
    case hy15042 => (intro w hSw; (try dsimp only at hSw); go_simp; (try with_reducible rfl))
    (try simp only [Act.put, List.setIfInBounds_toArray, List.set_cons_zero, List.set_cons_succ])
    refine wpAnyH_done (by kernel_rfl) ?_ _
    rotate_left
    all_goals exact ⟨rfl, ⟨⟨⟨rfl, rfl, rfl, rfl, rfl, rfl, rfl, rfl, rfl⟩, rfl, rfl, rfl, rfl, rfl, rfl, rfl⟩, rfl, rfl, rfl, rfl, rfl⟩, by rw [HR.out]; rfl, by assumption⟩
  have QA := hid qa
  have d1_0 : decide (1073741824 < ta) = false := decide_eq_false qa
  have d1_1 : decide (ta > 1073741824) = false := decide_eq_false qa
  clear qa
  refine wpAnyH_take (i := 45) (oi := { dst := some 298, op := Op.binOp BinOp.gtr 3 (Operand.tmp 297) (Operand.const (Value.int IntKind.i64 1073741824)) 3, type := 4, pos := "law.go:131", after := #[{ on := 44, ground := Ground.data }, { on := 40, ground := Ground.guard }], guard := some (40, false) }) (v := ?v17036) rfl (by kernel_rfl) (by kernel_rfl) (by kernel_rfl) (fun _ _ _ h => h) (Or.inl ⟨by rfl, ?hy17036⟩) hHeld ?_
  case hy17036 => (intro w hSw; (try dsimp only at hSw); go_simp; (try with_reducible rfl))
  (try simp only [Act.put, List.setIfInBounds_toArray, List.set_cons_zero, List.set_cons_succ])
  refine wpAnyH_take (i := 46) (oi := { dst := some 299, op := Op.pick (Operand.tmp 293) (Operand.const (Value.bool true)) (Operand.tmp 298), type := 4, pos := "law.go:131", after := #[{ on := 40, ground := Ground.data }, { on := 45, ground := Ground.data }], guard := none }) (v := ?v17037) rfl (by kernel_rfl) (by kernel_rfl) (by kernel_rfl) (fun _ _ _ h => h) (Or.inl ⟨by rfl, ?hy17037⟩) hHeld ?_
  case hy17037 => (intro w hSw; (try dsimp only at hSw); go_simp; (try with_reducible rfl))
  (try simp only [Act.put, List.setIfInBounds_toArray, List.set_cons_zero, List.set_cons_succ])
  refine wpAnyH_take (i := 47) (oi := { dst := some 300, op := Op.move (Operand.tmp 299), type := 4, pos := "law.go:131", after := #[{ on := 46, ground := Ground.data }, { on := 40, ground := Ground.chain }], guard := none }) (v := ?v17038) rfl (by kernel_rfl) (by kernel_rfl) (by kernel_rfl) (fun _ _ _ h => h) (Or.inl ⟨by rfl, ?hy17038⟩) hHeld ?_
  case hy17038 => (intro w hSw; (try dsimp only at hSw); go_simp; (try with_reducible rfl))
  (try simp only [Act.put, List.setIfInBounds_toArray, List.set_cons_zero, List.set_cons_succ])
  refine wpAnyH_take (i := 48) (oi := { dst := some 301, op := Op.fieldAddr 60 (Operand.tmp 19) 2, type := 0, pos := "law.go:131", after := #[{ on := 47, ground := Ground.guard }], guard := some (47, false) }) (v := ?v17039) rfl (by kernel_rfl) (by kernel_rfl) (by kernel_rfl) (fun _ _ _ h => h) (Or.inl ⟨by rfl, ?hy17039⟩) hHeld ?_
  case hy17039 => (intro w hSw; (try dsimp only at hSw); go_simp; (try with_reducible rfl))
  (try simp only [Act.put, List.setIfInBounds_toArray, List.set_cons_zero, List.set_cons_succ])
  refine wpAnyH_take (i := 49) (oi := { dst := some 302, op := Op.fieldAddr 42 (Operand.tmp 301) 1, type := 0, pos := "law.go:131", after := #[{ on := 48, ground := Ground.data }, { on := 47, ground := Ground.guard }], guard := some (47, false) }) (v := ?v17040) rfl (by kernel_rfl) (by kernel_rfl) (by kernel_rfl) (fun _ _ _ h => h) (Or.inl ⟨by rfl, ?hy17040⟩) hHeld ?_
  case hy17040 => (intro w hSw; (try dsimp only at hSw); go_simp; (try with_reducible rfl))
  (try simp only [Act.put, List.setIfInBounds_toArray, List.set_cons_zero, List.set_cons_succ])
  refine wpAnyH_take (i := 50) (oi := { dst := some 303, op := Op.fieldAddr 40 (Operand.tmp 302) 5, type := 0, pos := "law.go:131", after := #[{ on := 49, ground := Ground.data }, { on := 47, ground := Ground.guard }], guard := some (47, false) }) (v := ?v17041) rfl (by kernel_rfl) (by kernel_rfl) (by kernel_rfl) (fun _ _ _ h => h) (Or.inl ⟨by rfl, ?hy17041⟩) hHeld ?_
  case hy17041 => (intro w hSw; (try dsimp only at hSw); go_simp; (try with_reducible rfl))
  (try simp only [Act.put, List.setIfInBounds_toArray, List.set_cons_zero, List.set_cons_succ])
  refine wpAnyH_take (i := 51) (oi := { dst := some 304, op := Op.load 3 (Operand.tmp 303), type := 3, pos := "law.go:131", after := #[{ on := 50, ground := Ground.data }, { on := 47, ground := Ground.guard }], guard := some (47, false) }) (v := (.int .i64 tc)) rfl (by kernel_rfl) (by kernel_rfl) (by kernel_rfl) (fun _ _ _ h => h) (Or.inl ⟨by rfl, fun w h => by have c1 := cell_keep h u2; go_simp⟩) hHeld ?_
  (try simp only [Act.put, List.setIfInBounds_toArray, List.set_cons_zero, List.set_cons_succ])
  by_cases pc : tc < 0
  case pos =>
    have q := pc
    have d2_0 : decide (tc < 0) = true := decide_eq_true q
    have e : isH tc = false := isH_low q
    rw [e, isH_mid PA.out QA.out] at HR
    clear q pc
    refine wpAnyH_take (i := 52) (oi := { dst := some 305, op := Op.binOp BinOp.lss 3 (Operand.tmp 304) (Operand.const (Value.int IntKind.i64 0)) 3, type := 4, pos := "law.go:131", after := #[{ on := 51, ground := Ground.data }, { on := 47, ground := Ground.guard }], guard := some (47, false) }) (v := ?v16042) rfl (by kernel_rfl) (by kernel_rfl) (by kernel_rfl) (fun _ _ _ h => h) (Or.inl ⟨by rfl, ?hy16042⟩) hHeld ?_
    case hy16042 => (intro w hSw; (try dsimp only at hSw); go_simp; (try with_reducible rfl))
    (try simp only [Act.put, List.setIfInBounds_toArray, List.set_cons_zero, List.set_cons_succ])
    refine wpAnyH_take (i := 53) (oi := { dst := some 306, op := Op.pick (Operand.tmp 300) (Operand.const (Value.bool true)) (Operand.tmp 305), type := 4, pos := "law.go:131", after := #[{ on := 47, ground := Ground.data }, { on := 52, ground := Ground.data }], guard := none }) (v := ?v16043) rfl (by kernel_rfl) (by kernel_rfl) (by kernel_rfl) (fun _ _ _ h => h) (Or.inl ⟨by rfl, ?hy16043⟩) hHeld ?_
    case hy16043 => (intro w hSw; (try dsimp only at hSw); go_simp; (try with_reducible rfl))
    (try simp only [Act.put, List.setIfInBounds_toArray, List.set_cons_zero, List.set_cons_succ])
    refine wpAnyH_take (i := 54) (oi := { dst := some 307, op := Op.move (Operand.tmp 306), type := 4, pos := "law.go:131", after := #[{ on := 53, ground := Ground.data }, { on := 47, ground := Ground.chain }], guard := none }) (v := ?v16044) rfl (by kernel_rfl) (by kernel_rfl) (by kernel_rfl) (fun _ _ _ h => h) (Or.inl ⟨by rfl, ?hy16044⟩) hHeld ?_
    case hy16044 => (intro w hSw; (try dsimp only at hSw); go_simp; (try with_reducible rfl))
    (try simp only [Act.put, List.setIfInBounds_toArray, List.set_cons_zero, List.set_cons_succ])
    refine wpAnyH_take (i := 55) (oi := { dst := some 308, op := Op.fieldAddr 60 (Operand.tmp 19) 2, type := 0, pos := "law.go:131", after := #[{ on := 54, ground := Ground.guard }], guard := some (54, false) }) (v := undef) rfl (by kernel_rfl) (by kernel_rfl) (by kernel_rfl) (fun _ _ _ h => h) (Or.inr ⟨by rfl, rfl⟩) hHeld ?_
    (try simp only [Act.put, List.setIfInBounds_toArray, List.set_cons_zero, List.set_cons_succ])
    refine wpAnyH_take (i := 56) (oi := { dst := some 309, op := Op.fieldAddr 42 (Operand.tmp 308) 1, type := 0, pos := "law.go:131", after := #[{ on := 55, ground := Ground.data }, { on := 54, ground := Ground.guard }], guard := some (54, false) }) (v := undef) rfl (by kernel_rfl) (by kernel_rfl) (by kernel_rfl) (fun _ _ _ h => h) (Or.inr ⟨by rfl, rfl⟩) hHeld ?_
    (try simp only [Act.put, List.setIfInBounds_toArray, List.set_cons_zero, List.set_cons_succ])
    refine wpAnyH_take (i := 57) (oi := { dst := some 310, op := Op.fieldAddr 40 (Operand.tmp 309) 5, type := 0, pos := "law.go:131", after := #[{ on := 56, ground := Ground.data }, { on := 54, ground := Ground.guard }], guard := some (54, false) }) (v := undef) rfl (by kernel_rfl) (by kernel_rfl) (by kernel_rfl) (fun _ _ _ h => h) (Or.inr ⟨by rfl, rfl⟩) hHeld ?_
    (try simp only [Act.put, List.setIfInBounds_toArray, List.set_cons_zero, List.set_cons_succ])
    refine wpAnyH_take (i := 58) (oi := { dst := some 311, op := Op.load 3 (Operand.tmp 310), type := 3, pos := "law.go:131", after := #[{ on := 57, ground := Ground.data }, { on := 54, ground := Ground.guard }], guard := some (54, false) }) (v := undef) rfl (by kernel_rfl) (by kernel_rfl) (by kernel_rfl) (fun _ _ _ h => h) (Or.inr ⟨by rfl, rfl⟩) hHeld ?_
    (try simp only [Act.put, List.setIfInBounds_toArray, List.set_cons_zero, List.set_cons_succ])
    refine wpAnyH_take (i := 59) (oi := { dst := some 312, op := Op.binOp BinOp.gtr 3 (Operand.tmp 311) (Operand.const (Value.int IntKind.i64 1073741824)) 3, type := 4, pos := "law.go:131", after := #[{ on := 58, ground := Ground.data }, { on := 54, ground := Ground.guard }], guard := some (54, false) }) (v := undef) rfl (by kernel_rfl) (by kernel_rfl) (by kernel_rfl) (fun _ _ _ h => h) (Or.inr ⟨by rfl, rfl⟩) hHeld ?_
    (try simp only [Act.put, List.setIfInBounds_toArray, List.set_cons_zero, List.set_cons_succ])
    refine wpAnyH_take (i := 60) (oi := { dst := some 313, op := Op.pick (Operand.tmp 307) (Operand.const (Value.bool true)) (Operand.tmp 312), type := 4, pos := "law.go:131", after := #[{ on := 54, ground := Ground.data }, { on := 59, ground := Ground.data }], guard := none }) (v := ?v16045) rfl (by kernel_rfl) (by kernel_rfl) (by kernel_rfl) (fun _ _ _ h => h) (Or.inl ⟨by rfl, ?hy16045⟩) hHeld ?_
    case hy16045 => (intro w hSw; (try dsimp only at hSw); go_simp; (try with_reducible rfl))
    (try simp only [Act.put, List.setIfInBounds_toArray, List.set_cons_zero, List.set_cons_succ])
    refine wpAnyH_take (i := 61) (oi := { dst := some 252, op := Op.assign (Operand.tmp 313), type := 4, pos := "law.go:131", after := #[{ on := 60, ground := Ground.data }, { on := 54, ground := Ground.chain }], guard := none }) (v := ?v16046) rfl (by kernel_rfl) (by kernel_rfl) (by kernel_rfl) (fun _ _ _ h => h) (Or.inl ⟨by rfl, ?hy16046⟩) hHeld ?_
    case hy16046 => (intro w hSw; (try dsimp only at hSw); go_simp; (try with_reducible rfl))
    (try simp only [Act.put, List.setIfInBounds_toArray, List.set_cons_zero, List.set_cons_succ])
    refine wpAnyH_done (by kernel_rfl) ?_ _
    rotate_left
    all_goals exact ⟨rfl, ⟨⟨⟨rfl, rfl, rfl, rfl, rfl, rfl, rfl, rfl, rfl⟩, rfl, rfl, rfl, rfl, rfl, rfl, rfl⟩, rfl, rfl, rfl, rfl, rfl⟩, by rw [HR.out]; rfl, by assumption⟩
  have PC := hid pc
  have d2_0 : decide (tc < 0) = false := decide_eq_false pc
  clear pc
  refine wpAnyH_take (i := 52) (oi := { dst := some 305, op := Op.binOp BinOp.lss 3 (Operand.tmp 304) (Operand.const (Value.int IntKind.i64 0)) 3, type := 4, pos := "law.go:131", after := #[{ on := 51, ground := Ground.data }, { on := 47, ground := Ground.guard }], guard := some (47, false) }) (v := ?v17042) rfl (by kernel_rfl) (by kernel_rfl) (by kernel_rfl) (fun _ _ _ h => h) (Or.inl ⟨by rfl, ?hy17042⟩) hHeld ?_
  case hy17042 => (intro w hSw; (try dsimp only at hSw); go_simp; (try with_reducible rfl))
  (try simp only [Act.put, List.setIfInBounds_toArray, List.set_cons_zero, List.set_cons_succ])
  refine wpAnyH_take (i := 53) (oi := { dst := some 306, op := Op.pick (Operand.tmp 300) (Operand.const (Value.bool true)) (Operand.tmp 305), type := 4, pos := "law.go:131", after := #[{ on := 47, ground := Ground.data }, { on := 52, ground := Ground.data }], guard := none }) (v := ?v17043) rfl (by kernel_rfl) (by kernel_rfl) (by kernel_rfl) (fun _ _ _ h => h) (Or.inl ⟨by rfl, ?hy17043⟩) hHeld ?_
  case hy17043 => (intro w hSw; (try dsimp only at hSw); go_simp; (try with_reducible rfl))
  (try simp only [Act.put, List.setIfInBounds_toArray, List.set_cons_zero, List.set_cons_succ])
  refine wpAnyH_take (i := 54) (oi := { dst := some 307, op := Op.move (Operand.tmp 306), type := 4, pos := "law.go:131", after := #[{ on := 53, ground := Ground.data }, { on := 47, ground := Ground.chain }], guard := none }) (v := ?v17044) rfl (by kernel_rfl) (by kernel_rfl) (by kernel_rfl) (fun _ _ _ h => h) (Or.inl ⟨by rfl, ?hy17044⟩) hHeld ?_
  case hy17044 => (intro w hSw; (try dsimp only at hSw); go_simp; (try with_reducible rfl))
  (try simp only [Act.put, List.setIfInBounds_toArray, List.set_cons_zero, List.set_cons_succ])
  refine wpAnyH_take (i := 55) (oi := { dst := some 308, op := Op.fieldAddr 60 (Operand.tmp 19) 2, type := 0, pos := "law.go:131", after := #[{ on := 54, ground := Ground.guard }], guard := some (54, false) }) (v := ?v17045) rfl (by kernel_rfl) (by kernel_rfl) (by kernel_rfl) (fun _ _ _ h => h) (Or.inl ⟨by rfl, ?hy17045⟩) hHeld ?_
  case hy17045 => (intro w hSw; (try dsimp only at hSw); go_simp; (try with_reducible rfl))
  (try simp only [Act.put, List.setIfInBounds_toArray, List.set_cons_zero, List.set_cons_succ])
  refine wpAnyH_take (i := 56) (oi := { dst := some 309, op := Op.fieldAddr 42 (Operand.tmp 308) 1, type := 0, pos := "law.go:131", after := #[{ on := 55, ground := Ground.data }, { on := 54, ground := Ground.guard }], guard := some (54, false) }) (v := ?v17046) rfl (by kernel_rfl) (by kernel_rfl) (by kernel_rfl) (fun _ _ _ h => h) (Or.inl ⟨by rfl, ?hy17046⟩) hHeld ?_
  case hy17046 => (intro w hSw; (try dsimp only at hSw); go_simp; (try with_reducible rfl))
  (try simp only [Act.put, List.setIfInBounds_toArray, List.set_cons_zero, List.set_cons_succ])
  refine wpAnyH_take (i := 57) (oi := { dst := some 310, op := Op.fieldAddr 40 (Operand.tmp 309) 5, type := 0, pos := "law.go:131", after := #[{ on := 56, ground := Ground.data }, { on := 54, ground := Ground.guard }], guard := some (54, false) }) (v := ?v17047) rfl (by kernel_rfl) (by kernel_rfl) (by kernel_rfl) (fun _ _ _ h => h) (Or.inl ⟨by rfl, ?hy17047⟩) hHeld ?_
  case hy17047 => (intro w hSw; (try dsimp only at hSw); go_simp; (try with_reducible rfl))
  (try simp only [Act.put, List.setIfInBounds_toArray, List.set_cons_zero, List.set_cons_succ])
  refine wpAnyH_take (i := 58) (oi := { dst := some 311, op := Op.load 3 (Operand.tmp 310), type := 3, pos := "law.go:131", after := #[{ on := 57, ground := Ground.data }, { on := 54, ground := Ground.guard }], guard := some (54, false) }) (v := (.int .i64 tc)) rfl (by kernel_rfl) (by kernel_rfl) (by kernel_rfl) (fun _ _ _ h => h) (Or.inl ⟨by rfl, fun w h => by have c1 := cell_keep h u2; go_simp⟩) hHeld ?_
  (try simp only [Act.put, List.setIfInBounds_toArray, List.set_cons_zero, List.set_cons_succ])
  by_cases qc : 1073741824 < tc
  case pos =>
    have q := qc
    have d3_0 : decide (1073741824 < tc) = true := decide_eq_true q
    have d3_1 : decide (tc > 1073741824) = true := decide_eq_true q
    have e : isH tc = false := isH_high q
    rw [e, isH_mid PA.out QA.out] at HR
    clear q qc
    refine wpAnyH_take (i := 59) (oi := { dst := some 312, op := Op.binOp BinOp.gtr 3 (Operand.tmp 311) (Operand.const (Value.int IntKind.i64 1073741824)) 3, type := 4, pos := "law.go:131", after := #[{ on := 58, ground := Ground.data }, { on := 54, ground := Ground.guard }], guard := some (54, false) }) (v := ?v17048) rfl (by kernel_rfl) (by kernel_rfl) (by kernel_rfl) (fun _ _ _ h => h) (Or.inl ⟨by rfl, ?hy17048⟩) hHeld ?_
    case hy17048 => (intro w hSw; (try dsimp only at hSw); go_simp; (try with_reducible rfl))
    (try simp only [Act.put, List.setIfInBounds_toArray, List.set_cons_zero, List.set_cons_succ])
    refine wpAnyH_take (i := 60) (oi := { dst := some 313, op := Op.pick (Operand.tmp 307) (Operand.const (Value.bool true)) (Operand.tmp 312), type := 4, pos := "law.go:131", after := #[{ on := 54, ground := Ground.data }, { on := 59, ground := Ground.data }], guard := none }) (v := ?v17049) rfl (by kernel_rfl) (by kernel_rfl) (by kernel_rfl) (fun _ _ _ h => h) (Or.inl ⟨by rfl, ?hy17049⟩) hHeld ?_
    case hy17049 => (intro w hSw; (try dsimp only at hSw); go_simp; (try with_reducible rfl))
    (try simp only [Act.put, List.setIfInBounds_toArray, List.set_cons_zero, List.set_cons_succ])
    refine wpAnyH_take (i := 61) (oi := { dst := some 252, op := Op.assign (Operand.tmp 313), type := 4, pos := "law.go:131", after := #[{ on := 60, ground := Ground.data }, { on := 54, ground := Ground.chain }], guard := none }) (v := ?v17050) rfl (by kernel_rfl) (by kernel_rfl) (by kernel_rfl) (fun _ _ _ h => h) (Or.inl ⟨by rfl, ?hy17050⟩) hHeld ?_
    case hy17050 => (intro w hSw; (try dsimp only at hSw); go_simp; (try with_reducible rfl))
    (try simp only [Act.put, List.setIfInBounds_toArray, List.set_cons_zero, List.set_cons_succ])
    refine wpAnyH_done (by kernel_rfl) ?_ _
    rotate_left
    all_goals exact ⟨rfl, ⟨⟨⟨rfl, rfl, rfl, rfl, rfl, rfl, rfl, rfl, rfl⟩, rfl, rfl, rfl, rfl, rfl, rfl, rfl⟩, rfl, rfl, rfl, rfl, rfl⟩, by rw [HR.out]; rfl, by assumption⟩
  have QC := hid qc
  have d3_0 : decide (1073741824 < tc) = false := decide_eq_false qc
  have d3_1 : decide (tc > 1073741824) = false := decide_eq_false qc
  clear qc
  rw [isH_mid PA.out QA.out, isH_mid PC.out QC.out] at HR
  refine wpAnyH_take (i := 59) (oi := { dst := some 312, op := Op.binOp BinOp.gtr 3 (Operand.tmp 311) (Operand.const (Value.int IntKind.i64 1073741824)) 3, type := 4, pos := "law.go:131", after := #[{ on := 58, ground := Ground.data }, { on := 54, ground := Ground.guard }], guard := some (54, false) }) (v := ?v18048) rfl (by kernel_rfl) (by kernel_rfl) (by kernel_rfl) (fun _ _ _ h => h) (Or.inl ⟨by rfl, ?hy18048⟩) hHeld ?_
  case hy18048 => (intro w hSw; (try dsimp only at hSw); go_simp; (try with_reducible rfl))
  (try simp only [Act.put, List.setIfInBounds_toArray, List.set_cons_zero, List.set_cons_succ])
  refine wpAnyH_take (i := 60) (oi := { dst := some 313, op := Op.pick (Operand.tmp 307) (Operand.const (Value.bool true)) (Operand.tmp 312), type := 4, pos := "law.go:131", after := #[{ on := 54, ground := Ground.data }, { on := 59, ground := Ground.data }], guard := none }) (v := ?v18049) rfl (by kernel_rfl) (by kernel_rfl) (by kernel_rfl) (fun _ _ _ h => h) (Or.inl ⟨by rfl, ?hy18049⟩) hHeld ?_
  case hy18049 => (intro w hSw; (try dsimp only at hSw); go_simp; (try with_reducible rfl))
  (try simp only [Act.put, List.setIfInBounds_toArray, List.set_cons_zero, List.set_cons_succ])
  refine wpAnyH_take (i := 61) (oi := { dst := some 252, op := Op.assign (Operand.tmp 313), type := 4, pos := "law.go:131", after := #[{ on := 60, ground := Ground.data }, { on := 54, ground := Ground.chain }], guard := none }) (v := ?v18050) rfl (by kernel_rfl) (by kernel_rfl) (by kernel_rfl) (fun _ _ _ h => h) (Or.inl ⟨by rfl, ?hy18050⟩) hHeld ?_
  case hy18050 => (intro w hSw; (try dsimp only at hSw); go_simp; (try with_reducible rfl))
  (try simp only [Act.put, List.setIfInBounds_toArray, List.set_cons_zero, List.set_cons_succ])
  refine wpAnyH_done (by kernel_rfl) ?_ _
  rotate_left
  all_goals exact ⟨rfl, ⟨⟨⟨rfl, rfl, rfl, rfl, rfl, rfl, rfl, rfl, rfl⟩, rfl, rfl, rfl, rfl, rfl, rfl, rfl⟩, rfl, rfl, rfl, rfl, rfl⟩, by rw [HR.out]; rfl, by assumption⟩
end Go.Proofs.YthccjefhlmngbaaDoor

/- Quotes, and a table of them. -/
import Derived.Test.YthccjefhlmngbaaDoorMap
import Derived.Test.YthccjefhlmngbaaDoorVar
import Derived.Test.YthccjefhlmngbaaDoorQuote
namespace Go.Proofs.YthccjefhlmngbaaDoor
open Go.RowKit

structure Quo where
  no : List Nat
  id : List Nat
  buy : Bool
  most : Nat
  st : Int
  rc : Nat
  ru : Nat
  til : Int
  used : Nat
def Quo.tail (q : Quo) : List Value := [.bool q.buy, .int .u64 (q.most : Int), .int .i64 q.st, .int .u64 (q.rc : Int), .int .u64 (q.ru : Int), .int .i64 q.til, .int .u64 (q.used : Int)]
def Quo.cells (q : Quo) : List Value := nums .u8 q.no ++ nums .u8 q.id ++ q.tail
structure Quo.ok (q : Quo) : Prop where
  nl : q.no.length = 32
  nb : ∀ d ∈ q.no, d < 256
  il : q.id.length = 32
  ib : ∀ d ∈ q.id, d < 256
  mb : q.most < 18446744073709551616
  cb : q.rc < 18446744073709551616
  ub : q.ru < 18446744073709551616
  sb : q.used < 18446744073709551616
  sw : (Lit.int .i64 q.st).wf = true
  tw : (Lit.int .i64 q.til).wf = true
def hz32 : List Nat := List.replicate 32 0
def qz : Quo := ⟨hz32, hz32, false, 0, 0, 0, 0, 0, 0⟩
theorem qz_ok : qz.ok := ⟨rfl, by intro d hd; simp [qz, hz32] at hd; omega, rfl, by intro d hd; simp [qz, hz32] at hd; omega, by decide, by decide, by decide, by decide, by decide, by decide⟩
theorem Quo.len {q : Quo} (h : q.ok) : q.cells.length = 71 := by simp [Quo.cells, Quo.tail, h.nl, h.il]
theorem Quo.get {q : Quo} (h : q.ok) (i : Nat) : q.cells[64 + i]? = q.tail[i]? := by
  rw [Quo.cells, List.getElem?_append_right (by simp [h.nl, h.il])]
  simp [h.nl, h.il]
theorem Quo.set {q : Quo} (h : q.ok) (i : Nat) (v : Value) : q.cells.set (64 + i) v = nums .u8 q.no ++ nums .u8 q.id ++ q.tail.set i v := by
  rw [Quo.cells, List.set_append_right _ _ (by simp [h.nl, h.il])]
  simp [h.nl, h.il]
theorem Quo.one (q : Quo) : ∀ v ∈ q.cells, v.oneCell' = true := by
  intro v hv
  simp only [Quo.cells, Quo.tail, List.mem_append, List.mem_cons, List.not_mem_nil, or_false] at hv
  rcases hv with (hv | hv) | hv
  · exact nums_oneCell _ _ v hv
  · exact nums_oneCell _ _ v hv
  · rcases hv with rfl | rfl | rfl | rfl | rfl | rfl | rfl <;> rfl
def zQ : Array Value := qz.cells.toArray
theorem zQ_size : zQ.size = 71 := by unfold zQ; rw [List.size_toArray]; exact Quo.len qz_ok
theorem zQ_ne : ¬ zQ = #[] := by intro e; have := zQ_size; rw [e] at this; exact absurd this (by decide)
theorem zeroQ (w : World) : (zeroValue 48).run Tryd.prog w = .ok (.agg zQ) w := by
  have h : (Tryd.prog.info? 48).map (·.zero) = some (some (.agg zQ)) := by kernel_rfl
  cases hi : Tryd.prog.info? 48 with
  | none => rw [hi] at h; cases h
  | some i =>
    rw [hi] at h
    simp only [Option.map_some, Option.some.injEq] at h
    simp [zeroValue, typeInfo, hi, h]
theorem infoQ : (Tryd.prog.info? 48).map (·.size) = some 71 := by kernel_rfl
theorem infoQl {q : Quo} (h : q.ok) : (Tryd.prog.info? 48).map (·.size) = some q.cells.length := by rw [Quo.len h]; exact infoQ
theorem infoQa {q : Quo} (h : q.ok) : (Tryd.prog.info? 48).map (·.size) = some q.cells.toArray.size := by rw [List.size_toArray]; exact infoQl h
theorem zQ_as {q : Quo} (h : q.ok) : zQ.size = q.cells.toArray.size := zQ_size.trans (by rw [List.size_toArray, Quo.len h])
abbrev QM := List Nat → Option Quo
def valM (M : QM) : List Nat → Option Value := fun x => (M x).map fun q => .agg q.cells.toArray
def updM (M : QM) (x : List Nat) (q : Quo) : QM := fun y => if y = x then some q else M y
theorem valM_upd (M : QM) (x : List Nat) (q : Quo) : (fun y => if y = x then some (.agg q.cells.toArray) else valM M y) = valM (updM M x q) := by
  funext y
  unfold valM updM
  by_cases h : y = x
  · simp [h]
  · simp [h]
/-- a table: its struct's block, its map's block, what it holds -/
structure TabAt (w : World) (tb mb : Nat) (M : QM) (n : Nat) : Prop where
  cell : w.cell? ⟨tb, 0, none⟩ = some (.map (some mb))
  map : MapIs EH w mb (valM M) n
  ok : ∀ x q, M x = some q → q.ok
  small : n ≤ 256
  ne : tb ≠ mb
theorem TabAt.below {w w' : World} {tb mb n : Nat} {M : QM} (h : TabAt w tb mb M n) (hb : Below w.heap.size w w') : TabAt w' tb mb M n := ⟨cell_keep hb h.cell, h.map.below hb, h.ok, h.small, h.ne⟩
theorem far_cell {w w' : World} {H : Nat} {a : Addr} {v : Value} (hf : Far H w w') (h : w.cell? a = some v) (hne : a.block ≠ H) : w'.cell? a = some v := by
  rw [World.cell?_of_block (hf.block _ (World.block_lt_of_cell? w _ h) (by simpa using hne))]; exact h
theorem TabAt.far {w w' : World} {tb mb n H : Nat} {M : QM} (h : TabAt w tb mb M n) (hf : Far H w w') (h1 : tb ≠ H) (h2 : mb ≠ H) : TabAt w' tb mb M n := ⟨far_cell hf h.cell h1, h.map.far hf h2, h.ok, h.small, h.ne⟩
theorem TabAt.put {w w' : World} {tb mb n : Nat} {M : QM} (h : TabAt w tb mb M n) {x : List Nat} {q : Quo} {n' : Nat} (hm : MapIs EH w' mb (fun y => if y = x then some (.agg q.cells.toArray) else valM M y) n') (hf : Far mb w w') (hq : q.ok) (hn : n' ≤ 256) : TabAt w' tb mb (updM M x q) n' :=
  ⟨far_cell hf h.cell h.ne, by rw [← valM_upd]; exact hm, fun y p hp => by
    unfold updM at hp
    split at hp
    · cases hp; exact hq
    · exact h.ok y p hp, hn, h.ne⟩
theorem lookVal (M : QM) (no : List Nat) : (if true = true then Value.tuple #[(valM M no).getD (.agg zQ), .bool (valM M no).isSome] else (valM M no).getD (.agg zQ)) = .tuple #[.agg ((M no).getD qz).cells.toArray, .bool (M no).isSome] := by
  rw [if_pos rfl]
  unfold valM
  cases M no <;> rfl
/-- a request that nothing has become of -/
def openS (o : Option Quo) : Quo × Nat := match o with | none => (qz, 5) | some q => if q.st = 0 then (q, 0) else (qz, 52)
/-- a quote that holds, for so many units more -/
def holdsS (o : Option Quo) (h : Int) (u : Nat) : Quo × Nat := match o with
  | none => (qz, 5)
  | some q => if q.st = 1 then (if q.til < h then (qz, 33) else if q.used + u < 18446744073709551616 then (if q.most < q.used + u then (qz, 51) else ({ q with used := q.used + u }, 0)) else (qz, 51)) else (qz, 52)
def QRes (w : World) (r : Quo × Nat) (e : Ending) (w' : World) : Prop := e = .returned (.tuple #[.agg r.1.cells.toArray, .int .i64 ((r.2 : Nat) : Int)]) ∧ Below w.heap.size w w'
theorem unMap : Tryd.prog.underlying 80 = some (.map 27 48) := by kernel_rfl
end Go.Proofs.YthccjefhlmngbaaDoor

/- The walks of table's open, holds and Get. Printed by wip/tab.py. -/
namespace Go.Proofs.YthccjefhlmngbaaDoor
open Go.RowKit

theorem ans_cases (M : QM) (no : List Nat) (hM : ∀ x q, M x = some q → q.ok) : ∃ q kn, (M no).getD qz = q ∧ (M no).isSome = kn ∧ q.ok ∧ ((kn = false ∧ M no = none ∧ q = qz) ∨ (kn = true ∧ M no = some q)) := by
  cases h : M no with
  | none => exact ⟨qz, false, rfl, rfl, qz_ok, .inl ⟨rfl, rfl, rfl⟩⟩
  | some q => exact ⟨q, true, rfl, rfl, hM no q h, .inr ⟨rfl, rfl⟩⟩
set_option maxRecDepth 100000 in
set_option maxHeartbeats 4000000 in
theorem open_walk (tb mb n : Nat) (M : QM) (no : List Nat) (hno : EH.ok no) (w : World) (h : TabAt w tb mb M n) :
    Calls Tryd.prog 43 #[.pointer (some ⟨tb, 0, none⟩), .agg (nums .u8 no).toArray] w (QRes w (openS (M no))) := by
  have ZQ := zeroQ
  have hne := zQ_ne
  have unH := Tryd.underlying27
  have hiH : (Tryd.prog.info? 27).map (·.size) = some (nums .u8 no).length := by rw [nums_length, hno.1]; exact infoH
  have hz71 := hid (show (Tryd.prog.info? 48).map (·.size) = some zQ.size by rw [zQ_size]; exact infoQ)
  have hzo := hid (all_oneCell_toArray (Quo.one qz))
  obtain ⟨q0, kn, hg0, hk0, hq, hMq⟩ := ans_cases M no h.ok
  have hval := lookVal M no
  rw [hg0, hk0] at hval
  replace hval := hid hval
  have hq0 := hid hq
  have hq0i := hid (infoQa hq)
  have hq0l := hid (infoQl hq)
  have hq0z := hid (zQ_as hq)
  have hq0o := hid (all_oneCell_toArray (Quo.one q0))
  have HMq := hid hMq
  clear hg0 hk0 hq hMq
  have A2 := alloc2p w (.cells (nums .u8 no).toArray 27) (.cells zQ 48)
  have h1 := h.below A2.2.2.2
  have f2 := row_range A2.1
  have hR := hid A2.2.1
  have B1 := hid A2.2.2.2
  have f1 := h1.cell
  have f3 := h1.map
  clear A2 h1 h
  go_enter Tryd.func43, Tryd.ntmps43
  go_upto_region 1 with (fail)
  show Code.wp _ _ _ _ ((w.alloc (.cells (nums .u8 no).toArray 27)).alloc (.cells zQ 48))
  generalize (w.alloc (.cells (nums .u8 no).toArray 27)).alloc (.cells zQ 48) = w1 at *
  obtain ⟨K, hK⟩ : ∃ K, K = w.heap.size := ⟨_, rfl⟩
  obtain ⟨R, hR1⟩ : ∃ R, R = w.heap.size + 1 := ⟨_, rfl⟩
  rw [← hR1] at hR ⊢
  rw [← hK] at f2 ⊢
  have HR := hid (show w.heap.size ≤ R by omega)
  clear hK hR1
  have keepS : ∀ X Y : World, Below X.heap.size X Y → (X.cell? ⟨tb, 0, none⟩ = some (.map (some mb)) ∧ X.rangeAt K 0 (nums .u8 no) ∧ MapIs EH X mb (valM M) n) → (Y.cell? ⟨tb, 0, none⟩ = some (.map (some mb)) ∧ Y.rangeAt K 0 (nums .u8 no) ∧ MapIs EH Y mb (valM M) n) :=
    fun X Y hb h => ⟨cell_keep hb h.1, range_keep hb h.2.1, h.2.2.below hb⟩
  refine wp_region_held_drew (S := fun w' => w'.cell? ⟨tb, 0, none⟩ = some (.map (some mb)) ∧ w'.rangeAt K 0 (nums .u8 no) ∧ MapIs EH w' mb (valM M) n) (by kernel_rfl) (⟨f1, f2, f3⟩) (fun hHeld => ?_)
  try simp only [List.size_toArray, List.length_cons, List.length_nil, Nat.reduceAdd, Array.replicate_succ, Array.replicate_zero, List.push_toArray, List.nil_append, List.cons_append]
  refine wpAnyH_take (i := 0) (oi := { dst := some 9, op := Op.move (Operand.tmp 0), type := 24, pos := "table.go:88", after := #[], guard := none }) (v := ?v1001) rfl (by kernel_rfl) (by kernel_rfl) (by kernel_rfl) (fun _ _ _ h => h) (Or.inl ⟨by rfl, ?hy1001⟩) hHeld ?_
  case hy1001 => (intro w hSw; (try dsimp only at hSw); go_simp; (try with_reducible rfl))
  (try simp only [Act.put, List.setIfInBounds_toArray, List.set_cons_zero, List.set_cons_succ])
  refine wpAnyH_take (i := 1) (oi := { dst := some 10, op := Op.nilCheck (Operand.tmp 9), type := 0, pos := "table.go:88", after := #[{ on := 0, ground := Ground.data }], guard := none }) (v := ?v1002) rfl (by kernel_rfl) (by kernel_rfl) (by kernel_rfl) (fun _ _ _ h => h) (Or.inl ⟨by rfl, ?hy1002⟩) hHeld ?_
  case hy1002 => (intro w hSw; (try dsimp only at hSw); go_simp; (try with_reducible rfl))
  (try simp only [Act.put, List.setIfInBounds_toArray, List.set_cons_zero, List.set_cons_succ])
  refine wpAnyH_take (i := 2) (oi := { dst := some 11, op := Op.fieldAddr 82 (Operand.tmp 10) 0, type := 0, pos := "table.go:88", after := #[{ on := 1, ground := Ground.data }], guard := none }) (v := ?v1003) rfl (by kernel_rfl) (by kernel_rfl) (by kernel_rfl) (fun _ _ _ h => h) (Or.inl ⟨by rfl, ?hy1003⟩) hHeld ?_
  case hy1003 => (intro w hSw; (try dsimp only at hSw); go_simp; (try with_reducible rfl))
  (try simp only [Act.put, List.setIfInBounds_toArray, List.set_cons_zero, List.set_cons_succ])
  refine wpAnyH_take (i := 3) (oi := { dst := some 12, op := Op.load 80 (Operand.tmp 11), type := 80, pos := "table.go:88", after := #[{ on := 2, ground := Ground.data }], guard := none }) (v := ?v1004) rfl (by kernel_rfl) (by kernel_rfl) (by kernel_rfl) (fun _ _ _ h => h) (Or.inl ⟨by rfl, ?hy1004⟩) hHeld ?_
  case hy1004 => (intro w hSw; (try dsimp only at hSw); go_simp; (try with_reducible rfl))
  (try simp only [Act.put, List.setIfInBounds_toArray, List.set_cons_zero, List.set_cons_succ])
  refine' wpAnyH_take (i := 4) (oi := { dst := some 13, op := Op.load 27 (Operand.tmp 3), type := 27, pos := "table.go:88", after := #[], guard := none }) (v := _) rfl (by kernel_rfl) (by kernel_rfl) (by kernel_rfl) (fun _ _ _ h => h) (yieldsIf_load_mid (by rfl) _ _ rfl K 0 rfl (nums .u8 no) _ (fun _ h => h.2.1) unH rfl hiH) hHeld ?_
  (try simp only [Act.put, List.setIfInBounds_toArray, List.set_cons_zero, List.set_cons_succ])
  refine wpAnyH_take (i := 5) (oi := { dst := some 14, op := Op.lookup 80 (Operand.tmp 12) (Operand.tmp 13) true, type := 49, pos := "table.go:88", after := #[{ on := 3, ground := Ground.data }, { on := 4, ground := Ground.data }], guard := none }) (v := .tuple #[.agg q0.cells.toArray, .bool kn]) rfl (by kernel_rfl) (by kernel_rfl) (by kernel_rfl) (fun _ _ _ h => h) (Or.inl ⟨by rfl, fun w h => by rw [← hval.out]; exact run_look _ _ _ true rfl unMap (ZQ w) h.2.2 rfl no hno rfl⟩) hHeld ?_
  (try simp only [Act.put, List.setIfInBounds_toArray, List.set_cons_zero, List.set_cons_succ])
  refine wpAnyH_take (i := 6) (oi := { dst := some 8, op := Op.move (Operand.tmp 14), type := 49, pos := "table.go:88", after := #[{ on := 5, ground := Ground.data }], guard := none }) (v := ?v1005) rfl (by kernel_rfl) (by kernel_rfl) (by kernel_rfl) (fun _ _ _ h => h) (Or.inl ⟨by rfl, ?hy1005⟩) hHeld ?_
  case hy1005 => (intro w hSw; (try dsimp only at hSw); go_simp; (try with_reducible rfl))
  (try simp only [Act.put, List.setIfInBounds_toArray, List.set_cons_zero, List.set_cons_succ])
  refine wpAnyH_take (i := 7) (oi := { dst := some 15, op := Op.extract (Operand.tmp 8) 0, type := 48, pos := "table.go:88", after := #[{ on := 6, ground := Ground.data }], guard := none }) (v := ?v1006) rfl (by kernel_rfl) (by kernel_rfl) (by kernel_rfl) (fun _ _ _ h => h) (Or.inl ⟨by rfl, ?hy1006⟩) hHeld ?_
  case hy1006 => (intro w hSw; (try dsimp only at hSw); go_simp; (try with_reducible rfl))
  (try simp only [Act.put, List.setIfInBounds_toArray, List.set_cons_zero, List.set_cons_succ])
  refine wpAnyH_take (i := 8) (oi := { dst := some 16, op := Op.extract (Operand.tmp 8) 1, type := 4, pos := "table.go:88", after := #[{ on := 6, ground := Ground.data }, { on := 10, ground := Ground.gcOnly Departure.lateStores }], guard := none }) (v := ?v1007) rfl (by kernel_rfl) (by kernel_rfl) (by kernel_rfl) (fun _ _ _ h => h) (Or.inl ⟨by rfl, ?hy1007⟩) hHeld ?_
  case hy1007 => (intro w hSw; (try dsimp only at hSw); go_simp; (try with_reducible rfl))
  (try simp only [Act.put, List.setIfInBounds_toArray, List.set_cons_zero, List.set_cons_succ])
  refine wpAnyH_ready (rs := [9]) (by kernel_rfl) (by simp) ?_
  refine AllReadyH.cons (o := { dst := some 6, op := Op.alloc 48, type := 0, pos := "table.go:88", after := #[], guard := none }) rfl (fun K hK => ?_) ?_
  go_simp; (first | refine newZ ?_ | refine newZd ?_); intro w5 h5 b5
  refine hK.out _ _ (keepS _ _ b5.out ⟨f1, f2, f3⟩) (fun hHeld => ?_)
  clear hK K
  (try simp only [List.setIfInBounds_toArray, List.set_cons_zero, List.set_cons_succ])
  refine wpAnyH_ready (rs := [10]) (by kernel_rfl) (by simp) ?_
  refine AllReadyH.cons (o := { dst := none, op := Op.store 48 (Operand.tmp 6) (Operand.tmp 15), type := 0, pos := "table.go:88", after := #[{ on := 9, ground := Ground.data }, { on := 7, ground := Ground.data }, { on := 0, ground := Ground.phase }, { on := 1, ground := Ground.phase }, { on := 2, ground := Ground.phase }, { on := 3, ground := Ground.phase }, { on := 4, ground := Ground.phase }, { on := 5, ground := Ground.phase }, { on := 6, ground := Ground.phase }, { on := 7, ground := Ground.phase }, { on := 8, ground := Ground.textOnly Departure.lateStores }, { on := 9, ground := Ground.phase }], guard := none }) rfl (fun K hK => ?_) ?_
  rw [if_pos (by rfl)]; refine wp_store_row _ _ _ rfl _ q0.cells.toArray rfl rfl _ _ h5.out hq0i.out hq0z.out hq0o.out ?_
  refine hK.out _ _ (keepS _ _ (below_setRow b5.out (Nat.le_refl _) _) ⟨f1, f2, f3⟩) (fun hHeld => ?_)
  clear hK K
  (try simp only [List.setIfInBounds_toArray, List.set_cons_zero, List.set_cons_succ])
  refine wpAnyH_take (i := 11) (oi := { dst := some 7, op := Op.assign (Operand.tmp 16), type := 4, pos := "table.go:88", after := #[{ on := 8, ground := Ground.data }, { on := 10, ground := Ground.chain }, { on := 0, ground := Ground.phase }, { on := 1, ground := Ground.phase }, { on := 2, ground := Ground.phase }, { on := 3, ground := Ground.phase }, { on := 4, ground := Ground.phase }, { on := 5, ground := Ground.phase }, { on := 6, ground := Ground.phase }, { on := 7, ground := Ground.phase }, { on := 8, ground := Ground.phase }, { on := 9, ground := Ground.phase }, { on := 10, ground := Ground.phase }], guard := none }) (v := ?v1008) rfl (by kernel_rfl) (by kernel_rfl) (by kernel_rfl) (fun _ _ _ h => h) (Or.inl ⟨by rfl, ?hy1008⟩) hHeld ?_
  case hy1008 => (intro w hSw; (try dsimp only at hSw); go_simp; (try with_reducible rfl))
  (try simp only [Act.put, List.setIfInBounds_toArray, List.set_cons_zero, List.set_cons_succ])
  refine wpAnyH_done (by kernel_rfl) ?_ _
  rotate_left
  exact AllReadyH.nil
  exact AllReadyH.nil
  have H9 := setRow_heap w5 w1.heap.size _ q0.cells.toArray _ _ h5.out
  have L9 := below_setRow b5.out (Nat.le_refl _) q0.cells.toArray
  have HR7 := hid (heap_keep hR.out L9)
  have B7 := hid (bstep B1.out L9)
  have r9 := row_range H9
  have hRG := hid (Array.getElem?_eq_some_iff.1 hR.out).1
  clear L9 keepS hHeld b5 f1 f2 f3 h5
  generalize w5.setRow w1.heap.size q0.cells.toArray = w7 at *
  generalize w1.heap.size = G9 at *
  have c64 := gen_cell r9 (Quo.get hq0.out 0)
  have c65 := gen_cell r9 (Quo.get hq0.out 1)
  have c66 := gen_cell r9 (Quo.get hq0.out 2)
  have c69 := gen_cell r9 (Quo.get hq0.out 5)
  have c70 := gen_cell r9 (Quo.get hq0.out 6)
  rcases HMq.out with ⟨hk, hM, hqz⟩ | ⟨hk, hM⟩
  · subst hk
    have E := hid (show openS (M no) = (qz, 5) by rw [hM]; rfl)
    clear hM hqz H9
    have q1 := hid (setRow_heap _ R _ zQ _ _ HR7.out)
    have qB := hid (below_setRow B7.out HR.out zQ)
    go_wp2_with (first | refine wpList_store_row rfl _ _ _ rfl R zQ rfl rfl _ _ HR7.out hz71.out rfl hzo.out ?_)
    (try simp only [Exit.inBlock, Exit.then])
    refine bodyPost_ret (results_cell_tmp rfl _ _ R _ zQ _ _ _ rfl rfl q1.out Tryd.underlying48 rfl hz71.out) rfl ?_
    exact ⟨by rw [E.out]; rfl, qB.out⟩
  · subst hk
    by_cases hs : q0.st = 0
    · have E := hid (show openS (M no) = (q0, 0) by rw [hM]; exact if_pos hs)
      have ts : (q0.st != 0) = false := by simp [hs]
      clear hM hs H9
      have q1 := hid (setRow_heap _ R _ q0.cells.toArray _ _ HR7.out)
      have qB := hid (below_setRow B7.out HR.out q0.cells.toArray)
      go_wp2_with (first | refine wpList_load_mid rfl _ _ rfl G9 0 rfl q0.cells _ r9 Tryd.underlying48 rfl hq0l.out ?_ | refine wpList_store_row rfl _ _ _ rfl R q0.cells.toArray rfl rfl _ _ HR7.out hq0i.out hq0z.out hq0o.out ?_)
      (try simp only [Exit.inBlock, Exit.then])
      refine bodyPost_ret (results_cell_tmp rfl _ _ R _ q0.cells.toArray _ _ _ rfl rfl q1.out Tryd.underlying48 rfl hq0i.out) rfl ?_
      exact ⟨by rw [E.out]; rfl, qB.out⟩
    · have E := hid (show openS (M no) = (qz, 52) by rw [hM]; exact if_neg hs)
      have ts : (q0.st != 0) = true := by simp [hs]
      clear hM hs H9
      have q1 := hid (setRow_heap _ R _ zQ _ _ HR7.out)
      have qB := hid (below_setRow B7.out HR.out zQ)
      go_wp2_with (first | refine wpList_store_row rfl _ _ _ rfl R zQ rfl rfl _ _ HR7.out hz71.out rfl hzo.out ?_)
      (try simp only [Exit.inBlock, Exit.then])
      refine bodyPost_ret (results_cell_tmp rfl _ _ R _ zQ _ _ _ rfl rfl q1.out Tryd.underlying48 rfl hz71.out) rfl ?_
      exact ⟨by rw [E.out]; rfl, qB.out⟩
def GetQ (w : World) (o : Option Quo) (e : Ending) (w' : World) : Prop := e = .returned (.tuple #[.agg (o.getD qz).cells.toArray, .bool o.isSome]) ∧ Below w.heap.size w w'
set_option maxRecDepth 100000 in
set_option maxHeartbeats 4000000 in
theorem tget_walk (tb mb n : Nat) (M : QM) (no : List Nat) (hno : EH.ok no) (w : World) (h : TabAt w tb mb M n) :
    Calls Tryd.prog 14 #[.pointer (some ⟨tb, 0, none⟩), .agg (nums .u8 no).toArray] w (GetQ w (M no)) := by
  have ZQ := zeroQ
  have hne := zQ_ne
  have unH := Tryd.underlying27
  have hiH : (Tryd.prog.info? 27).map (·.size) = some (nums .u8 no).length := by rw [nums_length, hno.1]; exact infoH
  have hz71 := hid (show (Tryd.prog.info? 48).map (·.size) = some zQ.size by rw [zQ_size]; exact infoQ)
  have hzo := hid (all_oneCell_toArray (Quo.one qz))
  obtain ⟨q0, kn, hg0, hk0, hq, hMq⟩ := ans_cases M no h.ok
  have hval := lookVal M no
  rw [hg0, hk0] at hval
  replace hval := hid hval
  have hq0 := hid hq
  have hq0i := hid (infoQa hq)
  have hq0l := hid (infoQl hq)
  have hq0z := hid (zQ_as hq)
  have hq0o := hid (all_oneCell_toArray (Quo.one q0))
  have HMq := hid hMq
  clear hg0 hk0 hq hMq
  have A2 := alloc2p w (.cells (nums .u8 no).toArray 27) (.cells zQ 48)
  have h1 := h.below A2.2.2.2
  have f2 := row_range A2.1
  have hR := hid A2.2.1
  have B1 := hid A2.2.2.2
  have f1 := h1.cell
  have f3 := h1.map
  clear A2 h1 h
  go_enter Tryd.func14, Tryd.ntmps14
  go_upto_region 3 with (fail)
  show Code.wp _ _ _ _ ((w.alloc (.cells (nums .u8 no).toArray 27)).alloc (.cells zQ 48))
  generalize (w.alloc (.cells (nums .u8 no).toArray 27)).alloc (.cells zQ 48) = w1 at *
  obtain ⟨K, hK⟩ : ∃ K, K = w.heap.size := ⟨_, rfl⟩
  obtain ⟨R, hR1⟩ : ∃ R, R = w.heap.size + 1 := ⟨_, rfl⟩
  rw [← hR1] at hR ⊢
  rw [← hK] at f2 ⊢
  have HR := hid (show w.heap.size ≤ R by omega)
  clear hK hR1
  have keepS : ∀ X Y : World, Below X.heap.size X Y → (X.cell? ⟨tb, 0, none⟩ = some (.map (some mb)) ∧ X.rangeAt K 0 (nums .u8 no) ∧ MapIs EH X mb (valM M) n) → (Y.cell? ⟨tb, 0, none⟩ = some (.map (some mb)) ∧ Y.rangeAt K 0 (nums .u8 no) ∧ MapIs EH Y mb (valM M) n) :=
    fun X Y hb h => ⟨cell_keep hb h.1, range_keep hb h.2.1, h.2.2.below hb⟩
  refine wp_region_held_drew (S := fun w' => w'.cell? ⟨tb, 0, none⟩ = some (.map (some mb)) ∧ w'.rangeAt K 0 (nums .u8 no) ∧ MapIs EH w' mb (valM M) n) (by kernel_rfl) (⟨f1, f2, f3⟩) (fun hHeld => ?_)
  try simp only [List.size_toArray, List.length_cons, List.length_nil, Nat.reduceAdd, Array.replicate_succ, Array.replicate_zero, List.push_toArray, List.nil_append, List.cons_append]
  refine wpAnyH_take (i := 0) (oi := { dst := some 12, op := Op.move (Operand.tmp 0), type := 24, pos := "table.go:166", after := #[], guard := none }) (v := ?v2001) rfl (by kernel_rfl) (by kernel_rfl) (by kernel_rfl) (fun _ _ _ h => h) (Or.inl ⟨by rfl, ?hy2001⟩) hHeld ?_
  case hy2001 => (intro w hSw; (try dsimp only at hSw); go_simp; (try with_reducible rfl))
  (try simp only [Act.put, List.setIfInBounds_toArray, List.set_cons_zero, List.set_cons_succ])
  refine wpAnyH_take (i := 1) (oi := { dst := some 13, op := Op.nilCheck (Operand.tmp 12), type := 0, pos := "table.go:166", after := #[{ on := 0, ground := Ground.data }], guard := none }) (v := ?v2002) rfl (by kernel_rfl) (by kernel_rfl) (by kernel_rfl) (fun _ _ _ h => h) (Or.inl ⟨by rfl, ?hy2002⟩) hHeld ?_
  case hy2002 => (intro w hSw; (try dsimp only at hSw); go_simp; (try with_reducible rfl))
  (try simp only [Act.put, List.setIfInBounds_toArray, List.set_cons_zero, List.set_cons_succ])
  refine wpAnyH_take (i := 2) (oi := { dst := some 14, op := Op.fieldAddr 82 (Operand.tmp 13) 0, type := 0, pos := "table.go:166", after := #[{ on := 1, ground := Ground.data }], guard := none }) (v := ?v2003) rfl (by kernel_rfl) (by kernel_rfl) (by kernel_rfl) (fun _ _ _ h => h) (Or.inl ⟨by rfl, ?hy2003⟩) hHeld ?_
  case hy2003 => (intro w hSw; (try dsimp only at hSw); go_simp; (try with_reducible rfl))
  (try simp only [Act.put, List.setIfInBounds_toArray, List.set_cons_zero, List.set_cons_succ])
  refine wpAnyH_take (i := 3) (oi := { dst := some 15, op := Op.load 80 (Operand.tmp 14), type := 80, pos := "table.go:166", after := #[{ on := 2, ground := Ground.data }], guard := none }) (v := ?v2004) rfl (by kernel_rfl) (by kernel_rfl) (by kernel_rfl) (fun _ _ _ h => h) (Or.inl ⟨by rfl, ?hy2004⟩) hHeld ?_
  case hy2004 => (intro w hSw; (try dsimp only at hSw); go_simp; (try with_reducible rfl))
  (try simp only [Act.put, List.setIfInBounds_toArray, List.set_cons_zero, List.set_cons_succ])
  refine' wpAnyH_take (i := 4) (oi := { dst := some 16, op := Op.load 27 (Operand.tmp 3), type := 27, pos := "table.go:166", after := #[], guard := none }) (v := _) rfl (by kernel_rfl) (by kernel_rfl) (by kernel_rfl) (fun _ _ _ h => h) (yieldsIf_load_mid (by rfl) _ _ rfl K 0 rfl (nums .u8 no) _ (fun _ h => h.2.1) unH rfl hiH) hHeld ?_
  (try simp only [Act.put, List.setIfInBounds_toArray, List.set_cons_zero, List.set_cons_succ])
  refine wpAnyH_take (i := 5) (oi := { dst := some 17, op := Op.lookup 80 (Operand.tmp 15) (Operand.tmp 16) true, type := 49, pos := "table.go:166", after := #[{ on := 3, ground := Ground.data }, { on := 4, ground := Ground.data }], guard := none }) (v := .tuple #[.agg q0.cells.toArray, .bool kn]) rfl (by kernel_rfl) (by kernel_rfl) (by kernel_rfl) (fun _ _ _ h => h) (Or.inl ⟨by rfl, fun w h => by rw [← hval.out]; exact run_look _ _ _ true rfl unMap (ZQ w) h.2.2 rfl no hno rfl⟩) hHeld ?_
  (try simp only [Act.put, List.setIfInBounds_toArray, List.set_cons_zero, List.set_cons_succ])
  refine wpAnyH_take (i := 6) (oi := { dst := some 11, op := Op.move (Operand.tmp 17), type := 49, pos := "table.go:166", after := #[{ on := 5, ground := Ground.data }], guard := none }) (v := ?v2005) rfl (by kernel_rfl) (by kernel_rfl) (by kernel_rfl) (fun _ _ _ h => h) (Or.inl ⟨by rfl, ?hy2005⟩) hHeld ?_
  case hy2005 => (intro w hSw; (try dsimp only at hSw); go_simp; (try with_reducible rfl))
  (try simp only [Act.put, List.setIfInBounds_toArray, List.set_cons_zero, List.set_cons_succ])
  refine wpAnyH_take (i := 7) (oi := { dst := some 18, op := Op.extract (Operand.tmp 11) 0, type := 48, pos := "table.go:166", after := #[{ on := 6, ground := Ground.data }], guard := none }) (v := ?v2006) rfl (by kernel_rfl) (by kernel_rfl) (by kernel_rfl) (fun _ _ _ h => h) (Or.inl ⟨by rfl, ?hy2006⟩) hHeld ?_
  case hy2006 => (intro w hSw; (try dsimp only at hSw); go_simp; (try with_reducible rfl))
  (try simp only [Act.put, List.setIfInBounds_toArray, List.set_cons_zero, List.set_cons_succ])
  refine wpAnyH_take (i := 8) (oi := { dst := some 19, op := Op.extract (Operand.tmp 11) 1, type := 4, pos := "table.go:166", after := #[{ on := 6, ground := Ground.data }, { on := 10, ground := Ground.gcOnly Departure.lateStores }], guard := none }) (v := ?v2007) rfl (by kernel_rfl) (by kernel_rfl) (by kernel_rfl) (fun _ _ _ h => h) (Or.inl ⟨by rfl, ?hy2007⟩) hHeld ?_
  case hy2007 => (intro w hSw; (try dsimp only at hSw); go_simp; (try with_reducible rfl))
  (try simp only [Act.put, List.setIfInBounds_toArray, List.set_cons_zero, List.set_cons_succ])
  refine wpAnyH_ready (rs := [9]) (by kernel_rfl) (by simp) ?_
  refine AllReadyH.cons (o := { dst := some 6, op := Op.alloc 48, type := 0, pos := "table.go:166", after := #[], guard := none }) rfl (fun K hK => ?_) ?_
  go_simp; (first | refine newZ ?_ | refine newZd ?_); intro w5 h5 b5
  refine hK.out _ _ (keepS _ _ b5.out ⟨f1, f2, f3⟩) (fun hHeld => ?_)
  clear hK K
  (try simp only [List.setIfInBounds_toArray, List.set_cons_zero, List.set_cons_succ])
  refine wpAnyH_ready (rs := [10]) (by kernel_rfl) (by simp) ?_
  refine AllReadyH.cons (o := { dst := none, op := Op.store 48 (Operand.tmp 6) (Operand.tmp 18), type := 0, pos := "table.go:166", after := #[{ on := 9, ground := Ground.data }, { on := 7, ground := Ground.data }, { on := 0, ground := Ground.phase }, { on := 1, ground := Ground.phase }, { on := 2, ground := Ground.phase }, { on := 3, ground := Ground.phase }, { on := 4, ground := Ground.phase }, { on := 5, ground := Ground.phase }, { on := 6, ground := Ground.phase }, { on := 7, ground := Ground.phase }, { on := 8, ground := Ground.textOnly Departure.lateStores }, { on := 9, ground := Ground.phase }], guard := none }) rfl (fun K hK => ?_) ?_
  rw [if_pos (by rfl)]; refine wp_store_row _ _ _ rfl _ q0.cells.toArray rfl rfl _ _ h5.out hq0i.out hq0z.out hq0o.out ?_
  refine hK.out _ _ (keepS _ _ (below_setRow b5.out (Nat.le_refl _) _) ⟨f1, f2, f3⟩) (fun hHeld => ?_)
  clear hK K
  (try simp only [List.setIfInBounds_toArray, List.set_cons_zero, List.set_cons_succ])
  refine wpAnyH_take (i := 11) (oi := { dst := some 7, op := Op.assign (Operand.tmp 19), type := 4, pos := "table.go:166", after := #[{ on := 8, ground := Ground.data }, { on := 10, ground := Ground.chain }, { on := 0, ground := Ground.phase }, { on := 1, ground := Ground.phase }, { on := 2, ground := Ground.phase }, { on := 3, ground := Ground.phase }, { on := 4, ground := Ground.phase }, { on := 5, ground := Ground.phase }, { on := 6, ground := Ground.phase }, { on := 7, ground := Ground.phase }, { on := 8, ground := Ground.phase }, { on := 9, ground := Ground.phase }, { on := 10, ground := Ground.phase }], guard := none }) (v := ?v2008) rfl (by kernel_rfl) (by kernel_rfl) (by kernel_rfl) (fun _ _ _ h => h) (Or.inl ⟨by rfl, ?hy2008⟩) hHeld ?_
  case hy2008 => (intro w hSw; (try dsimp only at hSw); go_simp; (try with_reducible rfl))
  (try simp only [Act.put, List.setIfInBounds_toArray, List.set_cons_zero, List.set_cons_succ])
  refine wpAnyH_done (by kernel_rfl) ?_ _
  rotate_left
  exact AllReadyH.nil
  exact AllReadyH.nil
  have H9 := setRow_heap w5 w1.heap.size _ q0.cells.toArray _ _ h5.out
  have L9 := below_setRow b5.out (Nat.le_refl _) q0.cells.toArray
  have HR7 := hid (heap_keep hR.out L9)
  have B7 := hid (bstep B1.out L9)
  have r9 := row_range H9
  have hRG := hid (Array.getElem?_eq_some_iff.1 hR.out).1
  clear L9 keepS hHeld b5 f1 f2 f3 h5
  generalize w5.setRow w1.heap.size q0.cells.toArray = w7 at *
  generalize w1.heap.size = G9 at *
  have c64 := gen_cell r9 (Quo.get hq0.out 0)
  have c65 := gen_cell r9 (Quo.get hq0.out 1)
  have c66 := gen_cell r9 (Quo.get hq0.out 2)
  have c69 := gen_cell r9 (Quo.get hq0.out 5)
  have c70 := gen_cell r9 (Quo.get hq0.out 6)
  have E := hid (show (M no).getD qz = q0 ∧ (M no).isSome = kn by rcases HMq.out with ⟨rfl, hM, rfl⟩ | ⟨rfl, hM⟩ <;> rw [hM] <;> exact ⟨rfl, rfl⟩)
  clear H9 c64 c65 c66 c69 c70
  have q1 := hid (setRow_heap _ R _ q0.cells.toArray _ _ HR7.out)
  have qB := hid (below_setRow B7.out HR.out q0.cells.toArray)
  go_wp2_with (first | refine wpList_load_mid rfl _ _ rfl G9 0 rfl q0.cells _ r9 Tryd.underlying48 rfl hq0l.out ?_ | refine wpList_store_row rfl _ _ _ rfl R q0.cells.toArray rfl rfl _ _ HR7.out hq0i.out hq0z.out hq0o.out ?_)
  (try simp only [Exit.inBlock, Exit.then])
  refine bodyPost_ret (results_cell_tmp rfl _ _ R _ q0.cells.toArray _ _ _ rfl rfl q1.out Tryd.underlying48 rfl hq0i.out) rfl ?_
  exact ⟨by rw [E.out.1, E.out.2]; rfl, qB.out⟩
set_option maxRecDepth 100000 in
set_option maxHeartbeats 8000000 in
theorem holds_walk (tb mb n : Nat) (M : QM) (no : List Nat) (hno : EH.ok no) (ht : Int) (u : Nat) (hu : u < 18446744073709551616) (w : World) (h : TabAt w tb mb M n) :
    Calls Tryd.prog 46 #[.pointer (some ⟨tb, 0, none⟩), .agg (nums .u8 no).toArray, .int .i64 ht, .int .u64 u] w (QRes w (holdsS (M no) ht u)) := by
  have ZQ := zeroQ
  have hne := zQ_ne
  have unH := Tryd.underlying27
  have hiH : (Tryd.prog.info? 27).map (·.size) = some (nums .u8 no).length := by rw [nums_length, hno.1]; exact infoH
  have hz71 := hid (show (Tryd.prog.info? 48).map (·.size) = some zQ.size by rw [zQ_size]; exact infoQ)
  have hzo := hid (all_oneCell_toArray (Quo.one qz))
  obtain ⟨q0, kn, hg0, hk0, hq, hMq⟩ := ans_cases M no h.ok
  have hval := lookVal M no
  rw [hg0, hk0] at hval
  replace hval := hid hval
  have hq0 := hid hq
  have hq0i := hid (infoQa hq)
  have hq0l := hid (infoQl hq)
  have hq0z := hid (zQ_as hq)
  have hq0o := hid (all_oneCell_toArray (Quo.one q0))
  have HMq := hid hMq
  clear hg0 hk0 hq hMq
  have A2 := alloc2p w (.cells (nums .u8 no).toArray 27) (.cells zQ 48)
  have h1 := h.below A2.2.2.2
  have f2 := row_range A2.1
  have hR := hid A2.2.1
  have B1 := hid A2.2.2.2
  have f1 := h1.cell
  have f3 := h1.map
  clear A2 h1 h
  go_enter Tryd.func46, Tryd.ntmps46
  go_upto_region 1 with (fail)
  show Code.wp _ _ _ _ ((w.alloc (.cells (nums .u8 no).toArray 27)).alloc (.cells zQ 48))
  generalize (w.alloc (.cells (nums .u8 no).toArray 27)).alloc (.cells zQ 48) = w1 at *
  obtain ⟨K, hK⟩ : ∃ K, K = w.heap.size := ⟨_, rfl⟩
  obtain ⟨R, hR1⟩ : ∃ R, R = w.heap.size + 1 := ⟨_, rfl⟩
  rw [← hR1] at hR ⊢
  rw [← hK] at f2 ⊢
  have HR := hid (show w.heap.size ≤ R by omega)
  clear hK hR1
  have keepS : ∀ X Y : World, Below X.heap.size X Y → (X.cell? ⟨tb, 0, none⟩ = some (.map (some mb)) ∧ X.rangeAt K 0 (nums .u8 no) ∧ MapIs EH X mb (valM M) n) → (Y.cell? ⟨tb, 0, none⟩ = some (.map (some mb)) ∧ Y.rangeAt K 0 (nums .u8 no) ∧ MapIs EH Y mb (valM M) n) :=
    fun X Y hb h => ⟨cell_keep hb h.1, range_keep hb h.2.1, h.2.2.below hb⟩
  refine wp_region_held_drew (S := fun w' => w'.cell? ⟨tb, 0, none⟩ = some (.map (some mb)) ∧ w'.rangeAt K 0 (nums .u8 no) ∧ MapIs EH w' mb (valM M) n) (by kernel_rfl) (⟨f1, f2, f3⟩) (fun hHeld => ?_)
  try simp only [List.size_toArray, List.length_cons, List.length_nil, Nat.reduceAdd, Array.replicate_succ, Array.replicate_zero, List.push_toArray, List.nil_append, List.cons_append]
  refine wpAnyH_take (i := 0) (oi := { dst := some 15, op := Op.move (Operand.tmp 0), type := 24, pos := "table.go:100", after := #[], guard := none }) (v := ?v3001) rfl (by kernel_rfl) (by kernel_rfl) (by kernel_rfl) (fun _ _ _ h => h) (Or.inl ⟨by rfl, ?hy3001⟩) hHeld ?_
  case hy3001 => (intro w hSw; (try dsimp only at hSw); go_simp; (try with_reducible rfl))
  (try simp only [Act.put, List.setIfInBounds_toArray, List.set_cons_zero, List.set_cons_succ])
  refine wpAnyH_take (i := 1) (oi := { dst := some 16, op := Op.nilCheck (Operand.tmp 15), type := 0, pos := "table.go:100", after := #[{ on := 0, ground := Ground.data }], guard := none }) (v := ?v3002) rfl (by kernel_rfl) (by kernel_rfl) (by kernel_rfl) (fun _ _ _ h => h) (Or.inl ⟨by rfl, ?hy3002⟩) hHeld ?_
  case hy3002 => (intro w hSw; (try dsimp only at hSw); go_simp; (try with_reducible rfl))
  (try simp only [Act.put, List.setIfInBounds_toArray, List.set_cons_zero, List.set_cons_succ])
  refine wpAnyH_take (i := 2) (oi := { dst := some 17, op := Op.fieldAddr 82 (Operand.tmp 16) 0, type := 0, pos := "table.go:100", after := #[{ on := 1, ground := Ground.data }], guard := none }) (v := ?v3003) rfl (by kernel_rfl) (by kernel_rfl) (by kernel_rfl) (fun _ _ _ h => h) (Or.inl ⟨by rfl, ?hy3003⟩) hHeld ?_
  case hy3003 => (intro w hSw; (try dsimp only at hSw); go_simp; (try with_reducible rfl))
  (try simp only [Act.put, List.setIfInBounds_toArray, List.set_cons_zero, List.set_cons_succ])
  refine wpAnyH_take (i := 3) (oi := { dst := some 18, op := Op.load 80 (Operand.tmp 17), type := 80, pos := "table.go:100", after := #[{ on := 2, ground := Ground.data }], guard := none }) (v := ?v3004) rfl (by kernel_rfl) (by kernel_rfl) (by kernel_rfl) (fun _ _ _ h => h) (Or.inl ⟨by rfl, ?hy3004⟩) hHeld ?_
  case hy3004 => (intro w hSw; (try dsimp only at hSw); go_simp; (try with_reducible rfl))
  (try simp only [Act.put, List.setIfInBounds_toArray, List.set_cons_zero, List.set_cons_succ])
  refine' wpAnyH_take (i := 4) (oi := { dst := some 19, op := Op.load 27 (Operand.tmp 5), type := 27, pos := "table.go:100", after := #[], guard := none }) (v := _) rfl (by kernel_rfl) (by kernel_rfl) (by kernel_rfl) (fun _ _ _ h => h) (yieldsIf_load_mid (by rfl) _ _ rfl K 0 rfl (nums .u8 no) _ (fun _ h => h.2.1) unH rfl hiH) hHeld ?_
  (try simp only [Act.put, List.setIfInBounds_toArray, List.set_cons_zero, List.set_cons_succ])
  refine wpAnyH_take (i := 5) (oi := { dst := some 20, op := Op.lookup 80 (Operand.tmp 18) (Operand.tmp 19) true, type := 49, pos := "table.go:100", after := #[{ on := 3, ground := Ground.data }, { on := 4, ground := Ground.data }], guard := none }) (v := .tuple #[.agg q0.cells.toArray, .bool kn]) rfl (by kernel_rfl) (by kernel_rfl) (by kernel_rfl) (fun _ _ _ h => h) (Or.inl ⟨by rfl, fun w h => by rw [← hval.out]; exact run_look _ _ _ true rfl unMap (ZQ w) h.2.2 rfl no hno rfl⟩) hHeld ?_
  (try simp only [Act.put, List.setIfInBounds_toArray, List.set_cons_zero, List.set_cons_succ])
  refine wpAnyH_take (i := 6) (oi := { dst := some 14, op := Op.move (Operand.tmp 20), type := 49, pos := "table.go:100", after := #[{ on := 5, ground := Ground.data }], guard := none }) (v := ?v3005) rfl (by kernel_rfl) (by kernel_rfl) (by kernel_rfl) (fun _ _ _ h => h) (Or.inl ⟨by rfl, ?hy3005⟩) hHeld ?_
  case hy3005 => (intro w hSw; (try dsimp only at hSw); go_simp; (try with_reducible rfl))
  (try simp only [Act.put, List.setIfInBounds_toArray, List.set_cons_zero, List.set_cons_succ])
  refine wpAnyH_take (i := 7) (oi := { dst := some 21, op := Op.extract (Operand.tmp 14) 0, type := 48, pos := "table.go:100", after := #[{ on := 6, ground := Ground.data }], guard := none }) (v := ?v3006) rfl (by kernel_rfl) (by kernel_rfl) (by kernel_rfl) (fun _ _ _ h => h) (Or.inl ⟨by rfl, ?hy3006⟩) hHeld ?_
  case hy3006 => (intro w hSw; (try dsimp only at hSw); go_simp; (try with_reducible rfl))
  (try simp only [Act.put, List.setIfInBounds_toArray, List.set_cons_zero, List.set_cons_succ])
  refine wpAnyH_take (i := 8) (oi := { dst := some 22, op := Op.extract (Operand.tmp 14) 1, type := 4, pos := "table.go:100", after := #[{ on := 6, ground := Ground.data }, { on := 10, ground := Ground.gcOnly Departure.lateStores }], guard := none }) (v := ?v3007) rfl (by kernel_rfl) (by kernel_rfl) (by kernel_rfl) (fun _ _ _ h => h) (Or.inl ⟨by rfl, ?hy3007⟩) hHeld ?_
  case hy3007 => (intro w hSw; (try dsimp only at hSw); go_simp; (try with_reducible rfl))
  (try simp only [Act.put, List.setIfInBounds_toArray, List.set_cons_zero, List.set_cons_succ])
  refine wpAnyH_ready (rs := [9]) (by kernel_rfl) (by simp) ?_
  refine AllReadyH.cons (o := { dst := some 10, op := Op.alloc 48, type := 0, pos := "table.go:100", after := #[], guard := none }) rfl (fun K hK => ?_) ?_
  go_simp; (first | refine newZ ?_ | refine newZd ?_); intro w5 h5 b5
  refine hK.out _ _ (keepS _ _ b5.out ⟨f1, f2, f3⟩) (fun hHeld => ?_)
  clear hK K
  (try simp only [List.setIfInBounds_toArray, List.set_cons_zero, List.set_cons_succ])
  refine wpAnyH_ready (rs := [10]) (by kernel_rfl) (by simp) ?_
  refine AllReadyH.cons (o := { dst := none, op := Op.store 48 (Operand.tmp 10) (Operand.tmp 21), type := 0, pos := "table.go:100", after := #[{ on := 9, ground := Ground.data }, { on := 7, ground := Ground.data }, { on := 0, ground := Ground.phase }, { on := 1, ground := Ground.phase }, { on := 2, ground := Ground.phase }, { on := 3, ground := Ground.phase }, { on := 4, ground := Ground.phase }, { on := 5, ground := Ground.phase }, { on := 6, ground := Ground.phase }, { on := 7, ground := Ground.phase }, { on := 8, ground := Ground.textOnly Departure.lateStores }, { on := 9, ground := Ground.phase }], guard := none }) rfl (fun K hK => ?_) ?_
  rw [if_pos (by rfl)]; refine wp_store_row _ _ _ rfl _ q0.cells.toArray rfl rfl _ _ h5.out hq0i.out hq0z.out hq0o.out ?_
  refine hK.out _ _ (keepS _ _ (below_setRow b5.out (Nat.le_refl _) _) ⟨f1, f2, f3⟩) (fun hHeld => ?_)
  clear hK K
  (try simp only [List.setIfInBounds_toArray, List.set_cons_zero, List.set_cons_succ])
  refine wpAnyH_take (i := 11) (oi := { dst := some 11, op := Op.assign (Operand.tmp 22), type := 4, pos := "table.go:100", after := #[{ on := 8, ground := Ground.data }, { on := 10, ground := Ground.chain }, { on := 0, ground := Ground.phase }, { on := 1, ground := Ground.phase }, { on := 2, ground := Ground.phase }, { on := 3, ground := Ground.phase }, { on := 4, ground := Ground.phase }, { on := 5, ground := Ground.phase }, { on := 6, ground := Ground.phase }, { on := 7, ground := Ground.phase }, { on := 8, ground := Ground.phase }, { on := 9, ground := Ground.phase }, { on := 10, ground := Ground.phase }], guard := none }) (v := ?v3008) rfl (by kernel_rfl) (by kernel_rfl) (by kernel_rfl) (fun _ _ _ h => h) (Or.inl ⟨by rfl, ?hy3008⟩) hHeld ?_
  case hy3008 => (intro w hSw; (try dsimp only at hSw); go_simp; (try with_reducible rfl))
  (try simp only [Act.put, List.setIfInBounds_toArray, List.set_cons_zero, List.set_cons_succ])
  refine wpAnyH_done (by kernel_rfl) ?_ _
  rotate_left
  exact AllReadyH.nil
  exact AllReadyH.nil
  have H9 := setRow_heap w5 w1.heap.size _ q0.cells.toArray _ _ h5.out
  have L9 := below_setRow b5.out (Nat.le_refl _) q0.cells.toArray
  have HR7 := hid (heap_keep hR.out L9)
  have B7 := hid (bstep B1.out L9)
  have r9 := row_range H9
  have hRG := hid (Array.getElem?_eq_some_iff.1 hR.out).1
  clear L9 keepS hHeld b5 f1 f2 f3 h5
  generalize w5.setRow w1.heap.size q0.cells.toArray = w7 at *
  generalize w1.heap.size = G9 at *
  have c64 := gen_cell r9 (Quo.get hq0.out 0)
  have c65 := gen_cell r9 (Quo.get hq0.out 1)
  have c66 := gen_cell r9 (Quo.get hq0.out 2)
  have c69 := gen_cell r9 (Quo.get hq0.out 5)
  have c70 := gen_cell r9 (Quo.get hq0.out 6)
  rcases HMq.out with ⟨hk, hM, hqz⟩ | ⟨hk, hM⟩
  · subst hk
    have E := hid (show holdsS (M no) ht u = (qz, 5) by rw [hM]; rfl)
    clear hM hqz H9
    have q1 := hid (setRow_heap _ R _ zQ _ _ HR7.out)
    have qB := hid (below_setRow B7.out HR.out zQ)
    go_wp2_with (first | refine wpList_store_row rfl _ _ _ rfl R zQ rfl rfl _ _ HR7.out hz71.out rfl hzo.out ?_)
    (try simp only [Exit.inBlock, Exit.then])
    refine bodyPost_ret (results_cell_tmp rfl _ _ R _ zQ _ _ _ rfl rfl q1.out Tryd.underlying48 rfl hz71.out) rfl ?_
    exact ⟨by rw [E.out]; rfl, qB.out⟩
  · subst hk
    by_cases hs : q0.st = 1
    · have ts : (q0.st != 1) = false := by simp [hs]
      by_cases hti : q0.til < ht
      · have E := hid (show holdsS (M no) ht u = (qz, 33) by rw [hM]; simp [holdsS, hs, hti])
        have tt : decide (q0.til < ht) = true := by rw [decide_eq_true_eq]; exact hti
        clear hM hs hti H9
        have q1 := hid (setRow_heap _ R _ zQ _ _ HR7.out)
        have qB := hid (below_setRow B7.out HR.out zQ)
        go_wp2_with (first | refine wpList_store_row rfl _ _ _ rfl R zQ rfl rfl _ _ HR7.out hz71.out rfl hzo.out ?_)
        (try simp only [Exit.inBlock, Exit.then])
        refine bodyPost_ret (results_cell_tmp rfl _ _ R _ zQ _ _ _ rfl rfl q1.out Tryd.underlying48 rfl hz71.out) rfl ?_
        exact ⟨by rw [E.out]; rfl, qB.out⟩
      · have tt : decide (q0.til < ht) = false := by rw [decide_eq_false_iff_not]; exact hti
        have AD := fun wx => hid (sadd_walk q0.used u hq0.out.sb hu wx)
        by_cases hsum : q0.used + u < 18446744073709551616
        · rw [addV_yes hsum] at AD
          by_cases hmost : q0.most < q0.used + u
          · have E := hid (show holdsS (M no) ht u = (qz, 51) by rw [hM]; simp [holdsS, hs, hti, hsum, hmost])
            have tm : decide (((q0.used + u : Nat) : Int) > (q0.most : Int)) = true := by rw [decide_eq_true_eq]; omega
            have tm2 : (q0.most : Int) < ((q0.used + u : Nat) : Int) := by omega
            generalize q0.used + u = nu at *
            clear hM hs hti hmost hsum H9
            go_wp2_with fail
            refine (AD _).out.mono ?_
            rintro e w8 ⟨rfl, rfl⟩
            have q1 := hid (setRow_heap _ R _ zQ _ _ HR7.out)
            have qB := hid (below_setRow B7.out HR.out zQ)
            go_wp2_with (first | refine wpList_store_row rfl _ _ _ rfl R zQ rfl rfl _ _ HR7.out hz71.out rfl hzo.out ?_)
            (try simp only [Exit.inBlock, Exit.then])
            refine bodyPost_ret (results_cell_tmp rfl _ _ R _ zQ _ _ _ rfl rfl q1.out Tryd.underlying48 rfl hz71.out) rfl ?_
            exact ⟨by rw [E.out]; rfl, qB.out⟩
          · have hq1 : Quo.ok { q0 with used := q0.used + u } := ⟨hq0.out.nl, hq0.out.nb, hq0.out.il, hq0.out.ib, hq0.out.mb, hq0.out.cb, hq0.out.ub, hsum, hq0.out.sw, hq0.out.tw⟩
            have E := hid (show holdsS (M no) ht u = ({ q0 with used := q0.used + u }, 0) by rw [hM]; simp [holdsS, hs, hti, hsum, hmost])
            have tm : ¬ (q0.most : Int) < ((q0.used + u : Nat) : Int) := by omega
            have H8 := heap_set (i := 70) (.int .u64 ((q0.used + u : Nat) : Int)) H9
            rw [show q0.cells.set 70 (.int .u64 ((q0.used + u : Nat) : Int)) = Quo.cells { q0 with used := q0.used + u } from Quo.set hq0.out 6 _] at H8
            have fz : w7.frozen? ⟨G9, 70, none⟩ = false := frozen_of_row _ _ _ _ _ H9
            have r8 := row_range H8
            have hf := Far.set (w := w7) (H := G9) (j := 70) (.int .u64 ((q0.used + u : Nat) : Int))
            have HR8 := hid ((hf.block R (Array.getElem?_eq_some_iff.1 HR7.out).1 (by simp; have := hRG.out; omega)).trans HR7.out)
            have B8 := hid (B7.out.setCell (p := ⟨G9, 70, none⟩) (show w.heap.size ≤ G9 by have := hRG.out; have := HR.out; omega) (.int .u64 ((q0.used + u : Nat) : Int)))
            have hq1i := hid (infoQa hq1)
            have hq1l := hid (infoQl hq1)
            have hq1z := hid (zQ_as hq1)
            have hq1o := hid (all_oneCell_toArray (Quo.one { q0 with used := q0.used + u }))
            have q1 := hid (setRow_heap _ R _ (Quo.cells { q0 with used := q0.used + u }).toArray _ _ HR8.out)
            have qB := hid (below_setRow B8.out HR.out (Quo.cells { q0 with used := q0.used + u }).toArray)
            clear H8 H9 hf hM hs hti hmost hsum hq1
            generalize hCS : Quo.cells { q0 with used := q0.used + u } = CS at *
            have HCS := hid hCS
            clear hCS
            generalize q0.used + u = nu at *
            go_wp2_with fail
            refine (AD _).out.mono ?_
            rintro e w8 ⟨rfl, rfl⟩
            go_wp2_with (first | refine wpList_load_mid rfl _ _ rfl G9 0 rfl CS _ r8 Tryd.underlying48 rfl hq1l.out ?_ | refine wpList_store_row rfl _ _ _ rfl R CS.toArray rfl rfl _ _ HR8.out hq1i.out hq1z.out hq1o.out ?_)
            (try simp only [Exit.inBlock, Exit.then])
            refine bodyPost_ret (results_cell_tmp rfl _ _ R _ CS.toArray _ _ _ rfl rfl q1.out Tryd.underlying48 rfl hq1i.out) rfl ?_
            exact ⟨by rw [E.out, ← HCS.out]; rfl, qB.out⟩
        · rw [addV_no hsum] at AD
          have E := hid (show holdsS (M no) ht u = (qz, 51) by rw [hM]; simp [holdsS, hs, hti, hsum])
          clear hM hs hti hsum H9
          go_wp2_with fail
          refine (AD _).out.mono ?_
          rintro e w8 ⟨rfl, rfl⟩
          have q1 := hid (setRow_heap _ R _ zQ _ _ HR7.out)
          have qB := hid (below_setRow B7.out HR.out zQ)
          go_wp2_with (first | refine wpList_store_row rfl _ _ _ rfl R zQ rfl rfl _ _ HR7.out hz71.out rfl hzo.out ?_)
          (try simp only [Exit.inBlock, Exit.then])
          refine bodyPost_ret (results_cell_tmp rfl _ _ R _ zQ _ _ _ rfl rfl q1.out Tryd.underlying48 rfl hz71.out) rfl ?_
          exact ⟨by rw [E.out]; rfl, qB.out⟩
    · have E := hid (show holdsS (M no) ht u = (qz, 52) by rw [hM]; simp [holdsS, hs])
      have ts : (q0.st != 1) = true := by simp [hs]
      clear hM hs H9
      have q1 := hid (setRow_heap _ R _ zQ _ _ HR7.out)
      have qB := hid (below_setRow B7.out HR.out zQ)
      go_wp2_with (first | refine wpList_store_row rfl _ _ _ rfl R zQ rfl rfl _ _ HR7.out hz71.out rfl hzo.out ?_)
      (try simp only [Exit.inBlock, Exit.then])
      refine bodyPost_ret (results_cell_tmp rfl _ _ R _ zQ _ _ _ rfl rfl q1.out Tryd.underlying48 rfl hz71.out) rfl ?_
      exact ⟨by rw [E.out]; rfl, qB.out⟩
end Go.Proofs.YthccjefhlmngbaaDoor

/- The walks of table's New, Ask, Accept, Reject, use, Sell, Buy, Undo. Printed by wip/tabb.py. -/
namespace Go.Proofs.YthccjefhlmngbaaDoor
open Go.RowKit

/-- a table behind a call that touches it alone -/
def TRes (w : World) (tb mb : Nat) (M : QM) (n : Nat) (k : Nat) (e : Ending) (w' : World) : Prop := e = .returned (.int .i64 ((k : Nat) : Int)) ∧ TabAt w' tb mb M n ∧ Far mb w w'
theorem TRes.same {w w' : World} {tb mb n k : Nat} {M : QM} {z : Int} (hz : z = ((k : Nat) : Int)) (h : TabAt w tb mb M n) (hb : Below w.heap.size w w') : TRes w tb mb M n k (.returned (.int .i64 z)) w' := ⟨by rw [hz], h.below hb, Far.of hb⟩
def TNewRes (w : World) (e : Ending) (w' : World) : Prop := ∃ tb mb, e = .returned (.pointer (some ⟨tb, 0, none⟩)) ∧ TabAt w' tb mb (fun _ => none) 0 ∧ w.heap.size ≤ tb ∧ w.heap.size ≤ mb ∧ Below w.heap.size w w'
set_option maxHeartbeats 1000000 in
theorem tnew_walk (w : World) : Calls Tryd.prog 25 #[] w (TNewRes w) := by
  have hmm := @run_makeMap Tryd.prog
  have m1 := MapIs.made (E := EH) w
  have A2 := alloc2p w (.map #[] 0) (.cells #[.map (some w.heap.size)] 82)
  have hT : TabAt ((w.alloc (.map #[] 0)).alloc (.cells #[.map (some w.heap.size)] 82)) (w.heap.size + 1) w.heap.size (fun _ => none) 0 :=
    ⟨by rw [cell_of_row _ (w.heap.size + 1) _ _ _ (0, 0) A2.2.1]; rfl, m1.below ((Below.refl _ _).alloc (Nat.le_refl _) _), fun _ _ h => (by cases h), by decide, by omega⟩
  have F := hid (show TNewRes w (.returned (.pointer (some ⟨w.heap.size + 1, 0, none⟩))) _ from ⟨_, _, rfl, hT, by omega, Nat.le_refl _, A2.2.2.2⟩)
  clear hT A2 m1
  go_enter Tryd.func25, Tryd.ntmps25
  go_wp2
  go_ret
  exact F.out
theorem eqz_run {xs : List Nat} (hx : EH.ok xs) : ∀ w : World, (binOp .eql 27 (.agg (nums .u8 xs).toArray) (.agg #[.int .u8 0, .int .u8 0, .int .u8 0, .int .u8 0, .int .u8 0, .int .u8 0, .int .u8 0, .int .u8 0, .int .u8 0, .int .u8 0, .int .u8 0, .int .u8 0, .int .u8 0, .int .u8 0, .int .u8 0, .int .u8 0, .int .u8 0, .int .u8 0, .int .u8 0, .int .u8 0, .int .u8 0, .int .u8 0, .int .u8 0, .int .u8 0, .int .u8 0, .int .u8 0, .int .u8 0, .int .u8 0, .int .u8 0, .int .u8 0, .int .u8 0, .int .u8 0])).run Tryd.prog w = .ok (.bool (decide (xs = hz32))) w :=
  eql_hv (ys := hz32) hx.1 rfl hx.2 (by intro d hd; simp [hz32] at hd; omega)
theorem eqz_guard (xs : List Nat) : ∀ (op : BinOp) (x y : Operand) (w : World), (eqGuard op 27 x y (.agg (nums .u8 xs).toArray) (.agg #[.int .u8 0, .int .u8 0, .int .u8 0, .int .u8 0, .int .u8 0, .int .u8 0, .int .u8 0, .int .u8 0, .int .u8 0, .int .u8 0, .int .u8 0, .int .u8 0, .int .u8 0, .int .u8 0, .int .u8 0, .int .u8 0, .int .u8 0, .int .u8 0, .int .u8 0, .int .u8 0, .int .u8 0, .int .u8 0, .int .u8 0, .int .u8 0, .int .u8 0, .int .u8 0, .int .u8 0, .int .u8 0, .int .u8 0, .int .u8 0, .int .u8 0, .int .u8 0])).run Tryd.prog w = .ok () w := guard_hv xs hz32
theorem built_q' (a0 a1 a2 a3 a4 a5 a6 a7 a8 a9 a10 a11 a12 a13 a14 a15 a16 a17 a18 a19 a20 a21 a22 a23 a24 a25 a26 a27 a28 a29 a30 a31 b0 b1 b2 b3 b4 b5 b6 b7 b8 b9 b10 b11 b12 b13 b14 b15 b16 b17 b18 b19 b20 b21 b22 b23 b24 b25 b26 b27 b28 b29 b30 b31 m : Nat) (b : Bool) : Tryd.prog.built 48 [(0, .agg (nums .u8 [a0, a1, a2, a3, a4, a5, a6, a7, a8, a9, a10, a11, a12, a13, a14, a15, a16, a17, a18, a19, a20, a21, a22, a23, a24, a25, a26, a27, a28, a29, a30, a31]).toArray), (1, .agg (nums .u8 [b0, b1, b2, b3, b4, b5, b6, b7, b8, b9, b10, b11, b12, b13, b14, b15, b16, b17, b18, b19, b20, b21, b22, b23, b24, b25, b26, b27, b28, b29, b30, b31]).toArray), (2, .bool b), (3, .int .u64 (m : Int))] = some ((nums .u8 [a0, a1, a2, a3, a4, a5, a6, a7, a8, a9, a10, a11, a12, a13, a14, a15, a16, a17, a18, a19, a20, a21, a22, a23, a24, a25, a26, a27, a28, a29, a30, a31]) ++ (nums .u8 [b0, b1, b2, b3, b4, b5, b6, b7, b8, b9, b10, b11, b12, b13, b14, b15, b16, b17, b18, b19, b20, b21, b22, b23, b24, b25, b26, b27, b28, b29, b30, b31]) ++ [Value.bool b, Value.int .u64 (m : Int), Value.int .i64 0, Value.int .u64 0, Value.int .u64 0, Value.int .i64 0, Value.int .u64 0]).toArray := by kernel_rfl
theorem built_q (no id : List Nat) (b : Bool) (m : Nat) (h1 : no.length = 32) (h2 : id.length = 32) :
    Tryd.prog.built 48 [(0, .agg (nums .u8 no).toArray), (1, .agg (nums .u8 id).toArray), (2, .bool b), (3, .int .u64 (m : Int))] = some (Quo.cells ⟨no, id, b, m, 0, 0, 0, 0, 0⟩).toArray := by
  match no, h1, id, h2 with
  | [a0, a1, a2, a3, a4, a5, a6, a7, a8, a9, a10, a11, a12, a13, a14, a15, a16, a17, a18, a19, a20, a21, a22, a23, a24, a25, a26, a27, a28, a29, a30, a31], _, [b0, b1, b2, b3, b4, b5, b6, b7, b8, b9, b10, b11, b12, b13, b14, b15, b16, b17, b18, b19, b20, b21, b22, b23, b24, b25, b26, b27, b28, b29, b30, b31], _ => exact built_q' a0 a1 a2 a3 a4 a5 a6 a7 a8 a9 a10 a11 a12 a13 a14 a15 a16 a17 a18 a19 a20 a21 a22 a23 a24 a25 a26 a27 a28 a29 a30 a31 b0 b1 b2 b3 b4 b5 b6 b7 b8 b9 b10 b11 b12 b13 b14 b15 b16 b17 b18 b19 b20 b21 b22 b23 b24 b25 b26 b27 b28 b29 b30 b31 m b
theorem run_build4' {P : Program} {w : World} {o : Oper} {ev : Operand → Value} {t : TypeId} {x0 x1 x2 x3 : Operand} {v0 v1 v2 v3 : Value} {cells : Array Value} (ho : o.op = .build t #[(0, x0), (1, x1), (2, x2), (3, x3)])
    (h0 : ev x0 = v0) (h1 : ev x1 = v1) (h2 : ev x2 = v2) (h3 : ev x3 = v3) (hb : P.built t [(0, v0), (1, v1), (2, v2), (3, v3)] = some cells) : (execOp ev o).run P w = .ok (.value (.agg cells)) w := run_build4 ho h0 h1 h2 h3 hb
def askC (M : QM) (n : Nat) (no id : List Nat) (most : Nat) : Nat := if most = 0 ∨ id = hz32 then 1 else if (M no).isSome then 6 else if 256 ≤ n then 4 else 0
def askQ (no id : List Nat) (buy : Bool) (most : Nat) : Quo := ⟨no, id, buy, most, 0, 0, 0, 0, 0⟩
def askM (M : QM) (n : Nat) (no id : List Nat) (buy : Bool) (most : Nat) : QM := if askC M n no id most = 0 then updM M no (askQ no id buy most) else M
def askN (M : QM) (n : Nat) (no id : List Nat) (most : Nat) : Nat := if askC M n no id most = 0 then n + 1 else n
theorem ask_bad {w w' : World} {tb mb n k most : Nat} {M : QM} {no id : List Nat} {buy : Bool} {e : Ending} (h : askC M n no id most = k) (hk : k ≠ 0) (r : TRes w tb mb M n k e w') : TRes w tb mb (askM M n no id buy most) (askN M n no id most) (askC M n no id most) e w' := by
  unfold askM askN
  rw [if_neg (by omega), if_neg (by omega), h]
  exact r
theorem ask_good {w w' : World} {tb mb n most : Nat} {M : QM} {no id : List Nat} {buy : Bool} {e : Ending} (h : askC M n no id most = 0) (r : TRes w tb mb (updM M no (askQ no id buy most)) (n + 1) 0 e w') : TRes w tb mb (askM M n no id buy most) (askN M n no id most) (askC M n no id most) e w' := by
  unfold askM askN
  rw [if_pos h, if_pos h, h]
  exact r
set_option maxRecDepth 100000 in
set_option maxHeartbeats 8000000 in
theorem ask_walk (tb mb n : Nat) (M : QM) (no id : List Nat) (hno : EH.ok no) (hid' : EH.ok id) (buy : Bool) (most : Nat) (hmost : most < 18446744073709551616) (w : World) (h : TabAt w tb mb M n) :
    Calls Tryd.prog 26 #[.pointer (some ⟨tb, 0, none⟩), .agg (nums .u8 no).toArray, .agg (nums .u8 id).toArray, .bool buy, .int .u64 most] w
      (TRes w tb mb (askM M n no id buy most) (askN M n no id most) (askC M n no id most)) := by
  have HT := hid h
  have ZQ := zeroQ
  have hne := zQ_ne
  have unH := Tryd.underlying27
  have hiH : (Tryd.prog.info? 27).map (·.size) = some (nums .u8 no).length := by rw [nums_length, hno.1]; exact infoH
  have hiI : (Tryd.prog.info? 27).map (·.size) = some (nums .u8 id).length := by rw [nums_length, hid'.1]; exact infoH
  have A2 := alloc2p w (.cells (nums .u8 no).toArray 27) (.cells (nums .u8 id).toArray 27)
  have h1 := h.below A2.2.2.2
  have f2 := row_range A2.1
  have f4 := row_range A2.2.1
  have B1 := hid A2.2.2.2
  have f1 := h1.cell
  have f3 := h1.map
  have ez := eqz_run hid'
  have eg := eqz_guard id
  clear A2 h1 h
  by_cases hm0 : most = 0 ∨ id = hz32
  · have E := hid (show askC M n no id most = 1 from if_pos hm0)
    have F := hid (fun w' hb => ask_bad (buy := buy) E.out (by decide) (TRes.same (k := 1) (w' := w') (z := 1) rfl HT.out hb))
    by_cases hm : most = 0
    · have tm : ((most : Int) == 0) = true := by simp [hm]
      clear hm0 hm hmost
      go_enter Tryd.func26, Tryd.ntmps26
      go_wp2
      go_ret
      exact F.out _ B1.out
    · have tm : ((most : Int) == 0) = false := by simp; omega
      have ez' : id = hz32 := by rcases hm0 with h | h; exact absurd h hm; exact h
      rw [decide_eq_true ez'] at ez
      clear hm0 hm hmost ez'
      go_enter Tryd.func26, Tryd.ntmps26
      go_upto_region 1 with (fail)
      generalize (w.alloc (.cells (nums .u8 no).toArray 27)).alloc (.cells (nums .u8 id).toArray 27) = w1 at *
      go_wp2_with (refine wpList_load_midG rfl _ _ rfl (w.heap.size + 1) 0 rfl (nums .u8 id) _ f4 Tryd.underlying27 rfl hiI ?_)
      go_ret
      exact F.out _ B1.out
  · have tm : ((most : Int) == 0) = false := by simp; omega
    rw [decide_eq_false (fun h => hm0 (.inr h))] at ez
    have hm0' := hid hm0
    clear hm0
    have hmb := hid (show mb < w.heap.size from HT.out.map.lt)
    have hval := lookVal M no
    obtain ⟨q0, kn, hg0, hk0, hq, hMq⟩ := ans_cases M no HT.out.ok
    rw [hg0, hk0] at hval
    replace hval := hid hval
    have hq0 := hid hq
    have hq0i := hid (infoQa hq)
    have hq0z := hid (zQ_as hq)
    have hq0o := hid (all_oneCell_toArray (Quo.one q0))
    have HMq := hid hMq
    clear hg0 hk0 hq hMq
    go_enter Tryd.func26, Tryd.ntmps26
    go_upto_region 1 with (fail)
    generalize (w.alloc (.cells (nums .u8 no).toArray 27)).alloc (.cells (nums .u8 id).toArray 27) = w1 at *
    go_wp2_with (refine wpList_load_midG rfl _ _ rfl (w.heap.size + 1) 0 rfl (nums .u8 id) _ f4 Tryd.underlying27 rfl hiI ?_)
    obtain ⟨K, hK⟩ : ∃ K, K = w.heap.size := ⟨_, rfl⟩
    obtain ⟨K2, hK2⟩ : ∃ K, K = w.heap.size + 1 := ⟨_, rfl⟩
    rw [← hK2] at f4 ⊢
    rw [← hK] at f2 ⊢
    have hn1 := hid HT.out.ne
    have hn2 := hid (show K ≠ mb by have := hmb.out; omega)
    have hn3 := hid (show K2 ≠ mb by have := hmb.out; omega)
    clear hK hK2 ez eg tm
    have keepS : ∀ X Y : World, Below X.heap.size X Y → (X.cell? ⟨tb, 0, none⟩ = some (.map (some mb)) ∧ X.rangeAt K 0 (nums .u8 no) ∧ MapIs EH X mb (valM M) n) → (Y.cell? ⟨tb, 0, none⟩ = some (.map (some mb)) ∧ Y.rangeAt K 0 (nums .u8 no) ∧ MapIs EH Y mb (valM M) n) :=
      fun X Y hb h => ⟨cell_keep hb h.1, range_keep hb h.2.1, h.2.2.below hb⟩
    refine wp_region_held_drew (S := fun w' => w'.cell? ⟨tb, 0, none⟩ = some (.map (some mb)) ∧ w'.rangeAt K 0 (nums .u8 no) ∧ MapIs EH w' mb (valM M) n) (by kernel_rfl) (⟨f1, f2, f3⟩) (fun hHeld => ?_)
    try simp only [List.size_toArray, List.length_cons, List.length_nil, Nat.reduceAdd, Array.replicate_succ, Array.replicate_zero, List.push_toArray, List.nil_append, List.cons_append]
    refine wpAnyH_take (i := 0) (oi := { dst := some 25, op := Op.move (Operand.tmp 0), type := 24, pos := "table.go:45", after := #[], guard := none }) (v := ?v1001) rfl (by kernel_rfl) (by kernel_rfl) (by kernel_rfl) (fun _ _ _ h => h) (Or.inl ⟨by rfl, ?hy1001⟩) hHeld ?_
    case hy1001 => (intro w hSw; (try dsimp only at hSw); go_simp; (try with_reducible rfl))
    (try simp only [Act.put, List.setIfInBounds_toArray, List.set_cons_zero, List.set_cons_succ])
    refine wpAnyH_take (i := 1) (oi := { dst := some 26, op := Op.nilCheck (Operand.tmp 25), type := 0, pos := "table.go:45", after := #[{ on := 0, ground := Ground.data }], guard := none }) (v := ?v1002) rfl (by kernel_rfl) (by kernel_rfl) (by kernel_rfl) (fun _ _ _ h => h) (Or.inl ⟨by rfl, ?hy1002⟩) hHeld ?_
    case hy1002 => (intro w hSw; (try dsimp only at hSw); go_simp; (try with_reducible rfl))
    (try simp only [Act.put, List.setIfInBounds_toArray, List.set_cons_zero, List.set_cons_succ])
    refine wpAnyH_take (i := 2) (oi := { dst := some 27, op := Op.fieldAddr 82 (Operand.tmp 26) 0, type := 0, pos := "table.go:45", after := #[{ on := 1, ground := Ground.data }], guard := none }) (v := ?v1003) rfl (by kernel_rfl) (by kernel_rfl) (by kernel_rfl) (fun _ _ _ h => h) (Or.inl ⟨by rfl, ?hy1003⟩) hHeld ?_
    case hy1003 => (intro w hSw; (try dsimp only at hSw); go_simp; (try with_reducible rfl))
    (try simp only [Act.put, List.setIfInBounds_toArray, List.set_cons_zero, List.set_cons_succ])
    refine wpAnyH_take (i := 3) (oi := { dst := some 28, op := Op.load 80 (Operand.tmp 27), type := 80, pos := "table.go:45", after := #[{ on := 2, ground := Ground.data }], guard := none }) (v := ?v1004) rfl (by kernel_rfl) (by kernel_rfl) (by kernel_rfl) (fun _ _ _ h => h) (Or.inl ⟨by rfl, ?hy1004⟩) hHeld ?_
    case hy1004 => (intro w hSw; (try dsimp only at hSw); go_simp; (try with_reducible rfl))
    (try simp only [Act.put, List.setIfInBounds_toArray, List.set_cons_zero, List.set_cons_succ])
    refine' wpAnyH_take (i := 4) (oi := { dst := some 29, op := Op.load 27 (Operand.tmp 6), type := 27, pos := "table.go:45", after := #[], guard := none }) (v := _) rfl (by kernel_rfl) (by kernel_rfl) (by kernel_rfl) (fun _ _ _ h => h) (yieldsIf_load_mid (by rfl) _ _ rfl K 0 rfl (nums .u8 no) _ (fun _ h => h.2.1) unH rfl hiH) hHeld ?_
    (try simp only [Act.put, List.setIfInBounds_toArray, List.set_cons_zero, List.set_cons_succ])
    refine wpAnyH_take (i := 5) (oi := { dst := some 30, op := Op.lookup 80 (Operand.tmp 28) (Operand.tmp 29) true, type := 49, pos := "table.go:45", after := #[{ on := 3, ground := Ground.data }, { on := 4, ground := Ground.data }], guard := none }) (v := .tuple #[.agg q0.cells.toArray, .bool kn]) rfl (by kernel_rfl) (by kernel_rfl) (by kernel_rfl) (fun _ _ _ h => h) (Or.inl ⟨by rfl, fun w h => by rw [← hval.out]; exact run_look _ _ _ true rfl unMap (ZQ w) h.2.2 rfl no hno rfl⟩) hHeld ?_
    (try simp only [Act.put, List.setIfInBounds_toArray, List.set_cons_zero, List.set_cons_succ])
    refine wpAnyH_take (i := 6) (oi := { dst := some 24, op := Op.move (Operand.tmp 30), type := 49, pos := "table.go:45", after := #[{ on := 5, ground := Ground.data }], guard := none }) (v := ?v1005) rfl (by kernel_rfl) (by kernel_rfl) (by kernel_rfl) (fun _ _ _ h => h) (Or.inl ⟨by rfl, ?hy1005⟩) hHeld ?_
    case hy1005 => (intro w hSw; (try dsimp only at hSw); go_simp; (try with_reducible rfl))
    (try simp only [Act.put, List.setIfInBounds_toArray, List.set_cons_zero, List.set_cons_succ])
    refine wpAnyH_take (i := 7) (oi := { dst := some 31, op := Op.extract (Operand.tmp 24) 0, type := 48, pos := "table.go:45", after := #[{ on := 6, ground := Ground.data }], guard := none }) (v := ?v1006) rfl (by kernel_rfl) (by kernel_rfl) (by kernel_rfl) (fun _ _ _ h => h) (Or.inl ⟨by rfl, ?hy1006⟩) hHeld ?_
    case hy1006 => (intro w hSw; (try dsimp only at hSw); go_simp; (try with_reducible rfl))
    (try simp only [Act.put, List.setIfInBounds_toArray, List.set_cons_zero, List.set_cons_succ])
    refine wpAnyH_take (i := 8) (oi := { dst := some 32, op := Op.extract (Operand.tmp 24) 1, type := 4, pos := "table.go:45", after := #[{ on := 6, ground := Ground.data }, { on := 10, ground := Ground.gcOnly Departure.lateStores }], guard := none }) (v := ?v1007) rfl (by kernel_rfl) (by kernel_rfl) (by kernel_rfl) (fun _ _ _ h => h) (Or.inl ⟨by rfl, ?hy1007⟩) hHeld ?_
    case hy1007 => (intro w hSw; (try dsimp only at hSw); go_simp; (try with_reducible rfl))
    (try simp only [Act.put, List.setIfInBounds_toArray, List.set_cons_zero, List.set_cons_succ])
    refine wpAnyH_ready (rs := [9]) (by kernel_rfl) (by simp) ?_
    refine AllReadyH.cons (o := { dst := some 11, op := Op.alloc 48, type := 0, pos := "table.go:45", after := #[], guard := none }) rfl (fun K hK => ?_) ?_
    go_simp; (first | refine newZ ?_ | refine newZd ?_); intro w5 h5 b5
    refine hK.out _ _ (keepS _ _ b5.out ⟨f1, f2, f3⟩) (fun hHeld => ?_)
    clear hK K
    (try simp only [List.setIfInBounds_toArray, List.set_cons_zero, List.set_cons_succ])
    refine wpAnyH_ready (rs := [10]) (by kernel_rfl) (by simp) ?_
    refine AllReadyH.cons (o := { dst := none, op := Op.store 48 (Operand.tmp 11) (Operand.tmp 31), type := 0, pos := "table.go:45", after := #[{ on := 9, ground := Ground.data }, { on := 7, ground := Ground.data }, { on := 0, ground := Ground.phase }, { on := 1, ground := Ground.phase }, { on := 2, ground := Ground.phase }, { on := 3, ground := Ground.phase }, { on := 4, ground := Ground.phase }, { on := 5, ground := Ground.phase }, { on := 6, ground := Ground.phase }, { on := 7, ground := Ground.phase }, { on := 8, ground := Ground.textOnly Departure.lateStores }, { on := 9, ground := Ground.phase }], guard := none }) rfl (fun K hK => ?_) ?_
    rw [if_pos (by rfl)]; refine wp_store_row _ _ _ rfl _ q0.cells.toArray rfl rfl _ _ h5.out hq0i.out hq0z.out hq0o.out ?_
    refine hK.out _ _ (keepS _ _ (below_setRow b5.out (Nat.le_refl _) _) ⟨f1, f2, f3⟩) (fun hHeld => ?_)
    clear hK K
    (try simp only [List.setIfInBounds_toArray, List.set_cons_zero, List.set_cons_succ])
    refine wpAnyH_take (i := 11) (oi := { dst := some 12, op := Op.assign (Operand.tmp 32), type := 4, pos := "table.go:45", after := #[{ on := 8, ground := Ground.data }, { on := 10, ground := Ground.chain }, { on := 0, ground := Ground.phase }, { on := 1, ground := Ground.phase }, { on := 2, ground := Ground.phase }, { on := 3, ground := Ground.phase }, { on := 4, ground := Ground.phase }, { on := 5, ground := Ground.phase }, { on := 6, ground := Ground.phase }, { on := 7, ground := Ground.phase }, { on := 8, ground := Ground.phase }, { on := 9, ground := Ground.phase }, { on := 10, ground := Ground.phase }], guard := none }) (v := ?v1008) rfl (by kernel_rfl) (by kernel_rfl) (by kernel_rfl) (fun _ _ _ h => h) (Or.inl ⟨by rfl, ?hy1008⟩) hHeld ?_
    case hy1008 => (intro w hSw; (try dsimp only at hSw); go_simp; (try with_reducible rfl))
    (try simp only [Act.put, List.setIfInBounds_toArray, List.set_cons_zero, List.set_cons_succ])
    refine wpAnyH_done (by kernel_rfl) ?_ _
    rotate_left
    exact AllReadyH.nil
    exact AllReadyH.nil
    have L9 := below_setRow b5.out (Nat.le_refl _) q0.cells.toArray
    have B7 := hid (bstep B1.out L9)
    have g1 := cell_keep L9 f1
    have g2 := range_keep L9 f2
    have g4 := range_keep L9 f4
    have g3 := hid (f3.below L9)
    clear L9 keepS hHeld b5 f1 f2 f3 f4 h5 hval
    generalize w5.setRow w1.heap.size q0.cells.toArray = w7 at *
    generalize w1.heap.size = G9 at *
    rcases HMq.out with ⟨hk, hM, hqz⟩ | ⟨hk, hM⟩
    · subst hk
      have hs := HT.out.small
      by_cases hn : 256 ≤ n
      · have E := hid (show askC M n no id most = 4 by rw [askC, if_neg hm0'.out, hM, if_neg (by decide), if_pos hn])
        have F := hid (ask_bad (buy := buy) E.out (by decide) (TRes.same (k := 4) (w' := w7) (z := 4) rfl HT.out B7.out))
        have tn : decide ((n : Int) ≥ 256) = true := by rw [decide_eq_true_eq]; omega
        have tn2 : (256 : Int) ≤ (n : Int) := by omega
        clear hM hqz hn hs g2 g4
        go_wp2_with (refine wpList_lenM rfl _ _ rfl unMap g3.out rfl ?_)
        go_ret
        exact F.out
      · have E := hid (show askC M n no id most = 0 by rw [askC, if_neg hm0'.out, hM, if_neg (by decide), if_neg hn])
        have tn : ¬ (256 : Int) ≤ (n : Int) := by omega
        have hnb := hid (show n < maxLen by unfold maxLen; omega)
        have hqk : Quo.ok (askQ no id buy most) := ⟨hno.1, hno.2, hid'.1, hid'.2, hmost, by show 0 < 18446744073709551616; decide, by show 0 < 18446744073709551616; decide, by show 0 < 18446744073709551616; decide, show (Lit.int .i64 0).wf = true by decide, show (Lit.int .i64 0).wf = true by decide⟩
        have HBT := hid (built_q no id buy most hno.1 hid'.1)
        have hn1' := hid (show n + 1 ≤ 256 by omega)
        have hvn := hid (show (valM M no).isSome = false by unfold valM; rw [hM]; rfl)
        have HQK := hid hqk
        unfold askQ at HQK
        have hCS0 := hid (show askQ no id buy most = ⟨no, id, buy, most, 0, 0, 0, 0, 0⟩ from rfl)
        generalize hCS : Quo.cells ⟨no, id, buy, most, 0, 0, 0, 0, 0⟩ = CS at *
        have HCS := hid hCS
        clear hM hqz hs hn hqk hCS
        go_wp2_with (refine wpList_lenM rfl _ _ rfl unMap g3.out rfl ?_)
        refine wp_region_held_drew (S := fun w' => w'.cell? ⟨tb, 0, none⟩ = some (.map (some mb)) ∧ w'.rangeAt K 0 (nums .u8 no) ∧ w'.rangeAt K2 0 (nums .u8 id)) (by kernel_rfl) (⟨g1, g2, g4⟩) (fun hHeld => ?_)
        try simp only [List.size_toArray, List.length_cons, List.length_nil, Nat.reduceAdd, Array.replicate_succ, Array.replicate_zero, List.push_toArray, List.nil_append, List.cons_append]
        refine wpAnyH_take (i := 0) (oi := { dst := some 40, op := Op.move (Operand.tmp 0), type := 24, pos := "table.go:51", after := #[], guard := none }) (v := ?v2001) rfl (by kernel_rfl) (by kernel_rfl) (by kernel_rfl) (fun _ _ _ h => h) (Or.inl ⟨by rfl, ?hy2001⟩) hHeld ?_
        case hy2001 => (intro w hSw; (try dsimp only at hSw); go_simp; (try with_reducible rfl))
        (try simp only [Act.put, List.setIfInBounds_toArray, List.set_cons_zero, List.set_cons_succ])
        refine wpAnyH_take (i := 1) (oi := { dst := some 41, op := Op.nilCheck (Operand.tmp 40), type := 0, pos := "table.go:51", after := #[{ on := 0, ground := Ground.data }], guard := none }) (v := ?v2002) rfl (by kernel_rfl) (by kernel_rfl) (by kernel_rfl) (fun _ _ _ h => h) (Or.inl ⟨by rfl, ?hy2002⟩) hHeld ?_
        case hy2002 => (intro w hSw; (try dsimp only at hSw); go_simp; (try with_reducible rfl))
        (try simp only [Act.put, List.setIfInBounds_toArray, List.set_cons_zero, List.set_cons_succ])
        refine wpAnyH_take (i := 2) (oi := { dst := some 42, op := Op.fieldAddr 82 (Operand.tmp 41) 0, type := 0, pos := "table.go:51", after := #[{ on := 1, ground := Ground.data }], guard := none }) (v := ?v2003) rfl (by kernel_rfl) (by kernel_rfl) (by kernel_rfl) (fun _ _ _ h => h) (Or.inl ⟨by rfl, ?hy2003⟩) hHeld ?_
        case hy2003 => (intro w hSw; (try dsimp only at hSw); go_simp; (try with_reducible rfl))
        (try simp only [Act.put, List.setIfInBounds_toArray, List.set_cons_zero, List.set_cons_succ])
        refine wpAnyH_take (i := 3) (oi := { dst := some 43, op := Op.load 80 (Operand.tmp 42), type := 80, pos := "table.go:51", after := #[{ on := 2, ground := Ground.data }], guard := none }) (v := ?v2004) rfl (by kernel_rfl) (by kernel_rfl) (by kernel_rfl) (fun _ _ _ h => h) (Or.inl ⟨by rfl, ?hy2004⟩) hHeld ?_
        case hy2004 => (intro w hSw; (try dsimp only at hSw); go_simp; (try with_reducible rfl))
        (try simp only [Act.put, List.setIfInBounds_toArray, List.set_cons_zero, List.set_cons_succ])
        refine' wpAnyH_take (i := 4) (oi := { dst := some 44, op := Op.load 27 (Operand.tmp 6), type := 27, pos := "table.go:51", after := #[], guard := none }) (v := _) rfl (by kernel_rfl) (by kernel_rfl) (by kernel_rfl) (fun _ _ _ h => h) (yieldsIf_load_mid (by rfl) _ _ rfl K 0 rfl (nums .u8 no) _ (fun _ h => h.2.1) unH rfl hiH) hHeld ?_
        (try simp only [Act.put, List.setIfInBounds_toArray, List.set_cons_zero, List.set_cons_succ])
        refine' wpAnyH_take (i := 5) (oi := { dst := some 45, op := Op.load 27 (Operand.tmp 6), type := 27, pos := "table.go:51", after := #[], guard := none }) (v := _) rfl (by kernel_rfl) (by kernel_rfl) (by kernel_rfl) (fun _ _ _ h => h) (yieldsIf_load_mid (by rfl) _ _ rfl K 0 rfl (nums .u8 no) _ (fun _ h => h.2.1) unH rfl hiH) hHeld ?_
        (try simp only [Act.put, List.setIfInBounds_toArray, List.set_cons_zero, List.set_cons_succ])
        refine' wpAnyH_take (i := 6) (oi := { dst := some 46, op := Op.load 27 (Operand.tmp 7), type := 27, pos := "table.go:51", after := #[], guard := none }) (v := _) rfl (by kernel_rfl) (by kernel_rfl) (by kernel_rfl) (fun _ _ _ h => h) (yieldsIf_load_mid (by rfl) _ _ rfl K2 0 rfl (nums .u8 id) _ (fun _ h => h.2.2) unH rfl hiI) hHeld ?_
        (try simp only [Act.put, List.setIfInBounds_toArray, List.set_cons_zero, List.set_cons_succ])
        refine wpAnyH_take (i := 7) (oi := { dst := some 47, op := Op.move (Operand.tmp 3), type := 4, pos := "table.go:51", after := #[], guard := none }) (v := ?v2005) rfl (by kernel_rfl) (by kernel_rfl) (by kernel_rfl) (fun _ _ _ h => h) (Or.inl ⟨by rfl, ?hy2005⟩) hHeld ?_
        case hy2005 => (intro w hSw; (try dsimp only at hSw); go_simp; (try with_reducible rfl))
        (try simp only [Act.put, List.setIfInBounds_toArray, List.set_cons_zero, List.set_cons_succ])
        refine wpAnyH_take (i := 8) (oi := { dst := some 48, op := Op.move (Operand.tmp 4), type := 28, pos := "table.go:51", after := #[], guard := none }) (v := ?v2006) rfl (by kernel_rfl) (by kernel_rfl) (by kernel_rfl) (fun _ _ _ h => h) (Or.inl ⟨by rfl, ?hy2006⟩) hHeld ?_
        case hy2006 => (intro w hSw; (try dsimp only at hSw); go_simp; (try with_reducible rfl))
        (try simp only [Act.put, List.setIfInBounds_toArray, List.set_cons_zero, List.set_cons_succ])
        refine wpAnyH_take (i := 9) (oi := { dst := some 49, op := Op.build 48 #[(0, Operand.tmp 45), (1, Operand.tmp 46), (2, Operand.tmp 47), (3, Operand.tmp 48)], type := 48, pos := "table.go:51", after := #[{ on := 5, ground := Ground.data }, { on := 6, ground := Ground.data }, { on := 7, ground := Ground.data }, { on := 8, ground := Ground.data }], guard := none }) (v := .agg CS.toArray) rfl (by kernel_rfl) (by kernel_rfl) (by kernel_rfl) (fun _ _ _ h => h) (Or.inl ⟨by rfl, fun w _ => run_build4' rfl rfl rfl rfl rfl HBT.out⟩) hHeld ?_
        (try simp only [Act.put, List.setIfInBounds_toArray, List.set_cons_zero, List.set_cons_succ])
        refine wpAnyH_ready (rs := [10]) (by kernel_rfl) (by simp) ?_
        refine AllReadyH.cons (o := { dst := none, op := Op.mapUpdate 80 (Operand.tmp 43) (Operand.tmp 44) (Operand.tmp 49), type := 0, pos := "table.go:51", after := #[{ on := 3, ground := Ground.data }, { on := 4, ground := Ground.data }, { on := 9, ground := Ground.data }, { on := 0, ground := Ground.phase }, { on := 1, ground := Ground.phase }, { on := 2, ground := Ground.phase }, { on := 3, ground := Ground.phase }, { on := 4, ground := Ground.phase }, { on := 5, ground := Ground.phase }, { on := 6, ground := Ground.phase }, { on := 7, ground := Ground.phase }, { on := 8, ground := Ground.phase }, { on := 9, ground := Ground.phase }], guard := none }) rfl (fun K hK => ?_) ?_
        rw [if_pos (by rfl)]; refine wp_put _ _ _ _ rfl unMap (g3.out.below ((Below.refl _ _).drew)) hnb.out rfl no hno rfl rfl ?_; intro w6 m6 f6
        refine hK.out _ _ (⟨far_cell f6 hHeld.1 hn1.out, range_far f6 hHeld.2.1 hn2.out, range_far f6 hHeld.2.2 hn3.out⟩) (fun hHeld => ?_)
        clear hK K
        (try simp only [List.setIfInBounds_toArray, List.set_cons_zero, List.set_cons_succ])
        refine wpAnyH_done (by kernel_rfl) ?_ _
        rotate_left
        exact AllReadyH.nil
        have hm6 := m6
        rw [hvn.out] at hm6
        rw [← HCS.out] at hm6
        have hT6 := hid ((HT.out.below (B7.out.drew)).put hm6 f6 HQK.out hn1'.out)
        have hF6 := hid ((Far.of (H := mb) (B7.out.drew)).trans f6)
        clear m6 hm6 f6 hHeld g1 g2 g4
        go_wp2
        go_ret
        exact ask_good E.out ⟨rfl, hT6.out, hF6.out⟩
    · subst hk
      have E := hid (show askC M n no id most = 6 by rw [askC, if_neg hm0'.out, hM]; exact if_pos rfl)
      have F := hid (ask_bad (buy := buy) E.out (by decide) (TRes.same (k := 6) (w' := w7) (z := 6) rfl HT.out B7.out))
      clear hM g2 g4
      go_wp2
      go_ret
      exact F.out
def resM (M : QM) (no : List Nat) (r : Quo × Nat) : QM := if r.2 = 0 then updM M no r.1 else M
theorem res_bad {w w' : World} {tb mb n k : Nat} {M : QM} {no : List Nat} {r : Quo × Nat} {e : Ending} (h : r.2 = k) (hk : k ≠ 0) (t : TRes w tb mb M n k e w') : TRes w tb mb (resM M no r) n r.2 e w' := by
  unfold resM
  rw [if_neg (by omega), h]
  exact t
theorem res_good {w w' : World} {tb mb n : Nat} {M : QM} {no : List Nat} {r : Quo × Nat} {q : Quo} {e : Ending} (h : r = (q, 0)) (t : TRes w tb mb (updM M no q) n 0 e w') : TRes w tb mb (resM M no r) n r.2 e w' := by
  unfold resM
  rw [h, if_pos rfl]
  exact t
theorem openS_ok {M : QM} {no : List Nat} (hM : ∀ x q, M x = some q → q.ok) : (openS (M no)).1.ok := by
  unfold openS
  cases h : M no with
  | none => exact qz_ok
  | some q =>
    simp only
    split
    · exact hM no q h
    · exact qz_ok
theorem openS_good {o : Option Quo} (h : (openS o).2 = 0) : o = some (openS o).1 ∧ (openS o).1.st = 0 := by
  unfold openS at *
  cases o with
  | none => cases h
  | some q =>
    simp only at h ⊢
    split at h
    · rename_i hs; rw [if_pos hs]; exact ⟨rfl, hs⟩
    · cases h
def rejS (o : Option Quo) : Quo × Nat := if (openS o).2 = 0 then ({ (openS o).1 with st := 2 }, 0) else openS o
end Go.Proofs.YthccjefhlmngbaaDoor

/- The walks of table's Accept, Undo, use, Sell, Buy. Printed by wip/tabc.py. -/
namespace Go.Proofs.YthccjefhlmngbaaDoor
open Go.RowKit

def accS (o : Option Quo) (rc ru : Nat) (til : Int) : Quo × Nat :=
  if til < 0 ∨ 1073741824 < til then (qz, 1) else if rc = 0 ∨ ru = 0 then (qz, 60) else if (openS o).2 = 0 then ({ (openS o).1 with st := 1, rc := rc, ru := ru, til := til }, 0) else openS o
set_option maxRecDepth 100000 in
set_option maxHeartbeats 8000000 in
theorem acc_walk (tb mb n : Nat) (M : QM) (no : List Nat) (hno : EH.ok no) (rc ru : Nat) (hrc : rc < 18446744073709551616) (hru : ru < 18446744073709551616) (til : Int) (htil : (Lit.int .i64 til).wf = true) (w : World) (h : TabAt w tb mb M n) :
    Calls Tryd.prog 27 #[.pointer (some ⟨tb, 0, none⟩), .agg (nums .u8 no).toArray, rateV rc ru, .int .i64 til] w (TRes w tb mb (resM M no (accS (M no) rc ru til)) n (accS (M no) rc ru til).2) := by
  have ZQ := zeroQ
  have hne := zQ_ne
  have unH := Tryd.underlying27
  have unQ := Tryd.underlying48
  have hiH : (Tryd.prog.info? 27).map (·.size) = some (nums .u8 no).length := by rw [nums_length, hno.1]; exact infoH
  have A2 := alloc2p w (.cells (nums .u8 no).toArray 27) (.cells #[.int .u64 (rc : Int), .int .u64 (ru : Int)] 30)
  have HT := hid h
  have HT1 := hid (h.below A2.2.2.2)
  have f2 := row_range A2.1
  have x0 : ((w.alloc (.cells (nums .u8 no).toArray 27)).alloc (.cells #[.int .u64 (rc : Int), .int .u64 (ru : Int)] 30)).cell? ⟨w.heap.size + 1, 0, none⟩ = some (.int .u64 (rc : Int)) := by rw [cell_of_row _ _ _ _ _ (0, 0) A2.2.1]; rfl
  have x1 : ((w.alloc (.cells (nums .u8 no).toArray 27)).alloc (.cells #[.int .u64 (rc : Int), .int .u64 (ru : Int)] 30)).cell? ⟨w.heap.size + 1, 1, none⟩ = some (.int .u64 (ru : Int)) := by rw [cell_of_row _ _ _ _ _ (0, 0) A2.2.1]; rfl
  have B1 := hid A2.2.2.2
  have hsz := hid A2.2.2.1
  have OW := fun wx hx => hid (open_walk tb mb n M no hno wx hx)
  have CW := fun wx => hid (check_walk rc ru wx)
  have hok := openS_ok (no := no) h.ok
  have hmb := hid (show mb < w.heap.size from h.map.lt)
  have hgood := hid (@openS_good (M no))
  have hacc := hid (show accS (M no) rc ru til = if til < 0 ∨ 1073741824 < til then (qz, 1) else if rc = 0 ∨ ru = 0 then (qz, 60) else if (openS (M no)).2 = 0 then ({ (openS (M no)).1 with st := 1, rc := rc, ru := ru, til := til }, 0) else openS (M no) from rfl)
  unfold QRes at OW
  unfold IntB at CW
  clear A2 h
  generalize hr : accS (M no) rc ru til = r at *
  generalize hp : openS (M no) = p at *
  clear hr hp
  obtain ⟨q0, k⟩ := p
  simp only at hok hgood hacc OW
  have hq0i := hid (infoQa hok)
  have hq0z := hid (zQ_as hok)
  have hq0o := hid (all_oneCell_toArray (Quo.one q0))
  by_cases hb : til < 0 ∨ 1073741824 < til
  · have E := hid (show r.2 = 1 by rw [hacc.out, if_pos hb])
    have F := hid (fun w' hb => res_bad (no := no) E.out (by decide) (TRes.same (w' := w') (z := 1) rfl HT.out hb))
    by_cases h0 : til < 0
    · have t0 : decide (til < 0) = true := by rw [decide_eq_true_eq]; exact h0
      clear hb h0
      go_enter Tryd.func27, Tryd.ntmps27
      go_wp2
      go_ret
      exact F.out _ B1.out
    · have t0 : decide (til < 0) = false := by rw [decide_eq_false_iff_not]; exact h0
      have t1 : decide (til > 1073741824) = true := by rw [decide_eq_true_eq]; omega
      have t2 : (1073741824 : Int) < til := by omega
      clear hb h0
      go_enter Tryd.func27, Tryd.ntmps27
      go_wp2
      go_ret
      exact F.out _ B1.out
  · have t0 : decide (til < 0) = false := by rw [decide_eq_false_iff_not]; omega
    have t1 : ¬ (1073741824 : Int) < til := by omega
    have t2 : ¬ til < 0 := by omega
    have hacc2 := hid (hacc.out.trans (if_neg hb))
    clear hacc hb
    by_cases hrr : rc = 0 ∨ ru = 0
    · have E := hid (show r.2 = 60 by rw [hacc2.out, if_pos hrr])
      have F := hid (fun w' hb => res_bad (no := no) E.out (by decide) (TRes.same (w' := w') (z := 60) rfl HT.out hb))
      have hchk : chk rc ru = 60 := if_pos hrr
      rw [hchk] at CW
      clear hrr hchk
      go_enter Tryd.func27, Tryd.ntmps27
      go_wp2_with fail
      refine (CW _).out.mono ?_
      rintro e w2 ⟨rfl, b2⟩
      have B2 := hid (bstep B1.out b2)
      go_wp2
      go_ret
      exact F.out _ B2.out
    · have hchk : chk rc ru = 0 := if_neg hrr
      rw [hchk] at CW
      have hacc3 := hid (hacc2.out.trans (if_neg hrr))
      clear hrr hchk hacc2
      go_enter Tryd.func27, Tryd.ntmps27
      go_wp2_with fail
      refine (CW _).out.mono ?_
      rintro e w1 ⟨rfl, b1⟩
      have HT2 := hid (HT1.out.below b1)
      have B2 := hid (bstep B1.out b1)
      have f2' := range_keep b1 f2
      have x0' := cell_keep b1 x0
      have x1' := cell_keep b1 x1
      have hsz1 := hid (show w.heap.size + 1 < w1.heap.size by have := b1.size; have := hsz.out; omega)
      clear f2 x0 x1 HT1 B1 b1 CW
      go_wp2_with (refine wpList_load_mid rfl _ _ rfl w.heap.size 0 rfl (nums .u8 no) _ f2' Tryd.underlying27 rfl hiH ?_)
      refine (OW _ HT2.out).out.mono ?_
      rintro e w2 ⟨rfl, b2⟩
      have A3 := hid (heap_alloc_new w2 (.cells zQ 48))
      have L3 := laid w2 zQ q0.cells.toArray 48
      have HT3 := hid ((HT2.out.below b2).below L3.2)
      have B3 := hid (bstep (bstep B2.out b2) L3.2)
      have f3 := range_keep L3.2 (range_keep b2 f2')
      have x0 := cell_keep L3.2 (cell_keep b2 x0')
      have x1 := cell_keep L3.2 (cell_keep b2 x1')
      have H3 := L3.1
      have hG := hid (show w.heap.size + 1 < w2.heap.size by have := b2.size; have := hsz1.out; omega)
      clear f2' x0' x1' b2 HT2 B2 OW L3
      by_cases hk : k = 0
      · obtain ⟨hM, hst⟩ := hgood.out hk
        have HGQ := hid (hacc3.out.trans (if_pos hk))
        subst hk
        have hq1 : Quo.ok { q0 with st := 1, rc := rc, ru := ru, til := til } := ⟨hok.nl, hok.nb, hok.il, hok.ib, hok.mb, hrc, hru, hok.sb, show (Lit.int .i64 1).wf = true by decide, htil⟩
        have HQ1 := hid hq1
        have hvn := hid (show (if (valM M no).isSome = true then n else n + 1) = n by unfold valM; rw [hM]; exact if_pos rfl)
        have hiC := infoQl hq1
        have hset := hid (show (((q0.cells.set 66 (.int .i64 1)).set 67 (.int .u64 (rc : Int))).set 68 (.int .u64 (ru : Int))).set 69 (.int .i64 til) = Quo.cells { q0 with st := 1, rc := rc, ru := ru, til := til } by
          rw [Quo.set hok 2]
          have e : ∀ (i : Nat) (v : Value) (L : List Value), (nums .u8 q0.no ++ nums .u8 q0.id ++ L).set (64 + i) v = nums .u8 q0.no ++ nums .u8 q0.id ++ L.set i v := fun i v L => by
            rw [List.set_append_right _ _ (by simp [hok.nl, hok.il])]; simp [hok.nl, hok.il]
          rw [e 3, e 4, e 5]
          rfl)
        clear hM hst hq1 htil
        go_wp2_with (refine wpList_store_row rfl _ _ _ rfl w2.heap.size q0.cells.toArray rfl rfl _ _ A3.out hq0i.out hq0z.out hq0o.out ?_)
        clear A3
        generalize (w2.alloc (.cells zQ 48)).setRow w2.heap.size q0.cells.toArray = w3 at *
        generalize w2.heap.size = G9 at *
        have hn2 := hid (show w.heap.size ≠ mb by have := hmb.out; omega)
        have hn3 := hid (show G9 ≠ mb by have := hmb.out; have := hG.out; omega)
        have hnt := hid (show tb ≠ G9 by have := World.block_lt_of_cell? w _ HT.out.cell; simp at this; have := hG.out; omega)
        have hnm := hid (show mb ≠ G9 by have := hmb.out; have := hG.out; omega)
        have hnkk := hid (show w.heap.size ≠ G9 by have := hG.out; omega)
        have hgw := hid (show w.heap.size ≤ G9 by have := hG.out; omega)
        obtain ⟨K2, hK2⟩ : ∃ K, K = w.heap.size + 1 := ⟨_, rfl⟩
        rw [← hK2] at x0 x1 ⊢
        have hnk := hid (show K2 ≠ G9 by have := hG.out; omega)
        obtain ⟨K, hK⟩ : ∃ K, K = w.heap.size := ⟨_, rfl⟩
        rw [← hK] at f3 hn2 hnkk ⊢
        clear hK hK2
        refine wp_region_held_drew (S := fun w' => w'.cell? ⟨K2, 0, none⟩ = some (.int .u64 (rc : Int)) ∧ w'.cell? ⟨K2, 1, none⟩ = some (.int .u64 (ru : Int))) (by kernel_rfl) (⟨x0, x1⟩) (fun hHeld => ?_)
        try simp only [List.size_toArray, List.length_cons, List.length_nil, Nat.reduceAdd, Array.replicate_succ, Array.replicate_zero, List.push_toArray, List.nil_append, List.cons_append]
        refine wpAnyH_take (i := 0) (oi := { dst := some 36, op := Op.load 30 (Operand.tmp 6), type := 30, pos := "table.go:67", after := #[{ on := 3, ground := Ground.gcOnly Departure.lateStores }], guard := none }) (v := ?v1001) rfl (by kernel_rfl) (by kernel_rfl) (by kernel_rfl) (fun _ _ _ h => h) (Or.inl ⟨by rfl, ?hy1001⟩) hHeld ?_
        case hy1001 => (intro w hSw; (try dsimp only at hSw); go_simp; (try with_reducible rfl))
        (try simp only [Act.put, List.setIfInBounds_toArray, List.set_cons_zero, List.set_cons_succ])
        refine wpAnyH_take (i := 1) (oi := { dst := some 37, op := Op.move (Operand.tmp 3), type := 3, pos := "table.go:67", after := #[{ on := 5, ground := Ground.gcOnly Departure.lateStores }], guard := none }) (v := ?v1002) rfl (by kernel_rfl) (by kernel_rfl) (by kernel_rfl) (fun _ _ _ h => h) (Or.inl ⟨by rfl, ?hy1002⟩) hHeld ?_
        case hy1002 => (intro w hSw; (try dsimp only at hSw); go_simp; (try with_reducible rfl))
        (try simp only [Act.put, List.setIfInBounds_toArray, List.set_cons_zero, List.set_cons_succ])
        refine wpAnyH_take (i := 2) (oi := { dst := some 38, op := Op.fieldAddr 48 (Operand.tmp 10) 4, type := 0, pos := "table.go:67", after := #[{ on := 0, ground := Ground.textOnly Departure.lateStores }, { on := 1, ground := Ground.textOnly Departure.lateStores }], guard := none }) (v := ?v1003) rfl (by kernel_rfl) (by kernel_rfl) (by kernel_rfl) (fun _ _ _ h => h) (Or.inl ⟨by rfl, ?hy1003⟩) hHeld ?_
        case hy1003 => (intro w hSw; (try dsimp only at hSw); go_simp; (try with_reducible rfl))
        (try simp only [Act.put, List.setIfInBounds_toArray, List.set_cons_zero, List.set_cons_succ])
        refine wpAnyH_ready (rs := [3]) (by kernel_rfl) (by simp) ?_
        refine AllReadyH.cons (o := { dst := none, op := Op.store 3 (Operand.tmp 38) (Operand.const (Value.int IntKind.i64 1)), type := 0, pos := "table.go:67", after := #[{ on := 2, ground := Ground.data }, { on := 0, ground := Ground.textOnly Departure.lateStores }, { on := 1, ground := Ground.textOnly Departure.lateStores }], guard := none }) rfl (fun K hK => ?_) ?_
        have c66 := gen_cell (row_range H3) (Quo.get hok 2); have fz : World.frozen? _ ⟨G9, 66, none⟩ = false := frozen_of_row _ _ _ _ _ H3; go_simp; (first | refine setW H3 ?_ | refine setWd H3 ?_); intro wa ha fa
        refine hK.out _ _ (⟨far_cell fa.out hHeld.1 hnk.out, far_cell fa.out hHeld.2 hnk.out⟩) (fun hHeld => ?_)
        clear hK K
        (try simp only [List.setIfInBounds_toArray, List.set_cons_zero, List.set_cons_succ])
        refine wpAnyH_take (i := 4) (oi := { dst := some 39, op := Op.fieldAddr 48 (Operand.tmp 10) 5, type := 0, pos := "table.go:67", after := #[{ on := 0, ground := Ground.phase }, { on := 1, ground := Ground.textOnly Departure.lateStores }, { on := 2, ground := Ground.phase }, { on := 3, ground := Ground.phase }], guard := none }) (v := ?v1004) rfl (by kernel_rfl) (by kernel_rfl) (by kernel_rfl) (fun _ _ _ h => h) (Or.inl ⟨by rfl, ?hy1004⟩) hHeld ?_
        case hy1004 => (intro w hSw; (try dsimp only at hSw); go_simp; (try with_reducible rfl))
        (try simp only [Act.put, List.setIfInBounds_toArray, List.set_cons_zero, List.set_cons_succ])
        refine wpAnyH_ready (rs := [5]) (by kernel_rfl) (by simp) ?_
        refine AllReadyH.cons (o := { dst := none, op := Op.store 30 (Operand.tmp 39) (Operand.tmp 36), type := 0, pos := "table.go:67", after := #[{ on := 4, ground := Ground.data }, { on := 0, ground := Ground.data }, { on := 3, ground := Ground.chain }, { on := 0, ground := Ground.phase }, { on := 1, ground := Ground.textOnly Departure.lateStores }, { on := 2, ground := Ground.phase }, { on := 3, ground := Ground.phase }], guard := none }) rfl (fun K hK => ?_) ?_
        have r6 := row_range ha.out; have c67 := gen_cell r6 ((List.getElem?_set_ne (by decide)).trans (Quo.get hok 3)); have c68 := gen_cell r6 ((List.getElem?_set_ne (by decide)).trans (Quo.get hok 4)); have z67 : World.frozen? _ ⟨G9, 67, none⟩ = false := frozen_of_row _ _ _ _ _ ha.out; have z68 : World.frozen? _ ⟨G9, 68, none⟩ = false := frozen_of_row _ _ _ _ _ ha.out; go_simp; refine setW2 ha.out ?_; intro wb hb fb
        refine hK.out _ _ (⟨far_cell fb.out hHeld.1 hnk.out, far_cell fb.out hHeld.2 hnk.out⟩) (fun hHeld => ?_)
        clear hK K
        (try simp only [List.setIfInBounds_toArray, List.set_cons_zero, List.set_cons_succ])
        refine wpAnyH_take (i := 6) (oi := { dst := some 40, op := Op.fieldAddr 48 (Operand.tmp 10) 6, type := 0, pos := "table.go:67", after := #[{ on := 0, ground := Ground.phase }, { on := 1, ground := Ground.phase }, { on := 2, ground := Ground.phase }, { on := 3, ground := Ground.phase }, { on := 4, ground := Ground.phase }, { on := 5, ground := Ground.phase }], guard := none }) (v := ?v1005) rfl (by kernel_rfl) (by kernel_rfl) (by kernel_rfl) (fun _ _ _ h => h) (Or.inl ⟨by rfl, ?hy1005⟩) hHeld ?_
        case hy1005 => (intro w hSw; (try dsimp only at hSw); go_simp; (try with_reducible rfl))
        (try simp only [Act.put, List.setIfInBounds_toArray, List.set_cons_zero, List.set_cons_succ])
        refine wpAnyH_ready (rs := [7]) (by kernel_rfl) (by simp) ?_
        refine AllReadyH.cons (o := { dst := none, op := Op.store 3 (Operand.tmp 40) (Operand.tmp 37), type := 0, pos := "table.go:67", after := #[{ on := 6, ground := Ground.data }, { on := 1, ground := Ground.data }, { on := 5, ground := Ground.chain }, { on := 0, ground := Ground.phase }, { on := 1, ground := Ground.phase }, { on := 2, ground := Ground.phase }, { on := 3, ground := Ground.phase }, { on := 4, ground := Ground.phase }, { on := 5, ground := Ground.phase }], guard := none }) rfl (fun K hK => ?_) ?_
        have r7 := row_range hb.out; have c69 := gen_cell r7 ((List.getElem?_set_ne (by decide)).trans ((List.getElem?_set_ne (by decide)).trans ((List.getElem?_set_ne (by decide)).trans (Quo.get hok 5)))); have z69 : World.frozen? _ ⟨G9, 69, none⟩ = false := frozen_of_row _ _ _ _ _ hb.out; go_simp; refine setW hb.out ?_; intro wc hc fc
        refine hK.out _ _ (⟨far_cell fc.out hHeld.1 hnk.out, far_cell fc.out hHeld.2 hnk.out⟩) (fun hHeld => ?_)
        clear hK K
        (try simp only [List.setIfInBounds_toArray, List.set_cons_zero, List.set_cons_succ])
        refine wpAnyH_done (by kernel_rfl) ?_ _
        rotate_left
        exact AllReadyH.nil
        exact AllReadyH.nil
        exact AllReadyH.nil
        have H9 := hc.out
        rw [hset.out] at H9
        have FX := hid (fa.out.trans (fb.out.trans fc.out))
        have HT9 := hid (HT3.out.far FX.out hnt.out hnm.out)
        have B9 := hid (B3.out.trans (FX.out.below hgw.out B3.out.size))
        have g2 := range_far FX.out f3 hnkk.out
        have g5 := row_range H9
        clear FX ha hb hc fa fb fc r6 r7 c66 c67 c68 c69 z67 z68 z69 fz hHeld H3 x0 x1 H9 f3 HT3 B3
        generalize hCS : Quo.cells { q0 with st := 1, rc := rc, ru := ru, til := til } = CS at *
        have HCS := hid hCS
        clear hCS
        generalize wc = w9 at *
        go_wp2_with fail
        have g1 := HT9.out.cell
        have g3 := hid HT9.out.map
        have hnb := hid (show n < maxLen by have := HT9.out.small; unfold maxLen; omega)
        have hn1 := hid HT9.out.ne
        refine wp_region_held_drew (S := fun w' => w'.cell? ⟨tb, 0, none⟩ = some (.map (some mb)) ∧ w'.rangeAt K 0 (nums .u8 no) ∧ w'.rangeAt G9 0 CS) (by kernel_rfl) (⟨g1, g2, g5⟩) (fun hHeld => ?_)
        try simp only [List.size_toArray, List.length_cons, List.length_nil, Nat.reduceAdd, Array.replicate_succ, Array.replicate_zero, List.push_toArray, List.nil_append, List.cons_append]
        refine wpAnyH_take (i := 0) (oi := { dst := some 41, op := Op.move (Operand.tmp 0), type := 24, pos := "table.go:68", after := #[], guard := none }) (v := ?v2001) rfl (by kernel_rfl) (by kernel_rfl) (by kernel_rfl) (fun _ _ _ h => h) (Or.inl ⟨by rfl, ?hy2001⟩) hHeld ?_
        case hy2001 => (intro w hSw; (try dsimp only at hSw); go_simp; (try with_reducible rfl))
        (try simp only [Act.put, List.setIfInBounds_toArray, List.set_cons_zero, List.set_cons_succ])
        refine wpAnyH_take (i := 1) (oi := { dst := some 42, op := Op.nilCheck (Operand.tmp 41), type := 0, pos := "table.go:68", after := #[{ on := 0, ground := Ground.data }], guard := none }) (v := ?v2002) rfl (by kernel_rfl) (by kernel_rfl) (by kernel_rfl) (fun _ _ _ h => h) (Or.inl ⟨by rfl, ?hy2002⟩) hHeld ?_
        case hy2002 => (intro w hSw; (try dsimp only at hSw); go_simp; (try with_reducible rfl))
        (try simp only [Act.put, List.setIfInBounds_toArray, List.set_cons_zero, List.set_cons_succ])
        refine wpAnyH_take (i := 2) (oi := { dst := some 43, op := Op.fieldAddr 82 (Operand.tmp 42) 0, type := 0, pos := "table.go:68", after := #[{ on := 1, ground := Ground.data }], guard := none }) (v := ?v2003) rfl (by kernel_rfl) (by kernel_rfl) (by kernel_rfl) (fun _ _ _ h => h) (Or.inl ⟨by rfl, ?hy2003⟩) hHeld ?_
        case hy2003 => (intro w hSw; (try dsimp only at hSw); go_simp; (try with_reducible rfl))
        (try simp only [Act.put, List.setIfInBounds_toArray, List.set_cons_zero, List.set_cons_succ])
        refine wpAnyH_take (i := 3) (oi := { dst := some 44, op := Op.load 80 (Operand.tmp 43), type := 80, pos := "table.go:68", after := #[{ on := 2, ground := Ground.data }], guard := none }) (v := ?v2004) rfl (by kernel_rfl) (by kernel_rfl) (by kernel_rfl) (fun _ _ _ h => h) (Or.inl ⟨by rfl, ?hy2004⟩) hHeld ?_
        case hy2004 => (intro w hSw; (try dsimp only at hSw); go_simp; (try with_reducible rfl))
        (try simp only [Act.put, List.setIfInBounds_toArray, List.set_cons_zero, List.set_cons_succ])
        refine' wpAnyH_take (i := 4) (oi := { dst := some 45, op := Op.load 27 (Operand.tmp 5), type := 27, pos := "table.go:68", after := #[], guard := none }) (v := _) rfl (by kernel_rfl) (by kernel_rfl) (by kernel_rfl) (fun _ _ _ h => h) (yieldsIf_load_mid (by rfl) _ _ rfl K 0 rfl (nums .u8 no) _ (fun _ h => h.2.1) unH rfl hiH) hHeld ?_
        (try simp only [Act.put, List.setIfInBounds_toArray, List.set_cons_zero, List.set_cons_succ])
        refine' wpAnyH_take (i := 5) (oi := { dst := some 46, op := Op.load 48 (Operand.tmp 10), type := 48, pos := "table.go:68", after := #[], guard := none }) (v := _) rfl (by kernel_rfl) (by kernel_rfl) (by kernel_rfl) (fun _ _ _ h => h) (yieldsIf_load_mid (by rfl) _ _ rfl G9 0 rfl CS _ (fun _ h => h.2.2) unQ rfl hiC) hHeld ?_
        (try simp only [Act.put, List.setIfInBounds_toArray, List.set_cons_zero, List.set_cons_succ])
        refine wpAnyH_ready (rs := [6]) (by kernel_rfl) (by simp) ?_
        refine AllReadyH.cons (o := { dst := none, op := Op.mapUpdate 80 (Operand.tmp 44) (Operand.tmp 45) (Operand.tmp 46), type := 0, pos := "table.go:68", after := #[{ on := 3, ground := Ground.data }, { on := 4, ground := Ground.data }, { on := 5, ground := Ground.data }, { on := 0, ground := Ground.phase }, { on := 1, ground := Ground.phase }, { on := 2, ground := Ground.phase }, { on := 3, ground := Ground.phase }, { on := 4, ground := Ground.phase }, { on := 5, ground := Ground.phase }], guard := none }) rfl (fun K hK => ?_) ?_
        rw [if_pos (by rfl)]; refine wp_put _ _ _ _ rfl unMap (g3.out.below ((Below.refl _ _).drew)) hnb.out rfl no hno rfl rfl ?_; intro w6 m6 f6
        refine hK.out _ _ (⟨far_cell f6 hHeld.1 hn1.out, range_far f6 hHeld.2.1 hn2.out, range_far f6 hHeld.2.2 hn3.out⟩) (fun hHeld => ?_)
        clear hK K
        (try simp only [List.setIfInBounds_toArray, List.set_cons_zero, List.set_cons_succ])
        refine wpAnyH_done (by kernel_rfl) ?_ _
        rotate_left
        exact AllReadyH.nil
        rw [hvn.out, ← HCS.out] at m6
        have hT6 := hid ((HT9.out.below ((Below.refl _ _).drew)).put m6 f6 HQ1.out HT9.out.small)
        have hF6 := hid ((Far.of (H := mb) (B9.out.drew)).trans f6)
        clear m6 f6 hHeld g1 g2 g5
        go_wp2
        go_ret
        exact res_good HGQ.out ⟨rfl, hT6.out, hF6.out⟩
      · have E := hid (show r.2 = k by rw [hacc3.out, if_neg hk])
        have te : ((k : Int) != 0) = true := by simp; omega
        have F := hid (res_bad (no := no) E.out hk (TRes.same (z := (k : Int)) rfl HT.out B3.out))
        clear hk H3 f3 x0 x1
        go_wp2_with (refine wpList_store_row rfl _ _ _ rfl w2.heap.size q0.cells.toArray rfl rfl _ _ A3.out hq0i.out hq0z.out hq0o.out ?_)
        go_ret
        exact F.out
def undoS (o : Option Quo) (u : Nat) : Quo × Nat := match o with | none => (qz, 5) | some q => if q.used < u then (qz, 11) else ({ q with used := q.used - u }, 0)
set_option maxRecDepth 100000 in
set_option maxHeartbeats 8000000 in
theorem undo_walk (tb mb n : Nat) (M : QM) (no : List Nat) (hno : EH.ok no) (u : Nat) (hu : u < 18446744073709551616) (w : World) (h : TabAt w tb mb M n) :
    Calls Tryd.prog 22 #[.pointer (some ⟨tb, 0, none⟩), .agg (nums .u8 no).toArray, .int .u64 u] w (TRes w tb mb (resM M no (undoS (M no) u)) n (undoS (M no) u).2) := by
  have ZQ := zeroQ
  have hne := zQ_ne
  have unH := Tryd.underlying27
  have unQ := Tryd.underlying48
  have hiH : (Tryd.prog.info? 27).map (·.size) = some (nums .u8 no).length := by rw [nums_length, hno.1]; exact infoH
  have bb := (Below.refl w.heap.size w).alloc (Nat.le_refl _) (.cells (nums .u8 no).toArray 27)
  have HT := hid h
  have h1 := h.below bb
  have f2 := row_range (L := nums .u8 no) (heap_alloc_new w (.cells (nums .u8 no).toArray 27))
  have B1 := hid bb
  have hmb := hid (show mb < w.heap.size from h.map.lt)
  have hval := lookVal M no
  obtain ⟨q0, kn, hg0, hk0, hq, hMq⟩ := ans_cases M no h.ok
  rw [hg0, hk0] at hval
  replace hval := hid hval
  have hq0 := hid hq
  have hq0i := hid (infoQa hq)
  have hq0z := hid (zQ_as hq)
  have hq0o := hid (all_oneCell_toArray (Quo.one q0))
  have HMq := hid hMq
  have f1 := h1.cell
  have f3 := h1.map
  have hsz := hid (show w.heap.size < (w.alloc (.cells (nums .u8 no).toArray 27)).heap.size by simp)
  clear hg0 hk0 hq hMq bb h h1
  go_enter Tryd.func22, Tryd.ntmps22
  go_upto_region 1 with (fail)
  generalize w.alloc (.cells (nums .u8 no).toArray 27) = w1 at *
  go_wp2_with fail
  obtain ⟨K, hK⟩ : ∃ K, K = w.heap.size := ⟨_, rfl⟩
  rw [← hK] at f2 ⊢
  have hn2 := hid (show K ≠ mb by have := hmb.out; omega)
  have hG := hid (show w.heap.size < w1.heap.size from hsz.out)
  have hnkk := hid (show K ≠ w1.heap.size by have := hG.out; omega)
  clear hK hsz
  have keepS : ∀ X Y : World, Below X.heap.size X Y → (X.cell? ⟨tb, 0, none⟩ = some (.map (some mb)) ∧ X.rangeAt K 0 (nums .u8 no) ∧ MapIs EH X mb (valM M) n) → (Y.cell? ⟨tb, 0, none⟩ = some (.map (some mb)) ∧ Y.rangeAt K 0 (nums .u8 no) ∧ MapIs EH Y mb (valM M) n) :=
    fun X Y hb h => ⟨cell_keep hb h.1, range_keep hb h.2.1, h.2.2.below hb⟩
  refine wp_region_held_drew (S := fun w' => w'.cell? ⟨tb, 0, none⟩ = some (.map (some mb)) ∧ w'.rangeAt K 0 (nums .u8 no) ∧ MapIs EH w' mb (valM M) n) (by kernel_rfl) (⟨f1, f2, f3⟩) (fun hHeld => ?_)
  try simp only [List.size_toArray, List.length_cons, List.length_nil, Nat.reduceAdd, Array.replicate_succ, Array.replicate_zero, List.push_toArray, List.nil_append, List.cons_append]
  refine wpAnyH_take (i := 0) (oi := { dst := some 14, op := Op.move (Operand.tmp 0), type := 24, pos := "table.go:148", after := #[], guard := none }) (v := ?v3001) rfl (by kernel_rfl) (by kernel_rfl) (by kernel_rfl) (fun _ _ _ h => h) (Or.inl ⟨by rfl, ?hy3001⟩) hHeld ?_
  case hy3001 => (intro w hSw; (try dsimp only at hSw); go_simp; (try with_reducible rfl))
  (try simp only [Act.put, List.setIfInBounds_toArray, List.set_cons_zero, List.set_cons_succ])
  refine wpAnyH_take (i := 1) (oi := { dst := some 15, op := Op.nilCheck (Operand.tmp 14), type := 0, pos := "table.go:148", after := #[{ on := 0, ground := Ground.data }], guard := none }) (v := ?v3002) rfl (by kernel_rfl) (by kernel_rfl) (by kernel_rfl) (fun _ _ _ h => h) (Or.inl ⟨by rfl, ?hy3002⟩) hHeld ?_
  case hy3002 => (intro w hSw; (try dsimp only at hSw); go_simp; (try with_reducible rfl))
  (try simp only [Act.put, List.setIfInBounds_toArray, List.set_cons_zero, List.set_cons_succ])
  refine wpAnyH_take (i := 2) (oi := { dst := some 16, op := Op.fieldAddr 82 (Operand.tmp 15) 0, type := 0, pos := "table.go:148", after := #[{ on := 1, ground := Ground.data }], guard := none }) (v := ?v3003) rfl (by kernel_rfl) (by kernel_rfl) (by kernel_rfl) (fun _ _ _ h => h) (Or.inl ⟨by rfl, ?hy3003⟩) hHeld ?_
  case hy3003 => (intro w hSw; (try dsimp only at hSw); go_simp; (try with_reducible rfl))
  (try simp only [Act.put, List.setIfInBounds_toArray, List.set_cons_zero, List.set_cons_succ])
  refine wpAnyH_take (i := 3) (oi := { dst := some 17, op := Op.load 80 (Operand.tmp 16), type := 80, pos := "table.go:148", after := #[{ on := 2, ground := Ground.data }], guard := none }) (v := ?v3004) rfl (by kernel_rfl) (by kernel_rfl) (by kernel_rfl) (fun _ _ _ h => h) (Or.inl ⟨by rfl, ?hy3004⟩) hHeld ?_
  case hy3004 => (intro w hSw; (try dsimp only at hSw); go_simp; (try with_reducible rfl))
  (try simp only [Act.put, List.setIfInBounds_toArray, List.set_cons_zero, List.set_cons_succ])
  refine' wpAnyH_take (i := 4) (oi := { dst := some 18, op := Op.load 27 (Operand.tmp 4), type := 27, pos := "table.go:148", after := #[], guard := none }) (v := _) rfl (by kernel_rfl) (by kernel_rfl) (by kernel_rfl) (fun _ _ _ h => h) (yieldsIf_load_mid (by rfl) _ _ rfl K 0 rfl (nums .u8 no) _ (fun _ h => h.2.1) unH rfl hiH) hHeld ?_
  (try simp only [Act.put, List.setIfInBounds_toArray, List.set_cons_zero, List.set_cons_succ])
  refine wpAnyH_take (i := 5) (oi := { dst := some 19, op := Op.lookup 80 (Operand.tmp 17) (Operand.tmp 18) true, type := 49, pos := "table.go:148", after := #[{ on := 3, ground := Ground.data }, { on := 4, ground := Ground.data }], guard := none }) (v := .tuple #[.agg q0.cells.toArray, .bool kn]) rfl (by kernel_rfl) (by kernel_rfl) (by kernel_rfl) (fun _ _ _ h => h) (Or.inl ⟨by rfl, fun w h => by rw [← hval.out]; exact run_look _ _ _ true rfl unMap (ZQ w) h.2.2 rfl no hno rfl⟩) hHeld ?_
  (try simp only [Act.put, List.setIfInBounds_toArray, List.set_cons_zero, List.set_cons_succ])
  refine wpAnyH_take (i := 6) (oi := { dst := some 13, op := Op.move (Operand.tmp 19), type := 49, pos := "table.go:148", after := #[{ on := 5, ground := Ground.data }], guard := none }) (v := ?v3005) rfl (by kernel_rfl) (by kernel_rfl) (by kernel_rfl) (fun _ _ _ h => h) (Or.inl ⟨by rfl, ?hy3005⟩) hHeld ?_
  case hy3005 => (intro w hSw; (try dsimp only at hSw); go_simp; (try with_reducible rfl))
  (try simp only [Act.put, List.setIfInBounds_toArray, List.set_cons_zero, List.set_cons_succ])
  refine wpAnyH_take (i := 7) (oi := { dst := some 20, op := Op.extract (Operand.tmp 13) 0, type := 48, pos := "table.go:148", after := #[{ on := 6, ground := Ground.data }], guard := none }) (v := ?v3006) rfl (by kernel_rfl) (by kernel_rfl) (by kernel_rfl) (fun _ _ _ h => h) (Or.inl ⟨by rfl, ?hy3006⟩) hHeld ?_
  case hy3006 => (intro w hSw; (try dsimp only at hSw); go_simp; (try with_reducible rfl))
  (try simp only [Act.put, List.setIfInBounds_toArray, List.set_cons_zero, List.set_cons_succ])
  refine wpAnyH_take (i := 8) (oi := { dst := some 21, op := Op.extract (Operand.tmp 13) 1, type := 4, pos := "table.go:148", after := #[{ on := 6, ground := Ground.data }, { on := 10, ground := Ground.gcOnly Departure.lateStores }], guard := none }) (v := ?v3007) rfl (by kernel_rfl) (by kernel_rfl) (by kernel_rfl) (fun _ _ _ h => h) (Or.inl ⟨by rfl, ?hy3007⟩) hHeld ?_
  case hy3007 => (intro w hSw; (try dsimp only at hSw); go_simp; (try with_reducible rfl))
  (try simp only [Act.put, List.setIfInBounds_toArray, List.set_cons_zero, List.set_cons_succ])
  refine wpAnyH_ready (rs := [9]) (by kernel_rfl) (by simp) ?_
  refine AllReadyH.cons (o := { dst := some 7, op := Op.alloc 48, type := 0, pos := "table.go:148", after := #[], guard := none }) rfl (fun K hK => ?_) ?_
  go_simp; (first | refine newZ ?_ | refine newZd ?_); intro w5 h5 b5
  refine hK.out _ _ (keepS _ _ b5.out ⟨f1, f2, f3⟩) (fun hHeld => ?_)
  clear hK K
  (try simp only [List.setIfInBounds_toArray, List.set_cons_zero, List.set_cons_succ])
  refine wpAnyH_ready (rs := [10]) (by kernel_rfl) (by simp) ?_
  refine AllReadyH.cons (o := { dst := none, op := Op.store 48 (Operand.tmp 7) (Operand.tmp 20), type := 0, pos := "table.go:148", after := #[{ on := 9, ground := Ground.data }, { on := 7, ground := Ground.data }, { on := 0, ground := Ground.phase }, { on := 1, ground := Ground.phase }, { on := 2, ground := Ground.phase }, { on := 3, ground := Ground.phase }, { on := 4, ground := Ground.phase }, { on := 5, ground := Ground.phase }, { on := 6, ground := Ground.phase }, { on := 7, ground := Ground.phase }, { on := 8, ground := Ground.textOnly Departure.lateStores }, { on := 9, ground := Ground.phase }], guard := none }) rfl (fun K hK => ?_) ?_
  rw [if_pos (by rfl)]; refine wp_store_row _ _ _ rfl _ q0.cells.toArray rfl rfl _ _ h5.out hq0i.out hq0z.out hq0o.out ?_
  refine hK.out _ _ (keepS _ _ (below_setRow b5.out (Nat.le_refl _) _) ⟨f1, f2, f3⟩) (fun hHeld => ?_)
  clear hK K
  (try simp only [List.setIfInBounds_toArray, List.set_cons_zero, List.set_cons_succ])
  refine wpAnyH_take (i := 11) (oi := { dst := some 8, op := Op.assign (Operand.tmp 21), type := 4, pos := "table.go:148", after := #[{ on := 8, ground := Ground.data }, { on := 10, ground := Ground.chain }, { on := 0, ground := Ground.phase }, { on := 1, ground := Ground.phase }, { on := 2, ground := Ground.phase }, { on := 3, ground := Ground.phase }, { on := 4, ground := Ground.phase }, { on := 5, ground := Ground.phase }, { on := 6, ground := Ground.phase }, { on := 7, ground := Ground.phase }, { on := 8, ground := Ground.phase }, { on := 9, ground := Ground.phase }, { on := 10, ground := Ground.phase }], guard := none }) (v := ?v3008) rfl (by kernel_rfl) (by kernel_rfl) (by kernel_rfl) (fun _ _ _ h => h) (Or.inl ⟨by rfl, ?hy3008⟩) hHeld ?_
  case hy3008 => (intro w hSw; (try dsimp only at hSw); go_simp; (try with_reducible rfl))
  (try simp only [Act.put, List.setIfInBounds_toArray, List.set_cons_zero, List.set_cons_succ])
  refine wpAnyH_done (by kernel_rfl) ?_ _
  rotate_left
  exact AllReadyH.nil
  exact AllReadyH.nil
  have H9 := setRow_heap w5 w1.heap.size _ q0.cells.toArray _ _ h5.out
  have L9 := below_setRow b5.out (Nat.le_refl _) q0.cells.toArray
  have B7 := hid (bstep B1.out L9)
  have f2' := range_keep L9 f2
  have hn3 := hid (show w1.heap.size ≠ mb by have := hmb.out; have := hG.out; omega)
  have hnt := hid (show tb ≠ w1.heap.size by have := World.block_lt_of_cell? w _ HT.out.cell; simp at this; have := hG.out; omega)
  clear L9 keepS hHeld b5 f1 f2 f3 h5 hval
  generalize w5.setRow w1.heap.size q0.cells.toArray = w7 at *
  generalize w1.heap.size = G9 at *
  have HT7 := hid (HT.out.below B7.out)
  rcases HMq.out with ⟨hk, hM, hqz⟩ | ⟨hk, hM⟩
  · subst hk
    have E := hid (show (undoS (M no) u).2 = 5 by rw [hM]; rfl)
    have F := hid (res_bad (no := no) E.out (by decide) (TRes.same (z := 5) rfl HT.out B7.out))
    generalize undoS (M no) u = r at *
    clear hM hqz H9 f2'
    go_wp2
    go_ret
    exact F.out
  · subst hk
    have SB := fun wx => hid (ssub_walk q0.used u hq0.out.sb hu wx)
    have c70 := gen_cell (row_range H9) (Quo.get hq0.out 6)
    by_cases hlt : q0.used < u
    · have E := hid (show (undoS (M no) u).2 = 11 by rw [hM, undoS]; simp [hlt])
      have F := hid (res_bad (no := no) E.out (by decide) (TRes.same (z := 11) rfl HT.out B7.out))
      rw [subV_no (by omega)] at SB
      generalize undoS (M no) u = r at *
      clear hM H9 f2' hlt
      go_wp2_with fail
      refine (SB _).out.mono ?_
      rintro e w8 ⟨rfl, rfl⟩
      go_wp2
      go_ret
      exact F.out
    · have hq1 : Quo.ok { q0 with used := q0.used - u } := ⟨hq0.out.nl, hq0.out.nb, hq0.out.il, hq0.out.ib, hq0.out.mb, hq0.out.cb, hq0.out.ub, by have := hq0.out.sb; show q0.used - u < 18446744073709551616; omega, hq0.out.sw, hq0.out.tw⟩
      have HQ1 := hid hq1
      have HGQ := hid (show undoS (M no) u = ({ q0 with used := q0.used - u }, 0) by rw [hM, undoS]; simp [hlt])
      rw [subV_yes (by omega)] at SB
      have hvn := hid (show (if (valM M no).isSome = true then n else n + 1) = n by unfold valM; rw [hM]; exact if_pos rfl)
      have H8 := heap_set (i := 70) (.int .u64 ((q0.used - u : Nat) : Int)) H9
      rw [show q0.cells.set 70 (.int .u64 ((q0.used - u : Nat) : Int)) = Quo.cells { q0 with used := q0.used - u } from Quo.set hq0.out 6 _] at H8
      have fz : w7.frozen? ⟨G9, 70, none⟩ = false := frozen_of_row _ _ _ _ _ H9
      have hf := Far.set (w := w7) (H := G9) (j := 70) (.int .u64 ((q0.used - u : Nat) : Int))
      have HT9 := hid (HT7.out.far hf hnt.out hn3.out.symm)
      have B9 := hid (B7.out.setCell (p := ⟨G9, 70, none⟩) (show w.heap.size ≤ G9 by have := hG.out; omega) (.int .u64 ((q0.used - u : Nat) : Int)))
      have g2 := range_far hf f2' hnkk.out
      have g5 := row_range H8
      have hiC := infoQl hq1
      clear H9 hM hf hq1 H8 f2' hlt
      generalize hCS : Quo.cells { q0 with used := q0.used - u } = CS at *
      have HCS := hid hCS
      clear hCS
      generalize undoS (M no) u = r at *
      generalize hnu : q0.used - u = nu at *
      go_wp2_with fail
      refine (SB _).out.mono ?_
      rintro e w8 ⟨rfl, rfl⟩
      go_wp2_with fail
      generalize w7.setCell ⟨G9, 70, none⟩ (.int .u64 (nu : Int)) = w9 at *
      have g1 := HT9.out.cell
      have g3 := hid HT9.out.map
      have hnb := hid (show n < maxLen by have := HT9.out.small; unfold maxLen; omega)
      have hn1 := hid HT9.out.ne
      refine wp_region_held_drew (S := fun w' => w'.cell? ⟨tb, 0, none⟩ = some (.map (some mb)) ∧ w'.rangeAt K 0 (nums .u8 no) ∧ w'.rangeAt G9 0 CS) (by kernel_rfl) (⟨g1, g2, g5⟩) (fun hHeld => ?_)
      try simp only [List.size_toArray, List.length_cons, List.length_nil, Nat.reduceAdd, Array.replicate_succ, Array.replicate_zero, List.push_toArray, List.nil_append, List.cons_append]
      refine wpAnyH_take (i := 0) (oi := { dst := some 36, op := Op.move (Operand.tmp 0), type := 24, pos := "table.go:157", after := #[], guard := none }) (v := ?v4001) rfl (by kernel_rfl) (by kernel_rfl) (by kernel_rfl) (fun _ _ _ h => h) (Or.inl ⟨by rfl, ?hy4001⟩) hHeld ?_
      case hy4001 => (intro w hSw; (try dsimp only at hSw); go_simp; (try with_reducible rfl))
      (try simp only [Act.put, List.setIfInBounds_toArray, List.set_cons_zero, List.set_cons_succ])
      refine wpAnyH_take (i := 1) (oi := { dst := some 37, op := Op.nilCheck (Operand.tmp 36), type := 0, pos := "table.go:157", after := #[{ on := 0, ground := Ground.data }], guard := none }) (v := ?v4002) rfl (by kernel_rfl) (by kernel_rfl) (by kernel_rfl) (fun _ _ _ h => h) (Or.inl ⟨by rfl, ?hy4002⟩) hHeld ?_
      case hy4002 => (intro w hSw; (try dsimp only at hSw); go_simp; (try with_reducible rfl))
      (try simp only [Act.put, List.setIfInBounds_toArray, List.set_cons_zero, List.set_cons_succ])
      refine wpAnyH_take (i := 2) (oi := { dst := some 38, op := Op.fieldAddr 82 (Operand.tmp 37) 0, type := 0, pos := "table.go:157", after := #[{ on := 1, ground := Ground.data }], guard := none }) (v := ?v4003) rfl (by kernel_rfl) (by kernel_rfl) (by kernel_rfl) (fun _ _ _ h => h) (Or.inl ⟨by rfl, ?hy4003⟩) hHeld ?_
      case hy4003 => (intro w hSw; (try dsimp only at hSw); go_simp; (try with_reducible rfl))
      (try simp only [Act.put, List.setIfInBounds_toArray, List.set_cons_zero, List.set_cons_succ])
      refine wpAnyH_take (i := 3) (oi := { dst := some 39, op := Op.load 80 (Operand.tmp 38), type := 80, pos := "table.go:157", after := #[{ on := 2, ground := Ground.data }], guard := none }) (v := ?v4004) rfl (by kernel_rfl) (by kernel_rfl) (by kernel_rfl) (fun _ _ _ h => h) (Or.inl ⟨by rfl, ?hy4004⟩) hHeld ?_
      case hy4004 => (intro w hSw; (try dsimp only at hSw); go_simp; (try with_reducible rfl))
      (try simp only [Act.put, List.setIfInBounds_toArray, List.set_cons_zero, List.set_cons_succ])
      refine' wpAnyH_take (i := 4) (oi := { dst := some 40, op := Op.load 27 (Operand.tmp 4), type := 27, pos := "table.go:157", after := #[], guard := none }) (v := _) rfl (by kernel_rfl) (by kernel_rfl) (by kernel_rfl) (fun _ _ _ h => h) (yieldsIf_load_mid (by rfl) _ _ rfl K 0 rfl (nums .u8 no) _ (fun _ h => h.2.1) unH rfl hiH) hHeld ?_
      (try simp only [Act.put, List.setIfInBounds_toArray, List.set_cons_zero, List.set_cons_succ])
      refine' wpAnyH_take (i := 5) (oi := { dst := some 41, op := Op.load 48 (Operand.tmp 7), type := 48, pos := "table.go:157", after := #[], guard := none }) (v := _) rfl (by kernel_rfl) (by kernel_rfl) (by kernel_rfl) (fun _ _ _ h => h) (yieldsIf_load_mid (by rfl) _ _ rfl G9 0 rfl CS _ (fun _ h => h.2.2) unQ rfl hiC) hHeld ?_
      (try simp only [Act.put, List.setIfInBounds_toArray, List.set_cons_zero, List.set_cons_succ])
      refine wpAnyH_ready (rs := [6]) (by kernel_rfl) (by simp) ?_
      refine AllReadyH.cons (o := { dst := none, op := Op.mapUpdate 80 (Operand.tmp 39) (Operand.tmp 40) (Operand.tmp 41), type := 0, pos := "table.go:157", after := #[{ on := 3, ground := Ground.data }, { on := 4, ground := Ground.data }, { on := 5, ground := Ground.data }, { on := 0, ground := Ground.phase }, { on := 1, ground := Ground.phase }, { on := 2, ground := Ground.phase }, { on := 3, ground := Ground.phase }, { on := 4, ground := Ground.phase }, { on := 5, ground := Ground.phase }], guard := none }) rfl (fun K hK => ?_) ?_
      rw [if_pos (by rfl)]; refine wp_put _ _ _ _ rfl unMap (g3.out.below ((Below.refl _ _).drew)) hnb.out rfl no hno rfl rfl ?_; intro w6 m6 f6
      refine hK.out _ _ (⟨far_cell f6 hHeld.1 hn1.out, range_far f6 hHeld.2.1 hn2.out, range_far f6 hHeld.2.2 hn3.out⟩) (fun hHeld => ?_)
      clear hK K
      (try simp only [List.setIfInBounds_toArray, List.set_cons_zero, List.set_cons_succ])
      refine wpAnyH_done (by kernel_rfl) ?_ _
      rotate_left
      exact AllReadyH.nil
      rw [hvn.out, ← HCS.out] at m6
      have hT6 := hid ((HT9.out.below ((Below.refl _ _).drew)).put m6 f6 HQ1.out HT9.out.small)
      have hF6 := hid ((Far.of (H := mb) (B9.out.drew)).trans f6)
      clear m6 f6 hHeld g1 g2 g5
      go_wp2
      go_ret
      exact res_good HGQ.out ⟨rfl, hT6.out, hF6.out⟩
theorem sell1_walk (rc ru v1 v2 b1 b2 : Nat) (hrc : rc < 18446744073709551616) (hru : ru < 18446744073709551616) (h1 : v1 < 18446744073709551616) (h2 : v2 < 18446744073709551616) (w : World)
    (c1 : w.cell? ⟨b1, 0, none⟩ = some (.int .u64 (v1 : Int))) (c2 : w.cell? ⟨b2, 0, none⟩ = some (.int .u64 (v2 : Int))) :
    Calls Tryd.prog 33 #[rateV rc ru, .pointer (some ⟨b1, 0, none⟩), .pointer (some ⟨b2, 0, none⟩)] w (BoolB w (payB v1 rc v2 ru)) := by
  have bb := (Below.refl w.heap.size w).alloc (Nat.le_refl _) (.cells #[.int .u64 (rc : Int), .int .u64 (ru : Int)] 30)
  have bx := Bx2.new w rc ru 30
  have k1 := cell_keep bb c1
  have k2 := cell_keep bb c2
  obtain ⟨x0, x1, _⟩ := bx
  have PW := fun wx => hid (pays_walk rc ru v1 v2 hrc hru h1 h2 wx)
  have HB := hid bb
  generalize payB v1 rc v2 ru = res at *
  clear bb c1 c2
  go_enter Tryd.func33, Tryd.ntmps33
  go_upto_region 1 with (fail)
  generalize w.alloc (.cells #[.int .u64 (rc : Int), .int .u64 (ru : Int)] 30) = w1 at *
  go_wp2_with fail
  refine (PW _).out.mono ?_
  rintro e w2 ⟨rfl, b2'⟩
  have B2 := hid (bstep HB.out b2')
  go_wp2
  go_ret
  exact ⟨rfl, B2.out⟩
theorem buy1_walk (rc ru v1 v2 b1 b2 : Nat) (hrc : rc < 18446744073709551616) (hru : ru < 18446744073709551616) (h1 : v1 < 18446744073709551616) (h2 : v2 < 18446744073709551616) (w : World)
    (c1 : w.cell? ⟨b1, 0, none⟩ = some (.int .u64 (v1 : Int))) (c2 : w.cell? ⟨b2, 0, none⟩ = some (.int .u64 (v2 : Int))) :
    Calls Tryd.prog 35 #[rateV rc ru, .pointer (some ⟨b1, 0, none⟩), .pointer (some ⟨b2, 0, none⟩)] w (BoolB w (payB v1 ru v2 rc)) := by
  have bb := (Below.refl w.heap.size w).alloc (Nat.le_refl _) (.cells #[.int .u64 (rc : Int), .int .u64 (ru : Int)] 30)
  have bx := Bx2.new w rc ru 30
  have k1 := cell_keep bb c1
  have k2 := cell_keep bb c2
  obtain ⟨x0, x1, _⟩ := bx
  have PW := fun wx => hid (buys_walk rc ru v1 v2 hrc hru h1 h2 wx)
  have HB := hid bb
  generalize payB v1 ru v2 rc = res at *
  clear bb c1 c2
  go_enter Tryd.func35, Tryd.ntmps35
  go_upto_region 1 with (fail)
  generalize w.alloc (.cells #[.int .u64 (rc : Int), .int .u64 (ru : Int)] 30) = w1 at *
  go_wp2_with fail
  refine (PW _).out.mono ?_
  rintro e w2 ⟨rfl, b2'⟩
  have B2 := hid (bstep HB.out b2')
  go_wp2
  go_ret
  exact ⟨rfl, B2.out⟩
theorem holdsS_ok {M : QM} {no : List Nat} {ht : Int} {u : Nat} (hM : ∀ x q, M x = some q → q.ok) : (holdsS (M no) ht u).1.ok := by
  unfold holdsS
  cases h : M no with
  | none => exact qz_ok
  | some q =>
    have hq := hM no q h
    simp only
    split
    · split
      · exact qz_ok
      · split
        · rename_i hs
          split
          · exact qz_ok
          · exact ⟨hq.nl, hq.nb, hq.il, hq.ib, hq.mb, hq.cb, hq.ub, hs, hq.sw, hq.tw⟩
        · exact qz_ok
    · exact qz_ok
theorem holdsS_some {o : Option Quo} {ht : Int} {u : Nat} (h : (holdsS o ht u).2 = 0) : o.isSome = true := by
  unfold holdsS at h
  cases o with
  | none => cases h
  | some q => rfl
def useS (o : Option Quo) (buy : Bool) (ht : Int) (u : Nat) (kept : Nat → Nat → Bool) : Quo × Nat :=
  if u = 0 then (qz, 1) else if (holdsS o ht u).2 ≠ 0 then holdsS o ht u else if (holdsS o ht u).1.buy ≠ buy ∨ kept (holdsS o ht u).1.rc (holdsS o ht u).1.ru = false then (qz, 60) else holdsS o ht u
set_option maxRecDepth 100000 in
set_option maxHeartbeats 8000000 in
theorem useSell_walk (tb mb n : Nat) (M : QM) (no : List Nat) (hno : EH.ok no) (ht : Int) (u v1 v2 b1 b2 : Nat) (hu : u < 18446744073709551616) (hv1 : v1 < 18446744073709551616) (hv2 : v2 < 18446744073709551616) (w : World) (h : TabAt w tb mb M n)
    (d1 : w.cell? ⟨b1, 0, none⟩ = some (.int .u64 (v1 : Int))) (d2 : w.cell? ⟨b2, 0, none⟩ = some (.int .u64 (v2 : Int))) :
    Calls Tryd.prog 32 #[.pointer (some ⟨tb, 0, none⟩), .agg (nums .u8 no).toArray, .int .i64 ht, .int .u64 u, .bool false, .func (.func 33) #[] #[.pointer (some ⟨b1, 0, none⟩), .pointer (some ⟨b2, 0, none⟩)]] w
      (TRes w tb mb (resM M no (useS (M no) false ht u (fun rc ru => payB v1 rc v2 ru))) n (useS (M no) false ht u (fun rc ru => payB v1 rc v2 ru)).2) := by
  have ZQ := zeroQ
  have hne := zQ_ne
  have unH := Tryd.underlying27
  have unQ := Tryd.underlying48
  have hiH : (Tryd.prog.info? 27).map (·.size) = some (nums .u8 no).length := by rw [nums_length, hno.1]; exact infoH
  have bb := (Below.refl w.heap.size w).alloc (Nat.le_refl _) (.cells (nums .u8 no).toArray 27)
  have HT := hid h
  have HT1 := hid (h.below bb)
  have f2 := row_range (L := nums .u8 no) (heap_alloc_new w (.cells (nums .u8 no).toArray 27))
  have B1 := hid bb
  have D1 := hid (cell_keep bb d1)
  have D2 := hid (cell_keep bb d2)
  have HW := fun wx hx => hid (holds_walk tb mb n M no hno ht u hu wx hx)
  have hok := holdsS_ok (no := no) (ht := ht) (u := u) h.ok
  have hmb := hid (show mb < w.heap.size from h.map.lt)
  have hsome := hid (@holdsS_some (M no) ht u)
  have hdef := hid (show useS (M no) false ht u (fun rc ru => payB v1 rc v2 ru) = if u = 0 then (qz, 1) else if (holdsS (M no) ht u).2 ≠ 0 then holdsS (M no) ht u else if (holdsS (M no) ht u).1.buy ≠ false ∨ (fun rc ru => payB v1 rc v2 ru) (holdsS (M no) ht u).1.rc (holdsS (M no) ht u).1.ru = false then (qz, 60) else holdsS (M no) ht u from rfl)
  unfold QRes at HW
  clear bb h d1 d2
  generalize hr : useS (M no) false ht u (fun rc ru => payB v1 rc v2 ru) = r at *
  generalize hp : holdsS (M no) ht u = p at *
  clear hr hp
  obtain ⟨q0, k⟩ := p
  simp only at hok hsome hdef HW
  have hq0i := hid (infoQa hok)
  have hq0z := hid (zQ_as hok)
  have hq0o := hid (all_oneCell_toArray (Quo.one q0))
  by_cases hu0 : u = 0
  · have E := hid (show r.2 = 1 by rw [hdef.out, if_pos hu0])
    have F := hid (res_bad (no := no) E.out (by decide) (TRes.same (z := 1) rfl HT.out B1.out))
    have tu : ((u : Int) == 0) = true := by simp [hu0]
    clear hu0
    go_enter Tryd.func32, Tryd.ntmps32
    go_wp2
    go_ret
    exact F.out
  · have tu : ((u : Int) == 0) = false := by simp; omega
    have hdef2 := hid (hdef.out.trans (if_neg hu0))
    clear hdef hu0
    go_enter Tryd.func32, Tryd.ntmps32
    go_wp2_with (refine wpList_load_mid rfl _ _ rfl w.heap.size 0 rfl (nums .u8 no) _ f2 Tryd.underlying27 rfl hiH ?_)
    refine (HW _ HT1.out).out.mono ?_
    rintro e w2 ⟨rfl, b2'⟩
    have A3 := hid (heap_alloc_new w2 (.cells zQ 48))
    have L3 := laid w2 zQ q0.cells.toArray 48
    have HT3 := hid ((HT1.out.below b2').below L3.2)
    have B3 := hid (bstep (bstep B1.out b2') L3.2)
    have f3 := range_keep L3.2 (range_keep b2' f2)
    have D1' := cell_keep L3.2 (cell_keep b2' D1.out)
    have D2' := cell_keep L3.2 (cell_keep b2' D2.out)
    have H3 := L3.1
    have hG := hid (show w.heap.size < w2.heap.size by have := b2'.size; simp at this; omega)
    clear L3 b2' f2 HT1 B1 D1 D2 HW
    by_cases hk : k = 0
    · have hM := hsome.out hk
      have hdef3 := hid (hdef2.out.trans (if_neg (fun hh => hh hk)))
      subst hk
      have hvn := hid (show (if (valM M no).isSome = true then n else n + 1) = n by unfold valM; rw [Option.isSome_map, hM]; exact if_pos rfl)
      have c64 := gen_cell (row_range H3) (Quo.get hok 0)
      have c67 := gen_cell (row_range H3) (Quo.get hok 3)
      have c68 := gen_cell (row_range H3) (Quo.get hok 4)
      have g5 := row_range H3
      have hiC := infoQl hok
      have hn3 := hid (show w2.heap.size ≠ mb by have := hmb.out; have := hG.out; omega)
      have hn2 := hid (show w.heap.size ≠ mb by have := hmb.out; omega)
      by_cases hbuy : q0.buy = false
      · rw [show (Value.bool q0.buy) = .bool false by rw [hbuy]] at c64
        have KW := fun wx y1 y2 => hid (sell1_walk q0.rc q0.ru v1 v2 b1 b2 hok.cb hok.ub hv1 hv2 wx y1 y2)
        by_cases hkept : (fun rc ru => payB v1 rc v2 ru) q0.rc q0.ru = false
        · have E := hid (show r.2 = 60 by rw [hdef3.out, if_pos (.inr hkept)])
          have F := hid (fun w' hb => res_bad (no := no) E.out (by decide) (TRes.same (w' := w') (z := 60) rfl HT.out hb))
          simp only at hkept
          rw [hkept] at KW
          clear hkept hbuy H3 g5 f3 hM
          go_wp2_with (refine wpList_store_row rfl _ _ _ rfl w2.heap.size q0.cells.toArray rfl rfl _ _ A3.out hq0i.out hq0z.out hq0o.out ?_)
          refine (KW _ D1' D2').out.mono ?_
          rintro e w4 ⟨rfl, b4⟩
          have B4 := hid (bstep B3.out b4)
          go_wp2
          go_ret
          exact F.out _ B4.out
        · have HGQ := hid (hdef3.out.trans (if_neg (by rintro (hh | hh); exact hh hbuy; exact hkept hh)))
          have HQ1 := hid hok
          simp only [Bool.not_eq_false] at hkept
          rw [hkept] at KW
          clear hkept hbuy H3 hM
          go_wp2_with (refine wpList_store_row rfl _ _ _ rfl w2.heap.size q0.cells.toArray rfl rfl _ _ A3.out hq0i.out hq0z.out hq0o.out ?_)
          refine (KW _ D1' D2').out.mono ?_
          rintro e w9 ⟨rfl, b4⟩
          have B9 := hid (bstep B3.out b4)
          have HT9 := hid (HT3.out.below b4)
          have g2 := range_keep b4 f3
          have g5 := range_keep b4 g5
          clear A3 b4 KW D1' D2' c64 c67 c68 f3 B3 HT3
          generalize w2.heap.size = G9 at *
          obtain ⟨K, hK⟩ : ∃ K, K = w.heap.size := ⟨_, rfl⟩
          rw [← hK] at g2 hn2 ⊢
          clear hK
          generalize hCS : q0.cells = CS at *
          have HCS := hid hCS
          clear hCS
          go_wp2_with fail
          have g1 := HT9.out.cell
          have g3 := hid HT9.out.map
          have hnb := hid (show n < maxLen by have := HT9.out.small; unfold maxLen; omega)
          have hn1 := hid HT9.out.ne
          refine wp_region_held_drew (S := fun w' => w'.cell? ⟨tb, 0, none⟩ = some (.map (some mb)) ∧ w'.rangeAt K 0 (nums .u8 no) ∧ w'.rangeAt G9 0 CS) (by kernel_rfl) (⟨g1, g2, g5⟩) (fun hHeld => ?_)
          try simp only [List.size_toArray, List.length_cons, List.length_nil, Nat.reduceAdd, Array.replicate_succ, Array.replicate_zero, List.push_toArray, List.nil_append, List.cons_append]
          refine wpAnyH_take (i := 0) (oi := { dst := some 43, op := Op.move (Operand.tmp 0), type := 24, pos := "table.go:139", after := #[], guard := none }) (v := ?v5001) rfl (by kernel_rfl) (by kernel_rfl) (by kernel_rfl) (fun _ _ _ h => h) (Or.inl ⟨by rfl, ?hy5001⟩) hHeld ?_
          case hy5001 => (intro w hSw; (try dsimp only at hSw); go_simp; (try with_reducible rfl))
          (try simp only [Act.put, List.setIfInBounds_toArray, List.set_cons_zero, List.set_cons_succ])
          refine wpAnyH_take (i := 1) (oi := { dst := some 44, op := Op.nilCheck (Operand.tmp 43), type := 0, pos := "table.go:139", after := #[{ on := 0, ground := Ground.data }], guard := none }) (v := ?v5002) rfl (by kernel_rfl) (by kernel_rfl) (by kernel_rfl) (fun _ _ _ h => h) (Or.inl ⟨by rfl, ?hy5002⟩) hHeld ?_
          case hy5002 => (intro w hSw; (try dsimp only at hSw); go_simp; (try with_reducible rfl))
          (try simp only [Act.put, List.setIfInBounds_toArray, List.set_cons_zero, List.set_cons_succ])
          refine wpAnyH_take (i := 2) (oi := { dst := some 45, op := Op.fieldAddr 82 (Operand.tmp 44) 0, type := 0, pos := "table.go:139", after := #[{ on := 1, ground := Ground.data }], guard := none }) (v := ?v5003) rfl (by kernel_rfl) (by kernel_rfl) (by kernel_rfl) (fun _ _ _ h => h) (Or.inl ⟨by rfl, ?hy5003⟩) hHeld ?_
          case hy5003 => (intro w hSw; (try dsimp only at hSw); go_simp; (try with_reducible rfl))
          (try simp only [Act.put, List.setIfInBounds_toArray, List.set_cons_zero, List.set_cons_succ])
          refine wpAnyH_take (i := 3) (oi := { dst := some 46, op := Op.load 80 (Operand.tmp 45), type := 80, pos := "table.go:139", after := #[{ on := 2, ground := Ground.data }], guard := none }) (v := ?v5004) rfl (by kernel_rfl) (by kernel_rfl) (by kernel_rfl) (fun _ _ _ h => h) (Or.inl ⟨by rfl, ?hy5004⟩) hHeld ?_
          case hy5004 => (intro w hSw; (try dsimp only at hSw); go_simp; (try with_reducible rfl))
          (try simp only [Act.put, List.setIfInBounds_toArray, List.set_cons_zero, List.set_cons_succ])
          refine' wpAnyH_take (i := 4) (oi := { dst := some 47, op := Op.load 27 (Operand.tmp 7), type := 27, pos := "table.go:139", after := #[], guard := none }) (v := _) rfl (by kernel_rfl) (by kernel_rfl) (by kernel_rfl) (fun _ _ _ h => h) (yieldsIf_load_mid (by rfl) _ _ rfl K 0 rfl (nums .u8 no) _ (fun _ h => h.2.1) unH rfl hiH) hHeld ?_
          (try simp only [Act.put, List.setIfInBounds_toArray, List.set_cons_zero, List.set_cons_succ])
          refine' wpAnyH_take (i := 5) (oi := { dst := some 48, op := Op.load 48 (Operand.tmp 13), type := 48, pos := "table.go:139", after := #[], guard := none }) (v := _) rfl (by kernel_rfl) (by kernel_rfl) (by kernel_rfl) (fun _ _ _ h => h) (yieldsIf_load_mid (by rfl) _ _ rfl G9 0 rfl CS _ (fun _ h => h.2.2) unQ rfl hiC) hHeld ?_
          (try simp only [Act.put, List.setIfInBounds_toArray, List.set_cons_zero, List.set_cons_succ])
          refine wpAnyH_ready (rs := [6]) (by kernel_rfl) (by simp) ?_
          refine AllReadyH.cons (o := { dst := none, op := Op.mapUpdate 80 (Operand.tmp 46) (Operand.tmp 47) (Operand.tmp 48), type := 0, pos := "table.go:139", after := #[{ on := 3, ground := Ground.data }, { on := 4, ground := Ground.data }, { on := 5, ground := Ground.data }, { on := 0, ground := Ground.phase }, { on := 1, ground := Ground.phase }, { on := 2, ground := Ground.phase }, { on := 3, ground := Ground.phase }, { on := 4, ground := Ground.phase }, { on := 5, ground := Ground.phase }], guard := none }) rfl (fun K hK => ?_) ?_
          rw [if_pos (by rfl)]; refine wp_put _ _ _ _ rfl unMap (g3.out.below ((Below.refl _ _).drew)) hnb.out rfl no hno rfl rfl ?_; intro w6 m6 f6
          refine hK.out _ _ (⟨far_cell f6 hHeld.1 hn1.out, range_far f6 hHeld.2.1 hn2.out, range_far f6 hHeld.2.2 hn3.out⟩) (fun hHeld => ?_)
          clear hK K
          (try simp only [List.setIfInBounds_toArray, List.set_cons_zero, List.set_cons_succ])
          refine wpAnyH_done (by kernel_rfl) ?_ _
          rotate_left
          exact AllReadyH.nil
          rw [hvn.out, ← HCS.out] at m6
          have hT6 := hid ((HT9.out.below ((Below.refl _ _).drew)).put m6 f6 HQ1.out HT9.out.small)
          have hF6 := hid ((Far.of (H := mb) (B9.out.drew)).trans f6)
          clear m6 f6 hHeld g1 g2 g5
          go_wp2
          go_ret
          exact res_good HGQ.out ⟨rfl, hT6.out, hF6.out⟩
      · have E := hid (show r.2 = 60 by rw [hdef3.out, if_pos (.inl hbuy)])
        have F := hid (res_bad (no := no) E.out (by decide) (TRes.same (z := 60) rfl HT.out B3.out))
        have hb2 : q0.buy = true := by cases hh : q0.buy <;> simp_all
        rw [show (Value.bool q0.buy) = .bool true by rw [hb2]] at c64
        clear hbuy H3 g5 f3 hM hb2
        go_wp2_with (refine wpList_store_row rfl _ _ _ rfl w2.heap.size q0.cells.toArray rfl rfl _ _ A3.out hq0i.out hq0z.out hq0o.out ?_)
        go_ret
        exact F.out
    · have E := hid (show r.2 = k by rw [hdef2.out, if_pos hk])
      have te : ((k : Int) != 0) = true := by simp; omega
      have F := hid (res_bad (no := no) E.out hk (TRes.same (z := (k : Int)) rfl HT.out B3.out))
      clear hk H3 f3
      go_wp2_with (refine wpList_store_row rfl _ _ _ rfl w2.heap.size q0.cells.toArray rfl rfl _ _ A3.out hq0i.out hq0z.out hq0o.out ?_)
      go_ret
      exact F.out
set_option maxRecDepth 100000 in
set_option maxHeartbeats 8000000 in
theorem useBuy_walk (tb mb n : Nat) (M : QM) (no : List Nat) (hno : EH.ok no) (ht : Int) (u v1 v2 b1 b2 : Nat) (hu : u < 18446744073709551616) (hv1 : v1 < 18446744073709551616) (hv2 : v2 < 18446744073709551616) (w : World) (h : TabAt w tb mb M n)
    (d1 : w.cell? ⟨b1, 0, none⟩ = some (.int .u64 (v1 : Int))) (d2 : w.cell? ⟨b2, 0, none⟩ = some (.int .u64 (v2 : Int))) :
    Calls Tryd.prog 32 #[.pointer (some ⟨tb, 0, none⟩), .agg (nums .u8 no).toArray, .int .i64 ht, .int .u64 u, .bool true, .func (.func 35) #[] #[.pointer (some ⟨b1, 0, none⟩), .pointer (some ⟨b2, 0, none⟩)]] w
      (TRes w tb mb (resM M no (useS (M no) true ht u (fun rc ru => payB v1 ru v2 rc))) n (useS (M no) true ht u (fun rc ru => payB v1 ru v2 rc)).2) := by
  have ZQ := zeroQ
  have hne := zQ_ne
  have unH := Tryd.underlying27
  have unQ := Tryd.underlying48
  have hiH : (Tryd.prog.info? 27).map (·.size) = some (nums .u8 no).length := by rw [nums_length, hno.1]; exact infoH
  have bb := (Below.refl w.heap.size w).alloc (Nat.le_refl _) (.cells (nums .u8 no).toArray 27)
  have HT := hid h
  have HT1 := hid (h.below bb)
  have f2 := row_range (L := nums .u8 no) (heap_alloc_new w (.cells (nums .u8 no).toArray 27))
  have B1 := hid bb
  have D1 := hid (cell_keep bb d1)
  have D2 := hid (cell_keep bb d2)
  have HW := fun wx hx => hid (holds_walk tb mb n M no hno ht u hu wx hx)
  have hok := holdsS_ok (no := no) (ht := ht) (u := u) h.ok
  have hmb := hid (show mb < w.heap.size from h.map.lt)
  have hsome := hid (@holdsS_some (M no) ht u)
  have hdef := hid (show useS (M no) true ht u (fun rc ru => payB v1 ru v2 rc) = if u = 0 then (qz, 1) else if (holdsS (M no) ht u).2 ≠ 0 then holdsS (M no) ht u else if (holdsS (M no) ht u).1.buy ≠ true ∨ (fun rc ru => payB v1 ru v2 rc) (holdsS (M no) ht u).1.rc (holdsS (M no) ht u).1.ru = false then (qz, 60) else holdsS (M no) ht u from rfl)
  unfold QRes at HW
  clear bb h d1 d2
  generalize hr : useS (M no) true ht u (fun rc ru => payB v1 ru v2 rc) = r at *
  generalize hp : holdsS (M no) ht u = p at *
  clear hr hp
  obtain ⟨q0, k⟩ := p
  simp only at hok hsome hdef HW
  have hq0i := hid (infoQa hok)
  have hq0z := hid (zQ_as hok)
  have hq0o := hid (all_oneCell_toArray (Quo.one q0))
  by_cases hu0 : u = 0
  · have E := hid (show r.2 = 1 by rw [hdef.out, if_pos hu0])
    have F := hid (res_bad (no := no) E.out (by decide) (TRes.same (z := 1) rfl HT.out B1.out))
    have tu : ((u : Int) == 0) = true := by simp [hu0]
    clear hu0
    go_enter Tryd.func32, Tryd.ntmps32
    go_wp2
    go_ret
    exact F.out
  · have tu : ((u : Int) == 0) = false := by simp; omega
    have hdef2 := hid (hdef.out.trans (if_neg hu0))
    clear hdef hu0
    go_enter Tryd.func32, Tryd.ntmps32
    go_wp2_with (refine wpList_load_mid rfl _ _ rfl w.heap.size 0 rfl (nums .u8 no) _ f2 Tryd.underlying27 rfl hiH ?_)
    refine (HW _ HT1.out).out.mono ?_
    rintro e w2 ⟨rfl, b2'⟩
    have A3 := hid (heap_alloc_new w2 (.cells zQ 48))
    have L3 := laid w2 zQ q0.cells.toArray 48
    have HT3 := hid ((HT1.out.below b2').below L3.2)
    have B3 := hid (bstep (bstep B1.out b2') L3.2)
    have f3 := range_keep L3.2 (range_keep b2' f2)
    have D1' := cell_keep L3.2 (cell_keep b2' D1.out)
    have D2' := cell_keep L3.2 (cell_keep b2' D2.out)
    have H3 := L3.1
    have hG := hid (show w.heap.size < w2.heap.size by have := b2'.size; simp at this; omega)
    clear L3 b2' f2 HT1 B1 D1 D2 HW
    by_cases hk : k = 0
    · have hM := hsome.out hk
      have hdef3 := hid (hdef2.out.trans (if_neg (fun hh => hh hk)))
      subst hk
      have hvn := hid (show (if (valM M no).isSome = true then n else n + 1) = n by unfold valM; rw [Option.isSome_map, hM]; exact if_pos rfl)
      have c64 := gen_cell (row_range H3) (Quo.get hok 0)
      have c67 := gen_cell (row_range H3) (Quo.get hok 3)
      have c68 := gen_cell (row_range H3) (Quo.get hok 4)
      have g5 := row_range H3
      have hiC := infoQl hok
      have hn3 := hid (show w2.heap.size ≠ mb by have := hmb.out; have := hG.out; omega)
      have hn2 := hid (show w.heap.size ≠ mb by have := hmb.out; omega)
      by_cases hbuy : q0.buy = true
      · rw [show (Value.bool q0.buy) = .bool true by rw [hbuy]] at c64
        have KW := fun wx y1 y2 => hid (buy1_walk q0.rc q0.ru v1 v2 b1 b2 hok.cb hok.ub hv1 hv2 wx y1 y2)
        by_cases hkept : (fun rc ru => payB v1 ru v2 rc) q0.rc q0.ru = false
        · have E := hid (show r.2 = 60 by rw [hdef3.out, if_pos (.inr hkept)])
          have F := hid (fun w' hb => res_bad (no := no) E.out (by decide) (TRes.same (w' := w') (z := 60) rfl HT.out hb))
          simp only at hkept
          rw [hkept] at KW
          clear hkept hbuy H3 g5 f3 hM
          go_wp2_with (refine wpList_store_row rfl _ _ _ rfl w2.heap.size q0.cells.toArray rfl rfl _ _ A3.out hq0i.out hq0z.out hq0o.out ?_)
          refine (KW _ D1' D2').out.mono ?_
          rintro e w4 ⟨rfl, b4⟩
          have B4 := hid (bstep B3.out b4)
          go_wp2
          go_ret
          exact F.out _ B4.out
        · have HGQ := hid (hdef3.out.trans (if_neg (by rintro (hh | hh); exact hh hbuy; exact hkept hh)))
          have HQ1 := hid hok
          simp only [Bool.not_eq_false] at hkept
          rw [hkept] at KW
          clear hkept hbuy H3 hM
          go_wp2_with (refine wpList_store_row rfl _ _ _ rfl w2.heap.size q0.cells.toArray rfl rfl _ _ A3.out hq0i.out hq0z.out hq0o.out ?_)
          refine (KW _ D1' D2').out.mono ?_
          rintro e w9 ⟨rfl, b4⟩
          have B9 := hid (bstep B3.out b4)
          have HT9 := hid (HT3.out.below b4)
          have g2 := range_keep b4 f3
          have g5 := range_keep b4 g5
          clear A3 b4 KW D1' D2' c64 c67 c68 f3 B3 HT3
          generalize w2.heap.size = G9 at *
          obtain ⟨K, hK⟩ : ∃ K, K = w.heap.size := ⟨_, rfl⟩
          rw [← hK] at g2 hn2 ⊢
          clear hK
          generalize hCS : q0.cells = CS at *
          have HCS := hid hCS
          clear hCS
          go_wp2_with fail
          have g1 := HT9.out.cell
          have g3 := hid HT9.out.map
          have hnb := hid (show n < maxLen by have := HT9.out.small; unfold maxLen; omega)
          have hn1 := hid HT9.out.ne
          refine wp_region_held_drew (S := fun w' => w'.cell? ⟨tb, 0, none⟩ = some (.map (some mb)) ∧ w'.rangeAt K 0 (nums .u8 no) ∧ w'.rangeAt G9 0 CS) (by kernel_rfl) (⟨g1, g2, g5⟩) (fun hHeld => ?_)
          try simp only [List.size_toArray, List.length_cons, List.length_nil, Nat.reduceAdd, Array.replicate_succ, Array.replicate_zero, List.push_toArray, List.nil_append, List.cons_append]
          refine wpAnyH_take (i := 0) (oi := { dst := some 43, op := Op.move (Operand.tmp 0), type := 24, pos := "table.go:139", after := #[], guard := none }) (v := ?v6001) rfl (by kernel_rfl) (by kernel_rfl) (by kernel_rfl) (fun _ _ _ h => h) (Or.inl ⟨by rfl, ?hy6001⟩) hHeld ?_
          case hy6001 => (intro w hSw; (try dsimp only at hSw); go_simp; (try with_reducible rfl))
          (try simp only [Act.put, List.setIfInBounds_toArray, List.set_cons_zero, List.set_cons_succ])
          refine wpAnyH_take (i := 1) (oi := { dst := some 44, op := Op.nilCheck (Operand.tmp 43), type := 0, pos := "table.go:139", after := #[{ on := 0, ground := Ground.data }], guard := none }) (v := ?v6002) rfl (by kernel_rfl) (by kernel_rfl) (by kernel_rfl) (fun _ _ _ h => h) (Or.inl ⟨by rfl, ?hy6002⟩) hHeld ?_
          case hy6002 => (intro w hSw; (try dsimp only at hSw); go_simp; (try with_reducible rfl))
          (try simp only [Act.put, List.setIfInBounds_toArray, List.set_cons_zero, List.set_cons_succ])
          refine wpAnyH_take (i := 2) (oi := { dst := some 45, op := Op.fieldAddr 82 (Operand.tmp 44) 0, type := 0, pos := "table.go:139", after := #[{ on := 1, ground := Ground.data }], guard := none }) (v := ?v6003) rfl (by kernel_rfl) (by kernel_rfl) (by kernel_rfl) (fun _ _ _ h => h) (Or.inl ⟨by rfl, ?hy6003⟩) hHeld ?_
          case hy6003 => (intro w hSw; (try dsimp only at hSw); go_simp; (try with_reducible rfl))
          (try simp only [Act.put, List.setIfInBounds_toArray, List.set_cons_zero, List.set_cons_succ])
          refine wpAnyH_take (i := 3) (oi := { dst := some 46, op := Op.load 80 (Operand.tmp 45), type := 80, pos := "table.go:139", after := #[{ on := 2, ground := Ground.data }], guard := none }) (v := ?v6004) rfl (by kernel_rfl) (by kernel_rfl) (by kernel_rfl) (fun _ _ _ h => h) (Or.inl ⟨by rfl, ?hy6004⟩) hHeld ?_
          case hy6004 => (intro w hSw; (try dsimp only at hSw); go_simp; (try with_reducible rfl))
          (try simp only [Act.put, List.setIfInBounds_toArray, List.set_cons_zero, List.set_cons_succ])
          refine' wpAnyH_take (i := 4) (oi := { dst := some 47, op := Op.load 27 (Operand.tmp 7), type := 27, pos := "table.go:139", after := #[], guard := none }) (v := _) rfl (by kernel_rfl) (by kernel_rfl) (by kernel_rfl) (fun _ _ _ h => h) (yieldsIf_load_mid (by rfl) _ _ rfl K 0 rfl (nums .u8 no) _ (fun _ h => h.2.1) unH rfl hiH) hHeld ?_
          (try simp only [Act.put, List.setIfInBounds_toArray, List.set_cons_zero, List.set_cons_succ])
          refine' wpAnyH_take (i := 5) (oi := { dst := some 48, op := Op.load 48 (Operand.tmp 13), type := 48, pos := "table.go:139", after := #[], guard := none }) (v := _) rfl (by kernel_rfl) (by kernel_rfl) (by kernel_rfl) (fun _ _ _ h => h) (yieldsIf_load_mid (by rfl) _ _ rfl G9 0 rfl CS _ (fun _ h => h.2.2) unQ rfl hiC) hHeld ?_
          (try simp only [Act.put, List.setIfInBounds_toArray, List.set_cons_zero, List.set_cons_succ])
          refine wpAnyH_ready (rs := [6]) (by kernel_rfl) (by simp) ?_
          refine AllReadyH.cons (o := { dst := none, op := Op.mapUpdate 80 (Operand.tmp 46) (Operand.tmp 47) (Operand.tmp 48), type := 0, pos := "table.go:139", after := #[{ on := 3, ground := Ground.data }, { on := 4, ground := Ground.data }, { on := 5, ground := Ground.data }, { on := 0, ground := Ground.phase }, { on := 1, ground := Ground.phase }, { on := 2, ground := Ground.phase }, { on := 3, ground := Ground.phase }, { on := 4, ground := Ground.phase }, { on := 5, ground := Ground.phase }], guard := none }) rfl (fun K hK => ?_) ?_
          rw [if_pos (by rfl)]; refine wp_put _ _ _ _ rfl unMap (g3.out.below ((Below.refl _ _).drew)) hnb.out rfl no hno rfl rfl ?_; intro w6 m6 f6
          refine hK.out _ _ (⟨far_cell f6 hHeld.1 hn1.out, range_far f6 hHeld.2.1 hn2.out, range_far f6 hHeld.2.2 hn3.out⟩) (fun hHeld => ?_)
          clear hK K
          (try simp only [List.setIfInBounds_toArray, List.set_cons_zero, List.set_cons_succ])
          refine wpAnyH_done (by kernel_rfl) ?_ _
          rotate_left
          exact AllReadyH.nil
          rw [hvn.out, ← HCS.out] at m6
          have hT6 := hid ((HT9.out.below ((Below.refl _ _).drew)).put m6 f6 HQ1.out HT9.out.small)
          have hF6 := hid ((Far.of (H := mb) (B9.out.drew)).trans f6)
          clear m6 f6 hHeld g1 g2 g5
          go_wp2
          go_ret
          exact res_good HGQ.out ⟨rfl, hT6.out, hF6.out⟩
      · have E := hid (show r.2 = 60 by rw [hdef3.out, if_pos (.inl hbuy)])
        have F := hid (res_bad (no := no) E.out (by decide) (TRes.same (z := 60) rfl HT.out B3.out))
        have hb2 : q0.buy = false := by cases hh : q0.buy <;> simp_all
        rw [show (Value.bool q0.buy) = .bool false by rw [hb2]] at c64
        clear hbuy H3 g5 f3 hM hb2
        go_wp2_with (refine wpList_store_row rfl _ _ _ rfl w2.heap.size q0.cells.toArray rfl rfl _ _ A3.out hq0i.out hq0z.out hq0o.out ?_)
        go_ret
        exact F.out
    · have E := hid (show r.2 = k by rw [hdef2.out, if_pos hk])
      have te : ((k : Int) != 0) = true := by simp; omega
      have F := hid (res_bad (no := no) E.out hk (TRes.same (z := (k : Int)) rfl HT.out B3.out))
      clear hk H3 f3
      go_wp2_with (refine wpList_store_row rfl _ _ _ rfl w2.heap.size q0.cells.toArray rfl rfl _ _ A3.out hq0i.out hq0z.out hq0o.out ?_)
      go_ret
      exact F.out
theorem alloc3t (w : World) (a b c : Obj) : (((w.alloc a).alloc b).alloc c).heap[w.heap.size]? = some a ∧ (((w.alloc a).alloc b).alloc c).heap[w.heap.size + 1]? = some b ∧ (((w.alloc a).alloc b).alloc c).heap[w.heap.size + 1 + 1]? = some c ∧ Below w.heap.size w (((w.alloc a).alloc b).alloc c) := by
  have e1 : (w.alloc a).heap.size = w.heap.size + 1 := by simp
  have e2 : ((w.alloc a).alloc b).heap.size = w.heap.size + 1 + 1 := by simp
  have h0 := heap_alloc_new w a
  have h1 := heap_alloc_new (w.alloc a) b
  have h2 := heap_alloc_new ((w.alloc a).alloc b) c
  rw [e1] at h1
  rw [e2] at h2
  refine ⟨?_, ?_, h2, (((Below.refl w.heap.size w).alloc (Nat.le_refl _) a).alloc (by omega) b).alloc (by omega) c⟩
  · rw [Below.heap_alloc _ _ _ (by omega), Below.heap_alloc _ _ _ (by omega)]; exact h0
  · rw [Below.heap_alloc _ _ _ (by omega)]; exact h1
set_option maxRecDepth 100000 in
set_option maxHeartbeats 2000000 in
theorem tsell_walk (tb mb n : Nat) (M : QM) (no : List Nat) (hno : EH.ok no) (ht : Int) (u c : Nat) (hu : u < 18446744073709551616) (hc : c < 18446744073709551616) (w : World) (h : TabAt w tb mb M n) :
    Calls Tryd.prog 19 #[.pointer (some ⟨tb, 0, none⟩), .agg (nums .u8 no).toArray, .int .i64 ht, .int .u64 u, .int .u64 c] w (TRes w tb mb (resM M no (useS (M no) false ht u (fun rc ru => payB u rc c ru))) n (useS (M no) false ht u (fun rc ru => payB u rc c ru)).2) := by
  have hmf : ∀ (fn : Fn) (first cap : Array Value) (w : World), (Instr.makeFunc fn first cap).run Tryd.prog w = .ok (.func fn first cap) w := fun _ _ _ _ => rfl
  have A3 := alloc3t w (.cells (nums .u8 no).toArray 27) (.cells #[.int .u64 (u : Int)] 28) (.cells #[.int .u64 (c : Int)] 28)
  have HT := hid h
  have HT1 := hid (h.below A3.2.2.2)
  have f2 := row_range A3.1
  have B1 := hid A3.2.2.2
  have d1 := gen_cell (j := 0) (row_range (L := [.int .u64 (u : Int)]) A3.2.1) rfl
  have d2 := gen_cell (j := 0) (row_range (L := [.int .u64 (c : Int)]) A3.2.2.1) rfl
  have D1 := hid d1
  have D2 := hid d2
  have hiH : (Tryd.prog.info? 27).map (·.size) = some (nums .u8 no).length := by rw [nums_length, hno.1]; exact infoH
  have UW := fun wx hx y1 y2 => hid (useSell_walk tb mb n M no hno ht u u c (w.heap.size + 1) (w.heap.size + 1 + 1) hu hu hc wx hx y1 y2)
  clear A3 h d1 d2
  go_enter Tryd.func19, Tryd.ntmps19
  go_upto_region 1 with (fail)
  generalize ((w.alloc (.cells (nums .u8 no).toArray 27)).alloc (.cells #[.int .u64 (u : Int)] 28)).alloc (.cells #[.int .u64 (c : Int)] 28) = w1 at *
  have d1 : w1.cell? ⟨w.heap.size + 1, 0, none⟩ = some (.int .u64 (u : Int)) := D1.out
  have d2 : w1.cell? ⟨w.heap.size + 1 + 1, 0, none⟩ = some (.int .u64 (c : Int)) := D2.out
  have HX := hid (UW w1 HT1.out d1 d2).out
  clear UW
  go_wp2_with (refine wpList_load_mid rfl _ _ rfl w.heap.size 0 rfl (nums .u8 no) _ f2 Tryd.underlying27 rfl hiH ?_)
  refine HX.out.mono ?_
  rintro e w2 ⟨rfl, t2, f2'⟩
  have F := hid (Far.trans (Far.of (H := mb) B1.out) f2')
  have T2 := hid t2
  clear t2 f2' f2 d1 d2
  go_wp2
  go_ret
  exact ⟨rfl, T2.out, F.out⟩
set_option maxRecDepth 100000 in
set_option maxHeartbeats 2000000 in
theorem tbuy_walk (tb mb n : Nat) (M : QM) (no : List Nat) (hno : EH.ok no) (ht : Int) (u c : Nat) (hu : u < 18446744073709551616) (hc : c < 18446744073709551616) (w : World) (h : TabAt w tb mb M n) :
    Calls Tryd.prog 20 #[.pointer (some ⟨tb, 0, none⟩), .agg (nums .u8 no).toArray, .int .i64 ht, .int .u64 u, .int .u64 c] w (TRes w tb mb (resM M no (useS (M no) true ht u (fun rc ru => payB c ru u rc))) n (useS (M no) true ht u (fun rc ru => payB c ru u rc)).2) := by
  have hmf : ∀ (fn : Fn) (first cap : Array Value) (w : World), (Instr.makeFunc fn first cap).run Tryd.prog w = .ok (.func fn first cap) w := fun _ _ _ _ => rfl
  have A3 := alloc3t w (.cells (nums .u8 no).toArray 27) (.cells #[.int .u64 (u : Int)] 28) (.cells #[.int .u64 (c : Int)] 28)
  have HT := hid h
  have HT1 := hid (h.below A3.2.2.2)
  have f2 := row_range A3.1
  have B1 := hid A3.2.2.2
  have d1 := gen_cell (j := 0) (row_range (L := [.int .u64 (u : Int)]) A3.2.1) rfl
  have d2 := gen_cell (j := 0) (row_range (L := [.int .u64 (c : Int)]) A3.2.2.1) rfl
  have D1 := hid d1
  have D2 := hid d2
  have hiH : (Tryd.prog.info? 27).map (·.size) = some (nums .u8 no).length := by rw [nums_length, hno.1]; exact infoH
  have UW := fun wx hx y1 y2 => hid (useBuy_walk tb mb n M no hno ht u c u (w.heap.size + 1 + 1) (w.heap.size + 1) hu hc hu wx hx y1 y2)
  clear A3 h d1 d2
  go_enter Tryd.func20, Tryd.ntmps20
  go_upto_region 1 with (fail)
  generalize ((w.alloc (.cells (nums .u8 no).toArray 27)).alloc (.cells #[.int .u64 (u : Int)] 28)).alloc (.cells #[.int .u64 (c : Int)] 28) = w1 at *
  have d1 : w1.cell? ⟨w.heap.size + 1, 0, none⟩ = some (.int .u64 (u : Int)) := D1.out
  have d2 : w1.cell? ⟨w.heap.size + 1 + 1, 0, none⟩ = some (.int .u64 (c : Int)) := D2.out
  have HX := hid (UW w1 HT1.out d2 d1).out
  clear UW
  go_wp2_with (refine wpList_load_mid rfl _ _ rfl w.heap.size 0 rfl (nums .u8 no) _ f2 Tryd.underlying27 rfl hiH ?_)
  refine HX.out.mono ?_
  rintro e w2 ⟨rfl, t2, f2'⟩
  have F := hid (Far.trans (Far.of (H := mb) B1.out) f2')
  have T2 := hid t2
  clear t2 f2' f2 d1 d2
  go_wp2
  go_ret
  exact ⟨rfl, T2.out, F.out⟩
end Go.Proofs.YthccjefhlmngbaaDoor
